/- The walks of the document's table of waits: what it tells. No condition. -/
import Derived.Test.YtljpjpnjaeidiaaM4
import Derived.Test.YtljpjpnjaeidiaaM2
set_option linter.unusedVariables false
set_option linter.unusedSimpArgs false
namespace Go.Eng
open Go Go.Proofs Go.RowKit
abbrev wg (L : List Wt) (i : Nat) : Wt := L.getD i default
abbrev rtC (b : Nat) (most each : Int) (ad : Option Addr) (n cap : Nat) : Nat × Obj := (b, .cells #[.int .i64 most, .int .i64 each, .slice ad n cap] 48 (0, 0))
def RtM (most each : Int) (n0 : Nat) (L : List Wt) (b : Nat) (m : Mem0) : Prop := ∃ (ad : Option Addr) (n cap : Nat) (ms : Mem0), m = rtC b most each ad n cap :: ms ∧ n = L.length ∧ Sl fWt 32 3 n0 L (.slice ad n cap) ms ∧ n0 ≤ b
theorem RtM.ge {most each : Int} {n0 b : Nat} {L : List Wt} {m : Mem0} (h : RtM most each n0 L b m) : ∀ p ∈ m, n0 ≤ p.1 := by
  obtain ⟨ad, n, cap, ms, rfl, hn, hs, hb⟩ := h
  intro p hp
  rcases List.mem_cons.1 hp with rfl | hp
  · exact hb
  · exact hs.ge p hp
theorem RtM.wlk {most each : Int} {n0 b : Nat} {L : List Wt} {m : Mem0} (h : RtM most each n0 L b m) : ∀ p ∈ m, Go.Eng.wlk p.2 = false := by
  obtain ⟨ad, n, cap, ms, rfl, hn, hs, hb⟩ := h
  intro p hp
  rcases List.mem_cons.1 hp with rfl | hp
  · rfl
  · exact hs.wlk p hp
theorem RtM.mono {most each : Int} {n0 n1 b : Nat} {L : List Wt} {m : Mem0} (h : RtM most each n0 L b m) (k : n1 ≤ n0) : RtM most each n1 L b m := by
  obtain ⟨ad, n, cap, ms, e, hn, hs, hb⟩ := h
  exact ⟨ad, n, cap, ms, e, hn, hs.mono k, Nat.le_trans k hb⟩
def ixP (p : Wt → Bool) : List Wt → Nat → Int
  | [], _ => -1
  | x :: l, k => if p x = true then (k : Nat) else ixP p l (k + 1)
theorem ixP_yes {p : Wt → Bool} : ∀ {l : List Wt} {i k : Nat}, i < l.length → p (wg l i) = true → (∀ j, j < i → p (wg l j) = false) → ixP p l k = ((k + i : Nat) : Int)
  | [], i, k, h, _, _ => by cases h
  | x :: l, 0, k, _, h, _ => by unfold ixP; rw [if_pos (show p x = true from h)]; rfl
  | x :: l, i + 1, k, hi, h, hn => by
    have h0 : p x = false := hn 0 (by omega)
    unfold ixP; rw [if_neg (by rw [h0]; simp), ixP_yes (Nat.lt_of_succ_lt_succ hi) h (fun j hj => hn (j + 1) (by omega))]
    congr 1; omega
theorem ixP_no {p : Wt → Bool} : ∀ {l : List Wt} {k : Nat}, (∀ j, j < l.length → p (wg l j) = false) → ixP p l k = -1
  | [], _, _ => rfl
  | x :: l, k, h => by
    have h0 : p x = false := h 0 (by simp)
    unfold ixP; rw [if_neg (by rw [h0]; simp), ixP_no (fun j hj => h (j + 1) (by simp only [List.length_cons]; omega))]
def atW (L : List Wt) (who : Int) : Int := ixP (fun w => decide (w.who = who)) L 0
def fiW (L : List Wt) (key : Int) : Int := ixP (fun w => decide (w.key = key)) L 0
theorem take_wg {L : List Wt} {i : Nat} (h : i < L.length) : L.take (i + 1) = L.take i ++ [wg L i] := by
  rw [List.take_succ_eq_append_getElem h]; unfold wg; rw [List.getD_eq_getElem?_getD, List.getElem?_eq_getElem h]; rfl
theorem cnt_take {L : List Wt} {i : Nat} (h : i < L.length) (key : Int) : cntL (L.take (i + 1)) key = if key = (wg L i).key then cntL (L.take i) key + 1 else cntL (L.take i) key := by rw [take_wg h, cnt_snoc]
def dSat (now : BitVec 64) (w : Wt) : Prop := w.til ≠ 0#64 ∧ w.til.toNat ≤ now.toNat
instance (now : BitVec 64) (w : Wt) : Decidable (dSat now w) := inferInstanceAs (Decidable (_ ∧ _))
def dLt (a b : Wt) : Prop := a.til.toNat < b.til.toNat ∨ (a.til = b.til ∧ a.who < b.who)
instance (a b : Wt) : Decidable (dLt a b) := inferInstanceAs (Decidable (_ ∨ _))
def dueF (now : BitVec 64) (L : List Wt) : Nat → Int
  | 0 => -1
  | i + 1 => if dSat now (wg L i) ∧ (dueF now L i < 0 ∨ dLt (wg L i) (wg L (dueF now L i).toNat)) then (i : Nat) else dueF now L i
theorem dueF_rng (now : BitVec 64) (L : List Wt) : ∀ i, dueF now L i = -1 ∨ 0 ≤ dueF now L i ∧ dueF now L i < (i : Nat)
  | 0 => .inl rfl
  | i + 1 => by
    unfold dueF
    split
    · exact .inr ⟨by omega, by omega⟩
    · rcases dueF_rng now L i with h | h
      · exact .inl h
      · exact .inr ⟨h.1, by omega⟩
def dueI (now : BitVec 64) (L : List Wt) : Int := dueF now L L.length
theorem cst_t {L : List Wt} {i : Nat} {key : Int} (hi : i < L.length) (h : (wg L i).key = key) : Value.int .i64 (((cntL (L.take i) key : Nat) : Int) + 1) = Value.int .i64 ((cntL (L.take (i + 1)) key : Nat) : Int) := by rw [cnt_take hi, if_pos h.symm]; congr 1
theorem cst_f {L : List Wt} {i : Nat} {key : Int} (hi : i < L.length) (h : ¬ (wg L i).key = key) : Value.int .i64 ((cntL (L.take i) key : Nat) : Int) = Value.int .i64 ((cntL (L.take (i + 1)) key : Nat) : Int) := by rw [cnt_take hi, if_neg (fun z => h z.symm)]
section
variable {now : BitVec 64} {L : List Wt} {i bb : Nat}
theorem due_y (h : dSat now (wg L i) ∧ (dueF now L i < 0 ∨ dLt (wg L i) (wg L (dueF now L i).toNat))) : Value.int .i64 ((i : Nat) : Int) = Value.int .i64 (dueF now L (i + 1)) := by unfold dueF; rw [if_pos h]
theorem due_n (h : ¬ (dSat now (wg L i) ∧ (dueF now L i < 0 ∨ dLt (wg L i) (wg L (dueF now L i).toNat)))) : Value.int .i64 (dueF now L i) = Value.int .i64 (dueF now L (i + 1)) := by rw [show dueF now L (i + 1) = dueF now L i from if_neg h]
theorem due1 (h : (wg L i).til = 0#64) : Value.int .i64 (dueF now L i) = Value.int .i64 (dueF now L (i + 1)) := due_n (fun z => z.1.1 h)
theorem due2 (h : now.toNat < (wg L i).til.toNat) : Value.int .i64 (dueF now L i) = Value.int .i64 (dueF now L (i + 1)) := due_n (fun z => by have := z.1.2; omega)
theorem due3 (h2 : ¬ (wg L i).til = 0#64) (h3 : ¬ now.toNat < (wg L i).til.toNat) (h4 : dueF now L i < 0) : Value.int .i64 ((i : Nat) : Int) = Value.int .i64 (dueF now L (i + 1)) := due_y ⟨⟨h2, by omega⟩, .inl h4⟩
theorem due4 (h2 : ¬ (wg L i).til = 0#64) (h3 : ¬ now.toNat < (wg L i).til.toNat) (hbb : dueF now L i = (bb : Nat)) (h5 : (wg L i).til.toNat < (wg L bb).til.toNat) : Value.int .i64 ((i : Nat) : Int) = Value.int .i64 (dueF now L (i + 1)) := due_y ⟨⟨h2, by omega⟩, .inr (.inl (by rw [hbb, Int.toNat_natCast]; exact h5))⟩
theorem due5 (h2 : ¬ (wg L i).til = 0#64) (h3 : ¬ now.toNat < (wg L i).til.toNat) (hbb : dueF now L i = (bb : Nat)) (h6 : (wg L i).til = (wg L bb).til) (h7 : (wg L i).who < (wg L bb).who) : Value.int .i64 ((i : Nat) : Int) = Value.int .i64 (dueF now L (i + 1)) := due_y ⟨⟨h2, by omega⟩, .inr (.inr (by rw [hbb, Int.toNat_natCast]; exact ⟨h6, h7⟩))⟩
theorem due6 (hbb : dueF now L i = (bb : Nat)) (h5 : ¬ (wg L i).til.toNat < (wg L bb).til.toNat) (h7 : ¬ (wg L i).who < (wg L bb).who) : Value.int .i64 ((bb : Nat) : Int) = Value.int .i64 (dueF now L (i + 1)) := by
  rw [← hbb]; refine due_n (fun z => ?_)
  rw [hbb, Int.toNat_natCast] at z
  rcases z.2 with q | q | q
  · omega
  · exact h5 q
  · exact h7 q.2
theorem due7 (hbb : dueF now L i = (bb : Nat)) (h5 : ¬ (wg L i).til.toNat < (wg L bb).til.toNat) (h6 : ¬ (wg L i).til = (wg L bb).til) : Value.int .i64 ((bb : Nat) : Int) = Value.int .i64 (dueF now L (i + 1)) := by
  rw [← hbb]; refine due_n (fun z => ?_)
  rw [hbb, Int.toNat_natCast] at z
  rcases z.2 with q | q | q
  · omega
  · exact h5 q
  · exact h6 q.1
end
set_option maxRecDepth 100000 in
theorem rAt_spec {most each : Int} {n0 b : Nat} {L : List Wt} {m : Mem0} (who : Int) (w : World) (h : RtM most each n0 L b m) (hl : L.length ≤ 100000) (hM : Mem w m) : Ret Try.prog 14 #[.pointer (some ⟨b, 0, none⟩), .int .i64 who] w (fun u w' => u = .int .i64 (atW L who) ∧ Ext w w') := by
 obtain ⟨ad, n, cap, ms, rfl, hn, hs, hb⟩ := h
 refine Ret.enterM (l := [.pointer (some ⟨b, 0, none⟩), .int .i64 who]) Try.func14 rfl Try.ntmps14 rfl (rtC b most each ad n cap :: (ms ++ [])) (no) (by rw [List.append_nil]; exact hM) ?_
 refine wpM.seq (wpM.region ?_)
 refine LM.as rfl ?_
 refine LM.nil (QM.sub (e' := [(0, _), (1, _)]) au9 (QM.then ?_))
 refine wpM.seq ?_
 refine wpM.seq (wpM.region ?_)
 refine LM.as rfl ?_
 refine LM.nil (QM.sub (e' := [(0, _), (1, _), (5, _)]) au9 (QM.then ?_))
 refine wpM.block ?_
 refine wpM.loopK0 (α := Nat) (fun i => [(5, .int .i64 (i : Nat))]) [(0, _), (1, _)] (fun i => rtC b most each ad n cap :: (ms ++ [])) (fun i => i ≤ L.length ∧ ∀ j, j < i → (wg L j).who ≠ who) (fun i => L.length - i) (0) ⟨au2, rfl, rfl, trivial⟩ au1 ⟨Nat.zero_le _, fun j hj => by omega⟩ ?_
 rintro i ⟨hi, hz⟩
 change wpM _ _ _ _ _ _ _ (rtC b most each ad n cap :: (ms ++ [])) _ _ _
 refine wpM.seq ?_
 refine wpM.seq (wpM.region ?_)
 refine LM.mv rfl (LM.mv rfl ?_)
 refine LM.val (ov_nilCheck rfl) ?_
 refine LM.val (ov_field Try.underlying48 rfl Try.sizeOf46 rfl (k := 2) rfl rfl) ?_
 refine LM.rd (om_ld Try.isAgg46 rfl rfl) ?_
 refine LM.val (ov_len Try.underlying46 rfl) ?_
 refine LM.val (ov_lss rfl rfl) ?_
 refine LM.nil (QM.sub (e' := [(0, _), (1, _), (5, _), (12, _)]) au9 (QM.then ?_))
 refine wpM.condD rfl (fun h1 => ?_) (fun h1 => ?_)
 ·
  refine wpM.skip ?_
  refine QM.then ?_
  refine wpM.seq ?_
  refine wpM.block ?_
  refine wpM.seq (wpM.region ?_)
  refine LM.mv rfl ?_
  refine LM.val (ov_nilCheck rfl) ?_
  refine LM.val (ov_field Try.underlying48 rfl Try.sizeOf46 rfl (k := 2) rfl rfl) ?_
  refine LM.rd (om_ld Try.isAgg46 rfl rfl) ?_
  refine LM.mv rfl ?_
  refine LM.val (ov_idxSN au6 Try.underlying46 Try.sizeOf32 rfl rfl (by omega)) ?_
  refine LM.val (ov_field Try.underlying32 rfl Try.sizeOf3 rfl (k := 0) rfl rfl) ?_
  refine LM.rd (om_slE (j := 0) (by assumption) (by intro _; rfl) Try.isAgg3 rfl rfl au3 rfl (by rfl)) ?_
  refine LM.mv rfl ?_
  refine LM.val (ov_eql rfl rfl) ?_
  refine LM.nil (QM.sub (e' := [(0, _), (1, _), (5, _), (24, _)]) au9 (QM.then ?_))
  refine wpM.condD rfl (fun h2 => ?_) (fun h2 => ?_)
  ·
   refine wpM.seq (wpM.region ?_)
   refine LM.mv rfl (LM.as rfl ?_)
   refine LM.nil (QM.sub (e' := [(4, _)]) ⟨rfl, trivial⟩ (QM.then ?_))
   refine wpM.ret ?_
   refine QM.block_ret ?_
   refine QM.then_ret ?_
   refine QM.then_ret ?_
   refine QM.block_ret ?_
   refine QM.then_ret ?_
   refine QM.leave (.inl rfl) [.tmp 4] Try.results14 rfl ?_
   intro w' hm' hc' hg'
   refine ⟨?_, hc'⟩; rw [show atW L who = ((0 + i : Nat) : Int) from ixP_yes (by omega) (decide_eq_true h2) (fun j hj => decide_eq_false (hz j hj)), Nat.zero_add]; rfl
  refine wpM.skip ?_
  refine QM.block_normal ?_
  refine QM.then (wpM.region ?_)
  refine LM.mv rfl ?_
  refine LM.val (ov_add64 rfl rfl (by omega)) ?_
  refine LM.as rfl ?_
  refine LM.nil (QM.sub (e' := [(0, _), (1, _), (5, _)]) au9 ?_)
  refine QM.againK (i + 1) ⟨au2, rfl, rfl, trivial⟩ au1 (fun _ h => h) ?_ ?_
  · exact ⟨by omega, fun j hj => by rcases Nat.lt_or_ge j i with z | z; exact hz j z; rw [show j = i by omega]; exact h2⟩
  · omega
 refine wpM.exit ?_
 refine QM.then_exit ?_
 refine QM.then_exit ?_
 refine QM.block_hit ?_
 refine QM.then (wpM.seq (wpM.region ?_))
 refine LM.as rfl ?_
 refine LM.nil (QM.sub (e' := [(4, _)]) ⟨rfl, trivial⟩ (QM.then ?_))
 refine wpM.ret ?_
 refine QM.leave (.inl rfl) [.tmp 4] Try.results14 rfl ?_
 intro w' hm' hc' hg'
 refine ⟨?_, hc'⟩; rw [show atW L who = -1 from ixP_no (fun j hj => decide_eq_false (hz j (by omega)))]; rfl
set_option maxRecDepth 100000 in
theorem rFirst_spec {most each : Int} {n0 b : Nat} {L : List Wt} {m : Mem0} (key : Int) (w : World) (h : RtM most each n0 L b m) (hl : L.length ≤ 100000) (hM : Mem w m) : Ret Try.prog 32 #[.pointer (some ⟨b, 0, none⟩), .int .i64 key] w (fun u w' => u = .int .i64 (fiW L key) ∧ Ext w w') := by
 obtain ⟨ad, n, cap, ms, rfl, hn, hs, hb⟩ := h
 refine Ret.enterM (l := [.pointer (some ⟨b, 0, none⟩), .int .i64 key]) Try.func32 rfl Try.ntmps32 rfl (rtC b most each ad n cap :: (ms ++ [])) (no) (by rw [List.append_nil]; exact hM) ?_
 refine wpM.seq (wpM.region ?_)
 refine LM.as rfl ?_
 refine LM.nil (QM.sub (e' := [(0, _), (1, _)]) au9 (QM.then ?_))
 refine wpM.seq ?_
 refine wpM.seq (wpM.region ?_)
 refine LM.as rfl ?_
 refine LM.nil (QM.sub (e' := [(0, _), (1, _), (5, _)]) au9 (QM.then ?_))
 refine wpM.block ?_
 refine wpM.loopK0 (α := Nat) (fun i => [(5, .int .i64 (i : Nat))]) [(0, _), (1, _)] (fun i => rtC b most each ad n cap :: (ms ++ [])) (fun i => i ≤ L.length ∧ ∀ j, j < i → (wg L j).key ≠ key) (fun i => L.length - i) (0) ⟨au2, rfl, rfl, trivial⟩ au1 ⟨Nat.zero_le _, fun j hj => by omega⟩ ?_
 rintro i ⟨hi, hz⟩
 change wpM _ _ _ _ _ _ _ (rtC b most each ad n cap :: (ms ++ [])) _ _ _
 refine wpM.seq ?_
 refine wpM.seq (wpM.region ?_)
 refine LM.mv rfl (LM.mv rfl ?_)
 refine LM.val (ov_nilCheck rfl) ?_
 refine LM.val (ov_field Try.underlying48 rfl Try.sizeOf46 rfl (k := 2) rfl rfl) ?_
 refine LM.rd (om_ld Try.isAgg46 rfl rfl) ?_
 refine LM.val (ov_len Try.underlying46 rfl) ?_
 refine LM.val (ov_lss rfl rfl) ?_
 refine LM.nil (QM.sub (e' := [(0, _), (1, _), (5, _), (12, _)]) au9 (QM.then ?_))
 refine wpM.condD rfl (fun h1 => ?_) (fun h1 => ?_)
 ·
  refine wpM.skip ?_
  refine QM.then ?_
  refine wpM.seq ?_
  refine wpM.block ?_
  refine wpM.seq (wpM.region ?_)
  refine LM.mv rfl ?_
  refine LM.val (ov_nilCheck rfl) ?_
  refine LM.val (ov_field Try.underlying48 rfl Try.sizeOf46 rfl (k := 2) rfl rfl) ?_
  refine LM.rd (om_ld Try.isAgg46 rfl rfl) ?_
  refine LM.mv rfl ?_
  refine LM.val (ov_idxSN au6 Try.underlying46 Try.sizeOf32 rfl rfl (by omega)) ?_
  refine LM.val (ov_field Try.underlying32 rfl Try.sizeOf3 rfl (k := 1) rfl rfl) ?_
  refine LM.rd (om_slE (j := 1) (by assumption) (by intro _; rfl) Try.isAgg3 rfl rfl au3 rfl (by rfl)) ?_
  refine LM.mv rfl ?_
  refine LM.val (ov_eql rfl rfl) ?_
  refine LM.nil (QM.sub (e' := [(0, _), (1, _), (5, _), (24, _)]) au9 (QM.then ?_))
  refine wpM.condD rfl (fun h2 => ?_) (fun h2 => ?_)
  ·
   refine wpM.seq (wpM.region ?_)
   refine LM.mv rfl (LM.as rfl ?_)
   refine LM.nil (QM.sub (e' := [(4, _)]) ⟨rfl, trivial⟩ (QM.then ?_))
   refine wpM.ret ?_
   refine QM.block_ret ?_
   refine QM.then_ret ?_
   refine QM.then_ret ?_
   refine QM.block_ret ?_
   refine QM.then_ret ?_
   refine QM.leave (.inl rfl) [.tmp 4] Try.results32 rfl ?_
   intro w' hm' hc' hg'
   refine ⟨?_, hc'⟩; rw [show fiW L key = ((0 + i : Nat) : Int) from ixP_yes (by omega) (decide_eq_true h2) (fun j hj => decide_eq_false (hz j hj)), Nat.zero_add]; rfl
  refine wpM.skip ?_
  refine QM.block_normal ?_
  refine QM.then (wpM.region ?_)
  refine LM.mv rfl ?_
  refine LM.val (ov_add64 rfl rfl (by omega)) ?_
  refine LM.as rfl ?_
  refine LM.nil (QM.sub (e' := [(0, _), (1, _), (5, _)]) au9 ?_)
  refine QM.againK (i + 1) ⟨au2, rfl, rfl, trivial⟩ au1 (fun _ h => h) ?_ ?_
  · exact ⟨by omega, fun j hj => by rcases Nat.lt_or_ge j i with z | z; exact hz j z; rw [show j = i by omega]; exact h2⟩
  · omega
 refine wpM.exit ?_
 refine QM.then_exit ?_
 refine QM.then_exit ?_
 refine QM.block_hit ?_
 refine QM.then (wpM.seq (wpM.region ?_))
 refine LM.as rfl ?_
 refine LM.nil (QM.sub (e' := [(4, _)]) ⟨rfl, trivial⟩ (QM.then ?_))
 refine wpM.ret ?_
 refine QM.leave (.inl rfl) [.tmp 4] Try.results32 rfl ?_
 intro w' hm' hc' hg'
 refine ⟨?_, hc'⟩; rw [show fiW L key = -1 from ixP_no (fun j hj => decide_eq_false (hz j (by omega)))]; rfl
set_option maxRecDepth 100000 in
theorem rCount_spec {most each : Int} {n0 b : Nat} {L : List Wt} {m : Mem0} (key : Int) (w : World) (h : RtM most each n0 L b m) (hl : L.length ≤ 100000) (hM : Mem w m) : Ret Try.prog 30 #[.pointer (some ⟨b, 0, none⟩), .int .i64 key] w (fun u w' => u = .int .i64 (cntL L key : Nat) ∧ Ext w w') := by
 obtain ⟨ad, n, cap, ms, rfl, hn, hs, hb⟩ := h
 refine Ret.enterM (l := [.pointer (some ⟨b, 0, none⟩), .int .i64 key]) Try.func30 rfl Try.ntmps30 rfl (rtC b most each ad n cap :: (ms ++ [])) (no) (by rw [List.append_nil]; exact hM) ?_
 refine wpM.seq (wpM.region ?_)
 refine LM.as rfl ?_
 refine LM.nil (QM.sub (e' := [(0, _), (1, _)]) au9 (QM.then (wpM.seq (wpM.region ?_))))
 refine LM.as rfl ?_
 refine LM.nil (QM.sub (e' := [(0, _), (1, _), (5, _)]) au9 (QM.then ?_))
 refine wpM.seq ?_
 refine wpM.seq (wpM.region ?_)
 refine LM.as rfl ?_
 refine LM.nil (QM.sub (e' := [(0, _), (1, _), (5, _), (6, _)]) au9 (QM.then ?_))
 refine wpM.block ?_
 refine wpM.loopK0 (α := Nat) (fun i => [(5, .int .i64 (cntL (L.take i) key : Nat)), (6, .int .i64 (i : Nat))]) [(0, _), (1, _)] (fun i => rtC b most each ad n cap :: (ms ++ [])) (fun i => i ≤ L.length) (fun i => L.length - i) (0) ⟨(by first | rfl | exact lk rfl (cst_t (by omega) h2) | exact lk rfl (cst_f (by omega) h2)), au2, rfl, rfl, trivial⟩ au1 (Nat.zero_le _) ?_
 rintro i hi
 change wpM _ _ _ _ _ _ _ (rtC b most each ad n cap :: (ms ++ [])) _ _ _
 have hct := cnt_le (L.take i) key; rw [List.length_take] at hct
 refine wpM.seq ?_
 refine wpM.seq (wpM.region ?_)
 refine LM.mv rfl (LM.mv rfl ?_)
 refine LM.val (ov_nilCheck rfl) ?_
 refine LM.val (ov_field Try.underlying48 rfl Try.sizeOf46 rfl (k := 2) rfl rfl) ?_
 refine LM.rd (om_ld Try.isAgg46 rfl rfl) ?_
 refine LM.val (ov_len Try.underlying46 rfl) ?_
 refine LM.val (ov_lss rfl rfl) ?_
 refine LM.nil (QM.sub (e' := [(0, _), (1, _), (5, _), (6, _), (13, _)]) au9 (QM.then ?_))
 refine wpM.condD rfl (fun h1 => ?_) (fun h1 => ?_)
 ·
  refine wpM.skip ?_
  refine QM.then ?_
  refine wpM.seq ?_
  refine wpM.block ?_
  refine wpM.seq (wpM.region ?_)
  refine LM.mv rfl ?_
  refine LM.val (ov_nilCheck rfl) ?_
  refine LM.val (ov_field Try.underlying48 rfl Try.sizeOf46 rfl (k := 2) rfl rfl) ?_
  refine LM.rd (om_ld Try.isAgg46 rfl rfl) ?_
  refine LM.mv rfl ?_
  refine LM.val (ov_idxSN au6 Try.underlying46 Try.sizeOf32 rfl rfl (by omega)) ?_
  refine LM.val (ov_field Try.underlying32 rfl Try.sizeOf3 rfl (k := 1) rfl rfl) ?_
  refine LM.rd (om_slE (j := 1) (by assumption) (by intro _; rfl) Try.isAgg3 rfl rfl au3 rfl (by rfl)) ?_
  refine LM.mv rfl ?_
  refine LM.val (ov_eql rfl rfl) ?_
  refine LM.nil (QM.sub (e' := [(0, _), (1, _), (5, _), (6, _), (25, _)]) au9 (QM.then ?_))
  refine wpM.condD rfl (fun h2 => ?_) (fun h2 => ?_)
  ·
   refine wpM.region ?_
   refine LM.mv rfl ?_
   refine LM.val (ov_add64 rfl rfl (by omega)) ?_
   refine LM.as rfl ?_
   refine LM.nil (QM.sub (e' := [(0, _), (1, _), (5, _), (6, _)]) au9 ?_)
   refine QM.block_normal ?_
   refine QM.then (wpM.region ?_)
   refine LM.mv rfl ?_
   refine LM.val (ov_add64 rfl rfl (by omega)) ?_
   refine LM.as rfl ?_
   refine LM.nil (QM.sub (e' := [(0, _), (1, _), (5, _), (6, _)]) au9 ?_)
   refine QM.againK (i + 1) ⟨(by first | rfl | exact lk rfl (cst_t (by omega) h2) | exact lk rfl (cst_f (by omega) h2)), au2, rfl, rfl, trivial⟩ au1 (fun _ h => h) ?_ ?_
   · omega
   · omega
  refine wpM.skip ?_
  refine QM.block_normal ?_
  refine QM.then (wpM.region ?_)
  refine LM.mv rfl ?_
  refine LM.val (ov_add64 rfl rfl (by omega)) ?_
  refine LM.as rfl ?_
  refine LM.nil (QM.sub (e' := [(0, _), (1, _), (5, _), (6, _)]) au9 ?_)
  refine QM.againK (i + 1) ⟨(by first | rfl | exact lk rfl (cst_t (by omega) h2) | exact lk rfl (cst_f (by omega) h2)), au2, rfl, rfl, trivial⟩ au1 (fun _ h => h) ?_ ?_
  · omega
  · omega
 refine wpM.exit ?_
 refine QM.then_exit ?_
 refine QM.then_exit ?_
 refine QM.block_hit ?_
 refine QM.then (wpM.seq (wpM.region ?_))
 refine LM.mv rfl (LM.as rfl ?_)
 refine LM.nil (QM.sub (e' := [(4, _)]) ⟨rfl, trivial⟩ (QM.then ?_))
 refine wpM.ret ?_
 refine QM.leave (.inl rfl) [.tmp 4] Try.results30 rfl ?_
 intro w' hm' hc' hg'
 refine ⟨?_, hc'⟩; rw [show i = L.length by omega, List.take_length]; rfl
set_option maxRecDepth 100000 in
theorem rDue_spec {most each : Int} {n0 b : Nat} {L : List Wt} {m : Mem0} (now : BitVec 64) (w : World) (h : RtM most each n0 L b m) (hl : L.length ≤ 100000) (hM : Mem w m) : Ret Try.prog 36 #[.pointer (some ⟨b, 0, none⟩), U now] w (fun u w' => u = .int .i64 (dueI now L) ∧ Ext w w') := by
 obtain ⟨ad, n, cap, ms, rfl, hn, hs, hb⟩ := h
 refine Ret.enterM (l := [.pointer (some ⟨b, 0, none⟩), U now]) Try.func36 rfl Try.ntmps36 rfl (rtC b most each ad n cap :: (ms ++ [])) (no) (by rw [List.append_nil]; exact hM) ?_
 refine wpM.seq (wpM.region ?_)
 refine LM.as rfl ?_
 refine LM.nil (QM.sub (e' := [(0, _), (1, _)]) au9 (QM.then (wpM.seq (wpM.region ?_))))
 refine LM.as rfl ?_
 refine LM.nil (QM.sub (e' := [(0, _), (1, _), (5, _)]) au9 (QM.then ?_))
 refine wpM.seq ?_
 refine wpM.seq (wpM.region ?_)
 refine LM.as rfl ?_
 refine LM.nil (QM.sub (e' := [(0, _), (1, _), (5, _), (6, _)]) au9 (QM.then ?_))
 refine wpM.block ?_
 refine wpM.loopK0 (α := Nat) (fun i => [(5, .int .i64 (dueF now L i)), (6, .int .i64 (i : Nat))]) [(0, _), (1, _)] (fun i => rtC b most each ad n cap :: (ms ++ [])) (fun i => i ≤ L.length) (fun i => L.length - i) (0) ⟨(by first | rfl | exact lk rfl (due1 h2) | exact lk rfl (due2 h3) | exact lk rfl (due3 h2 h3 h4) | exact lk rfl (due4 h2 h3 hbb h5) | exact lk rfl (due5 h2 h3 hbb h6 h7) | exact lk rfl (due6 hbb h5 h7) | exact lk rfl (due7 hbb h5 h6)), au2, rfl, rfl, trivial⟩ au1 (Nat.zero_le _) ?_
 rintro i hi
 change wpM _ _ _ _ _ _ _ (rtC b most each ad n cap :: (ms ++ [])) _ _ _
 refine wpM.seq ?_
 refine wpM.seq (wpM.region ?_)
 refine LM.mv rfl (LM.mv rfl ?_)
 refine LM.val (ov_nilCheck rfl) ?_
 refine LM.val (ov_field Try.underlying48 rfl Try.sizeOf46 rfl (k := 2) rfl rfl) ?_
 refine LM.rd (om_ld Try.isAgg46 rfl rfl) ?_
 refine LM.val (ov_len Try.underlying46 rfl) ?_
 refine LM.val (ov_lss rfl rfl) ?_
 refine LM.nil (QM.sub (e' := [(0, _), (1, _), (5, _), (6, _), (14, _)]) au9 (QM.then ?_))
 refine wpM.condD rfl (fun h1 => ?_) (fun h1 => ?_)
 ·
  refine wpM.skip ?_
  refine QM.then ?_
  refine wpM.seq ?_
  refine wpM.block ?_
  refine wpM.seq (wpM.region ?_)
  refine LM.mv rfl ?_
  refine LM.val (ov_nilCheck rfl) ?_
  refine LM.val (ov_field Try.underlying48 rfl Try.sizeOf46 rfl (k := 2) rfl rfl) ?_
  refine LM.rd (om_ld Try.isAgg46 rfl rfl) ?_
  refine LM.mv rfl ?_
  refine LM.val (ov_idxSN au6 Try.underlying46 Try.sizeOf32 rfl rfl (by omega)) ?_
  refine LM.rd (om_slA (by assumption) (by intro _; rfl) Try.isAgg32 Try.sizeOf32 rfl au3) ?_
  refine LM.alloc Try.zeroValue32 rfl (fun b7 hb7 => ?_)
  refine LM.stW Try.sizeOf32 rfl rfl rfl rfl au7 au8 ?_
  refine LM.nil (QM.sub (e' := [(0, _), (1, _), (5, _), (6, _), (7, _)]) au9 (QM.then ?_))
  refine wpM.seq ?_
  refine wpM.seq (wpM.region ?_)
  refine LM.val (ov_field Try.underlying32 rfl Try.sizeOf30 rfl (k := 2) rfl rfl) ?_
  refine LM.rd (om_ld Try.isAgg30 rfl rfl) ?_
  refine LM.val (ov_ueql (b := 0#64) rfl rfl) ?_
  refine LM.mv rfl ?_
  refine LM.splitD (t := 27) rfl (fun h2 => ?_) (fun h2 => ?_)
  ·
   refine LM.dr 27 rfl rfl rfl (LM.dr 27 rfl rfl rfl (LM.dr 27 rfl rfl rfl (LM.dr 27 rfl rfl rfl ?_)))
   refine LM.val (ov_pickT rfl rfl) ?_
   refine LM.nil (QM.sub (e' := [(0, _), (1, _), (5, _), (6, _), (7, _), (32, _)]) au9 (QM.then ?_))
   refine wpM.condT rfl ?_
   refine wpM.exit ?_
   refine QM.then_exit ?_
   refine QM.block_hit ?_
   refine QM.then (wpM.region ?_)
   refine LM.mv rfl ?_
   refine LM.val (ov_add64 rfl rfl (by omega)) ?_
   refine LM.as rfl ?_
   refine LM.nil (QM.sub (e' := [(0, _), (1, _), (5, _), (6, _)]) au9 ?_)
   refine QM.againK (i + 1) ⟨(by first | rfl | exact lk rfl (due1 h2) | exact lk rfl (due2 h3) | exact lk rfl (due3 h2 h3 h4) | exact lk rfl (due4 h2 h3 hbb h5) | exact lk rfl (due5 h2 h3 hbb h6 h7) | exact lk rfl (due6 hbb h5 h7) | exact lk rfl (due7 hbb h5 h6)), au2, rfl, rfl, trivial⟩ au1 (fun _ h => h) ?_ ?_
   · omega
   · omega
  refine LM.sp 27 rfl rfl rfl (LM.val (ov_field Try.underlying32 rfl Try.sizeOf30 rfl (k := 2) rfl rfl) (LM.sp 27 rfl rfl rfl ?_))
  refine LM.rd (om_ld Try.isAgg30 rfl rfl) ?_
  refine LM.sp 27 rfl rfl rfl (LM.mv rfl (LM.sp 27 rfl rfl rfl ?_))
  refine LM.val (ov_ugtr rfl rfl) ?_
  refine LM.val (ov_pickF rfl rfl) ?_
  refine LM.nil (QM.sub (e' := [(0, _), (1, _), (5, _), (6, _), (7, _), (32, _)]) au9 (QM.then ?_))
  refine wpM.condD rfl (fun h3 => ?_) (fun h3 => ?_)
  ·
   refine wpM.exit ?_
   refine QM.then_exit ?_
   refine QM.block_hit ?_
   refine QM.then (wpM.region ?_)
   refine LM.mv rfl ?_
   refine LM.val (ov_add64 rfl rfl (by omega)) ?_
   refine LM.as rfl ?_
   refine LM.nil (QM.sub (e' := [(0, _), (1, _), (5, _), (6, _)]) au9 ?_)
   refine QM.againK (i + 1) ⟨(by first | rfl | exact lk rfl (due1 h2) | exact lk rfl (due2 h3) | exact lk rfl (due3 h2 h3 h4) | exact lk rfl (due4 h2 h3 hbb h5) | exact lk rfl (due5 h2 h3 hbb h6 h7) | exact lk rfl (due6 hbb h5 h7) | exact lk rfl (due7 hbb h5 h6)), au2, rfl, rfl, trivial⟩ au1 (fun _ h => h) ?_ ?_
   · omega
   · omega
  refine wpM.skip ?_
  refine QM.then ?_
  refine wpM.seq ?_
  refine wpM.draw [(0, 0), (1, 0), (2, 0), (3, 0), (4, 1), (5, 0), (6, 0), (7, 0), (8, 1), (9, 0), (10, 0), (11, 0), (12, 1), (13, 0), (14, 0), (15, 0), (16, 0), (17, 1), (18, 0), (19, 0), (20, 0), (21, 1), (22, 0), (23, 0), (24, 0), (25, 1), (26, 0), (27, 0), (28, 0), (29, 1), (30, 0), (31, 0), (32, 0), (33, 1), (34, 0), (35, 0), (36, 0), (37, 1), (38, 0), (39, 0), (40, 0)] (by kernel_rfl) (by kernel_rfl) ?_
  refine LD.val rfl rfl (ov_move rfl) ?_
  refine LD.val rfl rfl (ov_lss rfl rfl) ?_
  refine LD.val rfl rfl (ov_move rfl) ?_
  refine LD.splitD (t := 35) rfl (fun h4 => ?_) (fun h4 => ?_)
  ·
   refine LD.drop rfl rfl ⟨35, _, rfl, rfl, rfl⟩ ?_
   refine LD.drop rfl rfl ⟨35, _, rfl, rfl, rfl⟩ ?_
   refine LD.drop rfl rfl ⟨35, _, rfl, rfl, rfl⟩ ?_
   refine LD.drop rfl rfl ⟨35, _, rfl, rfl, rfl⟩ ?_
   refine LD.drop rfl rfl ⟨35, _, rfl, rfl, rfl⟩ ?_
   refine LD.drop rfl rfl ⟨35, _, rfl, rfl, rfl⟩ ?_
   refine LD.drop rfl rfl ⟨35, _, rfl, rfl, rfl⟩ ?_
   refine LD.drop rfl rfl ⟨35, _, rfl, rfl, rfl⟩ ?_
   refine LD.drop rfl rfl ⟨35, _, rfl, rfl, rfl⟩ ?_
   refine LD.drop rfl rfl ⟨35, _, rfl, rfl, rfl⟩ ?_
   refine LD.drop rfl rfl ⟨35, _, rfl, rfl, rfl⟩ ?_
   refine LD.val rfl rfl (ov_pickT rfl rfl) ?_
   refine LD.val rfl rfl (ov_move rfl) ?_
   refine LD.drop rfl rfl ⟨48, _, rfl, rfl, rfl⟩ ?_
   refine LD.drop rfl rfl ⟨48, _, rfl, rfl, rfl⟩ ?_
   refine LD.drop rfl rfl ⟨48, _, rfl, rfl, rfl⟩ ?_
   refine LD.drop rfl rfl ⟨48, _, rfl, rfl, rfl⟩ ?_
   refine LD.drop rfl rfl ⟨48, _, rfl, rfl, rfl⟩ ?_
   refine LD.drop rfl rfl ⟨48, _, rfl, rfl, rfl⟩ ?_
   refine LD.drop rfl rfl ⟨48, _, rfl, rfl, rfl⟩ ?_
   refine LD.drop rfl rfl ⟨48, _, rfl, rfl, rfl⟩ ?_
   refine LD.drop rfl rfl ⟨48, _, rfl, rfl, rfl⟩ ?_
   refine LD.drop rfl rfl ⟨48, _, rfl, rfl, rfl⟩ ?_
   refine LD.drop rfl rfl ⟨48, _, rfl, rfl, rfl⟩ ?_
   refine LD.dropU rfl rfl ⟨48, _, rfl, rfl, rfl⟩ ?_
   refine LD.dropX rfl rfl rfl rfl ?_
   refine LD.dropX rfl rfl rfl rfl ?_
   refine LD.dropX rfl rfl rfl rfl ?_
   refine LD.dropX rfl rfl rfl rfl ?_
   refine LD.dropX rfl rfl rfl rfl ?_
   refine LD.dropX rfl rfl rfl rfl ?_
   refine LD.dropX rfl rfl rfl rfl ?_
   refine LD.dropX rfl rfl rfl rfl ?_
   refine LD.dropX rfl rfl rfl rfl ?_
   refine LD.dropX rfl rfl rfl rfl ?_
   refine LD.dropX rfl rfl rfl rfl ?_
   refine LD.drop rfl rfl ⟨48, _, rfl, rfl, rfl⟩ ?_
   refine LD.val rfl rfl (ov_pickT rfl rfl) ?_
   refine LD.nil ?_
   refine QM.sub (e' := [(0, _), (1, _), (5, _), (6, _), (73, _)]) au9 (QM.then ?_)
   refine wpM.condT rfl ?_
   refine wpM.region ?_
   refine LM.mv rfl (LM.as rfl ?_)
   refine LM.nil (QM.sub (e' := [(0, _), (1, _), (5, _), (6, _)]) au9 ?_)
   refine QM.block_normal ?_
   refine QM.then (wpM.region ?_)
   refine LM.mv rfl ?_
   refine LM.val (ov_add64 rfl rfl (by omega)) ?_
   refine LM.as rfl ?_
   refine LM.nil (QM.sub (e' := [(0, _), (1, _), (5, _), (6, _)]) au9 ?_)
   refine QM.againK (i + 1) ⟨(by first | rfl | exact lk rfl (due1 h2) | exact lk rfl (due2 h3) | exact lk rfl (due3 h2 h3 h4) | exact lk rfl (due4 h2 h3 hbb h5) | exact lk rfl (due5 h2 h3 hbb h6 h7) | exact lk rfl (due6 hbb h5 h7) | exact lk rfl (due7 hbb h5 h6)), au2, rfl, rfl, trivial⟩ au1 (fun _ h => h) ?_ ?_
   · omega
   · omega
  have hrg := dueF_rng now L i; obtain ⟨bb, hbb⟩ : ∃ bb : Nat, dueF now L i = (bb : Nat) := ⟨(dueF now L i).toNat, by omega⟩; have hbl : bb < i := (by omega); rw [hbb]
  refine LD.val rfl ⟨35, _, rfl, rfl, rfl⟩ (ov_field Try.underlying32 rfl Try.sizeOf30 rfl (k := 2) rfl rfl) ?_
  refine LD.rd rfl ⟨35, _, rfl, rfl, rfl⟩ (om_ld Try.isAgg30 rfl rfl) ?_
  refine LD.val rfl ⟨35, _, rfl, rfl, rfl⟩ (ov_move rfl) ?_
  refine LD.val rfl ⟨35, _, rfl, rfl, rfl⟩ (ov_nilCheck rfl) ?_
  refine LD.val rfl ⟨35, _, rfl, rfl, rfl⟩ (ov_field Try.underlying48 rfl Try.sizeOf46 rfl (k := 2) rfl rfl) ?_
  refine LD.rd rfl ⟨35, _, rfl, rfl, rfl⟩ (om_ld Try.isAgg46 rfl rfl) ?_
  refine LD.val rfl ⟨35, _, rfl, rfl, rfl⟩ (ov_move rfl) ?_
  refine LD.val rfl ⟨35, _, rfl, rfl, rfl⟩ (ov_idxSN au6 Try.underlying46 Try.sizeOf32 rfl rfl (by omega)) ?_
  refine LD.val rfl ⟨35, _, rfl, rfl, rfl⟩ (ov_field Try.underlying32 rfl Try.sizeOf30 rfl (k := 2) rfl rfl) ?_
  refine LD.rd rfl ⟨35, _, rfl, rfl, rfl⟩ (om_slE (j := 2) (by assumption) (by intro _; rfl) Try.isAgg30 rfl rfl au3 rfl (by rfl)) ?_
  refine LD.val rfl ⟨35, _, rfl, rfl, rfl⟩ (ov_ulss rfl rfl) ?_
  refine LD.val rfl rfl (ov_pickF rfl rfl) ?_
  refine LD.val rfl rfl (ov_move rfl) ?_
  refine LD.splitD (t := 48) rfl (fun h5 => ?_) (fun h5 => ?_)
  ·
   refine LD.drop rfl rfl ⟨48, _, rfl, rfl, rfl⟩ ?_
   refine LD.drop rfl rfl ⟨48, _, rfl, rfl, rfl⟩ ?_
   refine LD.drop rfl rfl ⟨48, _, rfl, rfl, rfl⟩ ?_
   refine LD.drop rfl rfl ⟨48, _, rfl, rfl, rfl⟩ ?_
   refine LD.drop rfl rfl ⟨48, _, rfl, rfl, rfl⟩ ?_
   refine LD.drop rfl rfl ⟨48, _, rfl, rfl, rfl⟩ ?_
   refine LD.drop rfl rfl ⟨48, _, rfl, rfl, rfl⟩ ?_
   refine LD.drop rfl rfl ⟨48, _, rfl, rfl, rfl⟩ ?_
   refine LD.drop rfl rfl ⟨48, _, rfl, rfl, rfl⟩ ?_
   refine LD.drop rfl rfl ⟨48, _, rfl, rfl, rfl⟩ ?_
   refine LD.drop rfl rfl ⟨48, _, rfl, rfl, rfl⟩ ?_
   refine LD.dropU rfl rfl ⟨48, _, rfl, rfl, rfl⟩ ?_
   refine LD.dropX rfl rfl rfl rfl ?_
   refine LD.dropX rfl rfl rfl rfl ?_
   refine LD.dropX rfl rfl rfl rfl ?_
   refine LD.dropX rfl rfl rfl rfl ?_
   refine LD.dropX rfl rfl rfl rfl ?_
   refine LD.dropX rfl rfl rfl rfl ?_
   refine LD.dropX rfl rfl rfl rfl ?_
   refine LD.dropX rfl rfl rfl rfl ?_
   refine LD.dropX rfl rfl rfl rfl ?_
   refine LD.dropX rfl rfl rfl rfl ?_
   refine LD.dropX rfl rfl rfl rfl ?_
   refine LD.drop rfl rfl ⟨48, _, rfl, rfl, rfl⟩ ?_
   refine LD.val rfl rfl (ov_pickT rfl rfl) ?_
   refine LD.nil ?_
   refine QM.sub (e' := [(0, _), (1, _), (5, _), (6, _), (73, _)]) au9 (QM.then ?_)
   refine wpM.condT rfl ?_
   refine wpM.region ?_
   refine LM.mv rfl (LM.as rfl ?_)
   refine LM.nil (QM.sub (e' := [(0, _), (1, _), (5, _), (6, _)]) au9 ?_)
   refine QM.block_normal ?_
   refine QM.then (wpM.region ?_)
   refine LM.mv rfl ?_
   refine LM.val (ov_add64 rfl rfl (by omega)) ?_
   refine LM.as rfl ?_
   refine LM.nil (QM.sub (e' := [(0, _), (1, _), (5, _), (6, _)]) au9 ?_)
   refine QM.againK (i + 1) ⟨(by first | rfl | exact lk rfl (due1 h2) | exact lk rfl (due2 h3) | exact lk rfl (due3 h2 h3 h4) | exact lk rfl (due4 h2 h3 hbb h5) | exact lk rfl (due5 h2 h3 hbb h6 h7) | exact lk rfl (due6 hbb h5 h7) | exact lk rfl (due7 hbb h5 h6)), au2, rfl, rfl, trivial⟩ au1 (fun _ h => h) ?_ ?_
   · omega
   · omega
  refine LD.val rfl ⟨48, _, rfl, rfl, rfl⟩ (ov_field Try.underlying32 rfl Try.sizeOf30 rfl (k := 2) rfl rfl) ?_
  refine LD.rd rfl ⟨48, _, rfl, rfl, rfl⟩ (om_ld Try.isAgg30 rfl rfl) ?_
  refine LD.val rfl ⟨48, _, rfl, rfl, rfl⟩ (ov_move rfl) ?_
  refine LD.val rfl ⟨48, _, rfl, rfl, rfl⟩ (ov_nilCheck rfl) ?_
  refine LD.val rfl ⟨48, _, rfl, rfl, rfl⟩ (ov_field Try.underlying48 rfl Try.sizeOf46 rfl (k := 2) rfl rfl) ?_
  refine LD.rd rfl ⟨48, _, rfl, rfl, rfl⟩ (om_ld Try.isAgg46 rfl rfl) ?_
  refine LD.val rfl ⟨48, _, rfl, rfl, rfl⟩ (ov_move rfl) ?_
  refine LD.val rfl ⟨48, _, rfl, rfl, rfl⟩ (ov_idxSN au6 Try.underlying46 Try.sizeOf32 rfl rfl (by omega)) ?_
  refine LD.val rfl ⟨48, _, rfl, rfl, rfl⟩ (ov_field Try.underlying32 rfl Try.sizeOf30 rfl (k := 2) rfl rfl) ?_
  refine LD.rd rfl ⟨48, _, rfl, rfl, rfl⟩ (om_slE (j := 2) (by assumption) (by intro _; rfl) Try.isAgg30 rfl rfl au3 rfl (by rfl)) ?_
  refine LD.val rfl ⟨48, _, rfl, rfl, rfl⟩ (ov_ueql rfl rfl) ?_
  refine LD.val rfl ⟨48, _, rfl, rfl, rfl⟩ (ov_move rfl) ?_
  refine LD.splitD (t := 60) rfl (fun h6 => ?_) (fun h6 => ?_)
  ·
   refine LD.val rfl ⟨60, _, rfl, rfl, rfl⟩ (ov_field Try.underlying32 rfl Try.sizeOf3 rfl (k := 0) rfl rfl) ?_
   refine LD.rd rfl ⟨60, _, rfl, rfl, rfl⟩ (om_ld Try.isAgg3 rfl rfl) ?_
   refine LD.val rfl ⟨60, _, rfl, rfl, rfl⟩ (ov_move rfl) ?_
   refine LD.val rfl ⟨60, _, rfl, rfl, rfl⟩ (ov_nilCheck rfl) ?_
   refine LD.val rfl ⟨60, _, rfl, rfl, rfl⟩ (ov_field Try.underlying48 rfl Try.sizeOf46 rfl (k := 2) rfl rfl) ?_
   refine LD.rd rfl ⟨60, _, rfl, rfl, rfl⟩ (om_ld Try.isAgg46 rfl rfl) ?_
   refine LD.val rfl ⟨60, _, rfl, rfl, rfl⟩ (ov_move rfl) ?_
   refine LD.val rfl ⟨60, _, rfl, rfl, rfl⟩ (ov_idxSN au6 Try.underlying46 Try.sizeOf32 rfl rfl (by omega)) ?_
   refine LD.val rfl ⟨60, _, rfl, rfl, rfl⟩ (ov_field Try.underlying32 rfl Try.sizeOf3 rfl (k := 0) rfl rfl) ?_
   refine LD.rd rfl ⟨60, _, rfl, rfl, rfl⟩ (om_slE (j := 0) (by assumption) (by intro _; rfl) Try.isAgg3 rfl rfl au3 rfl (by rfl)) ?_
   refine LD.val rfl ⟨60, _, rfl, rfl, rfl⟩ (ov_lss rfl rfl) ?_
   refine LD.val rfl ⟨48, _, rfl, rfl, rfl⟩ (ov_pickT rfl rfl) ?_
   refine LD.val rfl rfl (ov_pickF rfl rfl) ?_
   refine LD.nil ?_
   refine QM.sub (e' := [(0, _), (1, _), (5, _), (6, _), (73, _)]) au9 (QM.then ?_)
   refine wpM.condD rfl (fun h7 => ?_) (fun h7 => ?_)
   ·
    refine wpM.region ?_
    refine LM.mv rfl (LM.as rfl ?_)
    refine LM.nil (QM.sub (e' := [(0, _), (1, _), (5, _), (6, _)]) au9 ?_)
    refine QM.block_normal ?_
    refine QM.then (wpM.region ?_)
    refine LM.mv rfl ?_
    refine LM.val (ov_add64 rfl rfl (by omega)) ?_
    refine LM.as rfl ?_
    refine LM.nil (QM.sub (e' := [(0, _), (1, _), (5, _), (6, _)]) au9 ?_)
    refine QM.againK (i + 1) ⟨(by first | rfl | exact lk rfl (due1 h2) | exact lk rfl (due2 h3) | exact lk rfl (due3 h2 h3 h4) | exact lk rfl (due4 h2 h3 hbb h5) | exact lk rfl (due5 h2 h3 hbb h6 h7) | exact lk rfl (due6 hbb h5 h7) | exact lk rfl (due7 hbb h5 h6)), au2, rfl, rfl, trivial⟩ au1 (fun _ h => h) ?_ ?_
    · omega
    · omega
   refine wpM.skip ?_
   refine QM.block_normal ?_
   refine QM.then (wpM.region ?_)
   refine LM.mv rfl ?_
   refine LM.val (ov_add64 rfl rfl (by omega)) ?_
   refine LM.as rfl ?_
   refine LM.nil (QM.sub (e' := [(0, _), (1, _), (5, _), (6, _)]) au9 ?_)
   refine QM.againK (i + 1) ⟨(by first | rfl | exact lk rfl (due1 h2) | exact lk rfl (due2 h3) | exact lk rfl (due3 h2 h3 h4) | exact lk rfl (due4 h2 h3 hbb h5) | exact lk rfl (due5 h2 h3 hbb h6 h7) | exact lk rfl (due6 hbb h5 h7) | exact lk rfl (due7 hbb h5 h6)), au2, rfl, rfl, trivial⟩ au1 (fun _ h => h) ?_ ?_
   · omega
   · omega
  refine LD.drop rfl rfl ⟨60, _, rfl, rfl, rfl⟩ ?_
  refine LD.drop rfl rfl ⟨60, _, rfl, rfl, rfl⟩ ?_
  refine LD.drop rfl rfl ⟨60, _, rfl, rfl, rfl⟩ ?_
  refine LD.drop rfl rfl ⟨60, _, rfl, rfl, rfl⟩ ?_
  refine LD.drop rfl rfl ⟨60, _, rfl, rfl, rfl⟩ ?_
  refine LD.drop rfl rfl ⟨60, _, rfl, rfl, rfl⟩ ?_
  refine LD.drop rfl rfl ⟨60, _, rfl, rfl, rfl⟩ ?_
  refine LD.drop rfl rfl ⟨60, _, rfl, rfl, rfl⟩ ?_
  refine LD.drop rfl rfl ⟨60, _, rfl, rfl, rfl⟩ ?_
  refine LD.drop rfl rfl ⟨60, _, rfl, rfl, rfl⟩ ?_
  refine LD.drop rfl rfl ⟨60, _, rfl, rfl, rfl⟩ ?_
  refine LD.val rfl ⟨48, _, rfl, rfl, rfl⟩ (ov_pickF rfl rfl) ?_
  refine LD.val rfl rfl (ov_pickF rfl rfl) ?_
  refine LD.nil ?_
  refine QM.sub (e' := [(0, _), (1, _), (5, _), (6, _), (73, _)]) au9 (QM.then ?_)
  refine wpM.condF rfl ?_
  refine wpM.skip ?_
  refine QM.block_normal ?_
  refine QM.then (wpM.region ?_)
  refine LM.mv rfl ?_
  refine LM.val (ov_add64 rfl rfl (by omega)) ?_
  refine LM.as rfl ?_
  refine LM.nil (QM.sub (e' := [(0, _), (1, _), (5, _), (6, _)]) au9 ?_)
  refine QM.againK (i + 1) ⟨(by first | rfl | exact lk rfl (due1 h2) | exact lk rfl (due2 h3) | exact lk rfl (due3 h2 h3 h4) | exact lk rfl (due4 h2 h3 hbb h5) | exact lk rfl (due5 h2 h3 hbb h6 h7) | exact lk rfl (due6 hbb h5 h7) | exact lk rfl (due7 hbb h5 h6)), au2, rfl, rfl, trivial⟩ au1 (fun _ h => h) ?_ ?_
  · omega
  · omega
 refine wpM.exit ?_
 refine QM.then_exit ?_
 refine QM.then_exit ?_
 refine QM.block_hit ?_
 refine QM.then (wpM.seq (wpM.region ?_))
 refine LM.mv rfl (LM.as rfl ?_)
 refine LM.nil (QM.sub (e' := [(4, _)]) ⟨rfl, trivial⟩ (QM.then ?_))
 refine wpM.ret ?_
 refine QM.leave (.inl rfl) [.tmp 4] Try.results36 rfl ?_
 intro w' hm' hc' hg'
 refine ⟨?_, hc'⟩; rw [show i = L.length by omega]; rfl
set_option maxRecDepth 100000 in
theorem rbring_spec (k : Int) (w : World) : Ret Try.prog 27 #[.int .i64 k] w (fun u w' => u = .int .i64 (newMost k) ∧ Ext w w') := by
 refine Ret.enterM (l := [.int .i64 k]) Try.func27 rfl Try.ntmps27 rfl ([]) (no) (Mem.nil w) ?_
 refine wpM.seq (wpM.region ?_)
 refine LM.as rfl ?_
 refine LM.nil (QM.sub (e' := [(0, _)]) ⟨rfl, trivial⟩ (QM.then ?_))
 refine wpM.seq ?_
 refine wpM.seq (wpM.region ?_)
 refine LM.mv rfl ?_
 refine LM.val (ov_lss rfl rfl) ?_
 refine LM.nil (QM.sub (e' := [(0, _), (4, _)]) au9 (QM.then ?_))
 refine wpM.condD rfl (fun h1 => ?_) (fun h1 => ?_)
 ·
  refine wpM.seq (wpM.region ?_)
  refine LM.as rfl ?_
  refine LM.nil (QM.sub (e' := [(2, _)]) ⟨rfl, trivial⟩ (QM.then ?_))
  refine wpM.ret ?_
  refine QM.then_ret ?_
  refine QM.leave (.inl rfl) [.tmp 2] Try.results27 rfl ?_
  intro w' hm' hc' hg'
  refine ⟨?_, hc'⟩; unfold newMost; rw [if_pos h1]; rfl
 refine wpM.skip ?_
 refine QM.then ?_
 refine wpM.seq ?_
 refine wpM.seq (wpM.region ?_)
 refine LM.mv rfl ?_
 refine LM.val (ov_gtr rfl rfl) ?_
 refine LM.nil (QM.sub (e' := [(0, _), (6, _)]) au9 (QM.then ?_))
 refine wpM.condD rfl (fun h2 => ?_) (fun h2 => ?_)
 ·
  refine wpM.seq (wpM.region ?_)
  refine LM.as rfl ?_
  refine LM.nil (QM.sub (e' := [(2, _)]) ⟨rfl, trivial⟩ (QM.then ?_))
  refine wpM.ret ?_
  refine QM.then_ret ?_
  refine QM.leave (.inl rfl) [.tmp 2] Try.results27 rfl ?_
  intro w' hm' hc' hg'
  refine ⟨?_, hc'⟩; unfold newMost; rw [if_neg h1, if_pos (by omega)]; rfl
 refine wpM.skip ?_
 refine QM.then (wpM.seq (wpM.region ?_))
 refine LM.mv rfl (LM.as rfl ?_)
 refine LM.nil (QM.sub (e' := [(2, _)]) ⟨rfl, trivial⟩ (QM.then ?_))
 refine wpM.ret ?_
 refine QM.leave (.inl rfl) [.tmp 2] Try.results27 rfl ?_
 intro w' hm' hc' hg'
 refine ⟨?_, hc'⟩; unfold newMost; rw [if_neg h1, if_neg (by omega)]; rfl
def RtN (k e : Int) (n0 : Nat) (v : Value) (m : Mem0) : Prop := ∃ b, v = .pointer (some ⟨b, 0, none⟩) ∧ RtM (newMost k) (newMost e) n0 [] b m
theorem RtN.mono {k e : Int} : ∀ (n n' : Nat) (v : Value) (m : Mem0), n' ≤ n → RtN k e n v m → RtN k e n' v m := fun n n' v m hn ⟨b, h1, h⟩ => ⟨b, h1, h.mono hn⟩
set_option maxRecDepth 100000 in
theorem rnew_spec (k e : Int) (w : World) : Ret Try.prog 7 #[.int .i64 k, .int .i64 e] w (fun v w' => Ext w w' ∧ ∃ m, RtN k e w.heap.size v m ∧ Mem w' m ∧ ∀ p ∈ m, w.heap.size ≤ p.1) := by
 refine Ret.enterM (l := [.int .i64 k, .int .i64 e]) Try.func7 rfl Try.ntmps7 rfl ([]) (no) (Mem.nil w) ?_
 refine wpM.seq (wpM.region ?_)
 refine LM.as rfl ?_
 refine LM.nil (QM.sub (e' := [(0, _), (1, _)]) au9 (QM.then (wpM.seq (wpM.region ?_))))
 refine LM.mv rfl ?_
 refine LM.callE (oc_call (enters_fn Try.func27 (by kernel_rfl) rfl) rfl) (fun w hm hc hg => rbring_spec _ w) ?_
 refine LM.mv rfl ?_
 refine LM.callE (oc_call (enters_fn Try.func27 (by kernel_rfl) rfl) rfl) (fun w hm hc hg => rbring_spec _ w) ?_
 refine LM.val (ov_build (cs := #[_, _, _]) rfl (by first | rfl | kernel_rfl)) ?_
 refine LM.box rfl rfl (fun b10 hb10 => ?_)
 refine LM.as rfl ?_
 refine LM.nil (QM.sub (e' := [(4, _)]) ⟨rfl, trivial⟩ (QM.then ?_))
 refine wpM.ret ?_
 refine QM.leave (.inl rfl) [.tmp 4] Try.results7 rfl ?_
 intro w' hm' hc' hg'
 exact ⟨hc', _, ⟨b10, rfl, none, 0, 0, [], rfl, rfl, .nil _ _ _ _, hb10⟩, (SubM.mem (by (repeat' (first | exact SubM.nil _ | refine SubM.cons (by rfl) ?_ | refine SubM.app ?_)))) w' hm', fun p hp => by simp only [List.mem_cons, List.not_mem_nil, or_false] at hp; subst hp; assumption⟩
end Go.Eng
namespace Go.Eng
open Go Go.Proofs Go.RowKit
def nbk (k : Int) : Int := if 1 > k then 1 else if 64 < k then 64 else k
theorem nbk_ok (k : Int) : 1 ≤ nbk k ∧ nbk k ≤ 64 := by unfold nbk; (repeat' split) <;> omega
theorem nbk_eq (k : Int) : (if (64 : Int) < (if 1 > k then 1 else k) then 64 else (if 1 > k then 1 else k)) = nbk k := by unfold nbk; (repeat' split) <;> omega
def TbN (mo ea : Int) (n0 : Nat) (v : Value) (m : Mem0) : Prop := ∃ b, v = .pointer (some ⟨b, 0, none⟩) ∧ TbM (newMost mo) (newMost ea) n0 0 [] b m
theorem TbN.mono {mo ea : Int} : ∀ (n n' : Nat) (v : Value) (m : Mem0), n' ≤ n → TbN mo ea n v m → TbN mo ea n' v m := fun n n' v m hn ⟨b, h1, h⟩ => ⟨b, h1, h.mono hn⟩
theorem newRo {each : Int} {n0 n : Nat} {ad : Option Addr} {cap : Nat} {mo : Mem0} (h0 : 0 < n) (h : n ≤ 64) (ho : Sl fBh 93 1 n0 (List.replicate n (default : Bh)) (.slice ad n cap) mo) : RoM each n0 n cap ad 0 (fun _ => none) (mo ++ []) := by
  refine ⟨List.replicate n default, List.replicate n [], mo, [], rfl, by simp, h0, h, ho, ⟨List.replicate n [], ?_, by simp, by simp, fun j hj => ?_⟩, fun j hj => ?_, fun key => ?_⟩
  · simp
  · rw [List.length_replicate] at hj
    unfold bg
    rw [List.getD_eq_getElem?_getD, List.getD_eq_getElem?_getD, List.getD_eq_getElem?_getD, List.getElem?_replicate, List.getElem?_replicate, List.getElem?_replicate, if_pos hj, if_pos hj, if_pos hj]
    exact ⟨[], [], rfl, .nil _ _ _ _, ⟨[], rfl, rfl, fun i hi => by cases hi⟩, List.nodup_nil⟩
  · rw [List.getD_eq_getElem?_getD, List.getElem?_replicate, if_pos hj]; exact Nat.le_refl 0
  · have := (bk_lt (key := key) h0 h).1
    rw [List.getD_eq_getElem?_getD, List.getElem?_replicate, if_pos this]; rfl
theorem newTbQ {most each : Int} (h1 : 0 ≤ most ∧ most ≤ 4096) (h2 : 0 ≤ each ∧ each ≤ 4096) : TbQ most each 0 [] (fun _ => none) [] :=
  ⟨h1, h2, h1.1, List.Pairwise.nil, fun _ _ => rfl, fun _ _ h => (by cases h), List.nodup_nil, rfl, fun _ _ _ h => (by cases h), fun _ _ => rfl⟩
theorem tb_newleaf {mo ea : Int} {b n cap bs bh : Nat} {ad : Option Addr} {mO mh M : Mem0} {w w' : World} (h0 : 0 < n) (h64 : n ≤ 64) (ho : Sl fBh 93 1 w.heap.size (List.replicate n (default : Bh)) (.slice ad n cap) mO) (hh : HoM (newMost 4096) w.heap.size bh [] mh) (hb : w.heap.size ≤ b) (hbs : w.heap.size ≤ bs) (hm : Mem w' M) (hs : SubM M (tbC b ad n cap (newMost mo) (newMost ea) bs bh :: (bs, .map #[] 0) :: (mO ++ (mh ++ [])))) (hc : Ext w w') :
    Ext w w' ∧ ∃ m, TbN mo ea w.heap.size (.pointer (some ⟨b, 0, none⟩)) m ∧ Mem w' m ∧ ∀ p ∈ m, w.heap.size ≤ p.1 := by
  have h : TbM (newMost mo) (newMost ea) w.heap.size 0 [] b ((tbC b ad n cap (newMost mo) (newMost ea) bs bh :: (bs, .map #[] 0) :: (mO ++ [])) ++ mh) :=
    ⟨bh, [], _, mh, rfl, ⟨ad, n, cap, bs, #[], 0, _, 0, [], mO ++ [], rfl, newRo h0 h64 ho, ensS_nil _, hb, hbs, Nat.le_refl _, newTbQ (newMost_ok mo) (newMost_ok ea)⟩, hh, ⟨fun x hx => (by cases hx), fun x hx => (by cases hx)⟩⟩
  refine ⟨hc, _, ⟨b, rfl, h⟩, ?_, h.ge⟩
  have h2 := hs.mem w' hm
  simpa using h2
set_option maxRecDepth 100000 in
theorem tbring_spec (k : Int) (w : World) : Ret Try.prog 25 #[.int .i64 k] w (fun u w' => u = .int .i64 (newMost k) ∧ Ext w w') := by
 refine Ret.enterM (l := [.int .i64 k]) Try.func25 rfl Try.ntmps25 rfl ([]) (no) (Mem.nil w) ?_
 refine wpM.seq (wpM.region ?_)
 try rw [newMost_eq]
 refine LM.as rfl ?_
 refine LM.nil (QM.sub (e' := [(0, _)]) ⟨rfl, trivial⟩ (QM.then (wpM.seq (wpM.region ?_))))
 refine LM.mv rfl ?_
 refine LM.val (ov_max rfl rfl) ?_
 refine LM.val (ov_min rfl rfl) ?_
 try rw [newMost_eq]
 refine LM.as rfl ?_
 refine LM.nil (QM.sub (e' := [(2, _)]) ⟨rfl, trivial⟩ (QM.then ?_))
 refine wpM.ret ?_
 refine QM.leave (.inl rfl) [.tmp 2] Try.results25 rfl ?_
 intro w' hm' hc' hg'
 exact ⟨rfl, hc'⟩
set_option maxRecDepth 100000 in
set_option maxHeartbeats 4000000 in
theorem tnew_spec (bu mo ea : Int) (w : World) : Ret Try.prog 6 #[.int .i64 bu, .int .i64 mo, .int .i64 ea] w (fun v w' => Ext w w' ∧ ∃ m, TbN mo ea w.heap.size v m ∧ Mem w' m ∧ ∀ p ∈ m, w.heap.size ≤ p.1) := by
 obtain ⟨nn, hnn⟩ : ∃ nn : Nat, nbk bu = nn := ⟨(nbk bu).toNat, by have := nbk_ok bu; omega⟩; have hnk := nbk_ok bu
 refine Ret.enterM (l := [.int .i64 bu, .int .i64 mo, .int .i64 ea]) Try.func6 rfl Try.ntmps6 rfl ([]) (no) (Mem.nil w) ?_
 refine wpM.seq (wpM.region ?_)
 refine LM.as rfl ?_
 refine LM.nil (QM.sub (e' := [(0, _), (1, _), (2, _)]) au9 (QM.then (wpM.seq (wpM.region ?_))))
 refine LM.as rfl ?_
 refine LM.nil (QM.sub (e' := [(0, _), (1, _), (2, _), (7, _)]) au9 (QM.then ?_))
 refine wpM.seq ?_
 refine wpM.keep ([]) (fun _ => True) (.one 0 0 (.one 1 0 (.one 2 0 (.one 4 0 (.one 5 0 (.one 7 0 (.one 8 0 (.tri 3 (.fork 6 (.fork 9 (.fork 10 (.one 11 2 (.one 12 0 (.one 13 2 (.one 14 0 .nil)))) 11 (.one 10 2 (.one 12 0 (.one 13 2 (.one 14 0 .nil))))) 10 (.one 9 2 (.one 11 2 (.one 12 0 (.one 13 2 (.one 14 0 .nil)))))) 10 (.one 6 2 (.one 9 2 (.one 11 2 (.one 12 0 (.one 13 2 (.one 14 0 .nil))))))) 6 (.tri 3 (.fork 9 (.fork 10 (.one 11 2 (.one 12 0 (.one 13 2 (.one 14 0 .nil)))) 11 (.one 10 2 (.one 12 0 (.one 13 2 (.one 14 0 .nil))))) 10 (.one 9 2 (.one 11 2 (.one 12 0 (.one 13 2 (.one 14 0 .nil)))))) 9 (.tri 3 (.fork 10 (.one 11 2 (.one 12 0 (.one 13 2 (.one 14 0 .nil)))) 11 (.one 10 2 (.one 12 0 (.one 13 2 (.one 14 0 .nil))))) 10 (.fork 3 (.one 11 2 (.one 12 0 (.one 13 2 (.one 14 0 .nil)))) 11 (.one 3 2 (.one 12 0 (.one 13 2 (.one 14 0 .nil))))) 11 (.fork 3 (.one 10 2 (.one 12 0 (.one 13 2 (.one 14 0 .nil)))) 10 (.one 3 2 (.one 12 0 (.one 13 2 (.one 14 0 .nil)))))) 10 (.fork 3 (.one 9 2 (.one 11 2 (.one 12 0 (.one 13 2 (.one 14 0 .nil))))) 9 (.fork 3 (.one 11 2 (.one 12 0 (.one 13 2 (.one 14 0 .nil)))) 11 (.one 3 2 (.one 12 0 (.one 13 2 (.one 14 0 .nil))))))) 10 (.fork 3 (.one 6 2 (.one 9 2 (.one 11 2 (.one 12 0 (.one 13 2 (.one 14 0 .nil)))))) 6 (.fork 3 (.one 9 2 (.one 11 2 (.one 12 0 (.one 13 2 (.one 14 0 .nil))))) 9 (.fork 3 (.one 11 2 (.one 12 0 (.one 13 2 (.one 14 0 .nil)))) 11 (.one 3 2 (.one 12 0 (.one 13 2 (.one 14 0 .nil))))))))))))))) (by kernel_rfl) (by kernel_rfl) au1 (fun _ _ => trivial) ?_
 refine KD.val rfl rfl (ov_move rfl) ?_
 refine KD.val rfl rfl (ov_max rfl rfl) ?_
 refine KD.val rfl rfl (ov_min rfl rfl) ?_
 refine KD.val rfl rfl (ov_move rfl) ?_
 refine KD.val rfl rfl (ov_move rfl) ?_
 refine KD.val rfl rfl (ov_move rfl) ?_
 refine KD.val rfl rfl (ov_move rfl) ?_
 refine KD.tri rfl rfl rfl ?_ ?_ ?_
 ·
  try rw [nbk_eq, hnn]
  refine LM.makeS (f := fBh) (a0 := (default : Bh)) Try.underlying57 Try.typeInfo93 rfl rfl rfl rfl (by intro _; rfl) rfl rfl rfl (by omega) (by simp only [Try.t93]; omega) (by omega) (by unfold maxLen; omega) (fun ad11 n11 m11 hn11 hs11 => ?_)
  refine LM.nil ?_
  refine QM.one au1 (fun _ _ => trivial) ?_
  refine KD.fork rfl rfl ?_ ?_
  ·
   refine LM.callE (oc_callV rfl (enters_fn Try.func25 (by kernel_rfl) rfl) rfl) (fun w hm hc hg => tbring_spec _ w) ?_
   refine LM.nil ?_
   refine QM.one au1 (fun _ _ => trivial) ?_
   refine KD.fork rfl rfl ?_ ?_
   ·
    refine LM.callE (oc_callV rfl (enters_fn Try.func25 (by kernel_rfl) rfl) rfl) (fun w hm hc hg => tbring_spec _ w) ?_
    refine LM.nil ?_
    refine QM.one au1 (fun _ _ => trivial) ?_
    refine KD.fork rfl rfl ?_ ?_
    ·
     refine LM.makeMap rfl (fun b18 hb18 => ?_)
     refine LM.nil ?_
     refine QM.one au1 (fun _ _ => trivial) ?_
     refine KD.one rfl ?_
     refine LM.callT (oc_call (enters_fn Try.func26 (by kernel_rfl) rfl) rfl) HoN.mono (fun w hm hc hg => honew_spec 4096 w) ?_
     rintro u19 m19 ⟨b19, rfl, h19⟩ hge19
     refine LM.nil ?_
     refine QM.one au1 (fun _ _ => trivial) ?_
     refine KD.val rfl rfl (ov_build (cs := #[.slice ad11 n11 n11, .int .i64 (newMost mo), .int .i64 (newMost ea), .map (some b18), .pointer (some ⟨b19, 0, none⟩)]) rfl (by kernel_rfl)) ?_
     refine KD.one rfl ?_
     refine LM.box rfl rfl (fun b21 hb21 => ?_)
     refine LM.nil ?_
     refine QM.one au1 (fun _ _ => trivial) ?_
     refine KD.val rfl rfl (ov_assign rfl) ?_
     refine KD.nil ?_
     refine QM.sub (e' := [(6, _)]) ⟨rfl, trivial⟩ (QM.then ?_)
     refine wpM.ret ?_
     refine QM.leave (.inl rfl) [.tmp 6] Try.results6 rfl ?_
     intro w' hm' hc' hg'
     have e11 : n11 = nn := hn11.trans (Int.toNat_natCast nn); exact tb_newleaf (mO := m11) (by omega) (by omega) hs11 h19 hb21 hb18 hm' (by (repeat' (first | exact SubM.nil _ | refine SubM.cons (by rfl) ?_ | refine SubM.app ?_))) hc'
    refine LM.callT (oc_call (enters_fn Try.func26 (by kernel_rfl) rfl) rfl) HoN.mono (fun w hm hc hg => honew_spec 4096 w) ?_
    rintro u19 m19 ⟨b19, rfl, h19⟩ hge19
    refine LM.nil ?_
    refine QM.one au1 (fun _ _ => trivial) ?_
    refine KD.one rfl ?_
    refine LM.makeMap rfl (fun b18 hb18 => ?_)
    refine LM.nil ?_
    refine QM.one au1 (fun _ _ => trivial) ?_
    refine KD.val rfl rfl (ov_build (cs := #[.slice ad11 n11 n11, .int .i64 (newMost mo), .int .i64 (newMost ea), .map (some b18), .pointer (some ⟨b19, 0, none⟩)]) rfl (by kernel_rfl)) ?_
    refine KD.one rfl ?_
    refine LM.box rfl rfl (fun b21 hb21 => ?_)
    refine LM.nil ?_
    refine QM.one au1 (fun _ _ => trivial) ?_
    refine KD.val rfl rfl (ov_assign rfl) ?_
    refine KD.nil ?_
    refine QM.sub (e' := [(6, _)]) ⟨rfl, trivial⟩ (QM.then ?_)
    refine wpM.ret ?_
    refine QM.leave (.inl rfl) [.tmp 6] Try.results6 rfl ?_
    intro w' hm' hc' hg'
    have e11 : n11 = nn := hn11.trans (Int.toNat_natCast nn); exact tb_newleaf (mO := m11) (by omega) (by omega) hs11 h19 hb21 hb18 hm' (by (repeat' (first | exact SubM.nil _ | refine SubM.cons (by rfl) ?_ | refine SubM.app ?_))) hc'
   refine LM.makeMap rfl (fun b18 hb18 => ?_)
   refine LM.nil ?_
   refine QM.one au1 (fun _ _ => trivial) ?_
   refine KD.one rfl ?_
   refine LM.callE (oc_callV rfl (enters_fn Try.func25 (by kernel_rfl) rfl) rfl) (fun w hm hc hg => tbring_spec _ w) ?_
   refine LM.nil ?_
   refine QM.one au1 (fun _ _ => trivial) ?_
   refine KD.one rfl ?_
   refine LM.callT (oc_call (enters_fn Try.func26 (by kernel_rfl) rfl) rfl) HoN.mono (fun w hm hc hg => honew_spec 4096 w) ?_
   rintro u19 m19 ⟨b19, rfl, h19⟩ hge19
   refine LM.nil ?_
   refine QM.one au1 (fun _ _ => trivial) ?_
   refine KD.val rfl rfl (ov_build (cs := #[.slice ad11 n11 n11, .int .i64 (newMost mo), .int .i64 (newMost ea), .map (some b18), .pointer (some ⟨b19, 0, none⟩)]) rfl (by kernel_rfl)) ?_
   refine KD.one rfl ?_
   refine LM.box rfl rfl (fun b21 hb21 => ?_)
   refine LM.nil ?_
   refine QM.one au1 (fun _ _ => trivial) ?_
   refine KD.val rfl rfl (ov_assign rfl) ?_
   refine KD.nil ?_
   refine QM.sub (e' := [(6, _)]) ⟨rfl, trivial⟩ (QM.then ?_)
   refine wpM.ret ?_
   refine QM.leave (.inl rfl) [.tmp 6] Try.results6 rfl ?_
   intro w' hm' hc' hg'
   have e11 : n11 = nn := hn11.trans (Int.toNat_natCast nn); exact tb_newleaf (mO := m11) (by omega) (by omega) hs11 h19 hb21 hb18 hm' (by (repeat' (first | exact SubM.nil _ | refine SubM.cons (by rfl) ?_ | refine SubM.app ?_))) hc'
  refine LM.makeMap rfl (fun b18 hb18 => ?_)
  refine LM.nil ?_
  refine QM.one au1 (fun _ _ => trivial) ?_
  refine KD.one rfl ?_
  refine LM.callE (oc_callV rfl (enters_fn Try.func25 (by kernel_rfl) rfl) rfl) (fun w hm hc hg => tbring_spec _ w) ?_
  refine LM.nil ?_
  refine QM.one au1 (fun _ _ => trivial) ?_
  refine KD.one rfl ?_
  refine LM.callE (oc_callV rfl (enters_fn Try.func25 (by kernel_rfl) rfl) rfl) (fun w hm hc hg => tbring_spec _ w) ?_
  refine LM.nil ?_
  refine QM.one au1 (fun _ _ => trivial) ?_
  refine KD.one rfl ?_
  refine LM.callT (oc_call (enters_fn Try.func26 (by kernel_rfl) rfl) rfl) HoN.mono (fun w hm hc hg => honew_spec 4096 w) ?_
  rintro u19 m19 ⟨b19, rfl, h19⟩ hge19
  refine LM.nil ?_
  refine QM.one au1 (fun _ _ => trivial) ?_
  refine KD.val rfl rfl (ov_build (cs := #[.slice ad11 n11 n11, .int .i64 (newMost mo), .int .i64 (newMost ea), .map (some b18), .pointer (some ⟨b19, 0, none⟩)]) rfl (by kernel_rfl)) ?_
  refine KD.one rfl ?_
  refine LM.box rfl rfl (fun b21 hb21 => ?_)
  refine LM.nil ?_
  refine QM.one au1 (fun _ _ => trivial) ?_
  refine KD.val rfl rfl (ov_assign rfl) ?_
  refine KD.nil ?_
  refine QM.sub (e' := [(6, _)]) ⟨rfl, trivial⟩ (QM.then ?_)
  refine wpM.ret ?_
  refine QM.leave (.inl rfl) [.tmp 6] Try.results6 rfl ?_
  intro w' hm' hc' hg'
  have e11 : n11 = nn := hn11.trans (Int.toNat_natCast nn); exact tb_newleaf (mO := m11) (by omega) (by omega) hs11 h19 hb21 hb18 hm' (by (repeat' (first | exact SubM.nil _ | refine SubM.cons (by rfl) ?_ | refine SubM.app ?_))) hc'
 ·
  refine LM.callE (oc_callV rfl (enters_fn Try.func25 (by kernel_rfl) rfl) rfl) (fun w hm hc hg => tbring_spec _ w) ?_
  refine LM.nil ?_
  refine QM.one au1 (fun _ _ => trivial) ?_
  refine KD.tri rfl rfl rfl ?_ ?_ ?_
  ·
   try rw [nbk_eq, hnn]
   refine LM.makeS (f := fBh) (a0 := (default : Bh)) Try.underlying57 Try.typeInfo93 rfl rfl rfl rfl (by intro _; rfl) rfl rfl rfl (by omega) (by simp only [Try.t93]; omega) (by omega) (by unfold maxLen; omega) (fun ad11 n11 m11 hn11 hs11 => ?_)
   refine LM.nil ?_
   refine QM.one au1 (fun _ _ => trivial) ?_
   refine KD.fork rfl rfl ?_ ?_
   ·
    refine LM.callE (oc_callV rfl (enters_fn Try.func25 (by kernel_rfl) rfl) rfl) (fun w hm hc hg => tbring_spec _ w) ?_
    refine LM.nil ?_
    refine QM.one au1 (fun _ _ => trivial) ?_
    refine KD.fork rfl rfl ?_ ?_
    ·
     refine LM.makeMap rfl (fun b18 hb18 => ?_)
     refine LM.nil ?_
     refine QM.one au1 (fun _ _ => trivial) ?_
     refine KD.one rfl ?_
     refine LM.callT (oc_call (enters_fn Try.func26 (by kernel_rfl) rfl) rfl) HoN.mono (fun w hm hc hg => honew_spec 4096 w) ?_
     rintro u19 m19 ⟨b19, rfl, h19⟩ hge19
     refine LM.nil ?_
     refine QM.one au1 (fun _ _ => trivial) ?_
     refine KD.val rfl rfl (ov_build (cs := #[.slice ad11 n11 n11, .int .i64 (newMost mo), .int .i64 (newMost ea), .map (some b18), .pointer (some ⟨b19, 0, none⟩)]) rfl (by kernel_rfl)) ?_
     refine KD.one rfl ?_
     refine LM.box rfl rfl (fun b21 hb21 => ?_)
     refine LM.nil ?_
     refine QM.one au1 (fun _ _ => trivial) ?_
     refine KD.val rfl rfl (ov_assign rfl) ?_
     refine KD.nil ?_
     refine QM.sub (e' := [(6, _)]) ⟨rfl, trivial⟩ (QM.then ?_)
     refine wpM.ret ?_
     refine QM.leave (.inl rfl) [.tmp 6] Try.results6 rfl ?_
     intro w' hm' hc' hg'
     have e11 : n11 = nn := hn11.trans (Int.toNat_natCast nn); exact tb_newleaf (mO := m11) (by omega) (by omega) hs11 h19 hb21 hb18 hm' (by (repeat' (first | exact SubM.nil _ | refine SubM.cons (by rfl) ?_ | refine SubM.app ?_))) hc'
    refine LM.callT (oc_call (enters_fn Try.func26 (by kernel_rfl) rfl) rfl) HoN.mono (fun w hm hc hg => honew_spec 4096 w) ?_
    rintro u19 m19 ⟨b19, rfl, h19⟩ hge19
    refine LM.nil ?_
    refine QM.one au1 (fun _ _ => trivial) ?_
    refine KD.one rfl ?_
    refine LM.makeMap rfl (fun b18 hb18 => ?_)
    refine LM.nil ?_
    refine QM.one au1 (fun _ _ => trivial) ?_
    refine KD.val rfl rfl (ov_build (cs := #[.slice ad11 n11 n11, .int .i64 (newMost mo), .int .i64 (newMost ea), .map (some b18), .pointer (some ⟨b19, 0, none⟩)]) rfl (by kernel_rfl)) ?_
    refine KD.one rfl ?_
    refine LM.box rfl rfl (fun b21 hb21 => ?_)
    refine LM.nil ?_
    refine QM.one au1 (fun _ _ => trivial) ?_
    refine KD.val rfl rfl (ov_assign rfl) ?_
    refine KD.nil ?_
    refine QM.sub (e' := [(6, _)]) ⟨rfl, trivial⟩ (QM.then ?_)
    refine wpM.ret ?_
    refine QM.leave (.inl rfl) [.tmp 6] Try.results6 rfl ?_
    intro w' hm' hc' hg'
    have e11 : n11 = nn := hn11.trans (Int.toNat_natCast nn); exact tb_newleaf (mO := m11) (by omega) (by omega) hs11 h19 hb21 hb18 hm' (by (repeat' (first | exact SubM.nil _ | refine SubM.cons (by rfl) ?_ | refine SubM.app ?_))) hc'
   refine LM.makeMap rfl (fun b18 hb18 => ?_)
   refine LM.nil ?_
   refine QM.one au1 (fun _ _ => trivial) ?_
   refine KD.one rfl ?_
   refine LM.callE (oc_callV rfl (enters_fn Try.func25 (by kernel_rfl) rfl) rfl) (fun w hm hc hg => tbring_spec _ w) ?_
   refine LM.nil ?_
   refine QM.one au1 (fun _ _ => trivial) ?_
   refine KD.one rfl ?_
   refine LM.callT (oc_call (enters_fn Try.func26 (by kernel_rfl) rfl) rfl) HoN.mono (fun w hm hc hg => honew_spec 4096 w) ?_
   rintro u19 m19 ⟨b19, rfl, h19⟩ hge19
   refine LM.nil ?_
   refine QM.one au1 (fun _ _ => trivial) ?_
   refine KD.val rfl rfl (ov_build (cs := #[.slice ad11 n11 n11, .int .i64 (newMost mo), .int .i64 (newMost ea), .map (some b18), .pointer (some ⟨b19, 0, none⟩)]) rfl (by kernel_rfl)) ?_
   refine KD.one rfl ?_
   refine LM.box rfl rfl (fun b21 hb21 => ?_)
   refine LM.nil ?_
   refine QM.one au1 (fun _ _ => trivial) ?_
   refine KD.val rfl rfl (ov_assign rfl) ?_
   refine KD.nil ?_
   refine QM.sub (e' := [(6, _)]) ⟨rfl, trivial⟩ (QM.then ?_)
   refine wpM.ret ?_
   refine QM.leave (.inl rfl) [.tmp 6] Try.results6 rfl ?_
   intro w' hm' hc' hg'
   have e11 : n11 = nn := hn11.trans (Int.toNat_natCast nn); exact tb_newleaf (mO := m11) (by omega) (by omega) hs11 h19 hb21 hb18 hm' (by (repeat' (first | exact SubM.nil _ | refine SubM.cons (by rfl) ?_ | refine SubM.app ?_))) hc'
  ·
   refine LM.callE (oc_callV rfl (enters_fn Try.func25 (by kernel_rfl) rfl) rfl) (fun w hm hc hg => tbring_spec _ w) ?_
   refine LM.nil ?_
   refine QM.one au1 (fun _ _ => trivial) ?_
   refine KD.tri rfl rfl rfl ?_ ?_ ?_
   ·
    try rw [nbk_eq, hnn]
    refine LM.makeS (f := fBh) (a0 := (default : Bh)) Try.underlying57 Try.typeInfo93 rfl rfl rfl rfl (by intro _; rfl) rfl rfl rfl (by omega) (by simp only [Try.t93]; omega) (by omega) (by unfold maxLen; omega) (fun ad11 n11 m11 hn11 hs11 => ?_)
    refine LM.nil ?_
    refine QM.one au1 (fun _ _ => trivial) ?_
    refine KD.fork rfl rfl ?_ ?_
    ·
     refine LM.makeMap rfl (fun b18 hb18 => ?_)
     refine LM.nil ?_
     refine QM.one au1 (fun _ _ => trivial) ?_
     refine KD.one rfl ?_
     refine LM.callT (oc_call (enters_fn Try.func26 (by kernel_rfl) rfl) rfl) HoN.mono (fun w hm hc hg => honew_spec 4096 w) ?_
     rintro u19 m19 ⟨b19, rfl, h19⟩ hge19
     refine LM.nil ?_
     refine QM.one au1 (fun _ _ => trivial) ?_
     refine KD.val rfl rfl (ov_build (cs := #[.slice ad11 n11 n11, .int .i64 (newMost mo), .int .i64 (newMost ea), .map (some b18), .pointer (some ⟨b19, 0, none⟩)]) rfl (by kernel_rfl)) ?_
     refine KD.one rfl ?_
     refine LM.box rfl rfl (fun b21 hb21 => ?_)
     refine LM.nil ?_
     refine QM.one au1 (fun _ _ => trivial) ?_
     refine KD.val rfl rfl (ov_assign rfl) ?_
     refine KD.nil ?_
     refine QM.sub (e' := [(6, _)]) ⟨rfl, trivial⟩ (QM.then ?_)
     refine wpM.ret ?_
     refine QM.leave (.inl rfl) [.tmp 6] Try.results6 rfl ?_
     intro w' hm' hc' hg'
     have e11 : n11 = nn := hn11.trans (Int.toNat_natCast nn); exact tb_newleaf (mO := m11) (by omega) (by omega) hs11 h19 hb21 hb18 hm' (by (repeat' (first | exact SubM.nil _ | refine SubM.cons (by rfl) ?_ | refine SubM.app ?_))) hc'
    refine LM.callT (oc_call (enters_fn Try.func26 (by kernel_rfl) rfl) rfl) HoN.mono (fun w hm hc hg => honew_spec 4096 w) ?_
    rintro u19 m19 ⟨b19, rfl, h19⟩ hge19
    refine LM.nil ?_
    refine QM.one au1 (fun _ _ => trivial) ?_
    refine KD.one rfl ?_
    refine LM.makeMap rfl (fun b18 hb18 => ?_)
    refine LM.nil ?_
    refine QM.one au1 (fun _ _ => trivial) ?_
    refine KD.val rfl rfl (ov_build (cs := #[.slice ad11 n11 n11, .int .i64 (newMost mo), .int .i64 (newMost ea), .map (some b18), .pointer (some ⟨b19, 0, none⟩)]) rfl (by kernel_rfl)) ?_
    refine KD.one rfl ?_
    refine LM.box rfl rfl (fun b21 hb21 => ?_)
    refine LM.nil ?_
    refine QM.one au1 (fun _ _ => trivial) ?_
    refine KD.val rfl rfl (ov_assign rfl) ?_
    refine KD.nil ?_
    refine QM.sub (e' := [(6, _)]) ⟨rfl, trivial⟩ (QM.then ?_)
    refine wpM.ret ?_
    refine QM.leave (.inl rfl) [.tmp 6] Try.results6 rfl ?_
    intro w' hm' hc' hg'
    have e11 : n11 = nn := hn11.trans (Int.toNat_natCast nn); exact tb_newleaf (mO := m11) (by omega) (by omega) hs11 h19 hb21 hb18 hm' (by (repeat' (first | exact SubM.nil _ | refine SubM.cons (by rfl) ?_ | refine SubM.app ?_))) hc'
   ·
    refine LM.makeMap rfl (fun b18 hb18 => ?_)
    refine LM.nil ?_
    refine QM.one au1 (fun _ _ => trivial) ?_
    refine KD.fork rfl rfl ?_ ?_
    ·
     try rw [nbk_eq, hnn]
     refine LM.makeS (f := fBh) (a0 := (default : Bh)) Try.underlying57 Try.typeInfo93 rfl rfl rfl rfl (by intro _; rfl) rfl rfl rfl (by omega) (by simp only [Try.t93]; omega) (by omega) (by unfold maxLen; omega) (fun ad11 n11 m11 hn11 hs11 => ?_)
     refine LM.nil ?_
     refine QM.one au1 (fun _ _ => trivial) ?_
     refine KD.one rfl ?_
     refine LM.callT (oc_call (enters_fn Try.func26 (by kernel_rfl) rfl) rfl) HoN.mono (fun w hm hc hg => honew_spec 4096 w) ?_
     rintro u19 m19 ⟨b19, rfl, h19⟩ hge19
     refine LM.nil ?_
     refine QM.one au1 (fun _ _ => trivial) ?_
     refine KD.val rfl rfl (ov_build (cs := #[.slice ad11 n11 n11, .int .i64 (newMost mo), .int .i64 (newMost ea), .map (some b18), .pointer (some ⟨b19, 0, none⟩)]) rfl (by kernel_rfl)) ?_
     refine KD.one rfl ?_
     refine LM.box rfl rfl (fun b21 hb21 => ?_)
     refine LM.nil ?_
     refine QM.one au1 (fun _ _ => trivial) ?_
     refine KD.val rfl rfl (ov_assign rfl) ?_
     refine KD.nil ?_
     refine QM.sub (e' := [(6, _)]) ⟨rfl, trivial⟩ (QM.then ?_)
     refine wpM.ret ?_
     refine QM.leave (.inl rfl) [.tmp 6] Try.results6 rfl ?_
     intro w' hm' hc' hg'
     have e11 : n11 = nn := hn11.trans (Int.toNat_natCast nn); exact tb_newleaf (mO := m11) (by omega) (by omega) hs11 h19 hb21 hb18 hm' (by (repeat' (first | exact SubM.nil _ | refine SubM.cons (by rfl) ?_ | refine SubM.app ?_))) hc'
    refine LM.callT (oc_call (enters_fn Try.func26 (by kernel_rfl) rfl) rfl) HoN.mono (fun w hm hc hg => honew_spec 4096 w) ?_
    rintro u19 m19 ⟨b19, rfl, h19⟩ hge19
    refine LM.nil ?_
    refine QM.one au1 (fun _ _ => trivial) ?_
    refine KD.one rfl ?_
    try rw [nbk_eq, hnn]
    refine LM.makeS (f := fBh) (a0 := (default : Bh)) Try.underlying57 Try.typeInfo93 rfl rfl rfl rfl (by intro _; rfl) rfl rfl rfl (by omega) (by simp only [Try.t93]; omega) (by omega) (by unfold maxLen; omega) (fun ad11 n11 m11 hn11 hs11 => ?_)
    refine LM.nil ?_
    refine QM.one au1 (fun _ _ => trivial) ?_
    refine KD.val rfl rfl (ov_build (cs := #[.slice ad11 n11 n11, .int .i64 (newMost mo), .int .i64 (newMost ea), .map (some b18), .pointer (some ⟨b19, 0, none⟩)]) rfl (by kernel_rfl)) ?_
    refine KD.one rfl ?_
    refine LM.box rfl rfl (fun b21 hb21 => ?_)
    refine LM.nil ?_
    refine QM.one au1 (fun _ _ => trivial) ?_
    refine KD.val rfl rfl (ov_assign rfl) ?_
    refine KD.nil ?_
    refine QM.sub (e' := [(6, _)]) ⟨rfl, trivial⟩ (QM.then ?_)
    refine wpM.ret ?_
    refine QM.leave (.inl rfl) [.tmp 6] Try.results6 rfl ?_
    intro w' hm' hc' hg'
    have e11 : n11 = nn := hn11.trans (Int.toNat_natCast nn); exact tb_newleaf (mO := m11) (by omega) (by omega) hs11 h19 hb21 hb18 hm' (by (repeat' (first | exact SubM.nil _ | refine SubM.cons (by rfl) ?_ | refine SubM.app ?_))) hc'
   refine LM.callT (oc_call (enters_fn Try.func26 (by kernel_rfl) rfl) rfl) HoN.mono (fun w hm hc hg => honew_spec 4096 w) ?_
   rintro u19 m19 ⟨b19, rfl, h19⟩ hge19
   refine LM.nil ?_
   refine QM.one au1 (fun _ _ => trivial) ?_
   refine KD.fork rfl rfl ?_ ?_
   ·
    try rw [nbk_eq, hnn]
    refine LM.makeS (f := fBh) (a0 := (default : Bh)) Try.underlying57 Try.typeInfo93 rfl rfl rfl rfl (by intro _; rfl) rfl rfl rfl (by omega) (by simp only [Try.t93]; omega) (by omega) (by unfold maxLen; omega) (fun ad11 n11 m11 hn11 hs11 => ?_)
    refine LM.nil ?_
    refine QM.one au1 (fun _ _ => trivial) ?_
    refine KD.one rfl ?_
    refine LM.makeMap rfl (fun b18 hb18 => ?_)
    refine LM.nil ?_
    refine QM.one au1 (fun _ _ => trivial) ?_
    refine KD.val rfl rfl (ov_build (cs := #[.slice ad11 n11 n11, .int .i64 (newMost mo), .int .i64 (newMost ea), .map (some b18), .pointer (some ⟨b19, 0, none⟩)]) rfl (by kernel_rfl)) ?_
    refine KD.one rfl ?_
    refine LM.box rfl rfl (fun b21 hb21 => ?_)
    refine LM.nil ?_
    refine QM.one au1 (fun _ _ => trivial) ?_
    refine KD.val rfl rfl (ov_assign rfl) ?_
    refine KD.nil ?_
    refine QM.sub (e' := [(6, _)]) ⟨rfl, trivial⟩ (QM.then ?_)
    refine wpM.ret ?_
    refine QM.leave (.inl rfl) [.tmp 6] Try.results6 rfl ?_
    intro w' hm' hc' hg'
    have e11 : n11 = nn := hn11.trans (Int.toNat_natCast nn); exact tb_newleaf (mO := m11) (by omega) (by omega) hs11 h19 hb21 hb18 hm' (by (repeat' (first | exact SubM.nil _ | refine SubM.cons (by rfl) ?_ | refine SubM.app ?_))) hc'
   refine LM.makeMap rfl (fun b18 hb18 => ?_)
   refine LM.nil ?_
   refine QM.one au1 (fun _ _ => trivial) ?_
   refine KD.one rfl ?_
   try rw [nbk_eq, hnn]
   refine LM.makeS (f := fBh) (a0 := (default : Bh)) Try.underlying57 Try.typeInfo93 rfl rfl rfl rfl (by intro _; rfl) rfl rfl rfl (by omega) (by simp only [Try.t93]; omega) (by omega) (by unfold maxLen; omega) (fun ad11 n11 m11 hn11 hs11 => ?_)
   refine LM.nil ?_
   refine QM.one au1 (fun _ _ => trivial) ?_
   refine KD.val rfl rfl (ov_build (cs := #[.slice ad11 n11 n11, .int .i64 (newMost mo), .int .i64 (newMost ea), .map (some b18), .pointer (some ⟨b19, 0, none⟩)]) rfl (by kernel_rfl)) ?_
   refine KD.one rfl ?_
   refine LM.box rfl rfl (fun b21 hb21 => ?_)
   refine LM.nil ?_
   refine QM.one au1 (fun _ _ => trivial) ?_
   refine KD.val rfl rfl (ov_assign rfl) ?_
   refine KD.nil ?_
   refine QM.sub (e' := [(6, _)]) ⟨rfl, trivial⟩ (QM.then ?_)
   refine wpM.ret ?_
   refine QM.leave (.inl rfl) [.tmp 6] Try.results6 rfl ?_
   intro w' hm' hc' hg'
   have e11 : n11 = nn := hn11.trans (Int.toNat_natCast nn); exact tb_newleaf (mO := m11) (by omega) (by omega) hs11 h19 hb21 hb18 hm' (by (repeat' (first | exact SubM.nil _ | refine SubM.cons (by rfl) ?_ | refine SubM.app ?_))) hc'
  refine LM.makeMap rfl (fun b18 hb18 => ?_)
  refine LM.nil ?_
  refine QM.one au1 (fun _ _ => trivial) ?_
  refine KD.fork rfl rfl ?_ ?_
  ·
   try rw [nbk_eq, hnn]
   refine LM.makeS (f := fBh) (a0 := (default : Bh)) Try.underlying57 Try.typeInfo93 rfl rfl rfl rfl (by intro _; rfl) rfl rfl rfl (by omega) (by simp only [Try.t93]; omega) (by omega) (by unfold maxLen; omega) (fun ad11 n11 m11 hn11 hs11 => ?_)
   refine LM.nil ?_
   refine QM.one au1 (fun _ _ => trivial) ?_
   refine KD.one rfl ?_
   refine LM.callE (oc_callV rfl (enters_fn Try.func25 (by kernel_rfl) rfl) rfl) (fun w hm hc hg => tbring_spec _ w) ?_
   refine LM.nil ?_
   refine QM.one au1 (fun _ _ => trivial) ?_
   refine KD.one rfl ?_
   refine LM.callT (oc_call (enters_fn Try.func26 (by kernel_rfl) rfl) rfl) HoN.mono (fun w hm hc hg => honew_spec 4096 w) ?_
   rintro u19 m19 ⟨b19, rfl, h19⟩ hge19
   refine LM.nil ?_
   refine QM.one au1 (fun _ _ => trivial) ?_
   refine KD.val rfl rfl (ov_build (cs := #[.slice ad11 n11 n11, .int .i64 (newMost mo), .int .i64 (newMost ea), .map (some b18), .pointer (some ⟨b19, 0, none⟩)]) rfl (by kernel_rfl)) ?_
   refine KD.one rfl ?_
   refine LM.box rfl rfl (fun b21 hb21 => ?_)
   refine LM.nil ?_
   refine QM.one au1 (fun _ _ => trivial) ?_
   refine KD.val rfl rfl (ov_assign rfl) ?_
   refine KD.nil ?_
   refine QM.sub (e' := [(6, _)]) ⟨rfl, trivial⟩ (QM.then ?_)
   refine wpM.ret ?_
   refine QM.leave (.inl rfl) [.tmp 6] Try.results6 rfl ?_
   intro w' hm' hc' hg'
   have e11 : n11 = nn := hn11.trans (Int.toNat_natCast nn); exact tb_newleaf (mO := m11) (by omega) (by omega) hs11 h19 hb21 hb18 hm' (by (repeat' (first | exact SubM.nil _ | refine SubM.cons (by rfl) ?_ | refine SubM.app ?_))) hc'
  refine LM.callE (oc_callV rfl (enters_fn Try.func25 (by kernel_rfl) rfl) rfl) (fun w hm hc hg => tbring_spec _ w) ?_
  refine LM.nil ?_
  refine QM.one au1 (fun _ _ => trivial) ?_
  refine KD.fork rfl rfl ?_ ?_
  ·
   try rw [nbk_eq, hnn]
   refine LM.makeS (f := fBh) (a0 := (default : Bh)) Try.underlying57 Try.typeInfo93 rfl rfl rfl rfl (by intro _; rfl) rfl rfl rfl (by omega) (by simp only [Try.t93]; omega) (by omega) (by unfold maxLen; omega) (fun ad11 n11 m11 hn11 hs11 => ?_)
   refine LM.nil ?_
   refine QM.one au1 (fun _ _ => trivial) ?_
   refine KD.one rfl ?_
   refine LM.callT (oc_call (enters_fn Try.func26 (by kernel_rfl) rfl) rfl) HoN.mono (fun w hm hc hg => honew_spec 4096 w) ?_
   rintro u19 m19 ⟨b19, rfl, h19⟩ hge19
   refine LM.nil ?_
   refine QM.one au1 (fun _ _ => trivial) ?_
   refine KD.val rfl rfl (ov_build (cs := #[.slice ad11 n11 n11, .int .i64 (newMost mo), .int .i64 (newMost ea), .map (some b18), .pointer (some ⟨b19, 0, none⟩)]) rfl (by kernel_rfl)) ?_
   refine KD.one rfl ?_
   refine LM.box rfl rfl (fun b21 hb21 => ?_)
   refine LM.nil ?_
   refine QM.one au1 (fun _ _ => trivial) ?_
   refine KD.val rfl rfl (ov_assign rfl) ?_
   refine KD.nil ?_
   refine QM.sub (e' := [(6, _)]) ⟨rfl, trivial⟩ (QM.then ?_)
   refine wpM.ret ?_
   refine QM.leave (.inl rfl) [.tmp 6] Try.results6 rfl ?_
   intro w' hm' hc' hg'
   have e11 : n11 = nn := hn11.trans (Int.toNat_natCast nn); exact tb_newleaf (mO := m11) (by omega) (by omega) hs11 h19 hb21 hb18 hm' (by (repeat' (first | exact SubM.nil _ | refine SubM.cons (by rfl) ?_ | refine SubM.app ?_))) hc'
  refine LM.callT (oc_call (enters_fn Try.func26 (by kernel_rfl) rfl) rfl) HoN.mono (fun w hm hc hg => honew_spec 4096 w) ?_
  rintro u19 m19 ⟨b19, rfl, h19⟩ hge19
  refine LM.nil ?_
  refine QM.one au1 (fun _ _ => trivial) ?_
  refine KD.one rfl ?_
  try rw [nbk_eq, hnn]
  refine LM.makeS (f := fBh) (a0 := (default : Bh)) Try.underlying57 Try.typeInfo93 rfl rfl rfl rfl (by intro _; rfl) rfl rfl rfl (by omega) (by simp only [Try.t93]; omega) (by omega) (by unfold maxLen; omega) (fun ad11 n11 m11 hn11 hs11 => ?_)
  refine LM.nil ?_
  refine QM.one au1 (fun _ _ => trivial) ?_
  refine KD.val rfl rfl (ov_build (cs := #[.slice ad11 n11 n11, .int .i64 (newMost mo), .int .i64 (newMost ea), .map (some b18), .pointer (some ⟨b19, 0, none⟩)]) rfl (by kernel_rfl)) ?_
  refine KD.one rfl ?_
  refine LM.box rfl rfl (fun b21 hb21 => ?_)
  refine LM.nil ?_
  refine QM.one au1 (fun _ _ => trivial) ?_
  refine KD.val rfl rfl (ov_assign rfl) ?_
  refine KD.nil ?_
  refine QM.sub (e' := [(6, _)]) ⟨rfl, trivial⟩ (QM.then ?_)
  refine wpM.ret ?_
  refine QM.leave (.inl rfl) [.tmp 6] Try.results6 rfl ?_
  intro w' hm' hc' hg'
  have e11 : n11 = nn := hn11.trans (Int.toNat_natCast nn); exact tb_newleaf (mO := m11) (by omega) (by omega) hs11 h19 hb21 hb18 hm' (by (repeat' (first | exact SubM.nil _ | refine SubM.cons (by rfl) ?_ | refine SubM.app ?_))) hc'
 refine LM.makeMap rfl (fun b18 hb18 => ?_)
 refine LM.nil ?_
 refine QM.one au1 (fun _ _ => trivial) ?_
 refine KD.fork rfl rfl ?_ ?_
 ·
  try rw [nbk_eq, hnn]
  refine LM.makeS (f := fBh) (a0 := (default : Bh)) Try.underlying57 Try.typeInfo93 rfl rfl rfl rfl (by intro _; rfl) rfl rfl rfl (by omega) (by simp only [Try.t93]; omega) (by omega) (by unfold maxLen; omega) (fun ad11 n11 m11 hn11 hs11 => ?_)
  refine LM.nil ?_
  refine QM.one au1 (fun _ _ => trivial) ?_
  refine KD.one rfl ?_
  refine LM.callE (oc_callV rfl (enters_fn Try.func25 (by kernel_rfl) rfl) rfl) (fun w hm hc hg => tbring_spec _ w) ?_
  refine LM.nil ?_
  refine QM.one au1 (fun _ _ => trivial) ?_
  refine KD.one rfl ?_
  refine LM.callE (oc_callV rfl (enters_fn Try.func25 (by kernel_rfl) rfl) rfl) (fun w hm hc hg => tbring_spec _ w) ?_
  refine LM.nil ?_
  refine QM.one au1 (fun _ _ => trivial) ?_
  refine KD.one rfl ?_
  refine LM.callT (oc_call (enters_fn Try.func26 (by kernel_rfl) rfl) rfl) HoN.mono (fun w hm hc hg => honew_spec 4096 w) ?_
  rintro u19 m19 ⟨b19, rfl, h19⟩ hge19
  refine LM.nil ?_
  refine QM.one au1 (fun _ _ => trivial) ?_
  refine KD.val rfl rfl (ov_build (cs := #[.slice ad11 n11 n11, .int .i64 (newMost mo), .int .i64 (newMost ea), .map (some b18), .pointer (some ⟨b19, 0, none⟩)]) rfl (by kernel_rfl)) ?_
  refine KD.one rfl ?_
  refine LM.box rfl rfl (fun b21 hb21 => ?_)
  refine LM.nil ?_
  refine QM.one au1 (fun _ _ => trivial) ?_
  refine KD.val rfl rfl (ov_assign rfl) ?_
  refine KD.nil ?_
  refine QM.sub (e' := [(6, _)]) ⟨rfl, trivial⟩ (QM.then ?_)
  refine wpM.ret ?_
  refine QM.leave (.inl rfl) [.tmp 6] Try.results6 rfl ?_
  intro w' hm' hc' hg'
  have e11 : n11 = nn := hn11.trans (Int.toNat_natCast nn); exact tb_newleaf (mO := m11) (by omega) (by omega) hs11 h19 hb21 hb18 hm' (by (repeat' (first | exact SubM.nil _ | refine SubM.cons (by rfl) ?_ | refine SubM.app ?_))) hc'
 refine LM.callE (oc_callV rfl (enters_fn Try.func25 (by kernel_rfl) rfl) rfl) (fun w hm hc hg => tbring_spec _ w) ?_
 refine LM.nil ?_
 refine QM.one au1 (fun _ _ => trivial) ?_
 refine KD.fork rfl rfl ?_ ?_
 ·
  try rw [nbk_eq, hnn]
  refine LM.makeS (f := fBh) (a0 := (default : Bh)) Try.underlying57 Try.typeInfo93 rfl rfl rfl rfl (by intro _; rfl) rfl rfl rfl (by omega) (by simp only [Try.t93]; omega) (by omega) (by unfold maxLen; omega) (fun ad11 n11 m11 hn11 hs11 => ?_)
  refine LM.nil ?_
  refine QM.one au1 (fun _ _ => trivial) ?_
  refine KD.one rfl ?_
  refine LM.callE (oc_callV rfl (enters_fn Try.func25 (by kernel_rfl) rfl) rfl) (fun w hm hc hg => tbring_spec _ w) ?_
  refine LM.nil ?_
  refine QM.one au1 (fun _ _ => trivial) ?_
  refine KD.one rfl ?_
  refine LM.callT (oc_call (enters_fn Try.func26 (by kernel_rfl) rfl) rfl) HoN.mono (fun w hm hc hg => honew_spec 4096 w) ?_
  rintro u19 m19 ⟨b19, rfl, h19⟩ hge19
  refine LM.nil ?_
  refine QM.one au1 (fun _ _ => trivial) ?_
  refine KD.val rfl rfl (ov_build (cs := #[.slice ad11 n11 n11, .int .i64 (newMost mo), .int .i64 (newMost ea), .map (some b18), .pointer (some ⟨b19, 0, none⟩)]) rfl (by kernel_rfl)) ?_
  refine KD.one rfl ?_
  refine LM.box rfl rfl (fun b21 hb21 => ?_)
  refine LM.nil ?_
  refine QM.one au1 (fun _ _ => trivial) ?_
  refine KD.val rfl rfl (ov_assign rfl) ?_
  refine KD.nil ?_
  refine QM.sub (e' := [(6, _)]) ⟨rfl, trivial⟩ (QM.then ?_)
  refine wpM.ret ?_
  refine QM.leave (.inl rfl) [.tmp 6] Try.results6 rfl ?_
  intro w' hm' hc' hg'
  have e11 : n11 = nn := hn11.trans (Int.toNat_natCast nn); exact tb_newleaf (mO := m11) (by omega) (by omega) hs11 h19 hb21 hb18 hm' (by (repeat' (first | exact SubM.nil _ | refine SubM.cons (by rfl) ?_ | refine SubM.app ?_))) hc'
 refine LM.callE (oc_callV rfl (enters_fn Try.func25 (by kernel_rfl) rfl) rfl) (fun w hm hc hg => tbring_spec _ w) ?_
 refine LM.nil ?_
 refine QM.one au1 (fun _ _ => trivial) ?_
 refine KD.fork rfl rfl ?_ ?_
 ·
  try rw [nbk_eq, hnn]
  refine LM.makeS (f := fBh) (a0 := (default : Bh)) Try.underlying57 Try.typeInfo93 rfl rfl rfl rfl (by intro _; rfl) rfl rfl rfl (by omega) (by simp only [Try.t93]; omega) (by omega) (by unfold maxLen; omega) (fun ad11 n11 m11 hn11 hs11 => ?_)
  refine LM.nil ?_
  refine QM.one au1 (fun _ _ => trivial) ?_
  refine KD.one rfl ?_
  refine LM.callT (oc_call (enters_fn Try.func26 (by kernel_rfl) rfl) rfl) HoN.mono (fun w hm hc hg => honew_spec 4096 w) ?_
  rintro u19 m19 ⟨b19, rfl, h19⟩ hge19
  refine LM.nil ?_
  refine QM.one au1 (fun _ _ => trivial) ?_
  refine KD.val rfl rfl (ov_build (cs := #[.slice ad11 n11 n11, .int .i64 (newMost mo), .int .i64 (newMost ea), .map (some b18), .pointer (some ⟨b19, 0, none⟩)]) rfl (by kernel_rfl)) ?_
  refine KD.one rfl ?_
  refine LM.box rfl rfl (fun b21 hb21 => ?_)
  refine LM.nil ?_
  refine QM.one au1 (fun _ _ => trivial) ?_
  refine KD.val rfl rfl (ov_assign rfl) ?_
  refine KD.nil ?_
  refine QM.sub (e' := [(6, _)]) ⟨rfl, trivial⟩ (QM.then ?_)
  refine wpM.ret ?_
  refine QM.leave (.inl rfl) [.tmp 6] Try.results6 rfl ?_
  intro w' hm' hc' hg'
  have e11 : n11 = nn := hn11.trans (Int.toNat_natCast nn); exact tb_newleaf (mO := m11) (by omega) (by omega) hs11 h19 hb21 hb18 hm' (by (repeat' (first | exact SubM.nil _ | refine SubM.cons (by rfl) ?_ | refine SubM.app ?_))) hc'
 refine LM.callT (oc_call (enters_fn Try.func26 (by kernel_rfl) rfl) rfl) HoN.mono (fun w hm hc hg => honew_spec 4096 w) ?_
 rintro u19 m19 ⟨b19, rfl, h19⟩ hge19
 refine LM.nil ?_
 refine QM.one au1 (fun _ _ => trivial) ?_
 refine KD.one rfl ?_
 try rw [nbk_eq, hnn]
 refine LM.makeS (f := fBh) (a0 := (default : Bh)) Try.underlying57 Try.typeInfo93 rfl rfl rfl rfl (by intro _; rfl) rfl rfl rfl (by omega) (by simp only [Try.t93]; omega) (by omega) (by unfold maxLen; omega) (fun ad11 n11 m11 hn11 hs11 => ?_)
 refine LM.nil ?_
 refine QM.one au1 (fun _ _ => trivial) ?_
 refine KD.val rfl rfl (ov_build (cs := #[.slice ad11 n11 n11, .int .i64 (newMost mo), .int .i64 (newMost ea), .map (some b18), .pointer (some ⟨b19, 0, none⟩)]) rfl (by kernel_rfl)) ?_
 refine KD.one rfl ?_
 refine LM.box rfl rfl (fun b21 hb21 => ?_)
 refine LM.nil ?_
 refine QM.one au1 (fun _ _ => trivial) ?_
 refine KD.val rfl rfl (ov_assign rfl) ?_
 refine KD.nil ?_
 refine QM.sub (e' := [(6, _)]) ⟨rfl, trivial⟩ (QM.then ?_)
 refine wpM.ret ?_
 refine QM.leave (.inl rfl) [.tmp 6] Try.results6 rfl ?_
 intro w' hm' hc' hg'
 have e11 : n11 = nn := hn11.trans (Int.toNat_natCast nn); exact tb_newleaf (mO := m11) (by omega) (by omega) hs11 h19 hb21 hb18 hm' (by (repeat' (first | exact SubM.nil _ | refine SubM.cons (by rfl) ?_ | refine SubM.app ?_))) hc'
end Go.Eng
namespace Go.Eng
open Go Go.Proofs Go.RowKit
theorem rt_leaf {most each : Int} {n0 b n n' cap cap' : Nat} {ad ad' : Option Addr} {L' : List Wt} {ms ms' M : Mem0} {u0 : Value} {w w' : World} (hn : n' = L'.length) (hs : Sl fWt 32 3 n0 L' (.slice ad' n' cap') ms') (hb : n0 ≤ b) (hm : Mem w' M) (hsub : SubM M (rtC b most each ad' n' cap' :: (ms' ++ []))) (hc : Chg (inM (rtC b most each ad n cap :: ms)) w w') (hin : inn ms w.heap.size ms') :
    Upd (rtC b most each ad n cap :: ms) (fun u m' => u = u0 ∧ RtM most each n0 L' b m') w u0 w' := by
  rw [List.append_nil] at hsub
  refine ⟨hc, _, ⟨rfl, ad', n', cap', ms', rfl, hn, hs, hb⟩, hsub.mem w' hm, fun p hp => ?_⟩
  rcases List.mem_cons.1 hp with rfl | hp
  · exact .inr ⟨_, List.mem_cons_self .., rfl⟩
  · rcases hin p hp with q | ⟨q, hq, e⟩
    · exact .inl q
    · exact .inr ⟨q, List.mem_cons_of_mem _ hq, e⟩
theorem wg_mem {L : List Wt} {i : Nat} (h : i < L.length) : wg L i ∈ L := by
  unfold wg; rw [List.getD_eq_getElem?_getD, List.getElem?_eq_getElem h]; exact List.getElem_mem _
theorem wg_of {L : List Wt} {x : Wt} (h : x ∈ L) : ∃ i, i < L.length ∧ wg L i = x := by
  obtain ⟨i, hi, rfl⟩ := List.getElem_of_mem h
  exact ⟨i, hi, by unfold wg; rw [List.getD_eq_getElem?_getD, List.getElem?_eq_getElem hi]; rfl⟩
theorem ixP_or (p : Wt → Bool) (L : List Wt) : (ixP p L 0 = -1 ∧ ∀ x ∈ L, p x = false) ∨ ∃ i, i < L.length ∧ ixP p L 0 = (i : Nat) ∧ p (wg L i) = true ∧ ∀ j, j < i → p (wg L j) = false := by
  by_cases h : ∃ i, i < L.length ∧ p (wg L i) = true
  · obtain ⟨i, ⟨hi, hp⟩, hmin⟩ := exists_least (fun i => i < L.length ∧ p (wg L i) = true) h
    have hj : ∀ j, j < i → p (wg L j) = false := fun j hj => by
      cases hq : p (wg L j) with
      | false => rfl
      | true => have := hmin j ⟨by omega, hq⟩; omega
    exact .inr ⟨i, hi, by have := ixP_yes (k := 0) hi hp hj; rwa [Nat.zero_add] at this, hp, hj⟩
  · have hn : ∀ j, j < L.length → p (wg L j) = false := fun j hj => by
      cases hq : p (wg L j) with
      | false => rfl
      | true => exact absurd ⟨j, hj, hq⟩ h
    exact .inl ⟨ixP_no hn, fun x hx => by obtain ⟨j, hj, rfl⟩ := wg_of hx; exact hn j hj⟩
theorem atW_or (L : List Wt) (who : Int) : (atW L who = -1 ∧ ∀ x ∈ L, x.who ≠ who) ∨ ∃ i, i < L.length ∧ atW L who = (i : Nat) ∧ (wg L i).who = who := by
  rcases ixP_or (fun w => decide (w.who = who)) L with ⟨h, k⟩ | ⟨i, hi, h, k, _⟩
  · exact .inl ⟨h, fun x hx => of_decide_eq_false (k x hx)⟩
  · exact .inr ⟨i, hi, h, of_decide_eq_true k⟩
theorem fiW_or (L : List Wt) (key : Int) : (fiW L key = -1 ∧ cntL L key = 0) ∨ ∃ i, i < L.length ∧ fiW L key = (i : Nat) ∧ wg L i = fstW L key ∧ 0 < cntL L key := by
  rcases ixP_or (fun w => decide (w.key = key)) L with ⟨h, k⟩ | ⟨i, hi, h, k, k2⟩
  · refine .inl ⟨h, ?_⟩
    unfold cntL LF; rw [List.filter_eq_nil_iff.2 (fun x hx => by rw [k x hx]; simp)]; rfl
  · have hLF : LF L key = wg L i :: LF (L.drop (i + 1)) key := by
      have e : L = L.take i ++ wg L i :: L.drop (i + 1) := by
        have h1 : L.drop i = wg L i :: L.drop (i + 1) := by
          rw [List.drop_eq_getElem_cons hi]; unfold wg; rw [List.getD_eq_getElem?_getD, List.getElem?_eq_getElem hi]; rfl
        rw [← h1, List.take_append_drop]
      have h2 : LF (L.take i) key = [] := List.filter_eq_nil_iff.2 (fun x hx => by
        obtain ⟨j, hj, rfl⟩ := wg_of hx
        rw [List.length_take] at hj
        have := k2 j (by omega)
        have e3 : wg (L.take i) j = wg L j := by unfold wg; rw [List.getD_eq_getElem?_getD, List.getD_eq_getElem?_getD, List.getElem?_take, if_pos (by omega)]
        rw [e3, this]; simp)
      have h3 : LF (L.take i ++ wg L i :: L.drop (i + 1)) key = wg L i :: LF (L.drop (i + 1)) key := by
        unfold LF at *; rw [List.filter_append, h2, List.nil_append]; exact List.filter_cons_of_pos (p := fun w => decide (w.key = key)) (a := wg L i) k
      exact (congrArg (fun l => LF l key) e).trans h3
    refine .inr ⟨i, hi, h, ?_, ?_⟩
    · unfold fstW; rw [hLF]; rfl
    · unfold cntL; rw [hLF]; simp
theorem wg_rm {L : List Wt} (h : Wd1 L) {i : Nat} (hi : i < L.length) : L.eraseIdx i = rmW L (wg L i).who := by
  refine (rm_erase h ?_).symm
  unfold wg; rw [List.getD_eq_getElem?_getD, List.getElem?_eq_getElem hi]; rfl
set_option maxRecDepth 100000 in
theorem rWait_spec {most each : Int} {n0 b : Nat} {L : List Wt} {m : Mem0} (v : Wt) (w : World) (h : RtM most each n0 L b m) (hl : L.length ≤ 5000) (hn0 : n0 ≤ w.heap.size) (hM : Mem w m) : Ret Try.prog 9 #[.pointer (some ⟨b, 0, none⟩), .agg (fWt v).toArray] w (Upd m (fun u m' => u = .int .i64 (wtE most each L v) ∧ RtM most each n0 (wtL most each L v) b m') w) := by
 have h0 := h; obtain ⟨ad, n, cap, ms, rfl, hn, hs, hb⟩ := h
 refine Ret.enterM (l := [.pointer (some ⟨b, 0, none⟩), .agg (fWt v).toArray]) Try.func9 rfl Try.ntmps9 rfl (rtC b most each ad n cap :: (ms ++ [])) ((inM (rtC b most each ad n cap :: ms))) (by rw [List.append_nil]; exact hM) ?_
 refine wpM.seq (wpM.region ?_)
 refine LM.box rfl rfl (fun b3 hb3 => ?_)
 refine LM.as rfl ?_
 refine LM.nil (QM.sub (e' := [(0, _), (3, _)]) au9 (QM.then ?_))
 refine wpM.seq ?_
 refine wpM.seq (wpM.region ?_)
 refine LM.mv rfl (LM.val (ov_field Try.underlying32 rfl Try.sizeOf3 rfl (k := 0) rfl rfl) ?_)
 refine LM.rd (om_ld Try.isAgg3 rfl rfl) ?_
 refine LM.callE (oc_call (enters_fn Try.func14 (by kernel_rfl) rfl) rfl) (fun w hm hc hg => rAt_spec v.who w h0 (by omega) (hm.pick (rtC b most each ad n cap :: ms))) ?_
 refine LM.val (ov_geq rfl rfl) ?_
 refine LM.nil (QM.sub (e' := [(0, _), (3, _), (9, _)]) au9 (QM.then ?_))
 refine wpM.condD rfl (fun h1 => ?_) (fun h1 => ?_)
 ·
  have hyes : ∃ x ∈ L, x.who = v.who := (by rcases atW_or L v.who with ⟨q, _⟩ | ⟨i, hi, _, q⟩; omega; exact ⟨_, wg_mem hi, q⟩)
  refine wpM.seq (wpM.region ?_)
  refine LM.as rfl ?_
  refine LM.nil (QM.sub (e' := [(4, _)]) ⟨rfl, trivial⟩ (QM.then ?_))
  refine wpM.ret ?_
  refine QM.then_ret ?_
  refine QM.leave (.inl rfl) [.tmp 4] Try.results9 rfl ?_
  intro w' hm' hc' hg'
  rw [show wtE most each L v = 12 from if_pos hyes, show wtL most each L v = L from if_pos hyes]; exact rt_leaf hn hs hb hm' (by (repeat' (first | exact SubM.nil _ | refine SubM.cons (by rfl) ?_ | refine SubM.app ?_))) hc' (inn_refl _ _)
 have hno : ¬ ∃ x ∈ L, x.who = v.who := (by rintro ⟨x, hx, e⟩; rcases atW_or L v.who with ⟨_, q⟩ | ⟨i, hi, q, _⟩; exact q x hx e; omega)
 refine wpM.skip ?_
 refine QM.then ?_
 refine wpM.seq ?_
 refine wpM.seq ?_
 refine wpM.keep (rtC b most each ad n cap :: (b3, .cells (fWt v).toArray 32 (0, 0)) :: []) (fun _ => True) (.one 0 0 (.one 1 0 (.one 2 0 (.one 3 1 (.one 4 0 (.one 5 0 (.one 6 0 (.one 7 0 (.one 8 1 (.one 9 0 (.one 10 0 (.one 11 0 (.one 12 0 (.one 13 1 (.one 15 0 (.one 16 0 (.one 17 0 (.one 18 1 (.one 14 2 (.one 19 0 (.one 20 0 .nil))))))))))))))))))))) (by kernel_rfl) (by kernel_rfl) au1 (fun _ _ => trivial) ?_
 refine KD.val rfl rfl (ov_move rfl) ?_
 refine KD.val rfl rfl (ov_nilCheck rfl) ?_
 refine KD.val rfl rfl (ov_field Try.underlying48 rfl Try.sizeOf46 rfl (k := 2) rfl rfl) ?_
 refine KD.rd rfl rfl (om_ld Try.isAgg46 rfl rfl) ?_
 refine KD.val rfl rfl (ov_len Try.underlying46 rfl) ?_
 refine KD.val rfl rfl (ov_move rfl) ?_
 refine KD.val rfl rfl (ov_nilCheck rfl) ?_
 refine KD.val rfl rfl (ov_field Try.underlying48 rfl Try.sizeOf3 rfl (k := 0) rfl rfl) ?_
 refine KD.rd rfl rfl (om_ld Try.isAgg3 rfl rfl) ?_
 refine KD.val rfl rfl (ov_geq rfl rfl) ?_
 refine KD.val rfl rfl (ov_move rfl) ?_
 refine KD.splitD (t := 20) rfl (fun h2 => ?_) (fun h2 => ?_)
 ·
  refine KD.drop rfl rfl ⟨20, _, rfl, rfl, rfl⟩ ?_
  refine KD.drop rfl rfl ⟨20, _, rfl, rfl, rfl⟩ ?_
  refine KD.drop rfl rfl ⟨20, _, rfl, rfl, rfl⟩ ?_
  refine KD.drop rfl rfl ⟨20, _, rfl, rfl, rfl⟩ ?_
  refine KD.drop rfl rfl ⟨20, _, rfl, rfl, rfl⟩ ?_
  refine KD.drop rfl rfl ⟨20, _, rfl, rfl, rfl⟩ ?_
  refine KD.drop rfl rfl ⟨20, _, rfl, rfl, rfl⟩ ?_
  refine KD.one rfl ?_
  refine LM.dr 20 rfl rfl rfl ?_
  refine LM.nil ?_
  refine QM.one au1 (fun _ _ => trivial) ?_
  refine KD.drop rfl rfl ⟨20, _, rfl, rfl, rfl⟩ ?_
  refine KD.val rfl rfl (ov_pickT rfl rfl) ?_
  refine KD.nil ?_
  refine QM.sub (e' := [(0, _), (3, _), (30, _)]) au9 (QM.then ?_)
  refine wpM.condT rfl ?_
  refine wpM.seq (wpM.region ?_)
  refine LM.as rfl ?_
  refine LM.nil (QM.sub (e' := [(4, _)]) ⟨rfl, trivial⟩ (QM.then ?_))
  refine wpM.ret ?_
  refine QM.then_ret ?_
  refine QM.leave (.inl rfl) [.tmp 4] Try.results9 rfl ?_
  intro w' hm' hc' hg'
  rw [show wtE most each L v = 3 by (unfold wtE; rw [if_neg hno, if_pos (by omega)]), show wtL most each L v = L by (unfold wtL; rw [if_neg hno, if_pos (by omega)])]; exact rt_leaf hn hs hb hm' (by (repeat' (first | exact SubM.nil _ | refine SubM.cons (by rfl) ?_ | refine SubM.app ?_))) hc' (inn_refl _ _)
 refine KD.val rfl ⟨20, _, rfl, rfl, rfl⟩ (ov_move rfl) ?_
 refine KD.val rfl ⟨20, _, rfl, rfl, rfl⟩ (ov_field Try.underlying32 rfl Try.sizeOf3 rfl (k := 1) rfl rfl) ?_
 refine KD.rd rfl ⟨20, _, rfl, rfl, rfl⟩ (om_ld Try.isAgg3 rfl rfl) ?_
 refine KD.val rfl ⟨20, _, rfl, rfl, rfl⟩ (ov_move rfl) ?_
 refine KD.val rfl ⟨20, _, rfl, rfl, rfl⟩ (ov_nilCheck rfl) ?_
 refine KD.val rfl ⟨20, _, rfl, rfl, rfl⟩ (ov_field Try.underlying48 rfl Try.sizeOf3 rfl (k := 1) rfl rfl) ?_
 refine KD.rd rfl ⟨20, _, rfl, rfl, rfl⟩ (om_ld Try.isAgg3 rfl rfl) ?_
 refine KD.one rfl ?_
 refine LM.sp 20 rfl rfl rfl ?_
 refine LM.callE (oc_call (enters_fn Try.func30 (by kernel_rfl) rfl) rfl) (fun w hm hc hg => rCount_spec v.key w h0 (by omega) (hm.pick (rtC b most each ad n cap :: ms))) ?_
 refine LM.nil ?_
 refine QM.one au1 (fun _ _ => trivial) ?_
 refine KD.val rfl ⟨20, _, rfl, rfl, rfl⟩ (ov_geq rfl rfl) ?_
 refine KD.val rfl rfl (ov_pickF rfl rfl) ?_
 refine KD.nil ?_
 refine QM.sub (e' := [(0, _), (3, _), (30, _)]) au9 (QM.then ?_)
 refine wpM.condD rfl (fun h3 => ?_) (fun h3 => ?_)
 ·
  refine wpM.seq (wpM.region ?_)
  refine LM.as rfl ?_
  refine LM.nil (QM.sub (e' := [(4, _)]) ⟨rfl, trivial⟩ (QM.then ?_))
  refine wpM.ret ?_
  refine QM.then_ret ?_
  refine QM.leave (.inl rfl) [.tmp 4] Try.results9 rfl ?_
  intro w' hm' hc' hg'
  rw [show wtE most each L v = 3 by (unfold wtE entE; rw [if_neg hno, if_neg (by omega), if_pos h3]), show wtL most each L v = L by (unfold wtL entL; rw [if_neg hno, if_neg (by omega), if_pos h3])]; exact rt_leaf hn hs hb hm' (by (repeat' (first | exact SubM.nil _ | refine SubM.cons (by rfl) ?_ | refine SubM.app ?_))) hc' (inn_refl _ _)
 refine wpM.skip ?_
 refine QM.then ?_
 refine wpM.seq ?_
 refine wpM.keep (rtC b most each ad n cap :: (b3, .cells (fWt v).toArray 32 (0, 0)) :: []) (fun _ => True) (.one 0 0 (.one 1 0 (.one 2 0 (.one 3 0 (.one 4 1 (.one 5 1 (.one 6 2 (.one 7 2 (.one 8 0 (.one 9 0 (.last 10))))))))))) (by kernel_rfl) (by kernel_rfl) au1 (fun _ _ => trivial) ?_
 refine KD.val rfl rfl (ov_move rfl) ?_
 refine KD.val rfl rfl (ov_move rfl) ?_
 refine KD.val rfl rfl (ov_nilCheck rfl) ?_
 refine KD.val rfl rfl (ov_field Try.underlying48 rfl Try.sizeOf46 rfl (k := 2) rfl rfl) ?_
 refine KD.rd rfl rfl (om_ld Try.isAgg46 rfl rfl) ?_
 refine KD.rd rfl rfl (om_ldW Try.isAgg32 Try.sizeOf32 rfl rfl) ?_
 refine KD.one rfl ?_
 refine LM.single Try.underlying46 Try.sizeOf32 Try.zeroValue32 rfl rfl rfl rfl rfl (fun b37 hb37 => ?_)
 refine LM.nil ?_
 refine QM.one au1 (fun _ _ => trivial) ?_
 refine KD.one rfl ?_
 refine LM.app (a := v) Try.underlying46 Try.typeInfo32 rfl rfl rfl rfl rfl rfl rfl (by assumption) (by rfl) (by intro _; rfl) (by intro _ u hu; simp [fWt] at hu; (repeat (first | (rcases hu with rfl | hu) | subst hu | rfl))) (by first | exact Nat.le_refl _ | omega) (fun p hp hlt => by first | exact inM_ma p hp | exact absurd hlt (Nat.not_lt_of_le (Sl.ge (by assumption) p hp))) (by first | omega | (unfold maxLen; omega)) (by simp only [Try.t32]; omega) (fun ad38 n38 cap38 m38 hn38 hs38 hin38 => ?_)
 refine LM.nil ?_
 refine QM.one au1 (fun _ _ => trivial) ?_
 refine KD.val rfl rfl (ov_nilCheck rfl) ?_
 refine KD.val rfl rfl (ov_field Try.underlying48 rfl Try.sizeOf46 rfl (k := 2) rfl rfl) ?_
 refine KD.last rfl ?_
 refine LM.st Try.sizeOf46 rfl rfl rfl au5 rfl (fun hlt => by first | exact inM_0 | exact inM_1 | exact absurd hlt (by omega)) ?_
 refine LM.nil ?_
 refine QM.qn ?_
 refine QM.sub (e' := []) trivial (QM.then (wpM.seq (wpM.region ?_)))
 refine LM.as rfl ?_
 refine LM.nil (QM.sub (e' := [(4, _)]) ⟨rfl, trivial⟩ (QM.then ?_))
 refine wpM.ret ?_
 refine QM.leave (.inl rfl) [.tmp 4] Try.results9 rfl ?_
 intro w' hm' hc' hg'
 rw [show wtE most each L v = 0 by (unfold wtE entE; rw [if_neg hno, if_neg (by omega), if_neg h3]), show wtL most each L v = L ++ [v] by (unfold wtL entL; rw [if_neg hno, if_neg (by omega), if_neg h3])]; exact rt_leaf hs38.len.1 hs38 hb hm' (by (repeat' (first | exact SubM.nil _ | refine SubM.cons (by rfl) ?_ | refine SubM.app ?_))) hc' hin38
set_option maxRecDepth 100000 in
theorem rTake_spec {most each : Int} {n0 b : Nat} {L : List Wt} {m : Mem0} (i : Nat) (w : World) (h : RtM most each n0 L b m) (hl : L.length ≤ 5000) (hi : i < L.length) (hn0 : n0 ≤ w.heap.size) (hM : Mem w m) : Ret Try.prog 15 #[.pointer (some ⟨b, 0, none⟩), .int .i64 (i : Nat)] w (Upd m (fun u m' => u = .agg (fWt (wg L i)).toArray ∧ RtM most each n0 (L.eraseIdx i) b m') w) := by
 obtain ⟨ad, n, cap, ms, rfl, hn, hs, hb⟩ := h; have hcl := hs.len
 refine Ret.enterM (l := [.pointer (some ⟨b, 0, none⟩), .int .i64 (i : Nat)]) Try.func15 rfl Try.ntmps15 rfl (rtC b most each ad n cap :: (ms ++ [])) ((inM (rtC b most each ad n cap :: ms))) (by rw [List.append_nil]; exact hM) ?_
 refine wpM.seq (wpM.region ?_)
 refine LM.alloc Try.zeroValue32 rfl (fun b4 hb4 => ?_)
 refine LM.nil (QM.sub (e' := [(0, _), (1, _), (4, _)]) au9 (QM.then (wpM.seq (wpM.region ?_))))
 refine LM.mv rfl ?_
 refine LM.val (ov_nilCheck rfl) ?_
 refine LM.val (ov_field Try.underlying48 rfl Try.sizeOf46 rfl (k := 2) rfl rfl) ?_
 refine LM.rd (om_ld Try.isAgg46 rfl rfl) ?_
 refine LM.mv rfl ?_
 refine LM.val (ov_idxSN au6 Try.underlying46 Try.sizeOf32 rfl rfl (by omega)) ?_
 refine LM.rd (om_slA (by assumption) (by intro _; rfl) Try.isAgg32 Try.sizeOf32 rfl au3) ?_
 refine LM.alloc Try.zeroValue32 rfl (fun b5 hb5 => ?_)
 refine LM.stW Try.sizeOf32 rfl rfl rfl rfl au7 (fun hlt => by first | exact inM_0 | exact inM_1 | exact absurd hlt (by omega)) ?_
 refine LM.nil (QM.sub (e' := [(0, _), (1, _), (4, _), (5, _)]) au9 (QM.then ?_))
 refine wpM.seq ?_
 refine wpM.keep (rtC b most each ad n cap :: []) (fun _ => True) (.one 0 0 (.one 2 0 (.one 3 0 (.one 4 0 (.one 5 1 (.one 6 0 (.one 7 0 (.one 9 0 (.one 10 0 (.one 11 0 (.one 12 1 (.one 13 0 (.one 14 0 (.one 15 0 (.one 1 2 (.one 8 2 (.one 16 2 (.one 17 0 (.one 18 0 (.last 19)))))))))))))))))))) (by kernel_rfl) (by kernel_rfl) au1 (fun _ _ => trivial) ?_
 refine KD.val rfl rfl (ov_move rfl) ?_
 refine KD.val rfl rfl (ov_move rfl) ?_
 refine KD.val rfl rfl (ov_nilCheck rfl) ?_
 refine KD.val rfl rfl (ov_field Try.underlying48 rfl Try.sizeOf46 rfl (k := 2) rfl rfl) ?_
 refine KD.rd rfl rfl (om_ld Try.isAgg46 rfl rfl) ?_
 refine KD.val rfl rfl (ov_move rfl) ?_
 refine KD.val rfl rfl (ov_subHi Try.underlying46 Try.sizeOf32 rfl rfl (by omega) (by omega)) ?_
 refine KD.val rfl rfl (ov_move rfl) ?_
 refine KD.val rfl rfl (ov_nilCheck rfl) ?_
 refine KD.val rfl rfl (ov_field Try.underlying48 rfl Try.sizeOf46 rfl (k := 2) rfl rfl) ?_
 refine KD.rd rfl rfl (om_ld Try.isAgg46 rfl rfl) ?_
 refine KD.val rfl rfl (ov_move rfl) ?_
 refine KD.val rfl rfl (ov_add64 rfl rfl (by omega)) ?_
 refine KD.val rfl rfl (ov_subLo (i + 1) Try.underlying46 Try.sizeOf32 rfl rfl rfl (by omega)) ?_
 refine KD.one rfl ?_
 refine LM.row0 Try.underlying46 Try.sizeOf32 rfl (fun b14 hb14 => ?_); have hs14 : Sl fWt 32 3 w.heap.size ([] : List Wt) (.slice (some ⟨b14, 0, none⟩) 0 0) [(b14, .cells (([] : List Value).toArray) 32 (0, 0))] := .void hb14 (Nat.zero_le _) rfl
 refine LM.nil ?_
 refine QM.one au1 (fun _ _ => trivial) ?_
 refine KD.one rfl ?_
 refine LM.appN (ys := L.take i) (m := [(b14, .cells (([] : List Value).toArray) 32 (0, 0))]) Try.underlying46 Try.typeInfo32 rfl rfl rfl rfl rfl rfl rfl hs14 (fun w hm hc hg => (by have hz := (hs.srM (by intro _; rfl) hm).take (k := i) (by omega); exact hz)) (by intro _; rfl) (by intro _ u hu; simp [fWt] at hu; (repeat (first | (rcases hu with rfl | hu) | subst hu | rfl))) (Nat.le_refl _) (fun p hp hlt => absurd hlt (Nat.not_lt_of_le (Sl.ge hs14 p hp))) (by unfold maxLen; simp only [List.length_nil, List.length_take, List.length_drop, List.length_append, List.length_cons]; omega) (by simp only [Try.t32, List.length_nil, List.length_take, List.length_drop, List.length_append, List.length_cons]; omega) (fun ad21 n21 cap21 m21 hn21 hs21 hin21 => ?_)
 refine LM.nil ?_
 refine QM.one au1 (fun _ _ => trivial) ?_
 refine KD.one rfl ?_
 refine LM.appN (ys := L.drop (i + 1)) (m := m21) Try.underlying46 Try.typeInfo32 rfl rfl rfl rfl rfl rfl rfl hs21 (fun w hm hc hg => ((hs.srM (by intro _; rfl) hm).drop (l := i + 1) (by omega))) (by intro _; rfl) (by intro _ u hu; simp [fWt] at hu; (repeat (first | (rcases hu with rfl | hu) | subst hu | rfl))) (Nat.le_refl _) (fun p hp hlt => absurd hlt (Nat.not_lt_of_le (Sl.ge hs21 p hp))) (by unfold maxLen; simp only [List.length_nil, List.length_take, List.length_drop, List.length_append, List.length_cons]; omega) (by simp only [Try.t32, List.length_nil, List.length_take, List.length_drop, List.length_append, List.length_cons]; omega) (fun ad29 n29 cap29 m29 hn29 hs29 hin29 => ?_)
 refine LM.nil ?_
 refine QM.one au1 (fun _ _ => trivial) ?_
 refine KD.val rfl rfl (ov_nilCheck rfl) ?_
 refine KD.val rfl rfl (ov_field Try.underlying48 rfl Try.sizeOf46 rfl (k := 2) rfl rfl) ?_
 refine KD.last rfl ?_
 refine LM.st Try.sizeOf46 rfl rfl rfl au5 rfl (fun hlt => by first | exact inM_0 | exact inM_1 | exact absurd hlt (by omega)) ?_
 refine LM.mem (SubM.mem (M' := rtC b most each ad29 n29 cap29 :: (m29 ++ ((b5, .cells (fWt (wg L i)).toArray 32 (0, 0)) :: (b4, .cells (fWt default).toArray 32 (0, 0)) :: []))) au1) ?_
 refine LM.nil ?_
 refine QM.qn ?_
 refine QM.sub (e' := [(4, _), (5, _)]) au9 (QM.then (wpM.seq (wpM.region ?_)))
 refine LM.rd (om_ldW Try.isAgg32 Try.sizeOf32 rfl rfl) ?_
 refine LM.stW Try.sizeOf32 rfl rfl rfl rfl au7 (fun hlt => by first | exact inM_0 | exact inM_1 | exact absurd hlt (by omega)) ?_
 refine LM.nil (QM.sub (e' := [(4, _)]) ⟨rfl, trivial⟩ (QM.then ?_))
 refine wpM.ret ?_
 refine QM.leaveCs (ds := ([])) (.inl rfl) [.cell 4 32] Try.results15 hd_nil (rc_w rfl Try.isAgg32 Try.sizeOf32 rfl rc_nil) ?_
 intro w' hm' hc'
 rw [List.nil_append, ← List.eraseIdx_eq_take_drop_succ] at hs29; exact rt_leaf (hs29.len).1 (hs29.mono hn0) hb hm' (by (repeat' (first | exact SubM.nil _ | refine SubM.cons (by rfl) ?_ | refine SubM.app ?_))) hc' (fun p hp => .inl (hs29.ge p hp))
end Go.Eng
namespace Go.Eng
open Go Go.Proofs Go.RowKit
def RkT (most each : Int) (n0 b k : Nat) (oL : List Int × List Wt) (u : Value) (m : Mem0) : Prop := ∃ mo mt, Sl fI 3 1 k oL.1 u mo ∧ m = mo ++ mt ∧ RtM most each n0 oL.2 b mt
theorem rk_leaf {most each : Int} {n0 b : Nat} {oL : List Int × List Wt} {u : Value} {m mo mt M : Mem0} {w w' : World} (hs : Sl fI 3 1 w.heap.size oL.1 u mo) (ht : RtM most each n0 oL.2 b mt) (hm : Mem w' M) (hsub : SubM M (mo ++ (mt ++ []))) (hc : Chg (inM m) w w') (hin : inn m w.heap.size mt) : Upd m (RkT most each n0 b w.heap.size oL) w u w' := by
  rw [List.append_nil] at hsub
  refine ⟨hc, _, ⟨mo, mt, hs, rfl, ht⟩, hsub.mem w' hm, fun p hp => ?_⟩
  rcases List.mem_append.1 hp with hp | hp
  · exact .inl (hs.ge p hp)
  · exact hin p hp
theorem rt_fin {most each : Int} {n0 b : Nat} {L' : List Wt} {m mt M : Mem0} {u0 : Value} {w w' : World} (ht : RtM most each n0 L' b mt) (hm : Mem w' M) (hsub : SubM M (mt ++ [])) (hc : Chg (inM m) w w') (hin : inn m w.heap.size mt) : Upd m (fun u m' => u = u0 ∧ RtM most each n0 L' b m') w u0 w' := by
  rw [List.append_nil] at hsub
  exact ⟨hc, mt, ⟨rfl, ht⟩, hsub.mem w' hm, hin⟩
theorem inn_cons1 {a a' : Nat × Obj} {m x : Mem0} {k : Nat} (e : a.1 = a'.1) (h : inn m k x) : inn (a :: m) k (a' :: x) := fun p hp => by
  rcases List.mem_cons.1 hp with rfl | hp
  · exact .inr ⟨a, List.mem_cons_self .., e⟩
  · exact (h p hp).imp id (fun ⟨q, hq, e⟩ => ⟨q, List.mem_cons_of_mem _ hq, e⟩)
set_option maxRecDepth 100000 in
theorem rWake_spec {most each : Int} {n0 b : Nat} {L : List Wt} {m : Mem0} (key n : Int) (w : World) (h : RtM most each n0 L b m) (hl : L.length ≤ 4096) (hwd : Wd1 L) (hn0 : n0 ≤ w.heap.size) (hM : Mem w m) : Ret Try.prog 12 #[.pointer (some ⟨b, 0, none⟩), .int .i64 key, .int .i64 n] w (Upd m (RkT most each n0 b w.heap.size (wakeF key n L.length [] L)) w) := by
 refine Ret.enterM (l := [.pointer (some ⟨b, 0, none⟩), .int .i64 key, .int .i64 n]) Try.func12 rfl Try.ntmps12 rfl (m ++ []) ((inM m)) (by rw [List.append_nil]; exact hM) ?_
 refine wpM.seq (wpM.region ?_)
 refine LM.as rfl ?_
 refine LM.nil (QM.sub (e' := [(0, _), (1, _), (2, _)]) au9 (QM.then (wpM.seq (wpM.region ?_))))
 refine LM.as rfl ?_
 refine LM.nil (QM.sub (e' := [(0, _), (1, _), (2, _), (7, _)]) au9 (QM.then ?_))
 refine wpM.seq ?_
 refine wpM.block ?_
 refine wpM.loopK0 (α := Nat × List Int × Option Addr × Nat × Nat × Mem0 × List Wt × Mem0) (fun ⟨f, o, ad, no, cap, mo, L', mt⟩ => [(7, .slice ad no cap)]) [(0, _), (1, _), (2, _)] (fun ⟨f, o, ad, no, cap, mo, L', mt⟩ => mo ++ (mt ++ [])) (fun ⟨f, o, ad, no, cap, mo, L', mt⟩ => Sl fI 3 1 w.heap.size o (.slice ad no cap) mo ∧ RtM most each n0 L' b mt ∧ Wd1 L' ∧ inn m w.heap.size mt ∧ L'.length ≤ f ∧ o.length + f ≤ 5000 ∧ wakeF key n f o L' = wakeF key n L.length [] L) (fun ⟨f, o, ad, no, cap, mo, L', mt⟩ => f) ((L.length, [], none, 0, 0, [], L, m)) ⟨au2, rfl, rfl, rfl, trivial⟩ au1 ⟨Sl.nil _ _ _ _, h, hwd, inn_refl _ _, Nat.le_refl _, by simp only [List.length_nil]; omega, rfl⟩ ?_
 rintro ⟨f, o, ad, no, cap, mo, L', mt⟩ ⟨hs, ht, hwd1, hin, hf, hof, hwk⟩
 change wpM _ _ _ _ _ _ _ (mo ++ (mt ++ [])) _ _ _
 have hsl := hs.len.1
 refine wpM.seq ?_
 refine wpM.seq (wpM.region ?_)
 refine LM.mv rfl ?_
 refine LM.val (ov_len Try.underlying29 rfl) ?_
 refine LM.mv rfl ?_
 refine LM.val (ov_lss rfl rfl) ?_
 refine LM.mv rfl ?_
 refine LM.splitD (t := 12) rfl (fun h1 => ?_) (fun h1 => ?_)
 ·
  refine LM.sp 12 rfl rfl rfl (LM.mv rfl (LM.sp 12 rfl rfl rfl (LM.mv rfl (LM.sp 12 rfl rfl rfl ?_))))
  refine LM.callE (oc_call (enters_fn Try.func32 (by kernel_rfl) rfl) rfl) (fun w hm hc hg => rFirst_spec key w ht (by omega) (hm.pick mt)) ?_
  refine LM.sp 12 rfl rfl rfl ?_
  refine LM.val (ov_geq rfl rfl) ?_
  refine LM.val (ov_pickT rfl rfl) ?_
  refine LM.nil (QM.sub (e' := [(0, _), (1, _), (2, _), (7, _), (17, _)]) au9 (QM.then ?_))
  refine wpM.condD rfl (fun h2 => ?_) (fun h2 => ?_)
  ·
   obtain ⟨i, hi, hfi, hwgi, hpos⟩ : ∃ i, i < L'.length ∧ fiW L' key = (i : Nat) ∧ wg L' i = fstW L' key ∧ 0 < cntL L' key := (by rcases fiW_or L' key with ⟨q, _⟩ | q; omega; exact q); have hfm := fstW_mem hpos; have hf0 : 0 < f := (by omega)
   refine wpM.skip ?_
   refine QM.then ?_
   refine wpM.block ?_
   refine wpM.region ?_
   refine LM.mv rfl (LM.mv rfl (LM.mv rfl (LM.mv rfl ?_)))
   refine LM.callE (oc_call (enters_fn Try.func32 (by kernel_rfl) rfl) rfl) (fun w hm hc hg => rFirst_spec key w ht (by omega) (hm.pick mt)) ?_
   rw [hfi]
   refine LM.cU (oc_call (enters_fn Try.func15 (by kernel_rfl) rfl) rfl) (fun w hm hc hg => rTake_spec i w ht (by omega) hi (Nat.le_trans hn0 hc.size) (hm.pick mt)) ht.wlk (inn_S hin inM_in) ?_
   rintro u23 m23 ⟨rfl, h23⟩ hin23; have h23' : RtM most each n0 (rmW L' (fstW L' key).who) b m23 := (by rw [wg_rm hwd1 hi, hwgi] at h23; exact h23); rw [hwgi]
   refine LM.val (ov_fieldV Try.underlying32 rfl Try.isAgg3 rfl rfl) ?_
   refine LM.single Try.underlying29 Try.sizeOf3 Try.zeroValue3 rfl rfl rfl rfl rfl (fun b25 hb25 => ?_)
   refine LM.app (a := (fstW L' key).who) Try.underlying29 Try.typeInfo3 rfl rfl rfl rfl rfl rfl rfl (by assumption) (by rfl) (by intro _; rfl) (by intro _ u hu; simp [fI] at hu; (repeat (first | (rcases hu with rfl | hu) | subst hu | rfl))) (by first | exact Nat.le_refl _ | omega) au10 (by first | omega | (unfold maxLen; omega)) (by simp only [Try.t3]; omega) (fun ad26 n26 cap26 m26 hn26 hs26 hin26 => ?_)
   refine LM.as rfl ?_
   refine LM.nil (QM.sub (e' := [(0, _), (1, _), (2, _), (7, _)]) au9 ?_)
   refine QM.block_normal ?_
   refine QM.againK (f - 1, o ++ [(fstW L' key).who], ad26, n26, cap26, m26, rmW L' (fstW L' key).who, m23) ⟨au2, rfl, rfl, rfl, trivial⟩ au1 (fun _ h => h) ?_ ?_
   · exact ⟨hs26, h23', wd_rm hwd1 _, inn_trans hin hin23, by have := rm_len hwd1 hfm.1; omega, by have := rm_len hwd1 hfm.1; rw [List.length_append, List.length_singleton]; omega, by rw [← hwk]; obtain ⟨f', rfl⟩ : ∃ f', f = f' + 1 := ⟨f - 1, by omega⟩; exact (wakeF_go ⟨by omega, hpos⟩).symm⟩
   · first | omega | (dsimp only; omega)
  refine wpM.exit ?_
  refine QM.then_exit ?_
  refine QM.then_exit ?_
  refine QM.block_hit ?_
  refine QM.then (wpM.seq (wpM.region ?_))
  refine LM.mv rfl (LM.as rfl ?_)
  refine LM.nil (QM.sub (e' := [(6, _)]) ⟨rfl, trivial⟩ (QM.then ?_))
  refine wpM.ret ?_
  refine QM.leave (.inl rfl) [.tmp 6] Try.results12 rfl ?_
  intro w' hm' hc' hg'
  have hz : cntL L' key = 0 := (by rcases fiW_or L' key with ⟨_, q⟩ | ⟨i, _, q, _⟩; exact q; omega); rw [wakeF_stop (fun z => by omega)] at hwk; rw [← hwk]; exact rk_leaf (oL := (o, L')) hs ht hm' (by (repeat' (first | exact SubM.nil _ | refine SubM.cons (by rfl) ?_ | refine SubM.app ?_))) hc' hin
 refine LM.dr 12 rfl rfl rfl (LM.dr 12 rfl rfl rfl (LM.dr 12 rfl rfl rfl (LM.dr 12 rfl rfl rfl ?_)))
 refine LM.val (ov_pickF rfl rfl) ?_
 refine LM.nil (QM.sub (e' := [(0, _), (1, _), (2, _), (7, _), (17, _)]) au9 (QM.then ?_))
 refine wpM.condF rfl ?_
 refine wpM.exit ?_
 refine QM.then_exit ?_
 refine QM.then_exit ?_
 refine QM.block_hit ?_
 refine QM.then (wpM.seq (wpM.region ?_))
 refine LM.mv rfl (LM.as rfl ?_)
 refine LM.nil (QM.sub (e' := [(6, _)]) ⟨rfl, trivial⟩ (QM.then ?_))
 refine wpM.ret ?_
 refine QM.leave (.inl rfl) [.tmp 6] Try.results12 rfl ?_
 intro w' hm' hc' hg'
 rw [wakeF_stop (by omega)] at hwk; rw [← hwk]; exact rk_leaf (oL := (o, L')) hs ht hm' (by (repeat' (first | exact SubM.nil _ | refine SubM.cons (by rfl) ?_ | refine SubM.app ?_))) hc' hin
set_option maxRecDepth 100000 in
theorem rRequeue_spec {most each : Int} {n0 b : Nat} {L : List Wt} {m : Mem0} (fr to n : Int) (w : World) (h : RtM most each n0 L b m) (hl : L.length ≤ 4096) (hwd : Wd1 L) (hn0 : n0 ≤ w.heap.size) (hM : Mem w m) : Ret Try.prog 17 #[.pointer (some ⟨b, 0, none⟩), .int .i64 fr, .int .i64 to, .int .i64 n] w (Upd m (fun u m' => u = .int .i64 (rqF fr to n each (cntL L fr) 0 L).1 ∧ RtM most each n0 (rqF fr to n each (cntL L fr) 0 L).2 b m') w) := by
 have hcl := cnt_le L fr
 refine Ret.enterM (l := [.pointer (some ⟨b, 0, none⟩), .int .i64 fr, .int .i64 to, .int .i64 n]) Try.func17 rfl Try.ntmps17 rfl (m ++ []) ((inM m)) (by rw [List.append_nil]; exact hM) ?_
 refine wpM.seq (wpM.region ?_)
 refine LM.as rfl ?_
 refine LM.nil (QM.sub (e' := [(0, _), (1, _), (2, _), (3, _)]) au9 (QM.then (wpM.seq (wpM.region ?_))))
 refine LM.as rfl ?_
 refine LM.nil (QM.sub (e' := [(0, _), (1, _), (2, _), (3, _), (9, _)]) au9 (QM.then ?_))
 refine wpM.seq ?_
 refine wpM.block ?_
 refine wpM.loopK0 (α := Nat × Nat × List Wt × Mem0) (fun ⟨f, j, L', mt⟩ => [(9, .int .i64 (j : Nat))]) [(0, _), (1, _), (2, _), (3, _)] (fun ⟨f, j, L', mt⟩ => mt ++ []) (fun ⟨f, j, L', mt⟩ => RtM most each n0 L' b mt ∧ Wd1 L' ∧ L'.length = L.length ∧ inn m w.heap.size mt ∧ cntL L' fr ≤ f ∧ f + j ≤ cntL L fr ∧ rqF fr to n each f (j : Nat) L' = rqF fr to n each (cntL L fr) 0 L) (fun ⟨f, j, L', mt⟩ => f) ((cntL L fr, 0, L, m)) ⟨au2, rfl, rfl, rfl, rfl, trivial⟩ au1 ⟨h, hwd, rfl, inn_refl _ _, Nat.le_refl _, Nat.le_refl _, rfl⟩ ?_
 rintro ⟨f, j, L', mt⟩ ⟨ht, hwd1, hll, hin, hf, hfj, hrq⟩
 change wpM _ _ _ _ _ _ _ (mt ++ []) _ _ _
 have h0 := ht; obtain ⟨ad1, n1, cap1, ms1, rfl, hn1, hs1, hb1⟩ := ht
 refine wpM.seq ?_
 refine wpM.seq ?_
 refine wpM.keep (rtC b most each ad1 n1 cap1 :: []) (fun _ => True) (.one 0 0 (.one 1 0 (.one 2 0 (.one 3 0 (.one 4 0 (.one 5 0 (.one 6 0 (.one 7 0 (.one 8 0 (.one 9 0 (.one 10 0 (.one 11 2 (.one 12 0 (.one 13 0 (.one 14 0 (.one 15 0 (.one 16 0 (.one 18 0 (.one 19 0 (.one 20 0 (.one 21 1 (.one 17 2 (.one 22 0 (.one 23 0 .nil)))))))))))))))))))))))) (by kernel_rfl) (by kernel_rfl) au1 (fun _ _ => trivial) ?_
 refine KD.val rfl rfl (ov_move rfl) ?_
 refine KD.val rfl rfl (ov_move rfl) ?_
 refine KD.val rfl rfl (ov_neq rfl rfl) ?_
 refine KD.val rfl rfl (ov_move rfl) ?_
 refine KD.splitD (t := 14) rfl (fun h1 => ?_) (fun h1 => ?_)
 ·
  refine KD.val rfl ⟨14, _, rfl, rfl, rfl⟩ (ov_move rfl) ?_
  refine KD.val rfl ⟨14, _, rfl, rfl, rfl⟩ (ov_move rfl) ?_
  refine KD.val rfl ⟨14, _, rfl, rfl, rfl⟩ (ov_lss rfl rfl) ?_
  refine KD.val rfl rfl (ov_pickT rfl rfl) ?_
  refine KD.val rfl rfl (ov_move rfl) ?_
  refine KD.splitD (t := 19) rfl (fun h2 => ?_) (fun h2 => ?_)
  ·
   refine KD.val rfl ⟨19, _, rfl, rfl, rfl⟩ (ov_move rfl) ?_
   refine KD.val rfl ⟨19, _, rfl, rfl, rfl⟩ (ov_move rfl) ?_
   refine KD.one rfl ?_
   refine LM.sp 19 rfl rfl rfl ?_
   refine LM.callE (oc_call (enters_fn Try.func32 (by kernel_rfl) rfl) rfl) (fun w hm hc hg => rFirst_spec fr w h0 (by omega) (hm.pick (rtC b most each ad1 n1 cap1 :: ms1))) ?_
   refine LM.nil ?_
   refine QM.one au1 (fun _ _ => trivial) ?_
   refine KD.val rfl ⟨19, _, rfl, rfl, rfl⟩ (ov_geq rfl rfl) ?_
   refine KD.val rfl rfl (ov_pickT rfl rfl) ?_
   refine KD.val rfl rfl (ov_move rfl) ?_
   refine KD.splitD (t := 25) rfl (fun h3 => ?_) (fun h3 => ?_)
   ·
    obtain ⟨i, hi, hfi, hwgi, hpos⟩ : ∃ i, i < L'.length ∧ fiW L' fr = (i : Nat) ∧ wg L' i = fstW L' fr ∧ 0 < cntL L' fr := (by rcases fiW_or L' fr with ⟨q, _⟩ | q; omega; exact q); have hfm := fstW_mem hpos; have hne : fr ≠ to := h1; have hcfr := rm_cnt hwd1 hfm.1; rw [hfm.2] at hcfr; have hrl := rm_len hwd1 hfm.1
    refine KD.val rfl ⟨25, _, rfl, rfl, rfl⟩ (ov_move rfl) ?_
    refine KD.val rfl ⟨25, _, rfl, rfl, rfl⟩ (ov_move rfl) ?_
    refine KD.val rfl ⟨25, _, rfl, rfl, rfl⟩ (ov_move rfl) ?_
    refine KD.val rfl ⟨25, _, rfl, rfl, rfl⟩ (ov_nilCheck rfl) ?_
    refine KD.val rfl ⟨25, _, rfl, rfl, rfl⟩ (ov_field Try.underlying48 rfl Try.sizeOf3 rfl (k := 1) rfl rfl) ?_
    refine KD.rd rfl ⟨25, _, rfl, rfl, rfl⟩ (om_ld Try.isAgg3 rfl rfl) ?_
    refine KD.one rfl ?_
    refine LM.sp 25 rfl rfl rfl ?_
    refine LM.callE (oc_call (enters_fn Try.func30 (by kernel_rfl) rfl) rfl) (fun w hm hc hg => rCount_spec to w h0 (by omega) (hm.pick (rtC b most each ad1 n1 cap1 :: ms1))) ?_
    refine LM.nil ?_
    refine QM.one au1 (fun _ _ => trivial) ?_
    refine KD.val rfl ⟨25, _, rfl, rfl, rfl⟩ (ov_lss rfl rfl) ?_
    refine KD.val rfl rfl (ov_pickT rfl rfl) ?_
    refine KD.nil ?_
    refine QM.sub (e' := [(0, _), (1, _), (2, _), (3, _), (9, _), (34, _)]) au9 (QM.then ?_)
    refine wpM.condD rfl (fun h4 => ?_) (fun h4 => ?_)
    ·
     refine wpM.skip ?_
     refine QM.then ?_
     refine wpM.block ?_
     refine wpM.seq (wpM.region ?_)
     refine LM.mv rfl (LM.mv rfl (LM.mv rfl ?_))
     refine LM.callE (oc_call (enters_fn Try.func32 (by kernel_rfl) rfl) rfl) (fun w hm hc hg => rFirst_spec fr w h0 (by omega) (hm.pick (rtC b most each ad1 n1 cap1 :: ms1))) ?_
     rw [hfi]
     refine LM.cU (oc_call (enters_fn Try.func15 (by kernel_rfl) rfl) rfl) (fun w hm hc hg => rTake_spec i w h0 (by omega) hi (Nat.le_trans hn0 hc.size) (hm.pick (rtC b most each ad1 n1 cap1 :: ms1))) h0.wlk (inn_S hin inM_in) ?_
     rintro u39 m39 ⟨rfl, h39⟩ hin39; obtain ⟨ad3, n3, cap3, ms3, rfl, hn3, hs3, hb3⟩ : RtM most each n0 (rmW L' (fstW L' fr).who) b m39 := (by rw [wg_rm hwd1 hi, hwgi] at h39; exact h39); rw [hwgi]
     refine LM.alloc Try.zeroValue32 rfl (fun b10 hb10 => ?_)
     refine LM.stW Try.sizeOf32 rfl rfl rfl rfl au7 (fun hlt => by first | exact inn_S (inn_trans hin hin39) inM_in _ (List.mem_cons_self ..) hlt | exact absurd hlt (by omega)) ?_
     refine LM.nil (QM.sub (e' := [(0, _), (1, _), (2, _), (3, _), (9, _), (10, _)]) au9 (QM.then (wpM.seq (wpM.region ?_))))
     refine LM.mv rfl (LM.val (ov_field Try.underlying32 rfl Try.sizeOf3 rfl (k := 1) rfl rfl) ?_)
     refine LM.st Try.sizeOf3 rfl rfl rfl au5 rfl (fun hlt => by first | exact inn_S (inn_trans hin hin39) inM_in _ (List.mem_cons_self ..) hlt | exact absurd hlt (by omega)) ?_
     refine LM.nil (QM.sub (e' := [(0, _), (1, _), (2, _), (3, _), (9, _), (10, _)]) au9 (QM.then ?_))
     refine wpM.seq ?_
     refine wpM.keep (rtC b most each ad3 n3 cap3 :: (b10, .cells (fWt (toKey (fstW L' fr) to)).toArray 32 (0, 0)) :: []) (fun _ => True) (.one 0 0 (.one 1 0 (.one 2 0 (.one 3 0 (.one 4 1 (.one 5 1 (.one 6 2 (.one 7 2 (.one 8 0 (.one 9 0 (.last 10))))))))))) (by kernel_rfl) (by kernel_rfl) au1 (fun _ _ => trivial) ?_
     refine KD.val rfl rfl (ov_move rfl) ?_
     refine KD.val rfl rfl (ov_move rfl) ?_
     refine KD.val rfl rfl (ov_nilCheck rfl) ?_
     refine KD.val rfl rfl (ov_field Try.underlying48 rfl Try.sizeOf46 rfl (k := 2) rfl rfl) ?_
     refine KD.rd rfl rfl (om_ld Try.isAgg46 rfl rfl) ?_
     refine KD.rd rfl rfl (om_ldW Try.isAgg32 Try.sizeOf32 rfl rfl) ?_
     refine KD.one rfl ?_
     refine LM.single Try.underlying46 Try.sizeOf32 Try.zeroValue32 rfl rfl rfl rfl rfl (fun b48 hb48 => ?_)
     refine LM.nil ?_
     refine QM.one au1 (fun _ _ => trivial) ?_
     refine KD.one rfl ?_
     refine LM.app (a := toKey (fstW L' fr) to) Try.underlying46 Try.typeInfo32 rfl rfl rfl rfl rfl rfl rfl (by assumption) (by rfl) (by intro _; rfl) (by intro _ u hu; simp [fWt] at hu; (repeat (first | (rcases hu with rfl | hu) | subst hu | rfl))) (by first | exact Nat.le_refl _ | omega) (fun p hp hlt => by first | exact inn_S (inn_trans hin hin39) inM_in p (List.mem_cons_of_mem _ hp) hlt | exact absurd hlt (Nat.not_lt_of_le (Sl.ge (by assumption) p hp))) (by first | omega | (unfold maxLen; omega)) (by simp only [Try.t32]; omega) (fun ad49 n49 cap49 m49 hn49 hs49 hin49 => ?_)
     refine LM.nil ?_
     refine QM.one au1 (fun _ _ => trivial) ?_
     refine KD.val rfl rfl (ov_nilCheck rfl) ?_
     refine KD.val rfl rfl (ov_field Try.underlying48 rfl Try.sizeOf46 rfl (k := 2) rfl rfl) ?_
     refine KD.last rfl ?_
     refine LM.st Try.sizeOf46 rfl rfl rfl au5 rfl (fun hlt => by first | exact inn_S (inn_trans hin hin39) inM_in _ (List.mem_cons_self ..) hlt | exact absurd hlt (by omega)) ?_
     refine LM.nil ?_
     refine QM.qn ?_
     refine QM.sub (e' := [(0, _), (1, _), (2, _), (3, _), (9, _)]) au9 (QM.then (wpM.region ?_))
     refine LM.mv rfl ?_
     refine LM.val (ov_add64 rfl rfl (by omega)) ?_
     refine LM.as rfl ?_
     refine LM.nil (QM.sub (e' := [(0, _), (1, _), (2, _), (3, _), (9, _)]) au9 ?_)
     refine QM.block_normal ?_
     refine QM.againK (f - 1, j + 1, rmW L' (fstW L' fr).who ++ [toKey (fstW L' fr) to], rtC b most each ad49 n49 cap49 :: m49) ⟨au2, rfl, rfl, rfl, rfl, trivial⟩ au1 (fun _ h => h) ?_ ?_
     · exact ⟨⟨ad49, n49, cap49, m49, rfl, hs49.len.1, hs49, hb3⟩, wd_snoc (wd_rm hwd1 _) (fun x hx => (rm_mem.1 hx).2), by rw [List.length_append, List.length_singleton]; omega, inn_trans (inn_trans hin hin39) (inn_cons1 (by rfl) hin49), by rw [cnt_snoc, if_neg (show ¬ fr = (toKey (fstW L' fr) to).key from hne)]; omega, by omega, by rw [← hrq]; obtain ⟨f', rfl⟩ : ∃ f', f = f' + 1 := ⟨f - 1, by omega⟩; rw [show ((j + 1 : Nat) : Int) = ((j : Nat) : Int) + 1 by omega]; exact (rqF_go (n := n) ⟨hne, h2, h4, hpos⟩).symm⟩
     · first | omega | (dsimp only; omega)
    refine wpM.exit ?_
    refine QM.then_exit ?_
    refine QM.then_exit ?_
    refine QM.block_hit ?_
    refine QM.then (wpM.seq (wpM.region ?_))
    refine LM.mv rfl (LM.as rfl ?_)
    refine LM.nil (QM.sub (e' := [(8, _)]) ⟨rfl, trivial⟩ (QM.then ?_))
    refine wpM.ret ?_
    refine QM.leave (.inl rfl) [.tmp 8] Try.results17 rfl ?_
    intro w' hm' hc' hg'
    rw [rqF_stop (by exact fun z => h4 z.2.2.1)] at hrq; rw [← hrq]; exact rt_fin h0 hm' (by (repeat' (first | exact SubM.nil _ | refine SubM.cons (by rfl) ?_ | refine SubM.app ?_))) hc' hin
   refine KD.drop rfl rfl ⟨25, _, rfl, rfl, rfl⟩ ?_
   refine KD.drop rfl rfl ⟨25, _, rfl, rfl, rfl⟩ ?_
   refine KD.drop rfl rfl ⟨25, _, rfl, rfl, rfl⟩ ?_
   refine KD.drop rfl rfl ⟨25, _, rfl, rfl, rfl⟩ ?_
   refine KD.drop rfl rfl ⟨25, _, rfl, rfl, rfl⟩ ?_
   refine KD.drop rfl rfl ⟨25, _, rfl, rfl, rfl⟩ ?_
   refine KD.one rfl ?_
   refine LM.dr 25 rfl rfl rfl ?_
   refine LM.nil ?_
   refine QM.one au1 (fun _ _ => trivial) ?_
   refine KD.drop rfl rfl ⟨25, _, rfl, rfl, rfl⟩ ?_
   refine KD.val rfl rfl (ov_pickF rfl rfl) ?_
   refine KD.nil ?_
   refine QM.sub (e' := [(0, _), (1, _), (2, _), (3, _), (9, _), (34, _)]) au9 (QM.then ?_)
   refine wpM.condF rfl ?_
   refine wpM.exit ?_
   refine QM.then_exit ?_
   refine QM.then_exit ?_
   refine QM.block_hit ?_
   refine QM.then (wpM.seq (wpM.region ?_))
   refine LM.mv rfl (LM.as rfl ?_)
   refine LM.nil (QM.sub (e' := [(8, _)]) ⟨rfl, trivial⟩ (QM.then ?_))
   refine wpM.ret ?_
   refine QM.leave (.inl rfl) [.tmp 8] Try.results17 rfl ?_
   intro w' hm' hc' hg'
   have hz : cntL L' fr = 0 := (by rcases fiW_or L' fr with ⟨_, q⟩ | ⟨i, _, q, _⟩; exact q; omega); rw [rqF_stop (by exact fun z => by have := z.2.2.2; omega)] at hrq; rw [← hrq]; exact rt_fin h0 hm' (by (repeat' (first | exact SubM.nil _ | refine SubM.cons (by rfl) ?_ | refine SubM.app ?_))) hc' hin
  refine KD.drop rfl rfl ⟨19, _, rfl, rfl, rfl⟩ ?_
  refine KD.drop rfl rfl ⟨19, _, rfl, rfl, rfl⟩ ?_
  refine KD.one rfl ?_
  refine LM.dr 19 rfl rfl rfl ?_
  refine LM.nil ?_
  refine QM.one au1 (fun _ _ => trivial) ?_
  refine KD.drop rfl rfl ⟨19, _, rfl, rfl, rfl⟩ ?_
  refine KD.val rfl rfl (ov_pickF rfl rfl) ?_
  refine KD.val rfl rfl (ov_move rfl) ?_
  refine KD.drop rfl rfl ⟨25, _, rfl, rfl, rfl⟩ ?_
  refine KD.drop rfl rfl ⟨25, _, rfl, rfl, rfl⟩ ?_
  refine KD.drop rfl rfl ⟨25, _, rfl, rfl, rfl⟩ ?_
  refine KD.drop rfl rfl ⟨25, _, rfl, rfl, rfl⟩ ?_
  refine KD.drop rfl rfl ⟨25, _, rfl, rfl, rfl⟩ ?_
  refine KD.drop rfl rfl ⟨25, _, rfl, rfl, rfl⟩ ?_
  refine KD.one rfl ?_
  refine LM.dr 25 rfl rfl rfl ?_
  refine LM.nil ?_
  refine QM.one au1 (fun _ _ => trivial) ?_
  refine KD.drop rfl rfl ⟨25, _, rfl, rfl, rfl⟩ ?_
  refine KD.val rfl rfl (ov_pickF rfl rfl) ?_
  refine KD.nil ?_
  refine QM.sub (e' := [(0, _), (1, _), (2, _), (3, _), (9, _), (34, _)]) au9 (QM.then ?_)
  refine wpM.condF rfl ?_
  refine wpM.exit ?_
  refine QM.then_exit ?_
  refine QM.then_exit ?_
  refine QM.block_hit ?_
  refine QM.then (wpM.seq (wpM.region ?_))
  refine LM.mv rfl (LM.as rfl ?_)
  refine LM.nil (QM.sub (e' := [(8, _)]) ⟨rfl, trivial⟩ (QM.then ?_))
  refine wpM.ret ?_
  refine QM.leave (.inl rfl) [.tmp 8] Try.results17 rfl ?_
  intro w' hm' hc' hg'
  rw [rqF_stop (by exact fun z => h2 z.2.1)] at hrq; rw [← hrq]; exact rt_fin h0 hm' (by (repeat' (first | exact SubM.nil _ | refine SubM.cons (by rfl) ?_ | refine SubM.app ?_))) hc' hin
 refine KD.drop rfl rfl ⟨14, _, rfl, rfl, rfl⟩ ?_
 refine KD.drop rfl rfl ⟨14, _, rfl, rfl, rfl⟩ ?_
 refine KD.drop rfl rfl ⟨14, _, rfl, rfl, rfl⟩ ?_
 refine KD.val rfl rfl (ov_pickF rfl rfl) ?_
 refine KD.val rfl rfl (ov_move rfl) ?_
 refine KD.drop rfl rfl ⟨19, _, rfl, rfl, rfl⟩ ?_
 refine KD.drop rfl rfl ⟨19, _, rfl, rfl, rfl⟩ ?_
 refine KD.one rfl ?_
 refine LM.dr 19 rfl rfl rfl ?_
 refine LM.nil ?_
 refine QM.one au1 (fun _ _ => trivial) ?_
 refine KD.drop rfl rfl ⟨19, _, rfl, rfl, rfl⟩ ?_
 refine KD.val rfl rfl (ov_pickF rfl rfl) ?_
 refine KD.val rfl rfl (ov_move rfl) ?_
 refine KD.drop rfl rfl ⟨25, _, rfl, rfl, rfl⟩ ?_
 refine KD.drop rfl rfl ⟨25, _, rfl, rfl, rfl⟩ ?_
 refine KD.drop rfl rfl ⟨25, _, rfl, rfl, rfl⟩ ?_
 refine KD.drop rfl rfl ⟨25, _, rfl, rfl, rfl⟩ ?_
 refine KD.drop rfl rfl ⟨25, _, rfl, rfl, rfl⟩ ?_
 refine KD.drop rfl rfl ⟨25, _, rfl, rfl, rfl⟩ ?_
 refine KD.one rfl ?_
 refine LM.dr 25 rfl rfl rfl ?_
 refine LM.nil ?_
 refine QM.one au1 (fun _ _ => trivial) ?_
 refine KD.drop rfl rfl ⟨25, _, rfl, rfl, rfl⟩ ?_
 refine KD.val rfl rfl (ov_pickF rfl rfl) ?_
 refine KD.nil ?_
 refine QM.sub (e' := [(0, _), (1, _), (2, _), (3, _), (9, _), (34, _)]) au9 (QM.then ?_)
 refine wpM.condF rfl ?_
 refine wpM.exit ?_
 refine QM.then_exit ?_
 refine QM.then_exit ?_
 refine QM.block_hit ?_
 refine QM.then (wpM.seq (wpM.region ?_))
 refine LM.mv rfl (LM.as rfl ?_)
 refine LM.nil (QM.sub (e' := [(8, _)]) ⟨rfl, trivial⟩ (QM.then ?_))
 refine wpM.ret ?_
 refine QM.leave (.inl rfl) [.tmp 8] Try.results17 rfl ?_
 intro w' hm' hc' hg'
 rw [rqF_stop (by exact fun z => h1 z.1)] at hrq; rw [← hrq]; exact rt_fin h0 hm' (by (repeat' (first | exact SubM.nil _ | refine SubM.cons (by rfl) ?_ | refine SubM.app ?_))) hc' hin
end Go.Eng
namespace Go.Eng
open Go Go.RowKit
theorem dLt_chain {a b c : Wt} (h : dLt a b) (k : ¬ dLt c b) : ¬ dLt c a := by
  unfold dLt at *
  intro q
  apply k
  rcases q with q | ⟨q1, q2⟩ <;> rcases h with h | ⟨h1, h2⟩
  · exact .inl (by omega)
  · exact .inl (by rw [← h1]; exact q)
  · exact .inl (by rw [q1]; exact h)
  · exact .inr ⟨q1.trans h1, by omega⟩
theorem dLt_irr (a : Wt) : ¬ dLt a a := by unfold dLt; omega
theorem dueF_spec (now : BitVec 64) (L : List Wt) : ∀ i, (dueF now L i = -1 ∧ ∀ j, j < i → ¬ dSat now (wg L j)) ∨ ∃ b, b < i ∧ dueF now L i = (b : Nat) ∧ dSat now (wg L b) ∧ ∀ j, j < i → dSat now (wg L j) → ¬ dLt (wg L j) (wg L b)
  | 0 => .inl ⟨rfl, fun j hj => by omega⟩
  | i + 1 => by
    have ih := dueF_spec now L i
    by_cases c : dSat now (wg L i) ∧ (dueF now L i < 0 ∨ dLt (wg L i) (wg L (dueF now L i).toNat))
    · right
      refine ⟨i, by omega, if_pos c, c.1, fun j hj hs => ?_⟩
      by_cases e : j = i
      · subst e; exact dLt_irr _
      · rcases ih with ⟨h1, h2⟩ | ⟨b, hb, h1, h2, h3⟩
        · exact absurd hs (h2 j (by omega))
        · rcases c.2 with q | q
          · omega
          · rw [h1, Int.toNat_natCast] at q
            exact dLt_chain q (h3 j (by omega) hs)
    · have e : dueF now L (i + 1) = dueF now L i := if_neg c
      rw [e]
      rcases ih with ⟨h1, h2⟩ | ⟨b, hb, h1, h2, h3⟩
      · left
        refine ⟨h1, fun j hj => ?_⟩
        by_cases e2 : j = i
        · subst e2; exact fun z => c ⟨z, .inl (by omega)⟩
        · exact h2 j (by omega)
      · right
        refine ⟨b, by omega, h1, h2, fun j hj hs => ?_⟩
        by_cases e2 : j = i
        · subst e2
          intro z
          exact c ⟨hs, .inr (by rw [h1, Int.toNat_natCast]; exact z)⟩
        · exact h3 j (by omega) hs
theorem due_k {now : BitVec 64} {L : List Wt} {S : List Hi} (h : TbH L S) (hw : Wd1 L) (hi : S.Pairwise (fun a b => a.id ≠ b.id)) (hs : S.Pairwise hiLt) {k : Nat} (hk : k < dueN now S) :
    ∃ i, i < (exL L (S.take k)).length ∧ dueI now (exL L (S.take k)) = (i : Nat) ∧ wg (exL L (S.take k)) i = exW L (sd S k).id := by
  have hkS : k < S.length := by have := dueN_le now S; omega
  obtain ⟨x1, x2, x3, x4⟩ := ex_k h hw hi hkS
  have hp := dueN_p hk
  have hH := tbh_k h hi k
  have hwd := exL_wd (l := S.take k) hw
  obtain ⟨j, hj, hxj⟩ := wg_of x1
  have hsat : dSat now (wg (exL L (S.take k)) j) := by rw [hxj]; exact ⟨x4, by rw [x3]; exact hp⟩
  rcases dueF_spec now (exL L (S.take k)) (exL L (S.take k)).length with ⟨h1, h2⟩ | ⟨b, hb, h1, h2, h3⟩
  · exact absurd hsat (h2 j hj)
  · refine ⟨b, hb, h1, ?_⟩
    have h4 := h3 j hj hsat
    rw [hxj] at h4
    have hbm := wg_mem hb
    obtain ⟨y, hy, e1, e2⟩ := hH.hc _ hbm h2.1
    rw [sd_drop hkS] at hy
    rcases List.mem_cons.1 hy with e | hy
    · exact wd_eq hwd hbm x1 (by rw [x2, ← e1, e])
    · have hlt : hiLt (sd S k) y := by
        have := (List.pairwise_cons.1 (by rw [← sd_drop hkS]; exact hs.sublist (List.drop_sublist k S))).1 y hy
        exact this
      exfalso
      apply h4
      unfold hiLt at hlt; unfold dLt
      rcases hlt with q | ⟨q1, q2⟩
      · exact .inl (by rw [x3, ← e2]; exact q)
      · exact .inr ⟨by rw [x3, ← e2]; exact BitVec.eq_of_toNat_eq q1, by rw [x2, ← e1]; exact q2⟩
theorem due_end {now : BitVec 64} {L : List Wt} {S : List Hi} (h : TbH L S) (hw : Wd1 L) (hi : S.Pairwise (fun a b => a.id ≠ b.id)) (hs : S.Pairwise hiLt) : dueI now (exL L (S.take (dueN now S))) = -1 := by
  have hH := tbh_k h hi (dueN now S)
  rcases dueF_spec now (exL L (S.take (dueN now S))) (exL L (S.take (dueN now S))).length with ⟨h1, h2⟩ | ⟨b, hb, h1, h2, h3⟩
  · exact h1
  · exfalso
    obtain ⟨y, hy, e1, e2⟩ := hH.hc _ (wg_mem hb) h2.1
    have hyn : y.V.toNat ≤ now.toNat := by rw [e2]; exact h2.2
    have hlt : dueN now S < S.length := by
      rcases Nat.lt_or_ge (dueN now S) S.length with z | z
      · exact z
      · rw [List.drop_eq_nil_of_le z] at hy; cases hy
    have hgt : ¬ (sd S (dueN now S)).V.toNat ≤ now.toNat := fun z => by have := dueN_lt (Nat.le_refl _) hlt z; omega
    rw [sd_drop hlt] at hy
    rcases List.mem_cons.1 hy with e | hy
    · rw [e] at hyn; exact hgt hyn
    · have := (List.pairwise_cons.1 (by rw [← sd_drop hlt]; exact hs.sublist (List.drop_sublist _ S))).1 y hy
      unfold hiLt at this; omega
theorem LF_at {L : List Wt} {i : Nat} {key : Int} (hi : i < L.length) (h : (wg L i).key = key) : cntL (L.take i) key < cntL L key ∧ wg (LF L key) (cntL (L.take i) key) = wg L i := by
  have e : L = L.take i ++ wg L i :: L.drop (i + 1) := by
    have h1 : L.drop i = wg L i :: L.drop (i + 1) := by
      rw [List.drop_eq_getElem_cons hi]; unfold wg; rw [List.getD_eq_getElem?_getD, List.getElem?_eq_getElem hi]; rfl
    rw [← h1, List.take_append_drop]
  have h3 : LF (L.take i ++ wg L i :: L.drop (i + 1)) key = LF (L.take i) key ++ wg L i :: LF (L.drop (i + 1)) key := by
    unfold LF; rw [List.filter_append]; congr 1
    exact List.filter_cons_of_pos (p := fun w => decide (w.key = key)) (a := wg L i) (decide_eq_true h)
  have h4 : LF L key = LF (L.take i) key ++ wg L i :: LF (L.drop (i + 1)) key := (congrArg (fun l => LF l key) e).trans h3
  unfold cntL
  refine ⟨by rw [h4, List.length_append]; simp, ?_⟩
  show (LF L key).getD _ default = _
  rw [h4, List.getD_eq_getElem?_getD, List.getElem?_append_right (Nat.le_refl _), Nat.sub_self]; rfl
theorem exL_len : ∀ (L : List Wt) (l : List Hi), (exL L l).length ≤ L.length
  | L, [] => Nat.le_refl _
  | L, s :: l => Nat.le_trans (exL_len (rmW L s.id) l) (List.length_filter_le ..)
theorem fWt_eq (x : Wt) : veqs (fWt x) (fWt x) = true := by simp [veqs, veq, fWt, U]
end Go.Eng
namespace Go.Eng
open Go Go.Proofs Go.RowKit
set_option maxRecDepth 100000 in
theorem ints_spec {xs : List Int} {ada adb : Option Addr} {na nb capa capb : Nat} (w : World) (hna : na = xs.length) (hnb : nb = xs.length) (hlx : xs.length ≤ 100000) (ha : Sr fI 1 xs (.slice ada na capa) w) (hb : Sr fI 1 xs (.slice adb nb capb) w) : Ret Try.prog 10 #[.slice ada na capa, .slice adb nb capb] w (fun u w' => u = .bool true ∧ Ext w w') := by
 refine Ret.enterM (l := [.slice ada na capa, .slice adb nb capb]) Try.func10 rfl Try.ntmps10 rfl ([]) (no) (Mem.nil w) ?_
 refine wpM.seq (wpM.region ?_)
 refine LM.as rfl ?_
 refine LM.nil (QM.sub (e' := [(0, _), (1, _)]) au9 (QM.then ?_))
 refine wpM.seq ?_
 refine wpM.seq (wpM.region ?_)
 refine LM.mv rfl ?_
 refine LM.val (ov_len Try.underlying29 rfl) ?_
 refine LM.mv rfl ?_
 refine LM.val (ov_len Try.underlying29 rfl) ?_
 refine LM.val (ov_neq rfl rfl) ?_
 refine LM.nil (QM.sub (e' := [(0, _), (1, _), (10, _)]) au9 (QM.then ?_))
 refine wpM.condD rfl (fun h1 => ?_) (fun h1 => ?_)
 ·
  omega
 refine wpM.skip ?_
 refine QM.then ?_
 refine wpM.seq ?_
 refine wpM.seq (wpM.region ?_)
 refine LM.mv rfl ?_
 refine LM.val (ov_len Try.underlying29 rfl) ?_
 refine LM.mv rfl ?_
 refine LM.nil (QM.sub (e' := [(0, _), (1, _), (12, _), (13, _)]) au9 (QM.then ?_))
 refine wpM.block ?_
 refine wpM.loopK0 (α := Nat) (fun i => [(13, .int .i64 (i : Nat))]) [(0, _), (1, _), (12, _)] (fun i => []) (fun i => i ≤ xs.length) (fun i => xs.length - i) (0) ⟨au2, rfl, rfl, rfl, trivial⟩ au1 (Nat.zero_le _) ?_
 rintro i hi
 change wpM _ _ _ _ _ _ _ ([]) _ _ _
 refine wpM.seq (wpM.region ?_)
 refine LM.val (ov_lss rfl rfl) ?_
 refine LM.nil (QM.sub (e' := [(0, _), (1, _), (12, _), (13, _), (14, _)]) au9 (QM.then ?_))
 refine wpM.seq ?_
 refine wpM.condD rfl (fun h2 => ?_) (fun h2 => ?_)
 ·
  refine wpM.skip ?_
  refine QM.then ?_
  refine wpM.seq ?_
  refine wpM.block ?_
  refine wpM.seq (wpM.region ?_)
  refine LM.mv rfl (LM.as rfl ?_)
  refine LM.nil (QM.sub (e' := [(0, _), (1, _), (5, _), (12, _), (13, _)]) au9 (QM.then ?_))
  refine wpM.seq ?_
  refine wpM.draw [(0, 0), (1, 0), (2, 0), (3, 1), (4, 0), (5, 0), (6, 0), (7, 1), (8, 0)] (by kernel_rfl) (by kernel_rfl) ?_
  refine LD.val rfl rfl (ov_move rfl) ?_
  refine LD.val rfl rfl (ov_move rfl) ?_
  refine LD.val rfl rfl (ov_idxSN au6 Try.underlying29 Try.sizeOf3 rfl rfl (by omega)) ?_
  first | refine LD.rd rfl rfl (om_sl1 (by assumption) (by intro _; rfl) Try.isAgg3 rfl rfl (by exact getq 0 au4) (by rfl)) ?_ | refine LD.rdC rfl rfl (om_sr1 (by assumption) Try.isAgg3 rfl rfl (by exact getq 0 au4) (by rfl) id) ?_ | refine LD.rd rfl rfl (om_ld Try.isAgg3 rfl rfl) ?_
  refine LD.val rfl rfl (ov_move rfl) ?_
  refine LD.val rfl rfl (ov_move rfl) ?_
  refine LD.val rfl rfl (ov_idxSN au6 Try.underlying29 Try.sizeOf3 rfl rfl (by omega)) ?_
  first | refine LD.rd rfl rfl (om_sl1 (by assumption) (by intro _; rfl) Try.isAgg3 rfl rfl (by exact getq 0 au4) (by rfl)) ?_ | refine LD.rdC rfl rfl (om_sr1 (by assumption) Try.isAgg3 rfl rfl (by exact getq 0 au4) (by rfl) id) ?_ | refine LD.rd rfl rfl (om_ld Try.isAgg3 rfl rfl) ?_
  refine LD.val rfl rfl (ov_neq rfl rfl) ?_
  refine LD.nil ?_
  refine QM.sub (e' := [(0, _), (1, _), (12, _), (13, _), (24, _)]) au9 (QM.then ?_)
  refine wpM.condD rfl (fun h3 => ?_) (fun h3 => ?_)
  ·
   exact absurd rfl h3
  refine wpM.skip ?_
  refine QM.block_normal ?_
  refine QM.then (wpM.region ?_)
  refine LM.val (ov_add64 rfl rfl (by omega)) ?_
  refine LM.mv rfl ?_
  refine LM.nil (QM.sub (e' := [(0, _), (1, _), (12, _), (13, _)]) au9 ?_)
  refine QM.againK (i + 1) ⟨au2, rfl, rfl, rfl, trivial⟩ au1 (fun _ h => h) ?_ ?_
  · omega
  · omega
 refine wpM.exit ?_
 refine QM.then_exit ?_
 refine QM.then_exit ?_
 refine QM.block_hit ?_
 refine QM.then (wpM.seq (wpM.region ?_))
 refine LM.as rfl ?_
 refine LM.nil (QM.sub (e' := [(4, _)]) ⟨rfl, trivial⟩ (QM.then ?_))
 refine wpM.ret ?_
 refine QM.leave (.inl rfl) [.tmp 4] Try.results10 rfl ?_
 intro w' hm' hc' hg'
 exact ⟨rfl, hc'⟩
set_option maxRecDepth 100000 in
theorem sameKey_spec {most each : Int} {nT n0 T b b2 : Nat} {L : List Wt} {m m2 : Mem0} (key : Int) (w : World) (hT : TbM most each nT T L b m) (hR : RtM most each n0 L b2 m2) (hM : Mem w (m ++ m2)) : Ret Try.prog 39 #[.pointer (some ⟨b, 0, none⟩), .pointer (some ⟨b2, 0, none⟩), .int .i64 key] w (fun u w' => u = .bool true ∧ Ext w w') := by
 obtain ⟨ad2, n2, cap2, ms2, rfl, hn2, hs2, hb2⟩ := hR; have hlim := hT.lim; have hwkr : ∀ p ∈ ms2, wlk p.2 = false := hs2.wlk
 refine Ret.enterM (l := [.pointer (some ⟨b, 0, none⟩), .pointer (some ⟨b2, 0, none⟩), .int .i64 key]) Try.func39 rfl Try.ntmps39 rfl (m ++ (rtC b2 most each ad2 n2 cap2 :: (ms2 ++ []))) (no) (by rw [List.append_nil]; exact hM) ?_
 refine wpM.seq (wpM.region ?_)
 refine LM.as rfl ?_
 refine LM.nil (QM.sub (e' := [(0, _), (1, _), (2, _)]) au9 (QM.then (wpM.seq (wpM.region ?_))))
 refine LM.alloc Try.zeroValue46 rfl (fun b7 hb7 => ?_)
 refine LM.nil (QM.sub (e' := [(0, _), (1, _), (2, _), (7, _)]) au9 (QM.then ?_))
 refine wpM.seq ?_
 refine wpM.seq (wpM.region ?_)
 refine LM.mv rfl (LM.mv rfl ?_)
 refine LM.callT (oc_call (enters_fn Try.func22 (by kernel_rfl) rfl) rfl) OfT.mono (fun w hm hc hg => of_spec (some ⟨b, 0, none⟩) key w) ?_
 rintro u14 m14 ⟨c1, c2, rfl, rfl, hc1, hc2⟩ -
 refine LM.nil (QM.sub (e' := [(1, _), (2, _), (7, _), (14, _)]) au9 (QM.then ?_))
 refine wpM.block ?_
 refine wpM.toRange (α := Option Addr × Nat × Nat × Mem0) (fun k ⟨ad, n, cap, mg⟩ => tF c1 (some ⟨b, 0, none⟩) :: kF c2 key :: (m ++ (rtC b2 most each ad2 n2 cap2 :: (ms2 ++ ((b7, .cells #[.slice ad n cap] 46 (0, 0)) :: (mg ++ [])))))) ((none, 0, 0, [])) au1 ?_
 refine wpM.rangeP (α := Option Addr × Nat × Nat × Mem0) (β := Unit) (enters_fn Try.func42 (by kernel_rfl) rfl) rfl (of_seq (c1 := c1) (c2 := c2) key hT) (fun k ⟨ad, n, cap, mg⟩ Mp => tF c1 (some ⟨b, 0, none⟩) :: kF c2 key :: (m ++ (rtC b2 most each ad2 n2 cap2 :: (ms2 ++ ((b7, .cells #[.slice ad n cap] 46 (0, 0)) :: (mg ++ (Mp ++ []))))))) (by rintro k ⟨ad, n, cap, mg⟩ Mp; first | rfl | simp) (fun _ _ => top) (fun k ⟨ad, n, cap, mg⟩ => Sl fWt 32 3 w.heap.size ((LF L key).take k) (.slice ad n cap) mg) (fun ⟨⟩ => []) (fun _ => top) (fun c ⟨⟩ => False) (none, 0, 0, []) rfl (fun _ h => h) (Sl.nil _ _ _ _) (by kernel_rfl) (by intro k av hav; obtain ⟨x, hx, rfl⟩ := ofA_inv hav; rfl) (.inl trivial) (fun k a w hm hc hg _ => hm.pick (tF c1 (some ⟨b, 0, none⟩) :: kF c2 key :: m)) (fun _ _ _ _ => gl_top _) (fun _ _ _ => gl_top _) (fun k x hx => mm_cons rfl (mm_cons rfl (mm_app hT.wlk (mm_cons rfl (mm_app hwkr (mm_cons rfl (mm_app hx.wlk mm_nil))))))) (fun c z _ => by ((repeat (refine mm_cons rfl ?_)); exact fun p hp => .inl (by first | exact hp | (simp at hp; done) | (simp [hp]; done) | (simp at hp ⊢; first | exact .inl hp | exact hp | (simp [hp]; done))))) ?_ ?_ ?_ ?_
 ·
  rintro k av ⟨ad, n, cap, mg⟩ l D rc n1 W1 Mp hD hll hput hrc hav hg
  change wpM _ _ _ _ _ _ _ ((l, Obj.loop rc) :: ([(D, Obj.deferred (some []))] ++ (tF c1 (some ⟨b, 0, none⟩) :: kF c2 key :: (m ++ (rtC b2 most each ad2 n2 cap2 :: (ms2 ++ ((b7, .cells #[.slice ad n cap] 46 (0, 0)) :: (mg ++ (Mp ++ []))))))))) _ _ _
  obtain ⟨x, hx, rfl⟩ := ofA_inv hav; have hkl : k < (LF L key).length := (List.getElem?_eq_some_iff.1 hx).1; have hcl := cnt_le L key; have hgl := hg.len; rw [List.length_take] at hgl; have hcu : cntL L key = (LF L key).length := rfl; have htk : ((LF L key).take k).length = k := (by rw [List.length_take]; omega)
  refine wpM.region ?_
  refine LM.alloc Try.zeroValue32 rfl (fun b8 hb8 => ?_)
  refine LM.stW Try.sizeOf32 rfl rfl rfl rfl au7 au8 ?_
  refine LM.nil (QM.sub (e' := [(7, _), (8, _)]) au9 ?_)
  refine QM.toBodyF (hput k ⟨ad, n, cap, mg⟩) hll ?_
  refine wpM.block ?_
  refine wpM.region ?_
  refine LM.rd (om_ld Try.isAgg46 rfl rfl) ?_
  refine LM.rd (om_ldW Try.isAgg32 Try.sizeOf32 rfl rfl) ?_
  refine LM.single Try.underlying46 Try.sizeOf32 Try.zeroValue32 rfl rfl rfl rfl rfl (fun b18 hb18 => ?_)
  refine LM.app (a := x) Try.underlying46 Try.typeInfo32 rfl rfl rfl rfl rfl rfl rfl (by assumption) (by rfl) (by intro _; rfl) (by intro _ u hu; simp [fWt] at hu; (repeat (first | (rcases hu with rfl | hu) | subst hu | rfl))) (by first | exact Nat.le_refl _ | omega) au10 (by first | omega | (unfold maxLen; omega)) (by simp only [Try.t32]; omega) (fun ad19 n19 cap19 m19 hn19 hs19 hin19 => ?_)
  refine LM.st Try.sizeOf46 rfl rfl rfl au5 rfl au8 ?_
  refine LM.nil (QM.sub (e' := []) trivial ?_)
  refine QM.block_normal ?_
  refine QM.next (ad19, n19, cap19, m19) (SubM.mem au1) (fun _ h => h) ?_
  · rw [show (LF L key).take (k + 1) = (LF L key).take k ++ [x] by rw [List.take_succ_eq_append_getElem hkl]; rw [List.getElem?_eq_getElem hkl] at hx; rw [Option.some.inj hx]]; exact hs19
 ·
  rintro ⟨ad, n, cap, mg⟩ D0 hD0 hg
  dsimp only
  rw [show (ofA (LF L key)).length = (LF L key).length from ofA_len _, List.take_length] at hg; have hgl := hg.len; have hcl := cnt_le L key; have hcu : cntL L key = (LF L key).length := rfl
  refine QM.sub (e' := [(1, _), (2, _), (7, _)]) au9 ?_
  refine QM.block_normal ?_
  refine QM.then (wpM.seq (wpM.region ?_))
  refine LM.as rfl ?_
  refine LM.nil (QM.sub (e' := [(1, _), (2, _), (7, _), (9, _)]) au9 (QM.then ?_))
  refine wpM.seq ?_
  refine wpM.seq (wpM.region ?_)
  refine LM.mv rfl ?_
  refine LM.val (ov_nilCheck rfl) ?_
  refine LM.val (ov_field Try.underlying48 rfl Try.sizeOf46 rfl (k := 2) rfl rfl) ?_
  refine LM.rd (om_ld Try.isAgg46 rfl rfl) ?_
  refine LM.val (ov_len Try.underlying46 rfl) ?_
  refine LM.mv rfl ?_
  refine LM.nil (QM.sub (e' := [(2, _), (7, _), (9, _), (23, _), (24, _), (25, _)]) au9 (QM.then ?_))
  refine wpM.block ?_
  refine wpM.loopK0 (α := Nat) (fun i => [(9, .int .i64 (cntL (L.take i) key : Nat)), (25, .int .i64 (i : Nat))]) [(2, _), (7, _), (23, _), (24, _)] (fun i => (D0, Obj.deferred (some [])) :: rtC b2 most each ad2 n2 cap2 :: (ms2 ++ ((b7, .cells #[.slice ad n cap] 46 (0, 0)) :: (mg ++ [])))) (fun i => i ≤ L.length) (fun i => L.length - i) (0) ⟨(by first | rfl | exact lk rfl (cst_t (by omega) (Classical.not_not.1 h2)) | exact lk rfl (cst_f (by omega) h2)), au2, rfl, rfl, rfl, rfl, trivial⟩ au1 (Nat.zero_le _) ?_
  rintro i hi
  change wpM _ _ _ _ _ _ _ ((D0, Obj.deferred (some [])) :: rtC b2 most each ad2 n2 cap2 :: (ms2 ++ ((b7, .cells #[.slice ad n cap] 46 (0, 0)) :: (mg ++ [])))) _ _ _
  have hct := cnt_le (L.take i) key; rw [List.length_take] at hct
  refine wpM.seq (wpM.region ?_)
  refine LM.val (ov_lss rfl rfl) ?_
  refine LM.nil (QM.sub (e' := [(2, _), (7, _), (9, _), (23, _), (24, _), (25, _), (26, _)]) au9 (QM.then ?_))
  refine wpM.seq ?_
  refine wpM.condD rfl (fun h1 => ?_) (fun h1 => ?_)
  ·
   refine wpM.skip ?_
   refine QM.then ?_
   refine wpM.seq ?_
   refine wpM.block ?_
   refine wpM.seq (wpM.region ?_)
   refine LM.val (ov_idxSN au6 Try.underlying46 Try.sizeOf32 rfl rfl (by omega)) ?_
   refine LM.rd (om_slA (by assumption) (by intro _; rfl) Try.isAgg32 Try.sizeOf32 rfl au3) ?_
   refine LM.alloc Try.zeroValue32 rfl (fun b11 hb11 => ?_)
   refine LM.stW Try.sizeOf32 rfl rfl rfl rfl au7 au8 ?_
   refine LM.nil (QM.sub (e' := [(2, _), (7, _), (9, _), (11, _), (23, _), (24, _), (25, _)]) au9 (QM.then ?_))
   refine wpM.seq ?_
   refine wpM.seq (wpM.region ?_)
   refine LM.val (ov_field Try.underlying32 rfl Try.sizeOf3 rfl (k := 1) rfl rfl) ?_
   refine LM.rd (om_ld Try.isAgg3 rfl rfl) ?_
   refine LM.mv rfl ?_
   refine LM.val (ov_neq rfl rfl) ?_
   refine LM.nil (QM.sub (e' := [(2, _), (7, _), (9, _), (11, _), (23, _), (24, _), (25, _), (32, _)]) au9 (QM.then ?_))
   refine wpM.condD rfl (fun h2 => ?_) (fun h2 => ?_)
   ·
    refine wpM.exit ?_
    refine QM.then_exit ?_
    refine QM.block_hit ?_
    refine QM.then (wpM.region ?_)
    refine LM.val (ov_add64 rfl rfl (by omega)) ?_
    refine LM.mv rfl ?_
    refine LM.nil (QM.sub (e' := [(2, _), (7, _), (9, _), (23, _), (24, _), (25, _)]) au9 ?_)
    refine QM.againK (i + 1) ⟨(by first | rfl | exact lk rfl (cst_t (by omega) (Classical.not_not.1 h2)) | exact lk rfl (cst_f (by omega) h2)), au2, rfl, rfl, rfl, rfl, trivial⟩ au1 (fun _ h => h) ?_ ?_
    · omega
    · omega
   have hLA := LF_at (by omega) (Classical.not_not.1 h2)
   refine wpM.skip ?_
   refine QM.then ?_
   refine wpM.seq ?_
   refine wpM.seq ?_
   refine wpM.draw [(0, 0), (1, 1), (2, 0), (3, 0), (4, 0), (5, 1), (6, 0), (7, 0), (8, 1), (9, 1), (10, 0), (11, 0)] (by kernel_rfl) (by kernel_rfl) ?_
   refine LD.val rfl rfl (ov_move rfl) ?_
   refine LD.rd rfl rfl (om_ld Try.isAgg46 rfl rfl) ?_
   refine LD.val rfl rfl (ov_len Try.underlying46 rfl) ?_
   refine LD.val rfl rfl (ov_geq rfl rfl) ?_
   refine LD.val rfl rfl (ov_move rfl) ?_
   refine LD.splitD (t := 37) rfl (fun h3 => ?_) (fun h3 => ?_)
   ·
    omega
   refine LD.rd rfl ⟨37, _, rfl, rfl, rfl⟩ (om_ld Try.isAgg46 rfl rfl) ?_
   refine LD.val rfl ⟨37, _, rfl, rfl, rfl⟩ (ov_move rfl) ?_
   refine LD.val rfl ⟨37, _, rfl, rfl, rfl⟩ (ov_idxSN au6 Try.underlying46 Try.sizeOf32 rfl rfl (by omega)) ?_
   refine LD.rd rfl ⟨37, _, rfl, rfl, rfl⟩ (om_slA (by assumption) (by intro _; rfl) Try.isAgg32 Try.sizeOf32 rfl au3) ?_
   refine LD.rd rfl ⟨37, _, rfl, rfl, rfl⟩ (om_ldW Try.isAgg32 Try.sizeOf32 rfl rfl) ?_
   refine LD.val rfl ⟨37, _, rfl, rfl, rfl⟩ (ov_aneq Try.underlying32 (by kernel_rfl) (by kernel_rfl) (by decide) rfl rfl (by rfl) ⟨(by first | rfl | trivial), (by first | rfl | trivial), (by first | rfl | trivial), trivial⟩) ?_
   refine LD.val rfl rfl (ov_pickF rfl rfl) ?_
   refine LD.nil ?_
   refine QM.sub (e' := [(2, _), (7, _), (9, _), (23, _), (24, _), (25, _), (44, _)]) au9 (QM.then ?_)
   first | refine wpM.condD rfl (fun h4 => ?_) (fun h4 => ?_) | refine wpM.condB rfl (fun h4 => ?_) (fun h4 => ?_)
   ·
    exact absurd h4 (by have e := hLA.2; unfold wg at e; rw [e, fWt_eq]; decide)
   refine wpM.skip ?_
   refine QM.then (wpM.region ?_)
   refine LM.mv rfl ?_
   refine LM.val (ov_add64 rfl rfl (by omega)) ?_
   refine LM.as rfl ?_
   refine LM.nil (QM.sub (e' := [(2, _), (7, _), (9, _), (23, _), (24, _), (25, _)]) au9 ?_)
   refine QM.block_normal ?_
   refine QM.then (wpM.region ?_)
   refine LM.val (ov_add64 rfl rfl (by omega)) ?_
   refine LM.mv rfl ?_
   refine LM.nil (QM.sub (e' := [(2, _), (7, _), (9, _), (23, _), (24, _), (25, _)]) au9 ?_)
   refine QM.againK (i + 1) ⟨(by first | rfl | exact lk rfl (cst_t (by omega) (Classical.not_not.1 h2)) | exact lk rfl (cst_f (by omega) h2)), au2, rfl, rfl, rfl, rfl, trivial⟩ au1 (fun _ h => h) ?_ ?_
   · omega
   · omega
  refine wpM.exit ?_
  refine QM.then_exit ?_
  refine QM.then_exit ?_
  refine QM.block_hit ?_
  refine QM.then (wpM.seq (wpM.region ?_))
  refine LM.mv rfl ?_
  refine LM.rd (om_ld Try.isAgg46 rfl rfl) ?_
  refine LM.val (ov_len Try.underlying46 rfl) ?_
  refine LM.val (ov_eql rfl rfl) ?_
  refine LM.as rfl ?_
  refine LM.nil (QM.sub (e' := [(6, _)]) ⟨rfl, trivial⟩ (QM.then ?_))
  refine wpM.ret ?_
  refine QM.leaveDF (ds := [D0]) (.inl rfl) [.tmp 6] Try.results39 rfl (fun D h => by simp only [List.mem_cons, List.not_mem_nil, or_false] at h; omega) ?_
  intro w' hm' hc'
  refine ⟨?_, hc'⟩; rw [show i = L.length by omega, List.take_length, hcu]; show Value.bool (decide _) = _; rw [decide_eq_true (by omega)]
 ·
  rintro ⟨⟩ D0 hD0 hx
  exact hx.elim
 rintro id ⟨⟩ D0 hD0 hx
 exact hx.elim
end Go.Eng
namespace Go.Eng
open Go Go.Proofs Go.RowKit
set_option maxRecDepth 100000 in
theorem same_spec {most each : Int} {nT n0 T b b2 : Nat} {L : List Wt} {m m2 : Mem0} {xs : List Int} {ad : Option Addr} {n cap : Nat} (w : World) (hT : TbM most each nT T L b m) (hR : RtM most each n0 L b2 m2) (hn : n = xs.length) (hlx : xs.length ≤ 100000) (hx : Sr fI 1 xs (.slice ad n cap) w) (hM : Mem w (m ++ m2)) : Ret Try.prog 20 #[.pointer (some ⟨b, 0, none⟩), .pointer (some ⟨b2, 0, none⟩), .slice ad n cap] w (fun u w' => u = .bool true ∧ Ext w w') := by
 have hR0 := hR; obtain ⟨ad2, n2, cap2, ms2, rfl, hn2, hs2, hb2⟩ := hR; have hlim := hT.lim
 refine Ret.enterM (l := [.pointer (some ⟨b, 0, none⟩), .pointer (some ⟨b2, 0, none⟩), .slice ad n cap]) Try.func20 rfl Try.ntmps20 rfl (m ++ (rtC b2 most each ad2 n2 cap2 :: (ms2 ++ []))) (no) (by rw [List.append_nil]; exact hM) ?_
 refine wpM.seq (wpM.region ?_)
 refine LM.as rfl ?_
 refine LM.nil (QM.sub (e' := [(0, _), (1, _), (2, _)]) au9 (QM.then ?_))
 refine wpM.seq ?_
 refine wpM.seq ?_
 refine wpM.keep (m ++ (rtC b2 most each ad2 n2 cap2 :: (ms2 ++ []))) (fun _ => True) (.one 0 0 (.one 2 0 (.one 3 0 (.one 4 0 (.one 5 1 (.one 6 0 (.one 1 2 (.one 7 0 .nil)))))))) (by kernel_rfl) (by kernel_rfl) au1 (fun _ _ => trivial) ?_
 refine KD.val rfl rfl (ov_move rfl) ?_
 refine KD.val rfl rfl (ov_move rfl) ?_
 refine KD.val rfl rfl (ov_nilCheck rfl) ?_
 refine KD.val rfl rfl (ov_field Try.underlying48 rfl Try.sizeOf46 rfl (k := 2) rfl rfl) ?_
 refine KD.rd rfl rfl (om_ld Try.isAgg46 rfl rfl) ?_
 refine KD.val rfl rfl (ov_len Try.underlying46 rfl) ?_
 refine KD.one rfl ?_
 refine LM.callE (oc_call (enters_fn Try.func23 (by kernel_rfl) rfl) rfl) (fun w hm hc hg => tlen_spec w hT (hm.pick m)) ?_
 refine LM.nil ?_
 refine QM.one au1 (fun _ _ => trivial) ?_
 refine KD.val rfl rfl (ov_neq rfl rfl) ?_
 refine KD.nil ?_
 refine QM.sub (e' := [(0, _), (1, _), (2, _), (16, _)]) au9 (QM.then ?_)
 refine wpM.condD rfl (fun h1 => ?_) (fun h1 => ?_)
 ·
  omega
 refine wpM.skip ?_
 refine QM.then ?_
 refine wpM.seq ?_
 refine wpM.seq (wpM.region ?_)
 refine LM.mv rfl ?_
 refine LM.val (ov_len Try.underlying29 rfl) ?_
 refine LM.mv rfl ?_
 refine LM.nil (QM.sub (e' := [(0, _), (1, _), (17, _), (18, _), (19, _)]) au9 (QM.then ?_))
 refine wpM.block ?_
 refine wpM.loopK0 (α := Nat) (fun i => [(19, .int .i64 (i : Nat))]) [(0, _), (1, _), (17, _), (18, _)] (fun i => m ++ (rtC b2 most each ad2 n2 cap2 :: (ms2 ++ []))) (fun i => i ≤ xs.length) (fun i => xs.length - i) (0) ⟨au2, rfl, rfl, rfl, rfl, trivial⟩ au1 (Nat.zero_le _) ?_
 rintro i hi
 change wpM _ _ _ _ _ _ _ (m ++ (rtC b2 most each ad2 n2 cap2 :: (ms2 ++ []))) _ _ _
 refine wpM.seq (wpM.region ?_)
 refine LM.val (ov_lss rfl rfl) ?_
 refine LM.nil (QM.sub (e' := [(0, _), (1, _), (17, _), (18, _), (19, _), (20, _)]) au9 (QM.then ?_))
 refine wpM.seq ?_
 refine wpM.condD rfl (fun h2 => ?_) (fun h2 => ?_)
 ·
  refine wpM.skip ?_
  refine QM.then ?_
  refine wpM.seq ?_
  refine wpM.block ?_
  refine wpM.seq (wpM.region ?_)
  refine LM.val (ov_idxSN au6 Try.underlying29 Try.sizeOf3 rfl rfl (by omega)) ?_
  first | refine LM.rd (om_sl1 (by assumption) (by intro _; rfl) Try.isAgg3 rfl rfl (by exact getq 0 au4) (by rfl)) ?_ | refine LM.rdC (om_sr1 (by assumption) Try.isAgg3 rfl rfl (by exact getq 0 au4) (by rfl) id) ?_ | refine LM.rd (om_ld Try.isAgg3 rfl rfl) ?_
  refine LM.as rfl ?_
  refine LM.nil (QM.sub (e' := [(0, _), (1, _), (8, _), (17, _), (18, _), (19, _)]) au9 (QM.then (wpM.seq (wpM.region ?_))))
  refine LM.mv rfl (LM.mv rfl ?_)
  refine LM.callE (oc_call (enters_fn Try.func24 (by kernel_rfl) rfl) rfl) (fun w hm hc hg => tcount_spec (xs.getD i 0) w hT (hm.pick m)) ?_
  refine LM.mv rfl (LM.mv rfl ?_)
  refine LM.callE (oc_call (enters_fn Try.func30 (by kernel_rfl) rfl) rfl) (fun w hm hc hg => rCount_spec (xs.getD i 0) w hR0 (by omega) (hm.pick (rtC b2 most each ad2 n2 cap2 :: ms2))) ?_
  refine LM.val (ov_neq rfl rfl) ?_
  refine LM.mv rfl ?_
  refine LM.splitD (t := 30) rfl (fun h3 => ?_) (fun h3 => ?_)
  ·
   exact absurd rfl h3
  refine LM.sp 30 rfl rfl rfl (LM.mv rfl (LM.sp 30 rfl rfl rfl (LM.mv rfl (LM.sp 30 rfl rfl rfl (LM.mv rfl ?_)))))
  refine LM.sp 30 rfl rfl rfl ?_
  refine LM.callE (oc_call (enters_fn Try.func39 (by kernel_rfl) rfl) rfl) (fun w hm hc hg => sameKey_spec (xs.getD i 0) w hT hR0 (by have h9 := hm.pick m; have h8 := SubM.mem (M' := m ++ (rtC b2 most each ad2 n2 cap2 :: (ms2 ++ []))) au1 w hm; rw [List.append_nil] at h8; exact h8)) ?_
  refine LM.sp 30 rfl rfl rfl ?_
  first | refine LM.val (ov_notD rfl) ?_ | refine LM.val (ov_not rfl) ?_
  refine LM.val (ov_pickF rfl rfl) ?_
  refine LM.nil (QM.sub (e' := [(0, _), (1, _), (17, _), (18, _), (19, _), (36, _)]) au9 (QM.then ?_))
  first | refine wpM.condD rfl (fun h4 => ?_) (fun h4 => ?_) | refine wpM.condB rfl (fun h4 => ?_) (fun h4 => ?_)
  ·
   cases h4
  refine wpM.skip ?_
  refine QM.block_normal ?_
  refine QM.then (wpM.region ?_)
  refine LM.val (ov_add64 rfl rfl (by omega)) ?_
  refine LM.mv rfl ?_
  refine LM.nil (QM.sub (e' := [(0, _), (1, _), (17, _), (18, _), (19, _)]) au9 ?_)
  refine QM.againK (i + 1) ⟨au2, rfl, rfl, rfl, rfl, trivial⟩ au1 (fun _ h => h) ?_ ?_
  · omega
  · omega
 refine wpM.exit ?_
 refine QM.then_exit ?_
 refine QM.then_exit ?_
 refine QM.block_hit ?_
 refine QM.then (wpM.seq (wpM.region ?_))
 refine LM.as rfl ?_
 refine LM.nil (QM.sub (e' := [(6, _)]) ⟨rfl, trivial⟩ (QM.then ?_))
 refine wpM.ret ?_
 refine QM.leave (.inl rfl) [.tmp 6] Try.results20 rfl ?_
 intro w' hm' hc' hg'
 exact ⟨rfl, hc'⟩
end Go.Eng
namespace Go.Eng
open Go Go.Proofs Go.RowKit
abbrev rF (c b : Nat) : Nat × Obj := (c, .cells #[.pointer (some ⟨b, 0, none⟩)] 27 (0, 0))
abbrev iF (c : Nat) (i : Int) : Nat × Obj := (c, .cells #[.int .i64 i] 3 (0, 0))
abbrev bF (c : Nat) (x : Bool) : Nat × Obj := (c, .cells #[.bool x] 4 (0, 0))
def BoM (most each : Int) (nT n0 T b b2 : Nat) (L : List Wt) (m : Mem0) : Prop := ∃ mt mr, m = mt ++ mr ∧ TbM most each nT T L b mt ∧ RtM most each n0 L b2 mr
theorem exp_leaf {most each : Int} {nT n0 T b b2 bh k c1 c2 : Nat} {now : BitVec 64} {L : List Wt} {S : List Hi} {m m2 Mp mr1 M : Mem0} {u0 : Value} {w w' : World} (hE : ExT most each nT T b bh L S k Mp) (hH : TbH (exL L (S.take k)) (S.drop k)) (hr : RtM most each n0 (exL L (S.take k)) b2 mr1)
    (hin : ∀ p ∈ Mp, (w.heap.size ≤ p.1 ∨ ∃ q ∈ tF c1 (some ⟨b, 0, none⟩) :: uF c2 now :: m, q.1 = p.1) ∧ wlk p.2 = false) (hc1 : w.heap.size ≤ c1) (hc2 : w.heap.size ≤ c2) (hin2 : inn m2 w.heap.size mr1) (hm : Mem w' M) (hs : SubM M (Mp ++ (mr1 ++ []))) (hc : Chg (inM (m ++ m2)) w w') :
    Upd (m ++ m2) (fun u m' => u = u0 ∧ ∃ L', BoM most each nT n0 T b b2 L' m') w u0 w' := by
  obtain ⟨mq, mh, rest, h1, h2, h3⟩ := hE
  rw [List.append_nil] at hs
  have hM : Mem w' ((mq ++ mh) ++ mr1) := by
    have h4 := hs.mem w' hm
    have h5 : (Mp ++ mr1).Perm (((mq ++ mh) ++ mr1) ++ rest) := (h3.append_right mr1).trans (by
      rw [List.append_assoc (mq ++ mh), List.append_assoc (mq ++ mh)]
      exact List.perm_append_comm.append_left _)
    exact (h4.perm h5).sub (List.sublist_append_left ..)
  refine ⟨hc, _, ⟨rfl, _, mq ++ mh, mr1, rfl, ⟨bh, _, mq, mh, rfl, h1, h2, hH⟩, hr⟩, hM, fun p hp => ?_⟩
  rcases List.mem_append.1 hp with hp | hp
  · have hp' : p ∈ Mp := h3.mem_iff.2 (List.mem_append_left _ hp)
    rcases (hin p hp').1 with q | ⟨q, hq, e⟩
    · exact .inl q
    · rcases List.mem_cons.1 hq with rfl | hq
      · left; rw [← e]; exact hc1
      · rcases List.mem_cons.1 hq with rfl | hq
        · left; rw [← e]; exact hc2
        · exact .inr ⟨q, List.mem_append_left _ hq, e⟩
  · exact (hin2 p hp).imp id (fun ⟨q, hq, e⟩ => ⟨q, List.mem_append_right _ hq, e⟩)
set_option maxRecDepth 100000 in
theorem lexpire_spec {most each : Int} {nT n0 T b b2 : Nat} {L : List Wt} {m m2 : Mem0} (now : BitVec 64) (mo : Int) (w : World) (hT : TbM most each nT T L b m) (hR : RtM most each n0 L b2 m2) (hmo : 0 ≤ mo ∧ mo ≤ 1000) (hn0 : n0 ≤ w.heap.size) (hM : Mem w (m ++ m2)) : Ret Try.prog 18 #[.pointer (some ⟨b, 0, none⟩), .pointer (some ⟨b2, 0, none⟩), U now, .int .i64 mo] w (Upd (m ++ m2) (fun u m' => u = .bool true ∧ ∃ L', BoM most each nT n0 T b b2 L' m') w) := by
 have hlim := hT.lim; obtain ⟨bh, S, mq, mh, rfl, hq, hS, hH⟩ := hT; have hwd := hlim.2.2.2; have hids := hS.ids; have hsrt := hS.srt
 refine Ret.enterM (l := [.pointer (some ⟨b, 0, none⟩), .pointer (some ⟨b2, 0, none⟩), U now, .int .i64 mo]) Try.func18 rfl Try.ntmps18 rfl (mq ++ (mh ++ (m2 ++ []))) (inM ((mq ++ mh) ++ m2)) (by rw [List.append_nil, ← List.append_assoc]; exact hM) ?_
 refine wpM.seq (wpM.region ?_)
 refine LM.box rfl rfl (fun b5 hb5 => ?_)
 refine LM.box rfl rfl (fun b6 hb6 => ?_)
 refine LM.box rfl rfl (fun b7 hb7 => ?_)
 refine LM.as rfl ?_
 refine LM.nil (QM.sub (e' := [(0, _), (5, _), (6, _), (7, _)]) au9 (QM.then (wpM.seq (wpM.region ?_))))
 refine LM.alloc Try.zeroValue3 rfl (fun b9 hb9 => ?_)
 refine LM.st Try.sizeOf3 rfl rfl rfl au5 rfl au8 ?_
 refine LM.nil (QM.sub (e' := [(0, _), (5, _), (6, _), (7, _), (9, _)]) au9 (QM.then (wpM.seq (wpM.region ?_))))
 refine LM.alloc Try.zeroValue4 rfl (fun b10 hb10 => ?_)
 refine LM.st Try.sizeOf4 rfl rfl rfl au5 rfl au8 ?_
 refine LM.nil (QM.sub (e' := [(0, _), (5, _), (6, _), (7, _), (9, _), (10, _)]) au9 (QM.then ?_))
 refine wpM.seq ?_
 refine wpM.seq (wpM.region ?_)
 refine LM.mv rfl ?_
 refine LM.rd (om_ld Try.isAgg30 rfl rfl) ?_
 refine LM.callT (oc_call (enters_fn Try.func21 (by kernel_rfl) rfl) rfl) ExA.mono (fun w hm hc hg => expire_spec (some ⟨b, 0, none⟩) now w) ?_
 rintro u15 m15 ⟨c1, c2, rfl, rfl, hc1, hc2⟩ -
 refine LM.nil (QM.sub (e' := [(5, _), (6, _), (7, _), (9, _), (10, _), (15, _)]) au9 (QM.then ?_))
 refine wpM.block ?_
 refine wpM.toRange (α := Mem0) (fun k mr1 => rF b5 b2 :: uF b6 now :: iF b7 mo :: iF b9 (k : Nat) :: bF b10 true :: (mr1 ++ (tF c1 (some ⟨b, 0, none⟩) :: uF c2 now :: (mq ++ mh) ++ []))) (m2) au1 ?_
 refine wpM.rangeS (α := Mem0) (β := Mem0 × Mem0 × Nat) (enters_fn Try.func40 (by kernel_rfl) rfl) rfl (expire_seq (c1 := c1) (c2 := c2) (u := now) hq hS hH) (fun k mr1 Mp => rF b5 b2 :: uF b6 now :: iF b7 mo :: iF b9 (k : Nat) :: bF b10 true :: (mr1 ++ (Mp ++ []))) (by rintro k mr1 Mp; first | rfl | simp) (fun k mr1 Mp => top) (fun k mr1 => RtM most each n0 (exL L (S.take k)) b2 mr1 ∧ inn m2 w.heap.size mr1 ∧ (k : Int) ≤ mo) (fun ⟨mx, Mx, k1⟩ => rF b5 b2 :: uF b6 now :: iF b7 mo :: iF b9 ((k1 : Nat) + 1) :: bF b10 true :: (mx ++ (Mx ++ []))) (fun _ => top) (fun c ⟨mx, Mx, k1⟩ => c = .exit 0 ∧ RtM most each n0 (exL L (S.take (k1 + 1))) b2 mx ∧ ExT most each nT T b bh L S (k1 + 1) Mx ∧ (∀ p ∈ Mx, (w.heap.size ≤ p.1 ∨ ∃ q ∈ tF c1 (some ⟨b, 0, none⟩) :: uF c2 now :: (mq ++ mh), q.1 = p.1) ∧ wlk p.2 = false) ∧ inn m2 w.heap.size mx ∧ mo < (k1 : Int) + 1 ∧ mo ≤ 1000 ∧ (k1 : Int) ≤ mo) m2 rfl (fun _ h => h) ⟨hR, inn_refl _ _, hmo.1⟩ (by kernel_rfl) (by intro k av hav; obtain ⟨hkd, rfl⟩ := exA_inv hav; rfl) (by intro p hp; simp only [List.mem_cons, List.mem_append] at hp; rcases hp with rfl | rfl | hp | hp; rfl; rfl; exact hq.wlk p hp; exact hS.wlk p hp) (by intro p hp hlt; simp only [List.mem_cons] at hp; rcases hp with rfl | rfl | hp; exact absurd hlt (Nat.not_lt_of_le hc1); exact absurd hlt (Nat.not_lt_of_le hc2); exact ⟨p, List.mem_append_left _ hp, rfl⟩) (.inl trivial) (fun _ _ _ _ _ _ _ _ => trivial) (fun _ _ _ _ _ _ _ _ _ _ _ _ _ => trivial) (fun _ _ _ _ _ => gl_top _) (fun _ _ _ => gl_top _) (fun k x hx => mm_cons rfl (mm_cons rfl (mm_cons rfl (mm_cons rfl (mm_cons rfl (mm_app hx.1.wlk mm_nil)))))) (fun c z hz => mm_cons rfl (mm_cons rfl (mm_cons rfl (mm_cons rfl (mm_cons rfl (mm_app hz.2.1.wlk (mm_app (fun p hp => (hz.2.2.2.1 p hp).2) mm_nil))))))) ?_ ?_ ?_ ?_
 ·
  rintro k av mr1 l D rc n1 W1 Mp hnn hD hll hput hrc hav hT hin ⟨hr1, hinr, hkm⟩
  change wpM _ _ _ _ _ _ _ ((l, Obj.loop rc) :: ([(D, Obj.deferred (some []))] ++ (rF b5 b2 :: uF b6 now :: iF b7 mo :: iF b9 (k : Nat) :: bF b10 true :: (mr1 ++ (Mp ++ []))))) _ _ _
  obtain ⟨hkd, rfl⟩ := exA_inv hav
  refine wpM.region ?_
  refine LM.alloc Try.zeroValue32 rfl (fun b11 hb11 => ?_)
  refine LM.stW Try.sizeOf32 rfl rfl rfl rfl au7 au8 ?_
  refine LM.nil (QM.sub (e' := [(5, _), (6, _), (7, _), (9, _), (10, _), (11, _)]) au9 ?_)
  refine QM.toBodyF (hput k mr1 Mp) hll ?_
  refine wpM.block ?_
  refine wpM.seq (wpM.region ?_)
  have hr0 := hr1; obtain ⟨ad1, n1, cap1, ms1, rfl, hn1, hs1, hb1⟩ := hr1; obtain ⟨i, hi, hdi, hwi⟩ := due_k hH hwd hids hsrt hkd
  refine LM.rd (om_ld Try.isAgg27 rfl rfl) ?_
  refine LM.rd (om_ld Try.isAgg30 rfl rfl) ?_
  refine LM.callE (oc_call (enters_fn Try.func36 (by kernel_rfl) rfl) rfl) (fun w hm hc hg => rDue_spec now w hr0 (by have := exL_len L (S.take k); omega) (hm.pick (rtC b2 most each ad1 n1 cap1 :: ms1))) ?_
  rw [hdi]
  refine LM.as rfl ?_
  refine LM.nil (QM.sub (e' := [(5, _), (6, _), (7, _), (9, _), (10, _), (11, _), (12, _)]) au9 (QM.then ?_))
  refine wpM.seq ?_
  refine wpM.keep (rtC b2 most each ad1 n1 cap1 :: (ms1 ++ (bF b10 true :: (b11, .cells (fWt (exW L (sd S k).id)).toArray 32 (0, 0)) :: rF b5 b2 :: []))) (fun _ => True) (.one 0 1 (.one 1 0 (.one 2 0 (.one 3 0 (.one 4 0 (.one 5 0 (.one 6 1 (.one 7 0 (.one 8 0 (.one 9 1 (.one 10 0 (.one 11 0 (.one 12 1 (.one 13 1 (.one 14 0 (.one 15 0 (.last 16))))))))))))))))) (by kernel_rfl) (by kernel_rfl) au1 (fun _ _ => trivial) ?_
  refine KD.rd rfl rfl (om_ld Try.isAgg4 rfl rfl) ?_
  refine KD.val rfl rfl (ov_move rfl) ?_
  first | refine KD.splitD (t := 21) rfl (fun h1 => ?_) (fun h1 => ?_) | refine KD.splitB (t := 21) rfl (fun h1 => ?_) (fun h1 => ?_)
  ·
   refine KD.val rfl ⟨21, _, rfl, rfl, rfl⟩ (ov_move rfl) ?_
   refine KD.val rfl ⟨21, _, rfl, rfl, rfl⟩ (ov_geq rfl rfl) ?_
   refine KD.val rfl rfl (ov_pickT rfl rfl) ?_
   refine KD.val rfl rfl (ov_move rfl) ?_
   refine KD.splitD (t := 25) rfl (fun h2 => ?_) (fun h2 => ?_)
   ·
    refine KD.rd rfl ⟨25, _, rfl, rfl, rfl⟩ (om_ld Try.isAgg27 rfl rfl) ?_
    refine KD.val rfl ⟨25, _, rfl, rfl, rfl⟩ (ov_nilCheck rfl) ?_
    refine KD.val rfl ⟨25, _, rfl, rfl, rfl⟩ (ov_field Try.underlying48 rfl Try.sizeOf46 rfl (k := 2) rfl rfl) ?_
    refine KD.rd rfl ⟨25, _, rfl, rfl, rfl⟩ (om_ld Try.isAgg46 rfl rfl) ?_
    refine KD.val rfl ⟨25, _, rfl, rfl, rfl⟩ (ov_move rfl) ?_
    refine KD.val rfl ⟨25, _, rfl, rfl, rfl⟩ (ov_idxSN au6 Try.underlying46 Try.sizeOf32 rfl rfl (by omega)) ?_
    refine KD.rd rfl ⟨25, _, rfl, rfl, rfl⟩ (om_slA (by assumption) (by intro _; rfl) Try.isAgg32 Try.sizeOf32 rfl au3) ?_
    refine KD.rd rfl ⟨25, _, rfl, rfl, rfl⟩ (om_ldW Try.isAgg32 Try.sizeOf32 rfl rfl) ?_
    refine KD.val rfl ⟨25, _, rfl, rfl, rfl⟩ (ov_aeql Try.underlying32 (by kernel_rfl) (by kernel_rfl) (by decide) rfl rfl (by rfl) ⟨(by first | rfl | trivial), (by first | rfl | trivial), (by first | rfl | trivial), trivial⟩) ?_
    rw [show veqs (fWt ((exL L (S.take k)).getD i default)) (fWt (exW L (sd S k).id)) = true by (have e := hwi; unfold wg at e; rw [e]; exact fWt_eq _)]
    refine KD.val rfl rfl (ov_pickT rfl rfl) ?_
    refine KD.last rfl ?_
    refine LM.st Try.sizeOf4 rfl rfl rfl au5 rfl au8 ?_
    refine LM.nil ?_
    refine QM.qn ?_
    refine QM.sub (e' := [(5, _), (6, _), (7, _), (9, _), (10, _), (12, _)]) au9 (QM.then ?_)
    refine wpM.seq ?_
    refine wpM.seq (wpM.region ?_)
    refine LM.mv rfl ?_
    refine LM.val (ov_geq rfl rfl) ?_
    refine LM.nil (QM.sub (e' := [(5, _), (6, _), (7, _), (9, _), (10, _), (12, _), (37, _)]) au9 (QM.then ?_))
    refine wpM.condD rfl (fun h3 => ?_) (fun h3 => ?_)
    ·
     refine wpM.region ?_
     refine LM.rd (om_ld Try.isAgg27 rfl rfl) ?_
     refine LM.mv rfl ?_
     refine LM.cU (oc_call (enters_fn Try.func15 (by kernel_rfl) rfl) rfl) (fun w hm hc hg => rTake_spec i w hr0 (by have := exL_len L (S.take k); omega) hi (Nat.le_trans hn0 hc.size) (hm.pick (rtC b2 most each ad1 n1 cap1 :: ms1))) hr0.wlk (inn_S (fun p hp => (hinr p hp).imp id (fun ⟨q, hq, e⟩ => ⟨q, List.mem_append_right _ hq, e⟩)) inM_in) ?_
     rintro u40 m40 ⟨rfl, h40⟩ hin40; have hwdk := exL_wd (l := S.take k) hwd; have h40' : RtM most each n0 (exL L (S.take (k + 1))) b2 m40 := (by have hkS : k < S.length := (by have := dueN_le now S; omega); rw [wg_rm hwdk hi, hwi, (ex_k hH hwd hids hkS).2.1, ← exL_succ hkS] at h40; exact h40)
     refine LM.nil (QM.sub (e' := [(5, _), (6, _), (7, _), (9, _), (10, _)]) au9 (QM.then (wpM.seq (wpM.region ?_))))
     refine LM.rd (om_ld Try.isAgg3 rfl rfl) ?_
     refine LM.val (ov_add64 rfl rfl (by omega)) ?_
     refine LM.st Try.sizeOf3 rfl rfl rfl au5 rfl au8 ?_
     refine LM.nil (QM.sub (e' := [(5, _), (6, _), (7, _), (9, _), (10, _)]) au9 (QM.then (wpM.seq (wpM.region ?_))))
     refine LM.rd (om_ld Try.isAgg3 rfl rfl) ?_
     refine LM.rd (om_ld Try.isAgg3 rfl rfl) ?_
     refine LM.val (ov_gtr rfl rfl) ?_
     refine LM.nil (QM.sub (e' := [(5, _), (6, _), (7, _), (9, _), (10, _), (45, _)]) au9 (QM.then ?_))
     refine wpM.condD rfl (fun h4 => ?_) (fun h4 => ?_)
     ·
      refine wpM.exit ?_
      refine QM.block_miss rfl ?_
      refine QM.rexit (⟨m40, Mp, k⟩) (SubM.mem au1) (fun _ h => h) ?_
      · exact ⟨rfl, h40', hT, hin, inn_trans hinr hin40, by omega, hmo.2, hkm⟩
     refine wpM.skip ?_
     refine QM.block_normal ?_
     refine QM.next (m40) (SubM.mem au1) (fun _ h => h) ?_
     · exact ⟨h40', inn_trans hinr hin40, by omega⟩
    omega
   omega
  cases h1
 ·
  rintro mr1 Mp D0 hD0 hT hin ⟨hr1, hinr, hkm⟩
  refine QM.sub (e' := [(5, _), (6, _), (7, _), (9, _), (10, _)]) au9 ?_
  refine QM.block_normal ?_
  refine QM.then (wpM.seq (wpM.region ?_))
  refine LM.rd (om_ld Try.isAgg4 rfl rfl) ?_
  refine LM.mv rfl ?_
  first | refine LM.splitD (t := 47) rfl (fun h5 => ?_) (fun h5 => ?_) | refine LM.splitB (t := 47) rfl (fun h5 => ?_) (fun h5 => ?_)
  ·
   refine LM.sp 47 rfl rfl rfl ?_
   refine LM.rd (om_ld Try.isAgg3 rfl rfl) ?_
   refine LM.sp 47 rfl rfl rfl ?_
   refine LM.rd (om_ld Try.isAgg3 rfl rfl) ?_
   refine LM.sp 47 rfl rfl rfl ?_
   refine LM.val (ov_gtr rfl rfl) ?_
   refine LM.sp 47 rfl rfl rfl (LM.mv rfl ?_)
   refine LM.splitD (t := 51) rfl (fun h6 => ?_) (fun h6 => ?_)
   ·
    omega
   refine LM.sp 51 rfl rfl rfl ?_
   refine LM.rd (om_ld Try.isAgg27 rfl rfl) ?_
   refine LM.sp 51 rfl rfl rfl ?_
   refine LM.rd (om_ld Try.isAgg30 rfl rfl) ?_
   refine LM.sp 51 rfl rfl rfl ?_
   refine LM.callE (oc_call (enters_fn Try.func36 (by kernel_rfl) rfl) rfl) (fun w hm hc hg => rDue_spec now w hr1 (by have := exL_len L (S.take (exA now L S).length); omega) (hm.pick mr1)) ?_
   refine LM.sp 51 rfl rfl rfl ?_
   refine LM.val (ov_lss rfl rfl) ?_
   refine LM.sp 47 rfl rfl rfl ?_
   refine LM.val (ov_pickF rfl rfl) ?_
   refine LM.val (ov_pickT rfl rfl) ?_
   refine LM.as rfl ?_
   refine LM.nil (QM.sub (e' := [(8, _)]) ⟨rfl, trivial⟩ (QM.then ?_))
   refine wpM.ret ?_
   refine QM.leaveDF (ds := [D0]) (.inl rfl) [.tmp 8] Try.results18 rfl (fun D h => by simp only [List.mem_cons, List.not_mem_nil, or_false] at h; omega) ?_
   intro w' hm' hc'
   have hde := due_end (now := now) hH hwd hids hsrt; show Upd _ _ w (Value.bool (decide (dueI now (exL L (S.take (exA now L S).length)) < 0))) w'; rw [exA_len, hde]; exact exp_leaf (c1 := c1) (c2 := c2) (now := now) (k := (exA now L S).length) hT (tbh_k hH hids _) hr1 hin hc1 hc2 hinr hm' (by (repeat' (first | exact SubM.nil _ | refine SubM.cons (by rfl) ?_ | refine SubM.app ?_))) hc'
  cases h5
 ·
  rintro ⟨mx, Mx, k1⟩ D0 hD0 hx
  first | exact hx.elim | cases hx.1
 rintro id ⟨mx, Mx, k1⟩ D0 hD0 hx
 obtain ⟨he, hxr, hxE, hxi, hxn, hxm, hxm2, hxm3⟩ := hx; cases he
 refine QM.block_hit ?_
 refine QM.then (wpM.seq (wpM.region ?_))
 refine LM.rd (om_ld Try.isAgg4 rfl rfl) ?_
 refine LM.mv rfl ?_
 first | refine LM.splitD (t := 47) rfl (fun h7 => ?_) (fun h7 => ?_) | refine LM.splitB (t := 47) rfl (fun h7 => ?_) (fun h7 => ?_)
 ·
  refine LM.sp 47 rfl rfl rfl ?_
  refine LM.rd (om_ld Try.isAgg3 rfl rfl) ?_
  refine LM.sp 47 rfl rfl rfl ?_
  refine LM.rd (om_ld Try.isAgg3 rfl rfl) ?_
  refine LM.sp 47 rfl rfl rfl ?_
  refine LM.val (ov_gtr rfl rfl) ?_
  refine LM.sp 47 rfl rfl rfl (LM.mv rfl ?_)
  refine LM.splitD (t := 51) rfl (fun h8 => ?_) (fun h8 => ?_)
  ·
   refine LM.dr 51 rfl rfl rfl (LM.dr 51 rfl rfl rfl (LM.dr 51 rfl rfl rfl (LM.dr 51 rfl rfl rfl (LM.sp 47 rfl rfl rfl ?_))))
   refine LM.val (ov_pickT rfl rfl) ?_
   refine LM.val (ov_pickT rfl rfl) ?_
   refine LM.as rfl ?_
   refine LM.nil (QM.sub (e' := [(8, _)]) ⟨rfl, trivial⟩ (QM.then ?_))
   refine wpM.ret ?_
   refine QM.leaveDF (ds := [D0]) (.inl rfl) [.tmp 8] Try.results18 rfl (fun D h => by simp only [List.mem_cons, List.not_mem_nil, or_false] at h; omega) ?_
   intro w' hm' hc'
   exact exp_leaf (c1 := c1) (c2 := c2) (now := now) (k := k1 + 1) hxE (tbh_k hH hids _) hxr hxi hc1 hc2 hxn hm' (by (repeat' (first | exact SubM.nil _ | refine SubM.cons (by rfl) ?_ | refine SubM.app ?_))) hc'
  omega
 cases h7
end Go.Eng
namespace Go.Eng
open Go Go.Proofs Go.RowKit
def awV (i : Nat) : Wt := ⟨((i : Nat) : Int) + 1, 7, BitVec.ofInt 64 (10 * (((i : Nat) : Int) + 1))⟩
def awL (i : Nat) : List Wt := (List.range i).map awV
theorem aw_E : ∀ {i : Nat}, i < 3 → wtE 9 9 (awL i) (awV i) = 0
  | 0, _ => by decide
  | 1, _ => by decide
  | 2, _ => by decide
theorem aw_L : ∀ {i : Nat}, i < 3 → wtL 9 9 (awL i) (awV i) = awL (i + 1)
  | 0, _ => by decide
  | 1, _ => by decide
  | 2, _ => by decide
theorem aw_W : wakeF 7 9 (rmW (awL 3) 2).length [] (rmW (awL 3) 2) = ([1, 3], []) := by decide
theorem newMost9 : newMost 9 = 9 := by decide
theorem twake_k {most each : Int} {n0 T b k : Nat} {L : List Wt} {m : Mem0} (key n : Int) (w : World) (h : TbM most each n0 T L b m) (hk : k ≤ w.heap.size) (hM : Mem w m) :
    Ret Try.prog 11 #[.pointer (some ⟨b, 0, none⟩), .int .i64 key, .int .i64 n] w (Upd m (WkT most each n0 T b k (wakeF key n L.length [] L)) w) :=
  (twake_spec key n w h hM).mono (fun u w' hU => hU.imp (fun u m' ⟨mo, mt, h1, h2, h3⟩ => ⟨mo, mt, h1.mono hk, h2, h3⟩))
theorem rWake_k {most each : Int} {n0 b k : Nat} {L : List Wt} {m : Mem0} (key n : Int) (w : World) (h : RtM most each n0 L b m) (hl : L.length ≤ 4096) (hwd : Wd1 L) (hn0 : n0 ≤ w.heap.size) (hk : k ≤ w.heap.size) (hM : Mem w m) :
    Ret Try.prog 12 #[.pointer (some ⟨b, 0, none⟩), .int .i64 key, .int .i64 n] w (Upd m (RkT most each n0 b k (wakeF key n L.length [] L)) w) :=
  (rWake_spec key n w h hl hwd hn0 hM).mono (fun u w' hU => hU.imp (fun u m' ⟨mo, mt, h1, h2, h3⟩ => ⟨mo, mt, h1.mono hk, h2, h3⟩))
set_option maxRecDepth 100000 in
theorem awake08_spec (w : World) : Ret Try.prog 5 #[] w (fun u w' => u = .bool true ∧ Ext w w') := by
 refine Ret.enterM (l := []) Try.func5 rfl Try.ntmps5 rfl ([]) (no) (Mem.nil w) ?_
 refine wpM.seq (wpM.region ?_)
 refine LM.as rfl ?_
 refine LM.nil (QM.sub (e' := []) trivial (QM.then (wpM.seq (wpM.region ?_))))
 refine LM.callT (oc_call (enters_fn Try.func6 (by kernel_rfl) rfl) rfl) TbN.mono (fun w hm hc hg => tnew_spec 2 9 9 w) ?_
 rintro u6 m6 ⟨b6, rfl, h6⟩ hge6; rw [newMost9] at h6
 refine LM.as rfl ?_
 refine LM.nil (QM.sub (e' := [(1, _)]) ⟨rfl, trivial⟩ (QM.then ?_))
 refine wpM.seq ?_
 refine wpM.seq (wpM.region ?_)
 refine LM.as rfl ?_
 refine LM.nil (QM.sub (e' := [(1, _), (2, _)]) au9 (QM.then ?_))
 refine wpM.block ?_
 refine wpM.loopK0 (α := Nat × Mem0) (fun ⟨i, mt⟩ => [(2, .int .i64 ((i : Nat) + 1))]) [(1, _)] (fun ⟨i, mt⟩ => mt ++ []) (fun ⟨i, mt⟩ => i ≤ 3 ∧ TbM 9 9 w.heap.size i (awL i) b6 mt) (fun ⟨i, mt⟩ => 3 - i) ((0, m6)) ⟨au2, rfl, trivial⟩ au1 ⟨Nat.zero_le _, h6⟩ ?_
 rintro ⟨i, mt⟩ ⟨hi, hT⟩
 change wpM _ _ _ _ _ _ _ (mt ++ []) _ _ _
 refine wpM.seq ?_
 refine wpM.seq (wpM.region ?_)
 refine LM.mv rfl ?_
 refine LM.val (ov_lss rfl rfl) ?_
 refine LM.nil (QM.sub (e' := [(1, _), (2, _), (8, _)]) au9 (QM.then ?_))
 refine wpM.condD rfl (fun h1 => ?_) (fun h1 => ?_)
 ·
  refine wpM.skip ?_
  refine QM.then ?_
  refine wpM.seq ?_
  refine wpM.block ?_
  refine wpM.seq (wpM.region ?_)
  refine LM.mv rfl (LM.mv rfl (LM.mv rfl ?_))
  refine LM.val (ov_mul64 rfl rfl (by omega)) ?_
  refine LM.val (ov_toU Try.underlying3 Try.underlying30 rfl) ?_
  refine LM.val (ov_build (cs := #[_, _, _]) rfl (by first | rfl | kernel_rfl)) ?_
  refine LM.cU (oc_call (enters_fn Try.func8 (by kernel_rfl) rfl) rfl) (fun w hm hc hg => twait_spec (awV i) w hT (by omega) hc.size (hm.pick mt)) hT.wlk (fun p hp hlt => absurd hlt (Nat.not_lt_of_le (hT.ge p hp))) ?_
  rintro u17 m17 ⟨rfl, h17⟩ hin17; rw [aw_E (by omega)]
  refine LM.val (ov_neq rfl rfl) ?_
  refine LM.nil (QM.sub (e' := [(1, _), (2, _), (18, _)]) au9 (QM.then ?_))
  refine wpM.condD rfl (fun h2 => ?_) (fun h2 => ?_)
  ·
   exact absurd rfl h2
  refine wpM.skip ?_
  refine QM.block_normal ?_
  refine QM.then (wpM.region ?_)
  refine LM.mv rfl ?_
  refine LM.val (ov_add64 rfl rfl (by omega)) ?_
  refine LM.as rfl ?_
  refine LM.nil (QM.sub (e' := [(1, _), (2, _)]) au9 ?_)
  refine QM.againK (i + 1, m17) ⟨au2, rfl, trivial⟩ au1 (fun _ h => h) ?_ ?_
  · exact ⟨by omega, by rw [← aw_L (by omega)]; exact h17⟩
  · first | omega | (dsimp only; omega)
 have hi3 : i = 3 := (by omega); subst hi3
 refine wpM.exit ?_
 refine QM.then_exit ?_
 refine QM.then_exit ?_
 refine QM.block_hit ?_
 refine QM.then (wpM.seq (wpM.region ?_))
 refine LM.mv rfl ?_
 refine LM.cU (oc_call (enters_fn Try.func13 (by kernel_rfl) rfl) rfl) (fun w hm hc hg => (by have k := tcancel_yes (awV 1) w hT (by decide) (hm.pick mt); rw [show (awV 1).who = 2 by decide] at k; exact k)) hT.wlk (fun p hp hlt => absurd hlt (Nat.not_lt_of_le (hT.ge p hp))) ?_
 rintro u21 m21 ⟨rfl, h21⟩ hin21
 refine LM.mv rfl ?_
 refine LM.val (ov_extract rfl rfl) ?_
 refine LM.val (ov_extract rfl rfl) ?_
 refine LM.alloc Try.zeroValue32 rfl (fun b3 hb3 => ?_)
 refine LM.stW Try.sizeOf32 rfl rfl rfl rfl au7 au8 ?_
 refine LM.as rfl ?_
 refine LM.nil (QM.sub (e' := [(1, _), (3, _), (4, _)]) au9 (QM.then (wpM.seq (wpM.region ?_))))
 refine LM.mv rfl ?_
 refine LM.cU (oc_call (enters_fn Try.func11 (by kernel_rfl) rfl) rfl) (fun w hm hc hg => twake_k 7 9 w h21 hc.size (hm.pick m21)) h21.wlk (fun p hp hlt => absurd hlt (Nat.not_lt_of_le (h21.ge p hp))) ?_
 rintro u25 m25 ⟨mo25, mt25, hs25, rfl, ht25⟩ hin25; rw [aw_W] at hs25 ht25; obtain ⟨ad25, n25, cap25, rfl, hn25⟩ : ∃ ad n cap, u25 = .slice ad n cap ∧ n = 2 := (by obtain ⟨ad, cap, hu⟩ := hs25.form; exact ⟨ad, _, cap, hu, rfl⟩)
 refine LM.as rfl ?_
 refine LM.nil (QM.sub (e' := [(1, _), (3, _), (4, _), (5, _)]) au9 (QM.then (wpM.seq (wpM.region ?_))))
 refine LM.val (ov_field Try.underlying32 rfl Try.sizeOf3 rfl (k := 1) rfl rfl) ?_
 refine LM.rd (om_ld Try.isAgg3 rfl rfl) ?_
 refine LM.val (ov_eql rfl rfl) ?_
 refine LM.mv rfl ?_
 refine LM.splitD (t := 29) rfl (fun h3 => ?_) (fun h3 => ?_)
 ·
  refine LM.sp 29 rfl rfl rfl (LM.mv rfl ?_)
  refine LM.val (ov_pickT rfl rfl) ?_
  refine LM.mv rfl ?_
  first | refine LM.splitD (t := 32) rfl (fun h4 => ?_) (fun h4 => ?_) | refine LM.splitB (t := 32) rfl (fun h4 => ?_) (fun h4 => ?_)
  ·
   refine LM.sp 32 rfl rfl rfl (LM.mv rfl (LM.sp 32 rfl rfl rfl ?_))
   refine LM.val (ov_len Try.underlying29 rfl) ?_
   refine LM.sp 32 rfl rfl rfl ?_
   refine LM.val (ov_eql rfl rfl) ?_
   refine LM.val (ov_pickT rfl rfl) ?_
   refine LM.mv rfl ?_
   refine LM.splitD (t := 37) rfl (fun h5 => ?_) (fun h5 => ?_)
   ·
    refine LM.sp 37 rfl rfl rfl (LM.mv rfl (LM.sp 37 rfl rfl rfl ?_))
    refine LM.val (ov_idxSN (i := 0) au6 Try.underlying29 Try.sizeOf3 rfl rfl (by omega)) ?_
    refine LM.sp 37 rfl rfl rfl ?_
    refine LM.rd (om_sl1 (i := 0) (by assumption) (by intro _; rfl) Try.isAgg3 rfl rfl (by exact getq 0 au4) (by rfl)) ?_
    refine LM.sp 37 rfl rfl rfl ?_
    refine LM.val (ov_eql rfl rfl) ?_
    refine LM.val (ov_pickT rfl rfl) ?_
    refine LM.mv rfl ?_
    refine LM.splitD (t := 43) rfl (fun h6 => ?_) (fun h6 => ?_)
    ·
     refine LM.sp 43 rfl rfl rfl (LM.mv rfl (LM.sp 43 rfl rfl rfl ?_))
     refine LM.val (ov_idxSN (i := 1) au6 Try.underlying29 Try.sizeOf3 rfl rfl (by omega)) ?_
     refine LM.sp 43 rfl rfl rfl ?_
     refine LM.rd (om_sl1 (i := 1) (by assumption) (by intro _; rfl) Try.isAgg3 rfl rfl (by exact getq 0 au4) (by rfl)) ?_
     refine LM.sp 43 rfl rfl rfl ?_
     refine LM.val (ov_eql rfl rfl) ?_
     refine LM.val (ov_pickT rfl rfl) ?_
     refine LM.mv rfl ?_
     refine LM.splitD (t := 49) rfl (fun h7 => ?_) (fun h7 => ?_)
     ·
      refine LM.sp 49 rfl rfl rfl (LM.mv rfl (LM.sp 49 rfl rfl rfl ?_))
      refine LM.callE (oc_call (enters_fn Try.func23 (by kernel_rfl) rfl) rfl) (fun w hm hc hg => tlen_spec w ht25 (hm.pick mt25)) ?_
      refine LM.sp 49 rfl rfl rfl ?_
      refine LM.val (ov_eql rfl rfl) ?_
      refine LM.val (ov_pickT rfl rfl) ?_
      refine LM.as rfl ?_
      refine LM.nil (QM.sub (e' := [(0, _)]) ⟨rfl, trivial⟩ (QM.then ?_))
      refine wpM.ret ?_
      refine QM.leave (.inl rfl) [.tmp 0] Try.results5 rfl ?_
      intro w' hm' hc' hg'
      exact ⟨rfl, hc'⟩
     refine LM.dr 49 rfl rfl rfl (LM.dr 49 rfl rfl rfl (LM.dr 49 rfl rfl rfl ?_))
     refine LM.val (ov_pickF rfl rfl) ?_
     refine LM.as rfl ?_
     refine LM.nil (QM.sub (e' := [(0, _)]) ⟨rfl, trivial⟩ (QM.then ?_))
     refine wpM.ret ?_
     refine QM.leave (.inl rfl) [.tmp 0] Try.results5 rfl ?_
     intro w' hm' hc' hg'
     first | exact ⟨rfl, hc'⟩ | (exfalso; first | omega | (simp at *; done) | (simp_all; done))
    refine LM.dr 43 rfl rfl rfl (LM.dr 43 rfl rfl rfl (LM.dr 43 rfl rfl rfl (LM.dr 43 rfl rfl rfl ?_)))
    refine LM.val (ov_pickF rfl rfl) ?_
    refine LM.mv rfl (LM.dr 49 rfl rfl rfl (LM.dr 49 rfl rfl rfl (LM.dr 49 rfl rfl rfl ?_)))
    refine LM.val (ov_pickF rfl rfl) ?_
    refine LM.as rfl ?_
    refine LM.nil (QM.sub (e' := [(0, _)]) ⟨rfl, trivial⟩ (QM.then ?_))
    refine wpM.ret ?_
    refine QM.leave (.inl rfl) [.tmp 0] Try.results5 rfl ?_
    intro w' hm' hc' hg'
    first | exact ⟨rfl, hc'⟩ | (exfalso; first | omega | (simp at *; done) | (simp_all; done))
   refine LM.dr 37 rfl rfl rfl (LM.dr 37 rfl rfl rfl (LM.dr 37 rfl rfl rfl (LM.dr 37 rfl rfl rfl ?_)))
   refine LM.val (ov_pickF rfl rfl) ?_
   refine LM.mv rfl (LM.dr 43 rfl rfl rfl (LM.dr 43 rfl rfl rfl (LM.dr 43 rfl rfl rfl (LM.dr 43 rfl rfl rfl ?_))))
   refine LM.val (ov_pickF rfl rfl) ?_
   refine LM.mv rfl (LM.dr 49 rfl rfl rfl (LM.dr 49 rfl rfl rfl (LM.dr 49 rfl rfl rfl ?_)))
   refine LM.val (ov_pickF rfl rfl) ?_
   refine LM.as rfl ?_
   refine LM.nil (QM.sub (e' := [(0, _)]) ⟨rfl, trivial⟩ (QM.then ?_))
   refine wpM.ret ?_
   refine QM.leave (.inl rfl) [.tmp 0] Try.results5 rfl ?_
   intro w' hm' hc' hg'
   first | exact ⟨rfl, hc'⟩ | (exfalso; first | omega | (simp at *; done) | (simp_all; done))
  refine LM.dr 32 rfl rfl rfl (LM.dr 32 rfl rfl rfl (LM.dr 32 rfl rfl rfl ?_))
  refine LM.val (ov_pickF rfl rfl) ?_
  refine LM.mv rfl (LM.dr 37 rfl rfl rfl (LM.dr 37 rfl rfl rfl (LM.dr 37 rfl rfl rfl (LM.dr 37 rfl rfl rfl ?_))))
  refine LM.val (ov_pickF rfl rfl) ?_
  refine LM.mv rfl (LM.dr 43 rfl rfl rfl (LM.dr 43 rfl rfl rfl (LM.dr 43 rfl rfl rfl (LM.dr 43 rfl rfl rfl ?_))))
  refine LM.val (ov_pickF rfl rfl) ?_
  refine LM.mv rfl (LM.dr 49 rfl rfl rfl (LM.dr 49 rfl rfl rfl (LM.dr 49 rfl rfl rfl ?_)))
  refine LM.val (ov_pickF rfl rfl) ?_
  refine LM.as rfl ?_
  refine LM.nil (QM.sub (e' := [(0, _)]) ⟨rfl, trivial⟩ (QM.then ?_))
  refine wpM.ret ?_
  refine QM.leave (.inl rfl) [.tmp 0] Try.results5 rfl ?_
  intro w' hm' hc' hg'
  first | exact ⟨rfl, hc'⟩ | (exfalso; first | omega | (simp at *; done) | (simp_all; done))
 exact absurd (show (awV 1).key = 7 from rfl) h3
end Go.Eng
namespace Go.Eng
open Go Go.Proofs Go.RowKit
structure Dw where
  kind : Int
  w : Wt
  n : Int
instance : Inhabited Dw := ⟨⟨0, default, 0⟩⟩
def fDw (d : Dw) : List Value := [.int .u8 d.kind, .int .i64 d.w.who, .int .i64 d.w.key, U d.w.til, .int .i64 d.n]
theorem exW_no {L : List Wt} {who : Int} (h : ∀ x ∈ L, x.who ≠ who) : exW L who = default := by
  unfold exW; rw [List.find?_eq_none.2 (fun x hx => by simpa using h x hx)]; rfl
theorem at_dec (L : List Wt) (who : Int) : decide (∃ x ∈ L, x.who = who) = decide (atW L who ≥ 0) := by
  refine decide_eq_decide.2 ⟨fun ⟨x, hx, e⟩ => ?_, fun h => ?_⟩
  · rcases atW_or L who with ⟨_, q⟩ | ⟨i, hi, q, _⟩
    · exact absurd e (q x hx)
    · omega
  · rcases atW_or L who with ⟨q, _⟩ | ⟨i, hi, q, k⟩
    · omega
    · exact ⟨_, wg_mem hi, k⟩
theorem tcancel_any {most each : Int} {n0 T b : Nat} {L : List Wt} {m : Mem0} (who : Int) (w : World) (h : TbM most each n0 T L b m) (hM : Mem w m) :
    Ret Try.prog 13 #[.pointer (some ⟨b, 0, none⟩), .int .i64 who] w (Upd m (fun u m' => u = .tuple #[.agg (fWt (exW L who)).toArray, .bool (decide (atW L who ≥ 0))] ∧ TbM most each n0 T (rmW L who) b m') w) := by
  rw [← at_dec]
  by_cases c : ∃ x ∈ L, x.who = who
  · rw [decide_eq_true c]
    obtain ⟨x, hx, rfl⟩ := c
    rw [exW_of h.lim.2.2.2 hx]
    exact tcancel_yes x w h hx hM
  · rw [decide_eq_false c]
    have hno : ∀ x ∈ L, x.who ≠ who := fun x hx e => c ⟨x, hx, e⟩
    rw [exW_no hno, rm_no hno]
    exact (tcancel_no who w h hno hM).mono (fun u w' ⟨hu, hc⟩ => ⟨hc.chg, m, ⟨hu, h⟩, hM.ext hc, fun p hp => .inr ⟨p, hp, rfl⟩⟩)
theorem twho_any {most each : Int} {n0 T b : Nat} {L : List Wt} {m : Mem0} (who : Int) (w : World) (h : TbM most each n0 T L b m) (hM : Mem w m) :
    Ret Try.prog 19 #[.pointer (some ⟨b, 0, none⟩), .int .i64 who] w (fun u w' => u = .tuple #[.agg (fWt (exW L who)).toArray, .bool (decide (atW L who ≥ 0))] ∧ Ext w w') := by
  rw [← at_dec]
  by_cases c : ∃ x ∈ L, x.who = who
  · rw [decide_eq_true c]
    obtain ⟨x, hx, rfl⟩ := c
    rw [exW_of h.lim.2.2.2 hx]
    exact twho_yes x w h hx hM
  · rw [decide_eq_false c]
    have hno : ∀ x ∈ L, x.who ≠ who := fun x hx e => c ⟨x, hx, e⟩
    rw [exW_no hno]
    exact twho_no who w h hno hM
theorem at_yes {L : List Wt} {who : Int} (hw : Wd1 L) (h : atW L who ≥ 0) : ∃ i, i < L.length ∧ atW L who = (i : Nat) ∧ exW L who = wg L i ∧ L.eraseIdx i = rmW L who := by
  rcases atW_or L who with ⟨q, _⟩ | ⟨i, hi, q, k⟩
  · omega
  · refine ⟨i, hi, q, ?_, ?_⟩
    · have := exW_of hw (wg_mem hi); rw [k] at this; exact this
    · have := wg_rm hw hi; rw [k] at this; exact this
theorem at_no {L : List Wt} {who : Int} (h : ¬ atW L who ≥ 0) : exW L who = default ∧ rmW L who = L := by
  rcases atW_or L who with ⟨_, q⟩ | ⟨i, hi, q, k⟩
  · exact ⟨exW_no q, rm_no q⟩
  · omega
theorem wakeF_len (key n : Int) : ∀ (f : Nat) (o : List Int) (L : List Wt), (wakeF key n f o L).1.length ≤ o.length + f
  | 0, o, L => Nat.le_refl _
  | f + 1, o, L => by
    unfold wakeF
    split
    · have := wakeF_len key n f (o ++ [(fstW L key).who]) (rmW L (fstW L key).who)
      rw [List.length_append, List.length_singleton] at this; omega
    · show o.length ≤ _; omega
theorem mod4_rng (x : BitVec 64) : 0 ≤ (x % 4#64).toInt ∧ (x % 4#64).toInt ≤ 3 := by
  have h1 : (x % 4#64).toNat = x.toNat % 4 := by rw [BitVec.toNat_umod]; rfl
  have h2 : (x % 4#64).toNat < 4 := by rw [h1]; exact Nat.mod_lt _ (by decide)
  rw [BitVec.toInt_eq_toNat_of_lt (by omega)]; omega
theorem mod4_le (x : BitVec 64) : 0 ≤ (x % 4#64).toInt ∧ (x % 4#64).toInt ≤ 1000 := ⟨(mod4_rng x).1, by have := (mod4_rng x).2; omega⟩
theorem veq0 : veqs (fWt default) [.int .i64 0, .int .i64 0, U 0#64] = true := by decide
abbrev dg (l : List Dw) (i : Nat) : Dw := l.getD i default
set_option maxRecDepth 100000 in
set_option maxHeartbeats 2000000 in
theorem waitqRuns (z y x : Int) {l : List Dw} {ad : Option Addr} {n cap : Nat} (w : World) (hn : n = l.length) (hl : Sr fDw 5 l (.slice ad n cap) w) (hk : ∀ d ∈ l, 0 ≤ d.kind ∧ d.kind ≤ 255) : Ret Try.prog 3 #[.agg #[.int .i64 z, .int .i64 y, .int .i64 x], .slice ad n cap] w (fun v w' => v = .bool true ∧ Ext w w') := by
 refine Ret.enterM (l := [.agg #[.int .i64 z, .int .i64 y, .int .i64 x], .slice ad n cap]) Try.func3 rfl Try.ntmps3 rfl ([]) (no) (Mem.nil w) ?_
 refine wpM.seq (wpM.region ?_)
 refine LM.box rfl rfl (fun b2 hb2 => ?_)
 refine LM.as rfl ?_
 refine LM.nil (QM.sub (e' := [(1, _), (2, _)]) au9 (QM.then ?_))
 refine wpM.seq ?_
 refine wpM.seq (wpM.region ?_)
 refine LM.callE (oc_call (enters_fn Try.func5 (by kernel_rfl) rfl) rfl) (fun w hm hc hg => awake08_spec w) ?_
 first | refine LM.val (ov_notD rfl) ?_ | refine LM.val (ov_not rfl) ?_
 refine LM.nil (QM.sub (e' := [(1, _), (2, _), (20, _)]) au9 (QM.then ?_))
 first | refine wpM.condD rfl (fun h1 => ?_) (fun h1 => ?_) | refine wpM.condB rfl (fun h1 => ?_) (fun h1 => ?_)
 ·
  cases h1
 refine wpM.skip ?_
 refine QM.then ?_
 refine wpM.seq ?_
 refine wpM.seq (wpM.region ?_)
 refine LM.mv rfl ?_
 refine LM.val (ov_len Try.underlying23 rfl) ?_
 refine LM.val (ov_gtr rfl rfl) ?_
 refine LM.nil (QM.sub (e' := [(1, _), (2, _), (23, _)]) au9 (QM.then ?_))
 refine wpM.condD rfl (fun h2 => ?_) (fun h2 => ?_)
 ·
  refine wpM.seq (wpM.region ?_)
  refine LM.as rfl ?_
  refine LM.nil (QM.sub (e' := [(4, _)]) ⟨rfl, trivial⟩ (QM.then ?_))
  refine wpM.ret ?_
  refine QM.then_ret ?_
  refine QM.leave (.inl rfl) [.tmp 4] Try.results3 rfl ?_
  intro w' hm' hc' hg'
  exact ⟨rfl, hc'⟩
 refine wpM.skip ?_
 refine QM.then ?_
 refine wpM.seq ?_
 refine wpM.keep ((b2, .cells #[.int .i64 z, .int .i64 y, .int .i64 x] 22 (0, 0)) :: []) (fun _ => True) (.one 0 0 (.one 1 1 (.one 2 0 (.one 3 1 (.one 4 0 (.one 5 1 (.one 7 0 (.one 8 1 (.one 9 0 (.one 10 1 (.one 6 2 (.one 11 2 (.one 12 0 (.one 13 0 .nil)))))))))))))) (by kernel_rfl) (by kernel_rfl) au1 (fun _ _ => trivial) ?_
 first | refine KD.val rfl rfl (ov_idxAN Try.underlying22 Try.sizeOf3 rfl rfl (by omega)) ?_ | refine KD.val rfl rfl (ov_idxA Try.underlying22 Try.sizeOf3 rfl rfl (by omega)) ?_
 first | refine KD.rd rfl rfl (om_ldE1 (by intro _; rfl) Try.isAgg3 rfl rfl rfl (getq 0 (by omega)) (by rfl)) ?_ | refine KD.rd rfl rfl (om_ld Try.isAgg3 rfl rfl) ?_
 first | refine KD.val rfl rfl (ov_idxAN Try.underlying22 Try.sizeOf3 rfl rfl (by omega)) ?_ | refine KD.val rfl rfl (ov_idxA Try.underlying22 Try.sizeOf3 rfl rfl (by omega)) ?_
 first | refine KD.rd rfl rfl (om_ldE1 (by intro _; rfl) Try.isAgg3 rfl rfl rfl (getq 0 (by omega)) (by rfl)) ?_ | refine KD.rd rfl rfl (om_ld Try.isAgg3 rfl rfl) ?_
 first | refine KD.val rfl rfl (ov_idxAN Try.underlying22 Try.sizeOf3 rfl rfl (by omega)) ?_ | refine KD.val rfl rfl (ov_idxA Try.underlying22 Try.sizeOf3 rfl rfl (by omega)) ?_
 first | refine KD.rd rfl rfl (om_ldE1 (by intro _; rfl) Try.isAgg3 rfl rfl rfl (getq 0 (by omega)) (by rfl)) ?_ | refine KD.rd rfl rfl (om_ld Try.isAgg3 rfl rfl) ?_
 first | refine KD.val rfl rfl (ov_idxAN Try.underlying22 Try.sizeOf3 rfl rfl (by omega)) ?_ | refine KD.val rfl rfl (ov_idxA Try.underlying22 Try.sizeOf3 rfl rfl (by omega)) ?_
 first | refine KD.rd rfl rfl (om_ldE1 (by intro _; rfl) Try.isAgg3 rfl rfl rfl (getq 0 (by omega)) (by rfl)) ?_ | refine KD.rd rfl rfl (om_ld Try.isAgg3 rfl rfl) ?_
 first | refine KD.val rfl rfl (ov_idxAN Try.underlying22 Try.sizeOf3 rfl rfl (by omega)) ?_ | refine KD.val rfl rfl (ov_idxA Try.underlying22 Try.sizeOf3 rfl rfl (by omega)) ?_
 first | refine KD.rd rfl rfl (om_ldE1 (by intro _; rfl) Try.isAgg3 rfl rfl rfl (getq 0 (by omega)) (by rfl)) ?_ | refine KD.rd rfl rfl (om_ld Try.isAgg3 rfl rfl) ?_
 refine KD.one rfl ?_
 refine LM.callT (oc_call (enters_fn Try.func6 (by kernel_rfl) rfl) rfl) TbN.mono (fun w hm hc hg => tnew_spec z y x w) ?_
 rintro u30 m30 ⟨bt, rfl, h30⟩ hge30
 refine LM.nil ?_
 refine QM.one au1 (fun _ _ => trivial) ?_
 refine KD.one rfl ?_
 refine LM.callT (oc_call (enters_fn Try.func7 (by kernel_rfl) rfl) rfl) RtN.mono (fun w hm hc hg => rnew_spec y x w) ?_
 rintro u35 m35 ⟨bw, rfl, h35⟩ hge35
 refine LM.nil ?_
 refine QM.one au1 (fun _ _ => trivial) ?_
 refine KD.val rfl rfl (ov_assign rfl) ?_
 refine KD.val rfl rfl (ov_assign rfl) ?_
 refine KD.nil ?_
 refine QM.sub (e' := [(1, _), (5, _), (6, _)]) au9 (QM.then (wpM.seq (wpM.region ?_)))
 refine LM.as rfl ?_
 refine LM.nil (QM.sub (e' := [(1, _), (5, _), (6, _), (7, _)]) au9 (QM.then ?_))
 refine wpM.seq ?_
 refine wpM.seq (wpM.region ?_)
 refine LM.mv rfl ?_
 refine LM.val (ov_len Try.underlying23 rfl) ?_
 refine LM.mv rfl ?_
 refine LM.nil (QM.sub (e' := [(1, _), (5, _), (6, _), (7, _), (36, _), (37, _), (38, _)]) au9 (QM.then ?_))
 refine wpM.block ?_
 refine wpM.loopK0 (α := Nat × Option Addr × Nat × Nat × Mem0) (fun ⟨i, ak, nk, ck, mk⟩ => [(7, .slice ak nk ck), (38, .int .i64 (i : Nat))]) [(1, _), (5, _), (6, _), (36, _), (37, _)] (fun ⟨i, ak, nk, ck, mk⟩ => m30 ++ (m35 ++ (mk ++ []))) (fun ⟨i, ak, nk, ck, mk⟩ => i ≤ l.length ∧ Sl fI 3 1 w.heap.size ((l.take i).map (fun d => d.w.key)) (.slice ak nk ck) mk) (fun ⟨i, ak, nk, ck, mk⟩ => l.length - i) ((0, none, 0, 0, [])) ⟨au2, au2, rfl, rfl, rfl, rfl, rfl, trivial⟩ au1 ⟨Nat.zero_le _, Sl.nil _ _ _ _⟩ ?_
 rintro ⟨i, ak, nk, ck, mk⟩ ⟨hi, hks⟩
 change wpM _ _ _ _ _ _ _ (m30 ++ (m35 ++ (mk ++ []))) _ _ _
 have hkl := hks.len; rw [List.length_map, List.length_take] at hkl
 refine wpM.seq (wpM.region ?_)
 refine LM.val (ov_lss rfl rfl) ?_
 refine LM.nil (QM.sub (e' := [(1, _), (5, _), (6, _), (7, _), (36, _), (37, _), (38, _), (39, _)]) au9 (QM.then ?_))
 refine wpM.seq ?_
 refine wpM.condD rfl (fun h3 => ?_) (fun h3 => ?_)
 ·
  refine wpM.skip ?_
  refine QM.then ?_
  refine wpM.seq ?_
  refine wpM.block ?_
  refine wpM.seq (wpM.region ?_)
  refine LM.val (ov_idxSN au6 Try.underlying23 Try.sizeOf34 rfl rfl (by omega)) ?_
  first | refine LM.rd (om_slA (by assumption) (by intro _; rfl) Try.isAgg34 Try.sizeOf34 rfl au3) ?_ | refine LM.rdC (om_srEA (by assumption) (by intro _; rfl) Try.isAgg34 Try.sizeOf34 rfl au3 id) ?_ | refine LM.rd (om_ldW Try.isAgg34 Try.sizeOf34 rfl rfl) ?_ | refine LM.rd (om_ldA Try.isAgg34 Try.sizeOf34 rfl (vs := [_, _, _, _, _]) rfl ⟨rfl, rfl, rfl, rfl, rfl, trivial⟩) ?_
  refine LM.alloc Try.zeroValue34 rfl (fun b9 hb9 => ?_)
  refine LM.stW Try.sizeOf34 rfl rfl rfl rfl au7 au8 ?_
  refine LM.nil (QM.sub (e' := [(1, _), (5, _), (6, _), (7, _), (9, _), (36, _), (37, _), (38, _)]) au9 (QM.then (wpM.region ?_)))
  refine LM.mv rfl (LM.val (ov_field Try.underlying34 rfl Try.sizeOf32 rfl (k := 1) rfl rfl) (LM.val (ov_field Try.underlying32 rfl Try.sizeOf3 rfl (k := 1) rfl rfl) ?_))
  refine LM.rd (om_ld Try.isAgg3 rfl rfl) ?_
  refine LM.single Try.underlying29 Try.sizeOf3 Try.zeroValue3 rfl rfl rfl rfl rfl (fun b46 hb46 => ?_)
  have hk2 : ((l.take i).map (fun d => d.w.key)).length = i := (by rw [List.length_map, List.length_take]; omega)
  refine LM.app (a := (dg l i).w.key) Try.underlying29 Try.typeInfo3 rfl rfl rfl rfl rfl rfl rfl (by assumption) (by rfl) (by intro _; rfl) (by intro _ u hu; simp [fI] at hu; (repeat (first | (rcases hu with rfl | hu) | subst hu | rfl))) (by first | exact Nat.le_refl _ | omega) au10 (by first | omega | (unfold maxLen; omega)) (by simp only [Try.t3]; omega) (fun ad47 n47 cap47 m47 hn47 hs47 hin47 => ?_)
  refine LM.as rfl ?_
  refine LM.nil (QM.sub (e' := [(1, _), (5, _), (6, _), (7, _), (36, _), (37, _), (38, _)]) au9 ?_)
  refine QM.block_normal ?_
  refine QM.then (wpM.region ?_)
  refine LM.val (ov_add64 rfl rfl (by omega)) ?_
  refine LM.mv rfl ?_
  refine LM.nil (QM.sub (e' := [(1, _), (5, _), (6, _), (7, _), (36, _), (37, _), (38, _)]) au9 ?_)
  refine QM.againK (i + 1, ad47, n47, cap47, m47) ⟨au2, au2, rfl, rfl, rfl, rfl, rfl, trivial⟩ au1 (fun _ h => h) ?_ ?_
  · exact ⟨by omega, by rw [take_snoc default (by omega : i < l.length), List.map_append]; exact hs47⟩
  · first | omega | (dsimp only; omega)
 refine wpM.exit ?_
 refine QM.then_exit ?_
 refine QM.then_exit ?_
 refine QM.block_hit ?_
 refine QM.then ?_
 refine wpM.seq ?_
 refine wpM.seq (wpM.region ?_)
 refine LM.mv rfl ?_
 refine LM.val (ov_len Try.underlying23 rfl) ?_
 refine LM.mv rfl ?_
 refine LM.nil (QM.sub (e' := [(5, _), (6, _), (7, _), (49, _), (50, _), (51, _)]) au9 (QM.then ?_))
 refine wpM.block ?_
 refine wpM.loopK0 (α := Nat × List Wt × Mem0 × Mem0) (fun ⟨i, L, mt, mw⟩ => [(51, .int .i64 (i : Nat))]) [(5, _), (6, _), (7, _), (49, _), (50, _)] (fun ⟨i, L, mt, mw⟩ => mt ++ (mw ++ (mk ++ []))) (fun ⟨i, L, mt, mw⟩ => i ≤ l.length ∧ TbM (newMost y) (newMost x) w.heap.size (i * 5000) L bt mt ∧ RtM (newMost y) (newMost x) w.heap.size L bw mw) (fun ⟨i, L, mt, mw⟩ => l.length - i) ((0, [], m30, m35)) ⟨au2, rfl, rfl, rfl, rfl, rfl, trivial⟩ au1 ⟨Nat.zero_le _, h30, h35⟩ ?_
 rintro ⟨i, L, mt, mw⟩ ⟨hi, hT, hR⟩
 change wpM _ _ _ _ _ _ _ (mt ++ (mw ++ (mk ++ []))) _ _ _
 have hlim := hT.lim; have hwd := hlim.2.2.2
 refine wpM.seq (wpM.region ?_)
 refine LM.val (ov_lss rfl rfl) ?_
 refine LM.nil (QM.sub (e' := [(5, _), (6, _), (7, _), (49, _), (50, _), (51, _), (52, _)]) au9 (QM.then ?_))
 refine wpM.seq ?_
 refine wpM.condD rfl (fun h4 => ?_) (fun h4 => ?_)
 ·
  have hkd : 0 ≤ (l.getD i default).kind ∧ (l.getD i default).kind ≤ 255 := hk (l.getD i default) (by rw [List.getD_eq_getElem?_getD, List.getElem?_eq_getElem (by omega : i < l.length)]; exact List.getElem_mem _); have hi80 : i < 80 := (by omega)
  refine wpM.skip ?_
  refine QM.then ?_
  refine wpM.seq ?_
  refine wpM.block ?_
  refine wpM.seq (wpM.region ?_)
  refine LM.val (ov_idxSN au6 Try.underlying23 Try.sizeOf34 rfl rfl (by omega)) ?_
  first | refine LM.rd (om_slA (by assumption) (by intro _; rfl) Try.isAgg34 Try.sizeOf34 rfl au3) ?_ | refine LM.rdC (om_srEA (by assumption) (by intro _; rfl) Try.isAgg34 Try.sizeOf34 rfl au3 id) ?_ | refine LM.rd (om_ldW Try.isAgg34 Try.sizeOf34 rfl rfl) ?_ | refine LM.rd (om_ldA Try.isAgg34 Try.sizeOf34 rfl (vs := [_, _, _, _, _]) rfl ⟨rfl, rfl, rfl, rfl, rfl, trivial⟩) ?_
  refine LM.alloc Try.zeroValue34 rfl (fun b11 hb11 => ?_)
  refine LM.stW Try.sizeOf34 rfl rfl rfl rfl au7 au8 ?_
  refine LM.nil (QM.sub (e' := [(5, _), (6, _), (7, _), (11, _), (49, _), (50, _), (51, _)]) au9 (QM.then (wpM.seq (wpM.region ?_))))
  refine LM.as rfl ?_
  refine LM.nil (QM.sub (e' := [(5, _), (6, _), (7, _), (11, _), (12, _), (49, _), (50, _), (51, _)]) au9 (QM.then ?_))
  refine wpM.seq ?_
  refine wpM.seq (wpM.region ?_)
  refine LM.val (ov_field Try.underlying34 rfl Try.sizeOf5 rfl (k := 0) rfl rfl) ?_
  refine LM.rd (om_ld Try.isAgg5 rfl rfl) ?_
  first | refine LM.val (ov_remK rfl rfl (by omega) (by omega)) ?_ | refine LM.val (ov_remJ rfl rfl (by omega) (by omega)) ?_
  refine LM.nil (QM.sub (e' := [(5, _), (6, _), (7, _), (11, _), (12, _), (49, _), (50, _), (51, _), (57, _)]) au9 (QM.then ?_))
  refine wpM.joinK (α := List Wt × Mem0 × Mem0) (fun ⟨L2, mt2, mw2⟩ => [(12, .bool true)]) [(5, _), (6, _), (7, _), (11, _), (49, _), (50, _), (51, _)] (fun ⟨L2, mt2, mw2⟩ => (b11, .cells (fDw (dg l i)).toArray 34 (0, 0)) :: (mt2 ++ (mw2 ++ (mk ++ [])))) (fun ⟨L2, mt2, mw2⟩ => TbM (newMost y) (newMost x) w.heap.size ((i + 1) * 5000) L2 bt mt2 ∧ RtM (newMost y) (newMost x) w.heap.size L2 bw mw2) ⟨rfl, rfl, rfl, rfl, rfl, rfl, rfl, trivial⟩ ?_ ?_
  ·
   refine wpM.block ?_
   refine wpM.seq (wpM.region ?_)
   refine LM.val (ov_eql rfl rfl) ?_
   refine LM.as rfl ?_
   refine LM.nil (QM.sub (e' := [(5, _), (6, _), (7, _), (11, _), (12, _), (49, _), (50, _), (51, _), (57, _), (58, _)]) au9 (QM.then ?_))
   refine wpM.condD rfl (fun h5 => ?_) (fun h5 => ?_)
   ·
    refine wpM.keep ((b11, .cells (fDw (dg l i)).toArray 34 (0, 0)) :: []) (fun _ => True) (.one 0 0 (.one 1 0 (.one 2 1 (.one 4 0 (.one 5 0 (.one 6 1 (.one 3 2 (.one 7 2 (.one 8 0 (.one 9 0 .nil)))))))))) (by kernel_rfl) (by kernel_rfl) au1 (fun _ _ => trivial) ?_
    refine KD.val rfl rfl (ov_move rfl) ?_
    refine KD.val rfl rfl (ov_field Try.underlying34 rfl Try.sizeOf32 rfl (k := 1) rfl rfl) ?_
    first | refine KD.rd rfl rfl (om_ldW Try.isAgg32 Try.sizeOf32 rfl rfl) ?_ | refine KD.rd rfl rfl (om_ldA Try.isAgg32 Try.sizeOf32 rfl (vs := [_, _, _]) rfl ⟨rfl, rfl, rfl, trivial⟩) ?_
    refine KD.val rfl rfl (ov_move rfl) ?_
    refine KD.val rfl rfl (ov_field Try.underlying34 rfl Try.sizeOf32 rfl (k := 1) rfl rfl) ?_
    first | refine KD.rd rfl rfl (om_ldW Try.isAgg32 Try.sizeOf32 rfl rfl) ?_ | refine KD.rd rfl rfl (om_ldA Try.isAgg32 Try.sizeOf32 rfl (vs := [_, _, _]) rfl ⟨rfl, rfl, rfl, trivial⟩) ?_
    refine KD.one rfl ?_
    refine LM.cU (oc_call (enters_fn Try.func8 (by kernel_rfl) rfl) rfl) (fun w hm hc hg => twait_spec (dg l i).w w hT (by omega) hc.size (hm.pick mt)) hT.wlk (fun p hp hlt => absurd hlt (Nat.not_lt_of_le (hT.ge p hp))) ?_
    rintro u63 m63 ⟨rfl, h63⟩ -
    refine LM.nil ?_
    refine QM.one au1 (fun _ _ => trivial) ?_
    refine KD.one rfl ?_
    refine LM.cU (oc_call (enters_fn Try.func9 (by kernel_rfl) rfl) rfl) (fun w hm hc hg => rWait_spec (dg l i).w w hR (by omega) hc.size (hm.pick mw)) hR.wlk (fun p hp hlt => absurd hlt (Nat.not_lt_of_le (hR.ge p hp))) ?_
    rintro u67 m67 ⟨rfl, h67⟩ -
    refine LM.nil ?_
    refine QM.one au1 (fun _ _ => trivial) ?_
    refine KD.val rfl rfl (ov_eql rfl rfl) ?_
    refine KD.val rfl rfl (ov_assign rfl) ?_
    refine KD.nil ?_
    refine QM.sub (e' := [(5, _), (6, _), (7, _), (11, _), (12, _), (49, _), (50, _), (51, _)]) au9 ?_
    refine QM.block_normal ?_
    refine QM.meetK (wtL (newMost y) (newMost x) L (dg l i).w, m63, m67) ⟨(by first | rfl | exact lk rfl (congrArg Value.bool (decide_eq_true rfl)) | exact lk rfl (congrArg Value.bool (beq_self_eq_true _)) | exact lk rfl (congrArg Value.bool (by simp))), rfl, rfl, rfl, rfl, rfl, rfl, rfl, trivial⟩ au1 ?_
    · exact ⟨h63.tmono (by omega), h67⟩
   refine wpM.seq (wpM.region ?_)
   refine LM.val (ov_eql rfl rfl) ?_
   refine LM.as rfl ?_
   refine LM.nil (QM.sub (e' := [(5, _), (6, _), (7, _), (11, _), (12, _), (49, _), (50, _), (51, _), (57, _), (69, _)]) au9 (QM.then ?_))
   refine wpM.condD rfl (fun h6 => ?_) (fun h6 => ?_)
   ·
    refine wpM.keep ((b11, .cells (fDw (dg l i)).toArray 34 (0, 0)) :: []) (fun _ => True) (.one 0 0 (.one 1 0 (.one 2 0 (.one 3 1 (.one 4 0 (.one 5 1 (.one 7 0 (.one 8 0 (.one 9 0 (.one 10 1 (.one 11 0 (.one 12 1 (.one 6 2 (.one 13 2 (.one 14 2 (.one 15 0 .nil)))))))))))))))) (by kernel_rfl) (by kernel_rfl) au1 (fun _ _ => trivial) ?_
    refine KD.val rfl rfl (ov_move rfl) ?_
    refine KD.val rfl rfl (ov_field Try.underlying34 rfl Try.sizeOf32 rfl (k := 1) rfl rfl) ?_
    refine KD.val rfl rfl (ov_field Try.underlying32 rfl Try.sizeOf3 rfl (k := 1) rfl rfl) ?_
    refine KD.rd rfl rfl (om_ld Try.isAgg3 rfl rfl) ?_
    refine KD.val rfl rfl (ov_field Try.underlying34 rfl Try.sizeOf3 rfl (k := 4) rfl rfl) ?_
    refine KD.rd rfl rfl (om_ld Try.isAgg3 rfl rfl) ?_
    refine KD.val rfl rfl (ov_move rfl) ?_
    refine KD.val rfl rfl (ov_field Try.underlying34 rfl Try.sizeOf32 rfl (k := 1) rfl rfl) ?_
    refine KD.val rfl rfl (ov_field Try.underlying32 rfl Try.sizeOf3 rfl (k := 1) rfl rfl) ?_
    refine KD.rd rfl rfl (om_ld Try.isAgg3 rfl rfl) ?_
    refine KD.val rfl rfl (ov_field Try.underlying34 rfl Try.sizeOf3 rfl (k := 4) rfl rfl) ?_
    refine KD.rd rfl rfl (om_ld Try.isAgg3 rfl rfl) ?_
    refine KD.one rfl ?_
    refine LM.cU (oc_call (enters_fn Try.func11 (by kernel_rfl) rfl) rfl) (fun w hm hc hg => twake_k (dg l i).w.key (dg l i).n w hT hc.size (hm.pick mt)) hT.wlk (fun p hp hlt => absurd hlt (Nat.not_lt_of_le (hT.ge p hp))) ?_
    rintro u77 m77 ⟨mo77, mt77, hs77, rfl, ht77⟩ -; obtain ⟨ad77, n77, cap77, rfl, hn77⟩ : ∃ ad n cap, u77 = .slice ad n cap ∧ n = (wakeF (dg l i).w.key (dg l i).n L.length [] L).1.length := (by obtain ⟨ad, cap, hu⟩ := hs77.form; exact ⟨ad, _, cap, hu, rfl⟩)
    refine LM.nil ?_
    refine QM.one au1 (fun _ _ => trivial) ?_
    refine KD.one rfl ?_
    refine LM.cU (oc_call (enters_fn Try.func12 (by kernel_rfl) rfl) rfl) (fun w hm hc hg => rWake_k (dg l i).w.key (dg l i).n w hR (by omega) hwd hc.size hc.size (hm.pick mw)) hR.wlk (fun p hp hlt => absurd hlt (Nat.not_lt_of_le (hR.ge p hp))) ?_
    rintro u84 m84 ⟨mo84, mt84, hs84, rfl, ht84⟩ -; obtain ⟨ad84, n84, cap84, rfl, hn84⟩ : ∃ ad n cap, u84 = .slice ad n cap ∧ n = (wakeF (dg l i).w.key (dg l i).n L.length [] L).1.length := (by obtain ⟨ad, cap, hu⟩ := hs84.form; exact ⟨ad, _, cap, hu, rfl⟩)
    refine LM.nil ?_
    refine QM.one au1 (fun _ _ => trivial) ?_
    refine KD.one rfl ?_
    refine LM.callE (oc_call (enters_fn Try.func10 (by kernel_rfl) rfl) rfl) (fun w hm hc hg => ints_spec w hn77 hn84 (by have q := wakeF_len (dg l i).w.key (dg l i).n L.length [] L; rw [List.length_nil] at q; omega) (hs77.srM (by intro _; rfl) hm) (hs84.srM (by intro _; rfl) hm)) ?_
    refine LM.nil ?_
    refine QM.one au1 (fun _ _ => trivial) ?_
    refine KD.val rfl rfl (ov_assign rfl) ?_
    refine KD.nil ?_
    refine QM.sub (e' := [(5, _), (6, _), (7, _), (11, _), (12, _), (49, _), (50, _), (51, _)]) au9 ?_
    refine QM.block_normal ?_
    refine QM.meetK ((wakeF (dg l i).w.key (dg l i).n L.length [] L).2, mt77, mt84) ⟨(by first | rfl | exact lk rfl (congrArg Value.bool (decide_eq_true rfl)) | exact lk rfl (congrArg Value.bool (beq_self_eq_true _)) | exact lk rfl (congrArg Value.bool (by simp))), rfl, rfl, rfl, rfl, rfl, rfl, rfl, trivial⟩ au1 ?_
    · exact ⟨ht77.tmono (by omega), ht84⟩
   refine wpM.seq (wpM.region ?_)
   refine LM.val (ov_eql rfl rfl) ?_
   refine LM.as rfl ?_
   refine LM.nil (QM.sub (e' := [(5, _), (6, _), (7, _), (11, _), (12, _), (49, _), (50, _), (51, _), (57, _), (86, _)]) au9 (QM.then ?_))
   refine wpM.condD rfl (fun h7 => ?_) (fun h7 => ?_)
   ·
    refine wpM.seq (wpM.region ?_)
    refine LM.mv rfl (LM.val (ov_field Try.underlying34 rfl Try.sizeOf32 rfl (k := 1) rfl rfl) (LM.val (ov_field Try.underlying32 rfl Try.sizeOf3 rfl (k := 0) rfl rfl) ?_))
    refine LM.rd (om_ld Try.isAgg3 rfl rfl) ?_
    refine LM.cU (oc_call (enters_fn Try.func13 (by kernel_rfl) rfl) rfl) (fun w hm hc hg => tcancel_any (dg l i).w.who w hT (hm.pick mt)) hT.wlk (fun p hp hlt => absurd hlt (Nat.not_lt_of_le (hT.ge p hp))) ?_
    rintro u93 m93 ⟨rfl, h93⟩ -
    refine LM.mv rfl ?_
    refine LM.val (ov_extract rfl rfl) ?_
    refine LM.val (ov_extract rfl rfl) ?_
    refine LM.alloc Try.zeroValue32 rfl (fun b13 hb13 => ?_)
    refine LM.stW Try.sizeOf32 rfl rfl rfl rfl au7 au8 ?_
    refine LM.as rfl ?_
    refine LM.nil (QM.sub (e' := [(5, _), (6, _), (7, _), (11, _), (13, _), (14, _), (49, _), (50, _), (51, _)]) au9 (QM.then (wpM.seq (wpM.region ?_))))
    refine LM.mv rfl (LM.val (ov_field Try.underlying34 rfl Try.sizeOf32 rfl (k := 1) rfl rfl) (LM.val (ov_field Try.underlying32 rfl Try.sizeOf3 rfl (k := 0) rfl rfl) ?_))
    refine LM.rd (om_ld Try.isAgg3 rfl rfl) ?_
    refine LM.callE (oc_call (enters_fn Try.func14 (by kernel_rfl) rfl) rfl) (fun w hm hc hg => rAt_spec (dg l i).w.who w hR (by omega) (hm.pick mw)) ?_
    refine LM.as rfl ?_
    refine LM.nil (QM.sub (e' := [(5, _), (6, _), (7, _), (11, _), (13, _), (14, _), (15, _), (49, _), (50, _), (51, _)]) au9 (QM.then (wpM.seq (wpM.region ?_))))
    refine LM.mv rfl (LM.mv rfl ?_)
    refine LM.val (ov_geq rfl rfl) ?_
    refine LM.val (ov_beql Try.underlying4 rfl rfl) ?_
    refine LM.mv rfl ?_
    refine LM.splitD (t := 105) rfl (fun h8 => ?_) (fun h8 => ?_)
    ·
     refine LM.sp 105 rfl rfl rfl (LM.mv rfl (LM.sp 105 rfl rfl rfl (LM.mv rfl ?_)))
     refine LM.splitD (t := 107) rfl (fun h9 => ?_) (fun h9 => ?_)
     ·
      obtain ⟨i2, hi2, hai, hwi, hrm⟩ := at_yes hwd h9
      refine LM.dr 107 rfl rfl rfl (LM.dr 107 rfl rfl rfl (LM.dr 107 rfl rfl rfl (LM.sp 105 rfl rfl rfl ?_)))
      try rw [hv0]
      refine LM.val (ov_pickT rfl rfl) ?_
      refine LM.val (ov_pickT rfl rfl) ?_
      refine LM.as rfl ?_
      refine LM.nil (QM.sub (e' := [(5, _), (6, _), (7, _), (11, _), (12, _), (13, _), (15, _), (49, _), (50, _), (51, _)]) au9 (QM.then (wpM.seq (wpM.region ?_))))
      refine LM.mv rfl ?_
      refine LM.val (ov_geq rfl rfl) ?_
      refine LM.nil (QM.sub (e' := [(5, _), (6, _), (7, _), (11, _), (12, _), (13, _), (15, _), (49, _), (50, _), (51, _), (114, _)]) au9 (QM.then ?_))
      refine wpM.condD rfl (fun h10 => ?_) (fun h10 => ?_)
      ·
       refine wpM.keep ((b13, .cells (fWt (exW L (dg l i).w.who)).toArray 32 (0, 0)) :: []) (fun _ => True) (.one 0 0 (.one 1 0 (.one 2 1 (.one 3 0 (.one 4 0 (.one 5 2 (.one 6 0 (.one 7 0 (.one 8 0 .nil))))))))) (by kernel_rfl) (by kernel_rfl) au1 (fun _ _ => trivial) ?_
       refine KD.val rfl rfl (ov_move rfl) ?_
       refine KD.val rfl rfl (ov_move rfl) ?_
       refine KD.rd rfl ⟨116, _, rfl, rfl, rfl⟩ (om_ldW Try.isAgg32 Try.sizeOf32 rfl rfl) ?_
       refine KD.val rfl ⟨116, _, rfl, rfl, rfl⟩ (ov_move rfl) ?_
       refine KD.val rfl ⟨116, _, rfl, rfl, rfl⟩ (ov_move rfl) ?_
       refine KD.one rfl ?_
       refine LM.sp 116 rfl rfl rfl ?_
       rw [hai]
       refine LM.cU (oc_call (enters_fn Try.func15 (by kernel_rfl) rfl) rfl) (fun w hm hc hg => rTake_spec i2 w hR (by omega) hi2 hc.size (hm.pick mw)) hR.wlk (fun p hp hlt => absurd hlt (Nat.not_lt_of_le (hR.ge p hp))) ?_
       rintro u120 m120 ⟨rfl, h120⟩ -
       refine LM.nil ?_
       refine QM.one au1 (fun _ _ => trivial) ?_
       refine KD.val rfl ⟨116, _, rfl, rfl, rfl⟩ (ov_aeql Try.underlying32 (by kernel_rfl) (by kernel_rfl) (by decide) rfl rfl (by rfl) ⟨(by first | rfl | trivial), (by first | rfl | trivial), (by first | rfl | trivial), trivial⟩) ?_
       rw [show veqs (fWt (exW L (l.getD i default).w.who)) (fWt (L.getD i2 default)) = true by (have e := hwi; unfold dg wg at e; rw [e]; exact fWt_eq _)]
       refine KD.val rfl rfl (ov_pickT rfl rfl) ?_
       refine KD.val rfl rfl (ov_assign rfl) ?_
       refine KD.nil ?_
       refine QM.sub (e' := [(5, _), (6, _), (7, _), (11, _), (12, _), (49, _), (50, _), (51, _)]) au9 ?_
       refine QM.block_normal ?_
       refine QM.meetK (rmW L (dg l i).w.who, m93, m120) ⟨(by first | rfl | exact lk rfl (congrArg Value.bool (decide_eq_true rfl)) | exact lk rfl (congrArg Value.bool (beq_self_eq_true _)) | exact lk rfl (congrArg Value.bool (by simp))), rfl, rfl, rfl, rfl, rfl, rfl, rfl, trivial⟩ au1 ?_
       · exact ⟨h93.tmono (by omega), by rw [← hrm]; exact h120⟩
      omega
     obtain ⟨hx0, hr0⟩ := at_no h9; have hv0 : veqs (fWt (exW L (l.getD i default).w.who)) [.int .i64 0, .int .i64 0, .int .u64 0] = true := (by have e := hx0; unfold dg at e; rw [e]; exact veq0)
     refine LM.sp 107 rfl rfl rfl ?_
     refine LM.rd (om_ldW Try.isAgg32 Try.sizeOf32 rfl rfl) ?_
     refine LM.sp 107 rfl rfl rfl ?_
     refine LM.val (ov_build (cs := #[_, _, _]) rfl (by first | rfl | kernel_rfl)) ?_
     refine LM.sp 107 rfl rfl rfl ?_
     refine LM.val (ov_aeql Try.underlying32 (by kernel_rfl) (by kernel_rfl) (by decide) rfl rfl (by rfl) ⟨(by first | rfl | trivial), (by first | rfl | trivial), (by first | rfl | trivial), trivial⟩) ?_
     refine LM.sp 105 rfl rfl rfl ?_
     try rw [hv0]
     refine LM.val (ov_pickF rfl rfl) ?_
     refine LM.val (ov_pickT rfl rfl) ?_
     refine LM.as rfl ?_
     refine LM.nil (QM.sub (e' := [(5, _), (6, _), (7, _), (11, _), (12, _), (13, _), (15, _), (49, _), (50, _), (51, _)]) au9 (QM.then (wpM.seq (wpM.region ?_))))
     refine LM.mv rfl ?_
     refine LM.val (ov_geq rfl rfl) ?_
     refine LM.nil (QM.sub (e' := [(5, _), (6, _), (7, _), (11, _), (12, _), (13, _), (15, _), (49, _), (50, _), (51, _), (114, _)]) au9 (QM.then ?_))
     refine wpM.condD rfl (fun h11 => ?_) (fun h11 => ?_)
     ·
      omega
     refine wpM.skip ?_
     refine QM.block_normal ?_
     refine QM.meetK (rmW L (dg l i).w.who, m93, mw) ⟨(by first | rfl | exact lk rfl (congrArg Value.bool (decide_eq_true rfl)) | exact lk rfl (congrArg Value.bool (beq_self_eq_true _)) | exact lk rfl (congrArg Value.bool (by simp))), rfl, rfl, rfl, rfl, rfl, rfl, rfl, trivial⟩ au1 ?_
     · exact ⟨h93.tmono (by omega), by rw [hr0]; exact hR⟩
    first | cases h8 | (simp at h8; done)
   refine wpM.seq (wpM.region ?_)
   refine LM.val (ov_eql rfl rfl) ?_
   refine LM.as rfl ?_
   refine LM.nil (QM.sub (e' := [(5, _), (6, _), (7, _), (11, _), (12, _), (49, _), (50, _), (51, _), (57, _), (123, _)]) au9 (QM.then ?_))
   refine wpM.condD rfl (fun h12 => ?_) (fun h12 => ?_)
   ·
    refine wpM.keep ((b11, .cells (fDw (dg l i)).toArray 34 (0, 0)) :: []) (fun _ => True) (.one 0 0 (.one 1 0 (.one 2 0 (.one 3 1 (.one 4 0 (.one 5 1 (.one 6 0 (.one 7 0 (.one 8 1 (.one 10 0 (.one 11 0 (.one 12 0 (.one 13 1 (.one 14 0 (.one 15 1 (.one 16 0 (.one 17 0 (.one 18 1 (.one 9 2 (.one 19 2 (.one 20 0 (.one 21 0 .nil)))))))))))))))))))))) (by kernel_rfl) (by kernel_rfl) au1 (fun _ _ => trivial) ?_
    refine KD.val rfl rfl (ov_move rfl) ?_
    refine KD.val rfl rfl (ov_field Try.underlying34 rfl Try.sizeOf32 rfl (k := 1) rfl rfl) ?_
    refine KD.val rfl rfl (ov_field Try.underlying32 rfl Try.sizeOf3 rfl (k := 1) rfl rfl) ?_
    refine KD.rd rfl rfl (om_ld Try.isAgg3 rfl rfl) ?_
    refine KD.val rfl rfl (ov_field Try.underlying34 rfl Try.sizeOf3 rfl (k := 4) rfl rfl) ?_
    refine KD.rd rfl rfl (om_ld Try.isAgg3 rfl rfl) ?_
    refine KD.val rfl rfl (ov_field Try.underlying34 rfl Try.sizeOf32 rfl (k := 1) rfl rfl) ?_
    refine KD.val rfl rfl (ov_field Try.underlying32 rfl Try.sizeOf3 rfl (k := 0) rfl rfl) ?_
    refine KD.rd rfl rfl (om_ld Try.isAgg3 rfl rfl) ?_
    refine KD.val rfl rfl (ov_move rfl) ?_
    refine KD.val rfl rfl (ov_field Try.underlying34 rfl Try.sizeOf32 rfl (k := 1) rfl rfl) ?_
    refine KD.val rfl rfl (ov_field Try.underlying32 rfl Try.sizeOf3 rfl (k := 1) rfl rfl) ?_
    refine KD.rd rfl rfl (om_ld Try.isAgg3 rfl rfl) ?_
    refine KD.val rfl rfl (ov_field Try.underlying34 rfl Try.sizeOf3 rfl (k := 4) rfl rfl) ?_
    refine KD.rd rfl rfl (om_ld Try.isAgg3 rfl rfl) ?_
    refine KD.val rfl rfl (ov_field Try.underlying34 rfl Try.sizeOf32 rfl (k := 1) rfl rfl) ?_
    refine KD.val rfl rfl (ov_field Try.underlying32 rfl Try.sizeOf3 rfl (k := 0) rfl rfl) ?_
    refine KD.rd rfl rfl (om_ld Try.isAgg3 rfl rfl) ?_
    refine KD.one rfl ?_
    refine LM.cU (oc_call (enters_fn Try.func16 (by kernel_rfl) rfl) rfl) (fun w hm hc hg => trequeue_spec (dg l i).w.key (dg l i).n (dg l i).w.who w hT (by omega) hc.size (hm.pick mt)) hT.wlk (fun p hp hlt => absurd hlt (Nat.not_lt_of_le (hT.ge p hp))) ?_
    rintro u134 m134 ⟨rfl, h134⟩ -
    refine LM.nil ?_
    refine QM.one au1 (fun _ _ => trivial) ?_
    refine KD.one rfl ?_
    refine LM.cU (oc_call (enters_fn Try.func17 (by kernel_rfl) rfl) rfl) (fun w hm hc hg => rRequeue_spec (dg l i).w.key (dg l i).n (dg l i).w.who w hR (by omega) hwd hc.size (hm.pick mw)) hR.wlk (fun p hp hlt => absurd hlt (Nat.not_lt_of_le (hR.ge p hp))) ?_
    rintro u144 m144 ⟨rfl, h144⟩ -
    refine LM.nil ?_
    refine QM.one au1 (fun _ _ => trivial) ?_
    refine KD.val rfl rfl (ov_eql rfl rfl) ?_
    refine KD.val rfl rfl (ov_assign rfl) ?_
    refine KD.nil ?_
    refine QM.sub (e' := [(5, _), (6, _), (7, _), (11, _), (12, _), (49, _), (50, _), (51, _)]) au9 ?_
    refine QM.block_normal ?_
    refine QM.meetK ((rqF (dg l i).w.key (dg l i).n (dg l i).w.who (newMost x) (cntL L (dg l i).w.key) 0 L).2, m134, m144) ⟨(by first | rfl | exact lk rfl (congrArg Value.bool (decide_eq_true rfl)) | exact lk rfl (congrArg Value.bool (beq_self_eq_true _)) | exact lk rfl (congrArg Value.bool (by simp))), rfl, rfl, rfl, rfl, rfl, rfl, rfl, trivial⟩ au1 ?_
    · exact ⟨h134.tmono (by omega), h144⟩
   refine wpM.seq (wpM.region ?_)
   refine LM.val (ov_eql rfl rfl) ?_
   refine LM.as rfl ?_
   refine LM.nil (QM.sub (e' := [(5, _), (6, _), (7, _), (11, _), (12, _), (49, _), (50, _), (51, _), (57, _), (146, _)]) au9 (QM.then ?_))
   refine wpM.condD rfl (fun h13 => ?_) (fun h13 => ?_)
   ·
    refine wpM.region ?_
    refine LM.mv rfl (LM.mv rfl (LM.val (ov_field Try.underlying34 rfl Try.sizeOf32 rfl (k := 1) rfl rfl) (LM.val (ov_field Try.underlying32 rfl Try.sizeOf30 rfl (k := 2) rfl rfl) ?_)))
    refine LM.rd (om_ld Try.isAgg30 rfl rfl) ?_
    refine LM.val (ov_field Try.underlying34 rfl Try.sizeOf3 rfl (k := 4) rfl rfl) ?_
    refine LM.rd (om_ld Try.isAgg3 rfl rfl) ?_
    refine LM.val (ov_toU Try.underlying3 Try.underlying30 rfl) ?_
    refine LM.val (ov_urem (b := 4#64) rfl rfl (by first | decide | assumption)) ?_
    refine LM.val (ov_ofU Try.underlying30 Try.underlying3 rfl) ?_
    refine LM.cU (oc_call (enters_fn Try.func18 (by kernel_rfl) rfl) rfl) (fun w hm hc hg => lexpire_spec (dg l i).w.til _ w hT hR (mod4_le _) hc.size (hm.pick (mt ++ mw))) (fun p hp => (List.mem_append.1 hp).elim (hT.wlk p) (hR.wlk p)) (fun p hp hlt => absurd hlt (Nat.not_lt_of_le ((List.mem_append.1 hp).elim (hT.ge p) (hR.ge p)))) ?_
    rintro u158 m158 ⟨rfl, L158, mt158, mr158, rfl, ht158, hr158⟩ -
    refine LM.as rfl ?_
    refine LM.nil (QM.sub (e' := [(5, _), (6, _), (7, _), (11, _), (12, _), (49, _), (50, _), (51, _)]) au9 ?_)
    refine QM.block_normal ?_
    refine QM.meetK (L158, mt158, mr158) ⟨(by first | rfl | exact lk rfl (congrArg Value.bool (decide_eq_true rfl)) | exact lk rfl (congrArg Value.bool (beq_self_eq_true _)) | exact lk rfl (congrArg Value.bool (by simp))), rfl, rfl, rfl, rfl, rfl, rfl, rfl, trivial⟩ au1 ?_
    · exact ⟨ht158.tmono (by omega), hr158⟩
   refine wpM.seq (wpM.region ?_)
   refine LM.val (ov_eql rfl rfl) ?_
   refine LM.as rfl ?_
   refine LM.nil (QM.sub (e' := [(5, _), (6, _), (7, _), (11, _), (12, _), (49, _), (50, _), (51, _), (159, _)]) au9 (QM.then ?_))
   refine wpM.condD rfl (fun h14 => ?_) (fun h14 => ?_)
   ·
    refine wpM.seq (wpM.region ?_)
    refine LM.mv rfl (LM.val (ov_field Try.underlying34 rfl Try.sizeOf32 rfl (k := 1) rfl rfl) (LM.val (ov_field Try.underlying32 rfl Try.sizeOf3 rfl (k := 0) rfl rfl) ?_))
    refine LM.rd (om_ld Try.isAgg3 rfl rfl) ?_
    refine LM.callE (oc_call (enters_fn Try.func19 (by kernel_rfl) rfl) rfl) (fun w hm hc hg => twho_any (dg l i).w.who w hT (hm.pick mt)) ?_
    refine LM.mv rfl ?_
    refine LM.val (ov_extract rfl rfl) ?_
    refine LM.val (ov_extract rfl rfl) ?_
    refine LM.alloc Try.zeroValue32 rfl (fun b16 hb16 => ?_)
    refine LM.stW Try.sizeOf32 rfl rfl rfl rfl au7 au8 ?_
    refine LM.as rfl ?_
    refine LM.nil (QM.sub (e' := [(5, _), (6, _), (7, _), (11, _), (16, _), (17, _), (49, _), (50, _), (51, _)]) au9 (QM.then (wpM.seq (wpM.region ?_))))
    refine LM.mv rfl (LM.val (ov_field Try.underlying34 rfl Try.sizeOf32 rfl (k := 1) rfl rfl) (LM.val (ov_field Try.underlying32 rfl Try.sizeOf3 rfl (k := 0) rfl rfl) ?_))
    refine LM.rd (om_ld Try.isAgg3 rfl rfl) ?_
    refine LM.callE (oc_call (enters_fn Try.func14 (by kernel_rfl) rfl) rfl) (fun w hm hc hg => rAt_spec (dg l i).w.who w hR (by omega) (hm.pick mw)) ?_
    refine LM.as rfl ?_
    refine LM.nil (QM.sub (e' := [(5, _), (6, _), (7, _), (11, _), (16, _), (17, _), (18, _), (49, _), (50, _), (51, _)]) au9 (QM.then ?_))
    refine wpM.draw [(0, 0), (1, 0), (2, 0), (3, 0), (4, 0), (5, 0), (6, 0), (7, 1), (8, 0), (9, 0), (10, 0), (11, 1), (12, 0), (13, 0), (14, 1), (15, 0), (16, 0), (17, 0), (18, 0), (19, 0), (20, 0), (21, 1), (22, 0), (23, 0), (24, 0), (25, 0), (26, 0), (27, 0)] (by kernel_rfl) (by kernel_rfl) ?_
    refine LD.val rfl rfl (ov_move rfl) ?_
    refine LD.val rfl rfl (ov_move rfl) ?_
    refine LD.val rfl rfl (ov_geq rfl rfl) ?_
    refine LD.val rfl rfl (ov_beql Try.underlying4 rfl rfl) ?_
    refine LD.val rfl rfl (ov_move rfl) ?_
    refine LD.splitD (t := 178) rfl (fun h15 => ?_) (fun h15 => ?_)
    ·
     refine LD.val rfl ⟨178, _, rfl, rfl, rfl⟩ (ov_move rfl) ?_
     refine LD.val rfl ⟨178, _, rfl, rfl, rfl⟩ (ov_move rfl) ?_
     refine LD.splitD (t := 180) rfl (fun h16 => ?_) (fun h16 => ?_)
     ·
      obtain ⟨i2, hi2, hai, hwi, hrm⟩ := at_yes hwd h16; have hv1 : veqs (fWt (exW L (l.getD i default).w.who)) (fWt (L.getD i2 default)) = true := (by have e := hwi; unfold dg wg at e; rw [e]; exact fWt_eq _); have hR0 := hR; obtain ⟨adw, nw, capw, msw, rfl, hnw, hsw, hbw⟩ := hR
      refine LD.rd rfl ⟨180, _, rfl, rfl, rfl⟩ (om_ldW Try.isAgg32 Try.sizeOf32 rfl rfl) ?_
      refine LD.val rfl ⟨180, _, rfl, rfl, rfl⟩ (ov_move rfl) ?_
      refine LD.val rfl ⟨180, _, rfl, rfl, rfl⟩ (ov_nilCheck rfl) ?_
      refine LD.val rfl ⟨180, _, rfl, rfl, rfl⟩ (ov_field Try.underlying48 rfl Try.sizeOf46 rfl (k := 2) rfl rfl) ?_
      refine LD.rd rfl ⟨180, _, rfl, rfl, rfl⟩ (om_ld Try.isAgg46 rfl rfl) ?_
      refine LD.val rfl ⟨180, _, rfl, rfl, rfl⟩ (ov_move rfl) ?_
      rw [hai]
      refine LD.val rfl ⟨180, _, rfl, rfl, rfl⟩ (ov_idxSN au6 Try.underlying46 Try.sizeOf32 rfl rfl (by omega)) ?_
      refine LD.rd rfl ⟨180, _, rfl, rfl, rfl⟩ (om_slA (by assumption) (by intro _; rfl) Try.isAgg32 Try.sizeOf32 rfl au3) ?_
      refine LD.val rfl ⟨180, _, rfl, rfl, rfl⟩ (ov_aeql Try.underlying32 (by kernel_rfl) (by kernel_rfl) (by decide) rfl rfl (by rfl) ⟨(by first | rfl | trivial), (by first | rfl | trivial), (by first | rfl | trivial), trivial⟩) ?_
      try rw [hv1]
      refine LD.val rfl ⟨178, _, rfl, rfl, rfl⟩ (ov_pickT rfl rfl) ?_
      refine LD.val rfl ⟨178, _, rfl, rfl, rfl⟩ (ov_move rfl) ?_
      first | refine LD.splitD (t := 191) rfl (fun h17 => ?_) (fun h17 => ?_) | refine LD.splitB (t := 191) rfl (fun h17 => ?_) (fun h17 => ?_)
      ·
       refine LD.drop rfl rfl ⟨191, _, rfl, rfl, rfl⟩ ?_
       refine LD.drop rfl rfl ⟨191, _, rfl, rfl, rfl⟩ ?_
       refine LD.dropU rfl rfl ⟨191, _, rfl, rfl, rfl⟩ ?_
       refine LD.dropX rfl rfl rfl rfl ?_
       refine LD.dropX rfl rfl rfl rfl ?_
       refine LD.dropX rfl rfl rfl rfl ?_
       refine LD.drop rfl rfl ⟨191, _, rfl, rfl, rfl⟩ ?_
       refine LD.val rfl ⟨178, _, rfl, rfl, rfl⟩ (ov_pickT rfl rfl) ?_
       refine LD.val rfl rfl (ov_pickT rfl rfl) ?_
       refine LD.val rfl rfl (ov_assign rfl) ?_
       refine LD.nil ?_
       refine QM.sub (e' := [(5, _), (6, _), (7, _), (11, _), (12, _), (49, _), (50, _), (51, _)]) au9 ?_
       refine QM.block_normal ?_
       refine QM.meetK (L, mt, rtC bw (newMost y) (newMost x) adw nw capw :: msw) ⟨(by first | rfl | exact lk rfl (congrArg Value.bool (decide_eq_true rfl)) | exact lk rfl (congrArg Value.bool (beq_self_eq_true _)) | exact lk rfl (congrArg Value.bool (by simp))), rfl, rfl, rfl, rfl, rfl, rfl, rfl, trivial⟩ au1 ?_
       · exact ⟨hT.tmono (by omega), hR0⟩
      cases h17
     obtain ⟨hx0, hr0⟩ := at_no h16; have hv0 : veqs (fWt (exW L (l.getD i default).w.who)) [.int .i64 0, .int .i64 0, .int .u64 0] = true := (by have e := hx0; unfold dg at e; rw [e]; exact veq0)
     refine LD.drop rfl rfl ⟨180, _, rfl, rfl, rfl⟩ ?_
     refine LD.drop rfl rfl ⟨180, _, rfl, rfl, rfl⟩ ?_
     refine LD.drop rfl rfl ⟨180, _, rfl, rfl, rfl⟩ ?_
     refine LD.drop rfl rfl ⟨180, _, rfl, rfl, rfl⟩ ?_
     refine LD.drop rfl rfl ⟨180, _, rfl, rfl, rfl⟩ ?_
     refine LD.drop rfl rfl ⟨180, _, rfl, rfl, rfl⟩ ?_
     refine LD.drop rfl rfl ⟨180, _, rfl, rfl, rfl⟩ ?_
     refine LD.drop rfl rfl ⟨180, _, rfl, rfl, rfl⟩ ?_
     refine LD.drop rfl rfl ⟨180, _, rfl, rfl, rfl⟩ ?_
     try rw [hv1]
     refine LD.val rfl ⟨178, _, rfl, rfl, rfl⟩ (ov_pickF rfl rfl) ?_
     refine LD.val rfl ⟨178, _, rfl, rfl, rfl⟩ (ov_move rfl) ?_
     refine LD.val rfl ⟨191, _, rfl, rfl, rfl⟩ (ov_move rfl) ?_
     refine LD.val rfl ⟨191, _, rfl, rfl, rfl⟩ (ov_notD rfl) ?_
     refine LD.val rfl ⟨191, _, rfl, rfl, rfl⟩ (ov_move rfl) ?_
     refine LD.splitD (t := 194) rfl (fun h18 => ?_) (fun h18 => ?_)
     ·
      refine LD.rd rfl ⟨194, _, rfl, rfl, rfl⟩ (om_ldW Try.isAgg32 Try.sizeOf32 rfl rfl) ?_
      refine LD.val rfl ⟨194, _, rfl, rfl, rfl⟩ (ov_build (cs := #[_, _, _]) rfl (by first | rfl | kernel_rfl)) ?_
      refine LD.val rfl ⟨194, _, rfl, rfl, rfl⟩ (ov_aeql Try.underlying32 (by kernel_rfl) (by kernel_rfl) (by decide) rfl rfl (by rfl) ⟨(by first | rfl | trivial), (by first | rfl | trivial), (by first | rfl | trivial), trivial⟩) ?_
      try rw [hv0]
      refine LD.val rfl ⟨191, _, rfl, rfl, rfl⟩ (ov_pickT rfl rfl) ?_
      refine LD.val rfl ⟨178, _, rfl, rfl, rfl⟩ (ov_pickF rfl rfl) ?_
      refine LD.val rfl rfl (ov_pickT rfl rfl) ?_
      refine LD.val rfl rfl (ov_assign rfl) ?_
      refine LD.nil ?_
      refine QM.sub (e' := [(5, _), (6, _), (7, _), (11, _), (12, _), (49, _), (50, _), (51, _)]) au9 ?_
      refine QM.block_normal ?_
      refine QM.meetK (L, mt, mw) ⟨(by first | rfl | exact lk rfl (congrArg Value.bool (decide_eq_true rfl)) | exact lk rfl (congrArg Value.bool (beq_self_eq_true _)) | exact lk rfl (congrArg Value.bool (by simp))), rfl, rfl, rfl, rfl, rfl, rfl, rfl, trivial⟩ au1 ?_
      · exact ⟨hT.tmono (by omega), hR⟩
     exact absurd h16 h18
    first | cases h15 | (simp at h15; done)
   omega
  rintro ⟨L2, mt2, mw2⟩ ⟨hT2, hR2⟩
  change QM _ _ _ _ _ ((b11, .cells (fDw (dg l i)).toArray 34 (0, 0)) :: (mt2 ++ (mw2 ++ (mk ++ [])))) _ _ _
  refine QM.then (wpM.seq (wpM.region ?_))
  refine LM.mv rfl ?_
  first | refine LM.val (ov_notD rfl) ?_ | refine LM.val (ov_not rfl) ?_
  refine LM.mv rfl ?_
  first | refine LM.splitD (t := 203) rfl (fun h19 => ?_) (fun h19 => ?_) | refine LM.splitB (t := 203) rfl (fun h19 => ?_) (fun h19 => ?_)
  ·
   refine LM.dr 203 rfl rfl rfl (LM.dr 203 rfl rfl rfl (LM.dr 203 rfl rfl rfl (LM.dr 203 rfl rfl rfl (LM.dr 203 rfl rfl rfl (LM.dr 203 rfl rfl rfl ?_)))))
   refine LM.dr 203 rfl rfl rfl (LM.dr 203 rfl rfl rfl (LM.dr 203 rfl rfl rfl (LM.dr 203 rfl rfl rfl ?_)))
   refine LM.val (ov_pickT rfl rfl) ?_
   refine LM.nil (QM.sub (e' := [(5, _), (6, _), (7, _), (49, _), (50, _), (51, _), (214, _)]) au9 (QM.then ?_))
   refine wpM.condT rfl ?_
   refine wpM.seq (wpM.region ?_)
   refine LM.as rfl ?_
   refine LM.nil (QM.sub (e' := [(4, _)]) ⟨rfl, trivial⟩ (QM.then ?_))
   refine wpM.ret ?_
   refine QM.block_ret ?_
   refine QM.then_ret ?_
   refine QM.then_ret ?_
   refine QM.block_ret ?_
   refine QM.then_ret ?_
   refine QM.leave (.inl rfl) [.tmp 4] Try.results3 rfl ?_
   intro w' hm' hc' hg'
   first | exact ⟨rfl, hc'⟩ | (exfalso; first | omega | (simp at *; done) | (simp_all; done))
  refine LM.sp 203 rfl rfl rfl (LM.mv rfl (LM.sp 203 rfl rfl rfl (LM.mv rfl (LM.sp 203 rfl rfl rfl (LM.val (ov_field Try.underlying34 rfl Try.sizeOf32 rfl (k := 1) rfl rfl) ?_)))))
  refine LM.sp 203 rfl rfl rfl (LM.val (ov_field Try.underlying32 rfl Try.sizeOf3 rfl (k := 1) rfl rfl) (LM.sp 203 rfl rfl rfl ?_))
  refine LM.rd (om_ld Try.isAgg3 rfl rfl) ?_
  refine LM.sp 203 rfl rfl rfl (LM.val (ov_field Try.underlying34 rfl Try.sizeOf3 rfl (k := 4) rfl rfl) (LM.sp 203 rfl rfl rfl ?_))
  refine LM.rd (om_ld Try.isAgg3 rfl rfl) ?_
  refine LM.sp 203 rfl rfl rfl ?_
  refine LM.row (vs := [_, _]) Try.underlying29 Try.sizeOf3 Try.zeroValue3 rfl rfl rfl rfl rfl rfl (fun b211 hb211 => ?_)
  refine LM.sp 203 rfl rfl rfl ?_
  have hs211 : Sl fI 3 1 w.heap.size [(dg l i).w.key, (dg l i).n] (.slice (some ⟨b211, 0, none⟩) 2 2) [(b211, .cells (arr fI [(dg l i).w.key, (dg l i).n] []) 3 (0, 0))] := .inr ⟨b211, 2, [], hb211, rfl, rfl, Nat.le_refl 2, by unfold maxLen; decide, rfl⟩
  refine LM.callE (oc_call (enters_fn Try.func20 (by kernel_rfl) rfl) rfl) (fun w hm hc hg => same_spec (xs := [(dg l i).w.key, (dg l i).n]) w hT2 hR2 rfl (by show 2 ≤ 100000; decide) (by have hm2 : Mem w ((b211, .cells (arr fI [(dg l i).w.key, (dg l i).n] []) 3 (0, 0)) :: _) := hm; exact hs211.srM (by intro _; rfl) hm2) (hm.pick (mt2 ++ mw2))) ?_
  refine LM.sp 203 rfl rfl rfl ?_
  first | refine LM.val (ov_notD rfl) ?_ | refine LM.val (ov_not rfl) ?_
  refine LM.val (ov_pickF rfl rfl) ?_
  refine LM.nil (QM.sub (e' := [(5, _), (6, _), (7, _), (49, _), (50, _), (51, _), (214, _)]) au9 (QM.then ?_))
  first | refine wpM.condD rfl (fun h20 => ?_) (fun h20 => ?_) | refine wpM.condB rfl (fun h20 => ?_) (fun h20 => ?_)
  ·
   refine wpM.seq (wpM.region ?_)
   refine LM.as rfl ?_
   refine LM.nil (QM.sub (e' := [(4, _)]) ⟨rfl, trivial⟩ (QM.then ?_))
   refine wpM.ret ?_
   refine QM.block_ret ?_
   refine QM.then_ret ?_
   refine QM.then_ret ?_
   refine QM.block_ret ?_
   refine QM.then_ret ?_
   refine QM.leave (.inl rfl) [.tmp 4] Try.results3 rfl ?_
   intro w' hm' hc' hg'
   first | exact ⟨rfl, hc'⟩ | (exfalso; first | omega | (simp at *; done) | (simp_all; done))
  refine wpM.skip ?_
  refine QM.block_normal ?_
  refine QM.then (wpM.region ?_)
  refine LM.val (ov_add64 rfl rfl (by omega)) ?_
  refine LM.mv rfl ?_
  refine LM.nil (QM.sub (e' := [(5, _), (6, _), (7, _), (49, _), (50, _), (51, _)]) au9 ?_)
  refine QM.againK (i + 1, L2, mt2, mw2) ⟨au2, rfl, rfl, rfl, rfl, rfl, trivial⟩ au1 (fun _ h => h) ?_ ?_
  · exact ⟨by omega, hT2, hR2⟩
  · first | omega | (dsimp only; omega)
 refine wpM.exit ?_
 refine QM.then_exit ?_
 refine QM.then_exit ?_
 refine QM.block_hit ?_
 refine QM.then (wpM.seq (wpM.region ?_))
 refine LM.mv rfl (LM.mv rfl (LM.mv rfl ?_))
 refine LM.callE (oc_call (enters_fn Try.func20 (by kernel_rfl) rfl) rfl) (fun w hm hc hg => same_spec w hT hR hks.len.1 (by rw [List.length_map, List.length_take]; omega) (hks.srM (by intro _; rfl) hm) (hm.pick (mt ++ mw))) ?_
 refine LM.as rfl ?_
 refine LM.nil (QM.sub (e' := [(4, _)]) ⟨rfl, trivial⟩ (QM.then ?_))
 refine wpM.ret ?_
 refine QM.leave (.inl rfl) [.tmp 4] Try.results3 rfl ?_
 intro w' hm' hc' hg'
 exact ⟨rfl, hc'⟩
end Go.Eng
namespace Go.Eng
open Go Go.Proofs Go.RowKit
set_option maxRecDepth 100000 in
theorem rdb_api_Wait : Rdb Try.prog 32 fWt (fun a => (-9223372036854775808 ≤ a.who ∧ a.who ≤ 9223372036854775807) ∧ (-9223372036854775808 ≤ a.key ∧ a.key ≤ 9223372036854775807)) := fun {H enc w base sp held fuel cs x} h => by
  obtain ⟨h1, h2⟩ := trod_fields Try.underlying32 h
  rw [show Try.prog.cellsOf 32 = 3 by kernel_rfl] at h1
  have c3 : Try.prog.cellsOf 3 = 1 := by kernel_rfl
  have c30 : Try.prog.cellsOf 30 = 1 := by kernel_rfl
  match cs, h1 with
  | [a0, a1, a2], _ =>
    simp only [List.forall_mem_cons, c3, c30, List.drop_succ_cons, List.drop_zero, List.take_succ_cons, List.take_zero] at h2
    obtain ⟨⟨_, _, f0⟩, ⟨_, _, f1⟩, ⟨_, _, f2⟩, _⟩ := h2
    obtain ⟨m0, e0, _, w0⟩ := DataW.trod_int Try.underlying3 f0
    obtain ⟨m1, e1, _, w1⟩ := DataW.trod_int Try.underlying3 f1
    obtain ⟨m2, e2, _, w2⟩ := DataW.trod_int Try.underlying30 f2
    obtain ⟨x2, rfl⟩ := bv_of (bounds_u64 w2)
    simp only [List.cons.injEq, and_true] at e0 e1 e2
    subst e0
    subst e1
    subst e2
    exact ⟨⟨m0, m1, x2⟩, rfl, ⟨bounds_i64 w0, bounds_i64 w1⟩⟩
set_option maxRecDepth 100000 in
theorem rdb_forelocklaw08_Deed : Rdb Try.prog 34 fDw (fun d => 0 ≤ d.kind ∧ d.kind ≤ 255) := fun {H enc w base sp held fuel cs x} h => by
  obtain ⟨h1, h2⟩ := trod_fields Try.underlying34 h
  rw [show Try.prog.cellsOf 34 = 5 by kernel_rfl] at h1
  have c0 : Try.prog.cellsOf 5 = 1 := by kernel_rfl
  have c1 : Try.prog.cellsOf 32 = 3 := by kernel_rfl
  have c2 : Try.prog.cellsOf 3 = 1 := by kernel_rfl
  match cs, h1 with
  | [a0, a1, a2, a3, a4], _ =>
    simp only [List.forall_mem_cons, c0, c1, c2, List.drop_succ_cons, List.drop_zero, List.take_succ_cons, List.take_zero] at h2
    obtain ⟨⟨_, _, f0⟩, ⟨_, _, f1⟩, ⟨_, _, f2⟩, _⟩ := h2
    obtain ⟨m0, e0, _, w0⟩ := DataW.trod_int Try.underlying5 f0
    obtain ⟨v1, e1, _⟩ := rdb_api_Wait f1
    obtain ⟨m2, e2, _, w2⟩ := DataW.trod_int Try.underlying3 f2
    simp only [List.cons.injEq, and_true] at e0 e2
    unfold fWt at e1
    simp only [List.cons.injEq, and_true] at e1
    obtain ⟨rfl, rfl, rfl⟩ := e1
    subst e0; subst e2
    exact ⟨⟨m0, v1, m2⟩, rfl, bounds_u8 w0⟩
end Go.Eng
