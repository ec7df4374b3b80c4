/- The walks of a setup's web, of what is free, and of what is come to. No condition. -/
import Derived.Test.YtpllacnmiaommaaDoorM2
import Derived.Test.YtpllacnmiaommaaDoorM4
import Derived.Test.YtpllacnmiaommaaDoorM3
set_option linter.unusedVariables false
set_option linter.unusedSimpArgs false
set_option maxRecDepth 100000
namespace Go.Eng
open Go Go.Proofs Go.RowKit
abbrev wbB (b : Nat) (ad : Option Addr) (n cap : Nat) : Nat × Obj := (b, .cells #[.slice ad n cap] 56 (0, 0))
def OfT (s : StC) (n0 : Nat) (v : Value) (m : Mem0) : Prop := ∃ ad n cap, v = .tuple #[.slice ad n cap, .bool (mayS s)] ∧ n = (webO s).length ∧ Sl fU 34 1 n0 (webO s) (.slice ad n cap) m
theorem OfT.mono {s : StC} : ∀ (k k' : Nat) u m, k' ≤ k → OfT s k u m → OfT s k' u m := fun k k' u m h ⟨ad, n, cap, h1, h2, h3⟩ => ⟨ad, n, cap, h1, h2, h3.mono h⟩
theorem fold_snoc (G : Gr) {l : List Nat} {k i : Nat} (h : l[k]? = some i) (g : BitVec 64) : (l.take (k + 1)).foldl (fun a i => a ||| ot G i) g = (l.take k).foldl (fun a i => a ||| ot G i) g ||| ot G i := by
  rw [List.take_add_one, h, List.foldl_append]; rfl
theorem first_in {s : BitVec 64} (w : World) (hT : Tab w) (h : s ≠ 0#64) : Ret Tryd.prog 50 #[U s] w (fun v w' => v = .int .i64 (lsb s : Nat) ∧ Ext w w') := by
  have := first_spec s w hT
  unfold firstI at this; rw [if_neg h] at this; exact this
theorem find_at {p : Nat → Bool} {l : List Nat} {k i : Nat} (h : l[k]? = some i) (h0 : ∀ j, j < k → p (l.getD j 0) = false) (hp : p i = true) : l.find? p = some i := by
  have hk := (List.getElem?_eq_some_iff.1 h).1
  rw [List.find?_eq_some_iff_getElem]
  refine ⟨hp, k, hk, (List.getElem?_eq_some_iff.1 h).2, fun j hj => ?_⟩
  have := h0 j hj
  rw [List.getD_eq_getElem?_getD, List.getElem?_eq_getElem om] at this
  simpa using this
theorem find_none' {p : Nat → Bool} {l : List Nat} (h0 : ∀ j, j < l.length → p (l.getD j 0) = false) : l.find? p = none := by
  rw [List.find?_eq_none]
  intro x hx
  obtain ⟨j, hj, rfl⟩ := List.getElem_of_mem hx
  have := h0 j hj
  rw [List.getD_eq_getElem?_getD, List.getElem?_eq_getElem hj] at this
  simpa using this
theorem getD_at {l : List Nat} {k i : Nat} (h : l[k]? = some i) : l.getD k 0 = i := by rw [List.getD_eq_getElem?_getD, h]; rfl
theorem web_spec {s : StV} (w : World) (hI : s.In w) : Ret Tryd.prog 23 #[s.val] w (fun v w' => Ext w w' ∧ ∃ m, OfT s.C w.heap.size v m ∧ Mem w' m ∧ ∀ p ∈ m, w.heap.size ≤ p.1) := by
 have hln := hI.hln; have hpn := hI.hpn; have hp := hI.hp; have hcl : s.C.ps.length = s.ps.length := List.length_map ..; have hll : s.C.ls.length = s.ls.length := rfl
 refine Ret.enterM Tryd.func23 rfl Tryd.ntmps23 rfl ([]) (no) (Mem.nil w) ?_
 refine wR ?_
 refine LM.box rfl rfl (fun b1 hb1 => ?_)
 refine LM.as rfl <| LM.as rfl <| nA [(1, _)] <| wpM.seq <| wR ?_
 refine LM.rd (om_ldW Tryd.isAgg26 Tryd.sizeOf26 rfl rfl) ?_
 refine cE Tryd.func47 rfl (fun w hm hc hg => mayS_spec (s := s) w (hI.ext hc)) ?_
 refine LM.val (ov_not rfl) ?_
 refine nA [(1, _), (10, _)] ?_
 refine wpM.condB rfl (fun h1 => ?_) (fun h1 => ?_)
 ·
  refine wR <| LM.as rfl <| LM.as rfl <| nA [(2, _), (3, _)] <| wpM.ret <| QM.then_ret ?_
  refine QM.leave (.inl rfl) [.tmp 2, .tmp 3] Tryd.results23 rfl ?_
  intro w' hm' hc' hg'
  have hmay : mayS s.C = false := (by simpa using h1); exact ⟨hc', [], ⟨none, 0, 0, by rw [hmay]; rfl, by rw [webO_no hmay]; rfl, by rw [webO_no hmay]; exact .nil _ _ _ _⟩, Mem.nil _, fun p hp => by cases hp⟩
 have hmay : mayS s.C = true := (by simpa using h1); obtain ⟨h8, h8p, -⟩ := mayS_ps' hmay
 refine wpM.skip <| tR <| LM.val (ovf 23 rfl rfl rfl rfl) ?_
 refine LM.rd (oml rfl rfl rfl) ?_
 refine LM.val (ov_len Tryd.underlying23 rfl) ?_
 refine LM.makeS (f := fU) (a0 := 0#64) Tryd.underlying56 Tryd.typeInfo34 rfl rfl rfl rfl ir rfl rfl rfl om (by simp only [Tryd.t34]; omega) om (by unfold maxLen; omega) (fun ad14 n14 m14 hn14 hs14 => ?_)
 refine LM.as rfl <| nA [(1, _), (4, _)] <| wpM.seq <| wR <| LM.mv rfl <| LM.val (ov_len Tryd.underlying56 rfl) <| LM.mv rfl <| nA [(1, _), (4, _), (16, _), (17, _)] <| wpM.block ?_
 refine wpM.loopK0 (α := Nat × Mem0) (fun ⟨i, m⟩ => [(17, .int .i64 (i : Nat))]) [(1, _), (4, _), (16, _)] (fun ⟨i, m⟩ => m ++ (stB b1 s :: [])) (fun ⟨i, m⟩ => i ≤ n14 ∧ Sl fU 34 1 w.heap.size (webP s.C i 0) (.slice ad14 n14 n14) m) (fun ⟨i, m⟩ => n14 - i) ((0, m14)) ⟨au2, rfl, rfl, rfl, trivial⟩ au1 ⟨Nat.zero_le _, by have h := hs14; rw [webP_zero]; rw [show n14 = s.C.ls.length by omega] at h ⊢; exact h⟩ ?_
 rintro ⟨i, m⟩ ⟨hi, hs⟩
 change wpM _ _ _ _ _ _ _ (m ++ (stB b1 s :: [])) _ _ _
 have hwl := webP_len s.C i 0
 refine wR <| LM.val (ov_lss rfl rfl) <| nA [(1, _), (4, _), (16, _), (17, _), (18, _)] <| wpM.seq ?_
 refine wpM.condD rfl (fun h2 => ?_) (fun h2 => ?_)
 ·
  refine wpM.skip <| QM.then <| wpM.seq <| wpM.block <| wR <| LM.mv rfl <| LM.as rfl <| nB [(1, _), (4, _), (5, _), (16, _), (17, _)] <| LM.val (ovf 24 rfl rfl rfl rfl) ?_
  refine LM.rd (oml rfl rfl rfl) ?_
  refine LM.val (ov_len Tryd.underlying24 rfl) <| LM.mv rfl <| nA [(1, _), (4, _), (5, _), (16, _), (17, _), (21, _), (22, _), (23, _)] <| wpM.block ?_
  refine wpM.loopK0 (α := Nat × Mem0) (fun ⟨k, mi⟩ => [(23, .int .i64 (k : Nat))]) [(1, _), (4, _), (5, _), (16, _), (17, _), (21, _), (22, _)] (fun ⟨k, mi⟩ => mi ++ (stB b1 s :: [])) (fun ⟨k, mi⟩ => k ≤ s.pn ∧ Sl fU 34 1 w.heap.size (webP s.C i k) (.slice ad14 n14 n14) mi) (fun ⟨k, mi⟩ => s.pn - k) ((0, m)) ⟨au2, rfl, rfl, rfl, rfl, rfl, rfl, rfl, trivial⟩ au1 ⟨Nat.zero_le _, hs⟩ ?_
  rintro ⟨k, mi⟩ ⟨hk, hsi⟩
  change wpM _ _ _ _ _ _ _ (mi ++ (stB b1 s :: [])) _ _ _
  have hwl2 := webP_len s.C i k
  refine wR <| LM.val (ov_lss rfl rfl) <| nA [(1, _), (4, _), (5, _), (16, _), (17, _), (21, _), (22, _), (23, _), (24, _)] <| wpM.seq ?_
  refine wpM.condD rfl (fun h3 => ?_) (fun h3 => ?_)
  ·
   have hpm : s.ps.getD k default ∈ s.ps := List.mem_of_getElem? (getq default om); have hpi := hI.ops _ hpm; have hpl : (s.ps.getD k default).c.xs.length ≤ 20 := mayS_len hmay (List.mem_map_of_mem hpm)
   refine wpM.skip <| QM.then <| wpM.seq <| wpM.block <| wR ?_
   refine LM.val (ov_idxSN au6 Tryd.underlying24 Tryd.sizeOf37 rfl rfl om) ?_
   refine LM.rdC (om_srEA asm ir Tryd.isAgg37 Tryd.sizeOf37 rfl au3 id) ?_
   refine LM.alloc Tryd.zeroValue37 rfl (fun b7 hb7 => ?_)
   refine LM.stW Tryd.sizeOf37 rfl rfl rfl rfl au7 au8 ?_
   refine nA [(1, _), (4, _), (5, _), (7, _), (16, _), (17, _), (21, _), (22, _), (23, _)] ?_
   refine wpM.draw [(0, 0), (1, 0), (2, 0), (3, 1), (4, 1), (5, 0), (6, 2), (7, 0), (8, 0), (9, 3)] kr kr ?_
   refine LD.val rfl rfl (ov_move rfl) <| LD.val rfl rfl (ov_move rfl) ?_
   refine LD.val rfl rfl (ov_idxSN au6 Tryd.underlying56 Tryd.sizeOf34 rfl rfl om) ?_
   refine LD.rd rfl rfl (om_sl1 asm ir Tryd.isAgg34 rfl rfl (by exact getq 0#64 au4) (by rfl)) ?_
   refine LD.rd rfl rfl (om_ldW Tryd.isAgg37 Tryd.sizeOf37 rfl rfl) ?_
   refine LD.val rfl rfl (ov_move rfl) ?_
   refine dE rfl rfl Tryd.func11 rfl (fun w hm hc hg => within_spec _ w hpi.1 (hpi.2.ext hc) hpl) ?_
   refine LD.val rfl rfl (ov_uor rfl rfl) ?_
   refine LD.val rfl rfl (ov_idxSN au6 Tryd.underlying56 Tryd.sizeOf34 rfl rfl om) ?_
   refine LD.tail rfl rfl ?_
   refine LM.stS _ (j := 0) asm ir Tryd.sizeOf34 rfl rfl rfl (by exact getq 0#64 au4) rfl (by decide) (by rfl) rfl au10 (fun ms hss hmm => ?_)
   refine LM.nil ?_
   refine QM.qn ?_
   refine QM.sub (e' := [(1, _), (4, _), (5, _), (16, _), (17, _), (21, _), (22, _), (23, _)]) au9 ?_
   refine QM.block_normal ?_
   refine QM.then (wpM.region ?_)
   refine LM.val (ov_add64 rfl rfl om) ?_
   refine LM.mv rfl <| nC [(1, _), (4, _), (5, _), (16, _), (17, _), (21, _), (22, _), (23, _)] ?_
   refine QM.againK ((k + 1, ms)) ⟨au2, rfl, rfl, rfl, rfl, rfl, rfl, rfl, trivial⟩ au1 (fun _ h => h) ?_ ?_
   · have e := webP_set (s := s.C) (i := i) (k := k) om om; rw [show s.C.ps.getD k default = (s.ps.getD k default).c from map_getD] at e; exact ⟨by omega, by rw [← e]; exact hss⟩
   · (dsimp only; omega)
  refine wpM.exit <| QM.then_exit <| QM.then_exit <| QM.block_hit <| QM.block_normal ?_
  refine QM.then (wpM.region ?_)
  refine LM.val (ov_add64 rfl rfl om) ?_
  refine LM.mv rfl <| nC [(1, _), (4, _), (16, _), (17, _)] ?_
  refine QM.againK ((i + 1, mi)) ⟨au2, rfl, rfl, rfl, trivial⟩ au1 (fun _ h => h) ?_ ?_
  · exact ⟨by omega, by rw [← webP_next, show s.C.ps.length = k by omega]; exact hsi⟩
  · (dsimp only; omega)
 refine wpM.exit <| QM.then_exit <| QM.then_exit <| QM.block_hit <| tR <| LM.mv rfl <| LM.as rfl <| LM.as rfl <| nA [(2, _), (3, _)] <| wpM.ret ?_
 refine QM.leave (.inl rfl) [.tmp 2, .tmp 3] Tryd.results23 rfl ?_
 intro w' hm' hc' hg'
 have hin : i = s.C.ls.length := om; rw [hin, webP_end, ← webO_yes hmay] at hs; exact ⟨hc', m, ⟨ad14, n14, n14, by rw [hmay]; rfl, by rw [webO_yes hmay, grfO_len]; omega, hs⟩, hm'.pick m, hs.ge⟩
theorem ordd_spec {G : Gr} {ad : Option Addr} {n cap : Nat} (w : World) (hT : Tab w) (hn : n = G.length) (hl : Sr fU 1 G (.slice ad n cap) w) (hx : G.length ≤ 12) : Ret Tryd.prog 24 #[.slice ad n cap] w (fun v w' => v = .bool (ordB G) ∧ Ext w w') := by
 have hpos := hT.pos
 refine Ret.enterM Tryd.func24 rfl Tryd.ntmps24 rfl ([]) (no) (Mem.nil w) ?_
 refine wR <| LM.as rfl <| nB [(0, _)] ?_
 refine LM.callT (oc_call (enters_fn Tryd.func48 kr rfl) rfl) NewGT.mono (fun w hm hc hg => gnew_spec w) ?_
 rintro u6 m6 ⟨bg, rfl, rfl, hbg⟩ -
 refine LM.as rfl <| nA [(0, _), (3, _)] <| wpM.seq <| wR <| LM.mv rfl <| LM.val (ov_len Tryd.underlying56 rfl) <| LM.mv rfl <| nA [(3, _), (7, _), (8, _), (9, _)] <| wpM.block ?_
 refine wpM.loopK0 (α := Nat × Gr) (fun ⟨i, H⟩ => [(9, .int .i64 (i : Nat))]) [(3, _), (7, _), (8, _)] (fun ⟨i, H⟩ => gB bg H :: []) (fun ⟨i, H⟩ => i ≤ n ∧ H = putG G i ∧ okP G i) (fun ⟨i, H⟩ => n - i) ((0, zeroG)) ⟨au2, rfl, rfl, rfl, trivial⟩ au1 ⟨Nat.zero_le _, rfl, fun j hj => absurd hj (Nat.not_lt_zero _)⟩ ?_
 rintro ⟨i, H⟩ ⟨hi, hH, hP⟩
 change wpM _ _ _ _ _ _ _ (gB bg H :: []) _ _ _
 refine wR <| LM.val (ov_lss rfl rfl) <| nA [(3, _), (7, _), (8, _), (9, _), (10, _)] <| wpM.seq ?_
 refine wpM.condD rfl (fun h1 => ?_) (fun h1 => ?_)
 ·
  refine wpM.skip <| QM.then <| wpM.seq <| wpM.block <| wR <| LM.mv rfl ?_
  refine LM.val (ov_idxSN au6 Tryd.underlying56 Tryd.sizeOf34 rfl rfl om) ?_
  refine LM.rdC (om_sr1 asm Tryd.isAgg34 rfl rfl (by exact getq 0#64 au4) (by rfl) id) ?_
  refine LM.as rfl <| LM.as rfl <| nB [(3, _), (4, _), (5, _), (7, _), (8, _), (9, _)] <| LM.mv rfl <| LM.mv rfl <| LM.mv rfl ?_
  refine LM.cW (oc_call (enters_fn Tryd.func49 kr rfl) rfl) (fun w hm hc hg => wait_spec bg H _ _ w (by rw [hH]; exact putG_len _ _) (hT.ext hc) om (hm.pick _)) rfl au8 ?_
  refine LM.val (ov_neq rfl rfl) <| nA [(3, _), (7, _), (8, _), (9, _), (18, _)] ?_
  refine wpM.condD rfl (fun h2 => ?_) (fun h2 => ?_)
  ·
   refine wR <| LM.as rfl <| nA [(2, _)] <| wpM.ret <| QM.block_ret <| QM.then_ret <| QM.then_ret <| QM.block_ret <| QM.then_ret ?_
   refine qL Tryd.results24 rfl fun w' hm' hc' hg' => ?_
   refine ⟨?_, hc'⟩; rw [ordB_no (hP.bad om (by rw [← hH]; exact h2))]; rfl
  refine wpM.skip <| QM.block_normal ?_
  refine QM.then (wpM.region ?_)
  refine LM.val (ov_add64 rfl rfl om) ?_
  refine LM.mv rfl <| nC [(3, _), (7, _), (8, _), (9, _)] ?_
  refine QM.againK (i + 1, wtG H (i : Nat) (G.getD i 0#64)) ⟨au2, rfl, rfl, rfl, trivial⟩ au1 (fun _ h => h) ?_ ?_
  · exact ⟨by omega, by rw [putG_succ, hH]; rfl, fun j hj => by rcases Nat.lt_or_ge j i with q | q; exact hP j q; rw [show j = i by omega, ← hH]; exact Classical.not_not.1 h2⟩
  · (dsimp only; omega)
 refine wpM.exit <| QM.then_exit <| QM.then_exit <| QM.block_hit <| tR <| LM.as rfl <| nA [(2, _)] <| wpM.ret ?_
 refine qL Tryd.results24 rfl fun w' hm' hc' hg' => ?_
 have hin : i = G.length := om; subst hin; refine ⟨?_, hc'⟩; rw [(ordB_iff G).2 (hP.good om)]; rfl
theorem free_spec41 {G : Gr} {ad : Option Addr} {n cap : Nat} (left : BitVec 64) (w : World) (hT : Tab w) (hn : n = G.length) (hl : Sr fU 1 G (.slice ad n cap) w) (hlow : ∀ k : Nat, sHas left k = true → k < G.length) : Ret Tryd.prog 25 #[.slice ad n cap, U left] w (fun v w' => v = .int .i64 (freI G left) ∧ Ext w w') := by
 refine Ret.enterM Tryd.func25 rfl Tryd.ntmps25 rfl ([]) (no) (Mem.nil w) ?_
 refine wR ?_
 refine LM.box rfl rfl (fun b2 hb2 => ?_)
 refine LM.as rfl <| nB [(1, _), (2, _)] ?_
 refine LM.alloc Tryd.zeroValue34 rfl (fun b5 hb5 => ?_)
 refine nA [(1, _), (2, _), (5, _)] <| wpM.seq <| wR <| LM.mv rfl ?_
 refine LM.callT (oc_call (enters_fn Tryd.func34 kr rfl) rfl) AllT.mono (fun w hm hc hg => all_spec _ w) ?_
 rintro u8 m8 ⟨c1, rfl, rfl, hc1⟩ -
 refine nA [(1, _), (2, _), (5, _), (8, _)] <| wpM.block ?_
 refine wpM.toRange (α := BitVec 64) (fun k x => uBx b5 x :: uBx c1 left :: wbB b2 ad n cap :: []) (0#64) au1 ?_
 refine wpM.range (α := BitVec 64) (β := Unit) (enters_fn Tryd.func55 kr rfl) rfl (all_seq (s := left)) (fun k x => uBx b5 x :: uBx c1 left :: wbB b2 ad n cap :: []) (fun _ _ => top) (fun k x => k ≤ (allL left).length ∧ x = ((allL left).take k).foldl (fun a i => a ||| ot G i) 0#64) (fun ⟨⟩ => []) (fun _ => top) (fun c ⟨⟩ => False) 0#64 rfl (fun _ h => h) ⟨Nat.zero_le _, rfl⟩ kr (by intro k av hav; obtain ⟨i, hi, rfl⟩ := allA_inv hav; have hlt := (List.getElem?_eq_some_iff.1 hi).1; have hil : i < G.length := hlow i (by rw [sHas_nat]; exact allL_mem.1 (List.mem_of_getElem? hi)); rfl) (.inl trivial) (fun k a w hm hc _ _ => ⟨SubM.mem au1 w hm, hT.ext hc⟩) (fun _ _ _ _ => gl_top _) (fun _ _ _ => gl_top _) (fun k x _ => mm_cons rfl (mm_cons rfl (mm_cons rfl mm_nil))) (fun c z _ => by ((repeat (refine mm_cons rfl ?_)); exact fun p hp => .inl (by first | exact hp | (simp at hp; done) | (simp [hp]; done) | (simp at hp ⊢; first | exact .inl hp | exact hp | (simp [hp]; done))))) ?_ ?_ ?_ ?_
 ·
  rintro k av x l D rc n1 W1 hD hll hput hrc hav ⟨hk, hx⟩
  change wpM _ _ _ _ _ _ _ ((l, Obj.loop rc) :: ([(D, Obj.deferred (some []))] ++ (uBx b5 x :: uBx c1 left :: wbB b2 ad n cap :: []))) _ _ _
  obtain ⟨i, hi, rfl⟩ := allA_inv hav; have hlt := (List.getElem?_eq_some_iff.1 hi).1; have hil : i < G.length := hlow i (by rw [sHas_nat]; exact allL_mem.1 (List.mem_of_getElem? hi))
  refine wpM.region ?_
  refine LM.as rfl <| nC [(2, _), (5, _), (6, _)] ?_
  refine QM.toBodyF (hput k x) hll ?_
  refine wpM.block ?_
  refine wpM.draw [(0, 1), (1, 1), (2, 0), (3, 0), (4, 1), (5, 0), (6, 3)] kr kr ?_
  refine LD.rd rfl rfl (oml rfl rfl rfl) ?_
  refine LD.rd rfl rfl (oml rfl rfl rfl) ?_
  refine LD.val rfl rfl (ov_move rfl) ?_
  refine LD.val rfl rfl (ov_idxSN au6 Tryd.underlying56 Tryd.sizeOf34 rfl rfl om) ?_
  refine LD.rdC rfl rfl (om_sr1 asm Tryd.isAgg34 rfl rfl (by exact getq 0#64 au4) (by rfl) id) ?_
  refine LD.val rfl rfl (ov_uor rfl rfl) ?_
  refine LD.tail rfl rfl ?_
  refine LM.st Tryd.sizeOf34 rfl rfl rfl au5 rfl au8 ?_
  refine LM.nil ?_
  refine QM.qn ?_
  refine QM.sub (e' := []) trivial ?_
  refine QM.block_normal ?_
  refine QM.next (x ||| G.getD i 0#64) (SubM.mem au1) (fun _ h => h) ?_
  · exact ⟨by omega, by rw [fold_snoc G hi, ← hx]; rfl⟩
 ·
  rintro x D0 hD0 ⟨hk, hx⟩
  refine QM.sub (e' := [(1, _), (5, _)]) au9 ?_
  refine QM.block_normal <| tR <| LM.mv rfl ?_
  refine LM.rd (oml rfl rfl rfl) ?_
  refine LM.val (ov_uandNot rfl rfl) ?_
  refine cE Tryd.func50 rfl (fun w hm hc hg => first_spec _ w (hT.ext hc)) ?_
  refine LM.as rfl <| nA [(4, _)] <| wpM.ret ?_
  refine QM.leaveDF (ds := [D0]) (.inl rfl) [.tmp 4] Tryd.results25 rfl (fun D h => by simp only [List.mem_cons, List.not_mem_nil, or_false] at h; omega) ?_
  intro w' hm' hc'
  refine ⟨?_, hc'⟩; rw [allA_len, List.take_of_length_le (Nat.le_refl _)] at hx; rw [hx]; rfl
 ·
  rintro ⟨⟩ D0 hD0 hx
  exact hx.elim
 rintro id ⟨⟩ D0 hD0 hx
 exact hx.elim
theorem wreach_spec {G : Gr} {ad : Option Addr} {n cap : Nat} (i : Nat) (w : World) (hT : Tab w) (hn : n = G.length) (hl : Sr fU 1 G (.slice ad n cap) w) (hlow : Low G) (hi : i < G.length) : Ret Tryd.prog 28 #[.slice ad n cap, .int .i64 (i : Nat)] w (fun v w' => v = U (ovr G (ot G i)) ∧ Ext w w') := by
 refine Ret.enterM Tryd.func28 rfl Tryd.ntmps28 rfl ([]) (no) (Mem.nil w) ?_
 refine wR <| LM.as rfl <| nB [(0, _), (1, _)] <| LM.as rfl <| nA [(0, _), (1, _), (5, _)] <| wpM.seq <| wR <| LM.mv rfl <| LM.mv rfl ?_
 refine LM.val (ov_idxSN au6 Tryd.underlying56 Tryd.sizeOf34 rfl rfl om) ?_
 refine LM.rdC (om_sr1 asm Tryd.isAgg34 rfl rfl (by exact getq 0#64 au4) (by rfl) id) ?_
 refine LM.as rfl <| nA [(0, _), (5, _), (6, _)] <| wpM.block ?_
 refine wpM.loopK0 (α := BitVec 64 × BitVec 64) (fun ⟨met, todo⟩ => [(5, U met), (6, U todo)]) [(0, _)] (fun ⟨met, todo⟩ => []) (fun ⟨met, todo⟩ => WkI G (ot G i) met todo) (fun ⟨met, todo⟩ => 64 - card met) ((0#64, ot G i)) ⟨au2, au2, rfl, trivial⟩ au1 (WkI.init G _) ?_
 rintro ⟨met, todo⟩ hK
 change wpM _ _ _ _ _ _ _ ([]) _ _ _
 have hcm := card_le met
 refine wpM.seq <| wR <| LM.mv rfl ?_
 refine LM.val (ov_uneq (b := 0#64) rfl rfl) ?_
 refine nA [(0, _), (5, _), (6, _), (13, _)] ?_
 refine wpM.condD rfl (fun h1 => ?_) (fun h1 => ?_)
 ·
  have hlb := (lsb_spec h1).2.1; have hlt : lsb todo < G.length := hlow.rch (hK.sound _ (.inr (by rw [sHas_nat]; exact hlb)))
  refine wpM.skip <| QM.then <| wpM.block <| wR <| LM.mv rfl ?_
  refine cE Tryd.func50 rfl (fun w hm hc hg => first_in w (hT.ext hc) h1) ?_
  refine LM.as rfl <| nB [(0, _), (5, _), (6, _), (7, _)] <| LM.mv rfl <| LM.mv rfl ?_
  refine cE Tryd.func30 rfl (fun w hm hc hg => with_spec _ _ w) ?_
  refine LM.as rfl ?_
  refine LM.nil (QM.sub (e' := [(0, _), (5, _), (6, _), (7, _)]) au9 (QM.then (wpM.region ?_)))
  refine LM.mv rfl <| LM.mv rfl <| LM.mv rfl ?_
  refine LM.val (ov_idxSN au6 Tryd.underlying56 Tryd.sizeOf34 rfl rfl om) ?_
  refine LM.rdC (om_sr1 asm Tryd.isAgg34 rfl rfl (by exact getq 0#64 au4) (by rfl) id) ?_
  refine LM.val (ov_uor rfl rfl) ?_
  refine LM.mv rfl ?_
  refine LM.val (ov_uandNot rfl rfl) ?_
  refine LM.as rfl <| nC [(0, _), (5, _), (6, _)] <| QM.block_normal ?_
  refine QM.againK ((withS met (lsb todo : Nat), (todo ||| G.getD (lsb todo) 0#64) &&& ~~~(withS met (lsb todo : Nat)))) ⟨au2, au2, rfl, trivial⟩ au1 (fun _ h => h) ?_ ?_
  · exact (hK.step h1).1
  · have h9 := (hK.step h1).2; have h8 := card_le (withS met (lsb todo : Nat)); show 64 - card (withS met (lsb todo : Nat)) < 64 - card met; omega
 refine wpM.exit <| QM.then_exit <| QM.then_exit <| QM.block_hit <| tR <| LM.mv rfl <| LM.as rfl <| nA [(4, _)] <| wpM.ret ?_
 refine qL Tryd.results28 rfl fun w' hm' hc' hg' => ?_
 have h0 : todo = 0#64 := Classical.not_not.1 h1; rw [h0] at hK; refine ⟨?_, hc'⟩; rw [hK.end]; rfl
theorem wnext_spec {G : Gr} {ad : Option Addr} {n cap : Nat} (a t : Nat) (w : World) (hT : Tab w) (hn : n = G.length) (hl : Sr fU 1 G (.slice ad n cap) w) (hlow : Low G) (ha : a < G.length) : Ret Tryd.prog 29 #[.slice ad n cap, .int .i64 (a : Nat), .int .i64 (t : Nat)] w (fun v w' => v = .int .i64 (nxtI G a t : Nat) ∧ Ext w w') := by
 refine Ret.enterM Tryd.func29 rfl Tryd.ntmps29 rfl ([]) (no) (Mem.nil w) ?_
 refine wR ?_
 refine LM.box rfl rfl (fun b3 hb3 => ?_)
 refine LM.box rfl rfl (fun b5 hb5 => ?_)
 refine LM.alloc Tryd.zeroValue3 rfl (fun b6 hb6 => ?_)
 refine nA [(1, _), (3, _), (5, _), (6, _)] <| wpM.seq <| wR ?_
 refine LM.rd (oml rfl rfl rfl) ?_
 refine LM.mv rfl ?_
 refine LM.val (ov_idxSN au6 Tryd.underlying56 Tryd.sizeOf34 rfl rfl om) ?_
 refine LM.rdC (om_sr1 asm Tryd.isAgg34 rfl rfl (by exact getq 0#64 au4) (by rfl) id) ?_
 refine LM.callT (oc_call (enters_fn Tryd.func34 kr rfl) rfl) AllT.mono (fun w hm hc hg => all_spec _ w) ?_
 rintro u12 m12 ⟨c1, rfl, rfl, hc1⟩ -
 refine nA [(3, _), (5, _), (6, _), (12, _)] <| wpM.block ?_
 refine wpM.toRange (α := Unit) (fun k ⟨⟩ => uBx c1 (ot G a) :: (b6, .cells #[.int .i64 0] 3 (0, 0)) :: (b5, .cells #[.int .i64 (t : Nat)] 3 (0, 0)) :: wbB b3 ad n cap :: []) (⟨⟩) au1 ?_
 refine wpM.range (α := Unit) (β := Nat) (enters_fn Tryd.func55 kr rfl) rfl (all_seq (s := ot G a)) (fun k ⟨⟩ => uBx c1 (ot G a) :: (b6, .cells #[.int .i64 0] 3 (0, 0)) :: (b5, .cells #[.int .i64 (t : Nat)] 3 (0, 0)) :: wbB b3 ad n cap :: []) (fun _ _ => top) (fun k ⟨⟩ => k ≤ (allL (ot G a)).length ∧ ∀ j, j < k → stpB G t ((allL (ot G a)).getD j 0) = false) (fun i => (b6, .cells #[.int .i64 (i : Nat)] 3 (0, 0)) :: []) (fun _ => top) (fun c i => c = .ret ∧ ∃ k, (allL (ot G a))[k]? = some i ∧ (∀ j, j < k → stpB G t ((allL (ot G a)).getD j 0) = false) ∧ stpB G t i = true) ⟨⟩ rfl (fun _ h => h) ⟨Nat.zero_le _, fun j hj => absurd hj (Nat.not_lt_zero _)⟩ kr (by intro k av hav; obtain ⟨i, hi, rfl⟩ := allA_inv hav; have hlt := (List.getElem?_eq_some_iff.1 hi).1; have hil : i < G.length := hlow a i (by rw [sHas_nat]; exact allL_mem.1 (List.mem_of_getElem? hi)); rfl) (.inl trivial) (fun k a w hm hc _ _ => ⟨SubM.mem au1 w hm, hT.ext hc⟩) (fun _ _ _ _ => gl_top _) (fun _ _ _ => gl_top _) (fun k x _ => mm_cons rfl (mm_cons rfl (mm_cons rfl (mm_cons rfl mm_nil)))) (fun c z _ => mm_cons rfl mm_nil) ?_ ?_ ?_ ?_
 ·
  rintro k av ⟨⟩ l D rc n1 W1 hD hll hput hrc hav ⟨hk, h0⟩
  change wpM _ _ _ _ _ _ _ ((l, Obj.loop rc) :: ([(D, Obj.deferred (some []))] ++ (uBx c1 (ot G a) :: (b6, .cells #[.int .i64 0] 3 (0, 0)) :: (b5, .cells #[.int .i64 (t : Nat)] 3 (0, 0)) :: wbB b3 ad n cap :: []))) _ _ _
  obtain ⟨i, hi, rfl⟩ := allA_inv hav; have hlt := (List.getElem?_eq_some_iff.1 hi).1; have hil : i < G.length := hlow a i (by rw [sHas_nat]; exact allL_mem.1 (List.mem_of_getElem? hi))
  refine wpM.region ?_
  refine LM.as rfl <| nC [(3, _), (5, _), (6, _), (7, _)] ?_
  refine QM.toBodyF (hput k ⟨⟩) hll ?_
  refine wpM.block <| wpM.seq ?_
  refine wpM.draw [(0, 0), (1, 1), (2, 0), (3, 0), (4, 1), (5, 0), (7, 1), (6, 2), (8, 2), (9, 0)] kr kr ?_
  refine LD.val rfl rfl (ov_move rfl) ?_
  refine LD.rd rfl rfl (oml rfl rfl rfl) ?_
  refine LD.val rfl rfl (ov_eql rfl rfl) ?_
  refine LD.val rfl rfl (ov_move rfl) ?_
  refine LD.splitD (t := 17) rfl (fun h1 => ?_) (fun h1 => ?_)
  ·
   refine LD.drop rfl rfl ⟨17, _, rfl, rfl, rfl⟩ <| LD.drop rfl rfl ⟨17, _, rfl, rfl, rfl⟩ <| LD.drop rfl rfl ⟨17, _, rfl, rfl, rfl⟩ <| LD.drop rfl rfl ⟨17, _, rfl, rfl, rfl⟩ <| LD.drop rfl rfl ⟨17, _, rfl, rfl, rfl⟩ ?_
   refine LD.val rfl rfl (ov_pickT rfl rfl) ?_
   refine LD.nil ?_
   refine QM.sub (e' := [(6, _), (7, _), (23, _)]) au9 (QM.then ?_)
   refine wpM.condT rfl ?_
   refine wR <| LM.mv rfl ?_
   refine LM.st Tryd.sizeOf3 rfl rfl rfl au5 rfl au8 ?_
   refine nA [(6, _)] <| wpM.ret <| QM.block_ret ?_
   refine QM.rret (i) (SubM.mem au1) (fun _ h => h) ?_
   · exact ⟨rfl, k, hi, h0, by unfold stpB; rw [decide_eq_true om]; rfl⟩
  refine LD.rd rfl ⟨17, _, rfl, rfl, rfl⟩ (oml rfl rfl rfl) ?_
  refine LD.val rfl ⟨17, _, rfl, rfl, rfl⟩ (ov_move rfl) ?_
  refine LD.rd rfl ⟨17, _, rfl, rfl, rfl⟩ (oml rfl rfl rfl) ?_
  refine dE rfl ⟨17, _, rfl, rfl, rfl⟩ Tryd.func28 rfl (fun w hm hc hg => wreach_spec i w (hT.ext hc) hn (hl.ext hc) hlow hil) ?_
  refine dE rfl ⟨17, _, rfl, rfl, rfl⟩ Tryd.func27 rfl (fun w hm hc hg => ihas_spec _ _ w) ?_
  refine LD.val rfl rfl (ov_pickF rfl rfl) ?_
  refine LD.nil ?_
  refine QM.sub (e' := [(6, _), (7, _), (23, _)]) au9 (QM.then ?_)
  refine wpM.condB rfl (fun h2 => ?_) (fun h2 => ?_)
  ·
   refine wR <| LM.mv rfl ?_
   refine LM.st Tryd.sizeOf3 rfl rfl rfl au5 rfl au8 ?_
   refine nA [(6, _)] <| wpM.ret <| QM.block_ret ?_
   refine QM.rret (i) (SubM.mem au1) (fun _ h => h) ?_
   · exact ⟨rfl, k, hi, h0, by unfold stpB; rw [(by assumption : sHas (ovr G (ot G i)) (t : Nat) = true), Bool.or_true]⟩
  refine wpM.skip <| QM.block_normal ?_
  refine QM.next (⟨⟩) (SubM.mem au1) (fun _ h => h) ?_
  · exact ⟨by omega, fun j hj => by rcases Nat.lt_or_ge j k with q | q; exact h0 j q; rw [show j = k by omega, getD_at hi]; unfold stpB; rw [decide_eq_false om, Bool.false_or]; exact asm⟩
 ·
  rintro ⟨⟩ D0 hD0 ⟨hk, h0⟩
  refine QM.sub (e' := [(5, _), (6, _)]) au9 ?_
  refine QM.block_normal <| tR ?_
  refine LM.rd (oml rfl rfl rfl) ?_
  refine LM.st Tryd.sizeOf3 rfl rfl rfl au5 rfl au8 ?_
  refine nA [(6, _)] <| wpM.ret ?_
  refine QM.leaveCDF (ds := [D0]) Tryd.results29 rfl (fun D h => by simp only [List.mem_cons, List.not_mem_nil, or_false] at h; omega) Tryd.isAgg3 rfl ?_
  intro w' hm' hc'
  refine ⟨?_, hc'⟩; unfold nxtI; rw [find_none' (fun j hj => h0 j (by rw [allA_len]; exact hj))]; rfl
 ·
  rintro i D0 hD0 hx
  obtain ⟨-, k, hi, h0, hst⟩ := hx
  refine QM.block_ret <| QM.then_ret ?_
  refine QM.leaveCDF (ds := [D0]) Tryd.results29 rfl (fun D h => by simp only [List.mem_cons, List.not_mem_nil, or_false] at h; omega) Tryd.isAgg3 rfl ?_
  intro w' hm' hc'
  refine ⟨?_, hc'⟩; unfold nxtI; rw [find_at hi h0 hst]; rfl
 rintro id i D0 hD0 hx
 cases hx.1
def OrT (s : StC) (n0 : Nat) (v : Value) (m : Mem0) : Prop := ∃ ad n cap, v = .tuple #[.slice ad n cap, .bool (okO s)] ∧ n = (ordW s).length ∧ Sl fI 3 1 n0 (ordW s) (.slice ad n cap) m
theorem OrT.mono {s : StC} : ∀ (k k' : Nat) u m, k' ≤ k → OrT s k u m → OrT s k' u m := fun k k' u m h ⟨ad, n, cap, h1, h2, h3⟩ => ⟨ad, n, cap, h1, h2, h3.mono h⟩
theorem OrT.no {s : StC} (h : okO s = false) {n0 : Nat} : OrT s n0 (.tuple #[.slice none 0 0, .bool false]) [] := by
  have e : ordW s = [] := if_neg (by rw [h]; simp)
  exact ⟨none, 0, 0, by rw [h], by rw [e]; rfl, by rw [e]; exact .nil _ _ _ _⟩
theorem depW_no {s : StC} (h : okO s = false) : depW s = 0 := if_neg (by rw [h]; simp)
theorem cycW_no {s : StC} (h : ¬ (mayS s = true ∧ ordB (webO s) = false)) : cycW s = [] := if_neg h
abbrev oGI (c : Nat) (i : Int) : Nat × Obj := (c, .cells #[.int .i64 i] 3 (0, 0))
def mxT (G : Gr) (l : List Int) : Nat := mxF (dep G) (l.map Int.toNat)
theorem mxT_cons (G : Gr) (i : Nat) (l : List Int) : mxT G ((i : Int) :: l) = max (dep G i) (mxT G l) := by unfold mxT; rw [List.map_cons, mxF_cons, Int.toNat_natCast]
def DepI (G : Gr) (p : Nat) (dp : List Int) : Prop := dp.length = G.length ∧ ∀ k : Nat, (k : Int) ∈ (ordO G).drop p → dp.getD k 0 = (dep G k : Int)
theorem set_getD {l : List Int} {i j : Nat} {x : Int} (h : i < l.length) : (l.set i x).getD j 0 = if i = j then x else l.getD j 0 := by
  rw [List.getD_eq_getElem?_getD, List.getElem?_set]
  by_cases e : i = j
  · subst e; rw [if_pos rfl, if_pos h, if_pos rfl]; rfl
  · rw [if_neg e, if_neg e, List.getD_eq_getElem?_getD]
theorem set_set {l : List Int} {i : Nat} {x y : Int} : (l.set i x).set i y = l.set i y := by rw [List.set_set]
theorem mxF_bd {G : Gr} {l : List Nat} : mxF (dep G) l ≤ 66 := mxF_le.2 (fun i _ => dep_le G i)
theorem order_spec {s : StV} (w : World) (hT : Tab w) (hI : s.In w) : Ret Tryd.prog 9 #[s.val] w (fun v w' => Ext w w' ∧ ∃ m, OrT s.C w.heap.size v m ∧ Mem w' m ∧ ∀ p ∈ m, w.heap.size ≤ p.1) := by
 have hlen := webO_len s.C; have hlow := webO_low s.C
 refine Ret.enterM Tryd.func9 rfl Tryd.ntmps9 rfl ([]) (no) (Mem.nil w) ?_
 refine wR ?_
 refine LM.box rfl rfl (fun b1 hb1 => ?_)
 refine LM.as rfl <| LM.as rfl <| nB [(1, _)] ?_
 refine LM.rd (om_ldW Tryd.isAgg26 Tryd.sizeOf26 rfl rfl) ?_
 refine LM.callT (oc_call (enters_fn Tryd.func23 kr rfl) rfl) OfT.mono (fun w hm hc hg => web_spec w (hI.ext hc)) ?_
 rintro u11 m11 ⟨ad11, n11, cap11, rfl, hn11, hs11⟩ hge11
 refine LM.mv rfl <| LM.val (ov_extract rfl rfl) <| LM.val (ov_extract rfl rfl) <| LM.as rfl <| LM.as rfl <| nA [(4, _), (5, _)] <| wpM.seq <| wR <| LM.mv rfl ?_
 refine LM.val (ov_not rfl) ?_
 refine LM.mv rfl ?_
 refine LM.splitB (t := 16) rfl (fun h1 => ?_) (fun h1 => ?_)
 ·
  refine LM.dr 16 rfl rfl rfl <| LM.dr 16 rfl rfl rfl <| LM.dr 16 rfl rfl rfl <| LM.val (ov_pickT rfl rfl) <| nA [(4, _), (20, _)] ?_
  refine wpM.condT rfl ?_
  refine wR <| LM.as rfl <| LM.as rfl <| nA [(2, _), (3, _)] <| wpM.ret <| QM.then_ret ?_
  refine QM.leave (.inl rfl) [.tmp 2, .tmp 3] Tryd.results9 rfl ?_
  intro w' hm' hc' hg'
  exact ⟨hc', [], OrT.no (by unfold okO; rw [show mayS s.C = false by simpa using h1]; rfl), Mem.nil _, fun p hp => by cases hp⟩
 refine LM.sp 16 rfl rfl rfl <| LM.mv rfl <| LM.sp 16 rfl rfl rfl ?_
 refine cE Tryd.func24 rfl (fun w hm hc hg => ordd_spec w (hT.ext hc) hn11 (hs11.srM ir hm) hlen) ?_
 refine LM.sp 16 rfl rfl rfl ?_
 refine LM.val (ov_not rfl) ?_
 refine LM.val (ov_pickF rfl rfl) <| nA [(4, _), (20, _)] ?_
 refine wpM.condB rfl (fun h2 => ?_) (fun h2 => ?_)
 ·
  refine wR <| LM.as rfl <| LM.as rfl <| nA [(2, _), (3, _)] <| wpM.ret <| QM.then_ret ?_
  refine QM.leave (.inl rfl) [.tmp 2, .tmp 3] Tryd.results9 rfl ?_
  intro w' hm' hc' hg'
  exact ⟨hc', [], OrT.no (by unfold okO; rw [show ordB (webO s.C) = false by simpa using h2, Bool.and_false]), Mem.nil _, fun p hp => by cases hp⟩
 have hmay : mayS s.C = true := (by simpa using h1); have hord1 : ordB (webO s.C) = true := (by simpa using h2); have hA := (ordB_iff _).1 hord1; have hok : okO s.C = true := (by unfold okO; rw [hmay, hord1]; rfl)
 refine wpM.skip <| tR <| LM.as rfl <| nA [(4, _), (6, _)] <| wpM.seq <| wR <| LM.mv rfl <| LM.val (ov_len Tryd.underlying56 rfl) ?_
 refine LM.val (ov_ushl (a := 1#64) rfl rfl om) ?_
 refine LM.val (ov_usub (b := 1#64) rfl rfl) ?_
 refine LM.as rfl <| nA [(4, _), (6, _), (7, _)] <| wpM.block ?_
 refine wpM.loopK0 (α := BitVec 64 × List Int × Option Addr × Nat × Nat × Mem0) (fun ⟨left, os, ado, no, capo, mo⟩ => [(6, .slice ado no capo), (7, U left)]) [(4, _)] (fun ⟨left, os, ado, no, capo, mo⟩ => mo ++ (m11 ++ (stB b1 s :: []))) (fun ⟨left, os, ado, no, capo, mo⟩ => no = os.length ∧ ordO (webO s.C) = os ++ ordL (webO s.C) left ∧ ClL (webO s.C) left ∧ (∀ k : Nat, sHas left k = true → k < (webO s.C).length) ∧ Sl fI 3 1 w.heap.size os (.slice ado no capo) mo) (fun ⟨left, os, ado, no, capo, mo⟩ => card left) ((allN (webO s.C).length, [], none, 0, 0, [])) ⟨au2, (by first | rfl | exact lk rfl (by unfold allN; rw [← hn11]; rfl)), rfl, trivial⟩ au1 ⟨rfl, rfl, ClL.all hlow hlen, fun k hk => by rw [allN_has hlen] at hk; exact of_decide_eq_true hk, .nil _ _ _ _⟩ ?_
 rintro ⟨left, os, ado, no, capo, mo⟩ ⟨hno, hord, hcl, hlt, hso⟩
 change wpM _ _ _ _ _ _ _ (mo ++ (m11 ++ (stB b1 s :: []))) _ _ _
 have hol := congrArg List.length hord; rw [ordO_len hA hlen, List.length_append] at hol
 refine wpM.seq <| wR <| LM.mv rfl ?_
 refine LM.val (ov_uneq (b := 0#64) rfl rfl) ?_
 refine nA [(4, _), (6, _), (7, _), (26, _)] ?_
 refine wpM.condD rfl (fun h3 => ?_) (fun h3 => ?_)
 ·
  obtain ⟨fi, hfi, -, hf, -⟩ := freI_at (freS_ne hA h3)
  refine wpM.skip <| QM.then <| wpM.block <| wR <| LM.mv rfl <| LM.mv rfl ?_
  refine cE Tryd.func25 rfl (fun w hm hc hg => free_spec41 left w (hT.ext hc) hn11 (hs11.srM ir hm) hlt) ?_
  refine LM.as rfl <| nB [(4, _), (6, _), (7, _), (8, _)] <| LM.mv rfl <| LM.mv rfl ?_
  refine LM.single Tryd.underlying22 Tryd.sizeOf3 Tryd.zeroValue3 rfl rfl rfl rfl rfl (fun b32 hb32 => ?_)
  refine LM.app Tryd.underlying22 Tryd.typeInfo3 rfl rfl rfl rfl rfl rfl rfl asm (by rfl) ir (by intro _ u hu; simp [fI] at hu; (repeat (first | (rcases hu with rfl | hu) | subst hu | rfl))) (by first | exact Nat.le_refl _ | omega) au10 (by first | omega | (unfold maxLen; omega)) (by simp only [Tryd.t3]; omega) (fun ad33 n33 cap33 m33 hn33 hs33 hin33 => ?_)
  refine LM.as rfl ?_
  refine LM.nil (QM.sub (e' := [(4, _), (6, _), (7, _), (8, _)]) au9 (QM.then (wpM.region ?_)))
  refine LM.mv rfl <| LM.mv rfl ?_
  refine cE Tryd.func26 rfl (fun w hm hc hg => without_spec _ _ w) ?_
  refine LM.as rfl <| nC [(4, _), (6, _), (7, _)] <| QM.block_normal ?_
  have hcw := card_witho hf.1; rw [hfi] at hs33 ⊢
  refine QM.againK ((witho left (fi : Nat), os ++ [(fi : Int)], ad33, n33, cap33, m33)) ⟨au2, (by first | rfl | exact lk rfl (by unfold allN; rw [← hn11]; rfl)), rfl, trivial⟩ au1 (fun _ h => h) ?_ ?_
  · exact ⟨by rw [List.length_append, List.length_singleton]; omega, by rw [hord, ordL_cons hA h3, hfi, List.append_assoc]; rfl, hcl.step hf, fun k hk => hlt k (has_wo.1 hk).1, hs33⟩
  · (dsimp only; omega)
 refine wpM.exit <| QM.then_exit <| QM.then_exit <| QM.block_hit <| tR <| LM.mv rfl <| LM.as rfl <| LM.as rfl <| nA [(2, _), (3, _)] <| wpM.ret ?_
 refine QM.leave (.inl rfl) [.tmp 2, .tmp 3] Tryd.results9 rfl ?_
 intro w' hm' hc' hg'
 have h0 : left = 0#64 := Classical.not_not.1 h3; rw [h0, ordL_zero, List.append_nil] at hord; have e : ordW s.C = os := (by unfold ordW; rw [if_pos hok, hord]); exact ⟨hc', mo, ⟨ado, no, capo, by rw [hok]; rfl, by rw [e]; exact hno, by rw [e]; exact hso⟩, hm'.pick mo, hso.ge⟩
set_option maxHeartbeats 1000000 in
theorem cycle_spec {s : StV} (w : World) (hT : Tab w) (hI : s.In w) : Ret Tryd.prog 10 #[s.val] w (New fI 3 1 (cycW s.C) w) := by
 have hlen := webO_len s.C; have hlow := webO_low s.C
 refine Ret.enterM Tryd.func10 rfl Tryd.ntmps10 rfl ([]) (no) (Mem.nil w) ?_
 refine wR ?_
 refine LM.box rfl rfl (fun b1 hb1 => ?_)
 refine LM.as rfl <| nB [(1, _)] ?_
 refine LM.rd (om_ldW Tryd.isAgg26 Tryd.sizeOf26 rfl rfl) ?_
 refine LM.callT (oc_call (enters_fn Tryd.func23 kr rfl) rfl) OfT.mono (fun w hm hc hg => web_spec w (hI.ext hc)) ?_
 rintro u11 m11 ⟨ad11, n11, cap11, rfl, hn11, hs11⟩ hge11
 refine LM.mv rfl <| LM.val (ov_extract rfl rfl) <| LM.val (ov_extract rfl rfl) <| LM.as rfl <| LM.as rfl <| nA [(3, _), (4, _)] <| wpM.seq <| wR <| LM.mv rfl ?_
 refine LM.val (ov_not rfl) ?_
 refine LM.mv rfl ?_
 refine LM.splitB (t := 16) rfl (fun h1 => ?_) (fun h1 => ?_)
 ·
  refine LM.dr 16 rfl rfl rfl <| LM.dr 16 rfl rfl rfl <| LM.val (ov_pickT rfl rfl) <| nA [(3, _), (19, _)] ?_
  refine wpM.condT rfl ?_
  refine wR <| LM.as rfl <| nA [(2, _)] <| wpM.ret <| QM.then_ret ?_
  refine qL Tryd.results10 rfl fun w' hm' hc' hg' => ?_
  rw [cycW_no (fun q => by rw [q.1] at h1; simp at h1)]; exact ⟨hc', [], .nil _ _ _ _, Mem.nil _⟩
 refine LM.sp 16 rfl rfl rfl <| LM.mv rfl <| LM.sp 16 rfl rfl rfl ?_
 refine cE Tryd.func24 rfl (fun w hm hc hg => ordd_spec w (hT.ext hc) hn11 (hs11.srM ir hm) hlen) ?_
 refine LM.val (ov_pickF rfl rfl) <| nA [(3, _), (19, _)] ?_
 refine wpM.condB rfl (fun h2 => ?_) (fun h2 => ?_)
 ·
  refine wR <| LM.as rfl <| nA [(2, _)] <| wpM.ret <| QM.then_ret ?_
  refine qL Tryd.results10 rfl fun w' hm' hc' hg' => ?_
  rw [cycW_no (fun q => by rw [q.2] at h2; simp at h2)]; exact ⟨hc', [], .nil _ _ _ _, Mem.nil _⟩
 have hmay : mayS s.C = true := (by simpa using h1); have hord1 : ordB (webO s.C) = false := h2; have hA : ¬ Acy (webO s.C) := (fun q => by rw [(ordB_iff _).2 q] at hord1; cases hord1); obtain ⟨hr1, hr2, hr3⟩ := rngI_spec hA; have hrr := (ovr_iff _ _ _).1 hr2; have ecy : cycW s.C = cycO (webO s.C) := if_pos ⟨hmay, hord1⟩
 refine wpM.skip <| tR <| LM.as rfl <| nA [(3, _), (5, _)] <| wpM.seq <| wpM.block ?_
 refine wpM.loopK0 (α := Nat) (fun i => [(5, .int .i64 (i : Nat))]) [(3, _)] (fun i => m11 ++ (stB b1 s :: [])) (fun i => i ≤ rngI (webO s.C) ∧ ∀ j, j < i → sHas (ovr (webO s.C) (ot (webO s.C) j)) (j : Nat) = false) (fun i => rngI (webO s.C) - i) (0) ⟨au2, rfl, trivial⟩ au1 ⟨Nat.zero_le _, fun j hj => absurd hj (Nat.not_lt_zero _)⟩ ?_
 rintro i ⟨hi, hb⟩
 change wpM _ _ _ _ _ _ _ (m11 ++ (stB b1 s :: [])) _ _ _
 refine wpM.seq <| wR <| LM.mv rfl <| LM.mv rfl ?_
 refine cE Tryd.func28 rfl (fun w hm hc hg => wreach_spec i w (hT.ext hc) hn11 (hs11.srM ir hm) hlow om) ?_
 refine LM.mv rfl ?_
 refine cE Tryd.func27 rfl (fun w hm hc hg => ihas_spec _ _ w) ?_
 refine LM.val (ov_not rfl) ?_
 refine nA [(3, _), (5, _), (25, _)] ?_
 refine wpM.condB rfl (fun h3 => ?_) (fun h3 => ?_)
 ·
  refine wpM.skip <| QM.then <| wpM.block ?_
  refine wpM.region ?_
  refine LM.mv rfl ?_
  refine LM.val (ov_add64 rfl rfl om) ?_
  refine LM.as rfl <| nC [(3, _), (5, _)] <| QM.block_normal ?_
  refine QM.againK (i + 1) ⟨au2, rfl, trivial⟩ au1 (fun _ h => h) ?_ ?_
  · have hne : i ≠ rngI (webO s.C) := (fun q => by rw [q, hr2] at h3; cases h3); exact ⟨by omega, fun j hj => by rcases Nat.lt_or_ge j i with q | q; exact hb j q; rw [show j = i by omega]; simpa using h3⟩
  · have hne : i ≠ rngI (webO s.C) := (fun q => by rw [q, hr2] at h3; cases h3); omega
 have hir : i = rngI (webO s.C) := rngI_uniq hA (by simpa using h3) hb; subst hir
 refine wpM.exit <| QM.then_exit <| QM.then_exit <| QM.block_hit <| tR <| LM.as rfl <| nB [(3, _), (5, _), (6, _)] <| LM.as rfl <| nA [(3, _), (5, _), (6, _), (7, _)] <| wpM.seq <| wR <| LM.mv rfl <| LM.as rfl <| nA [(3, _), (5, _), (6, _), (7, _), (8, _)] <| wpM.block ?_
 refine wpM.loopK0 (α := BitVec 64 × Nat × List Int × Option Addr × Nat × Nat × Mem0) (fun ⟨met, a, os, ado, no, capo, mo⟩ => [(6, .slice ado no capo), (7, U met), (8, .int .i64 (a : Nat))]) [(3, _), (5, _)] (fun ⟨met, a, os, ado, no, capo, mo⟩ => mo ++ (m11 ++ (stB b1 s :: []))) (fun ⟨met, a, os, ado, no, capo, mo⟩ => no = os.length ∧ cycO (webO s.C) = os ++ cycL (webO s.C) (rngI (webO s.C)) met a ∧ Rch (webO s.C) (ot (webO s.C) a) (rngI (webO s.C)) ∧ Sl fI 3 1 w.heap.size os (.slice ado no capo) mo) (fun ⟨met, a, os, ado, no, capo, mo⟩ => 64 - card met) ((0#64, rngI (webO s.C), [], none, 0, 0, [])) ⟨au2, au2, au2, rfl, rfl, trivial⟩ au1 ⟨rfl, rfl, hrr, .nil _ _ _ _⟩ ?_
 rintro ⟨met, a, os, ado, no, capo, mo⟩ ⟨hno, hcy, hra, hso⟩
 change wpM _ _ _ _ _ _ _ (mo ++ (m11 ++ (stB b1 s :: []))) _ _ _
 have hol := congrArg List.length hcy; rw [List.length_append] at hol; have hal := rch_in hra; have h65 : (cycO (webO s.C)).length ≤ 65 := cycF_len _ _ _ _ _
 refine wpM.seq <| wR <| LM.mv rfl <| LM.mv rfl ?_
 refine cE Tryd.func27 rfl (fun w hm hc hg => ihas_spec _ _ w) ?_
 refine LM.val (ov_not rfl) ?_
 refine nA [(3, _), (5, _), (6, _), (7, _), (8, _), (32, _)] ?_
 refine wpM.condB rfl (fun h4 => ?_) (fun h4 => ?_)
 ·
  refine wpM.skip <| QM.then <| wpM.seq <| wpM.block <| wR <| LM.mv rfl <| LM.mv rfl ?_
  refine LM.single Tryd.underlying22 Tryd.sizeOf3 Tryd.zeroValue3 rfl rfl rfl rfl rfl (fun b39 hb39 => ?_)
  refine LM.app Tryd.underlying22 Tryd.typeInfo3 rfl rfl rfl rfl rfl rfl rfl asm (by rfl) ir (by intro _ u hu; simp [fI] at hu; (repeat (first | (rcases hu with rfl | hu) | subst hu | rfl))) (by first | exact Nat.le_refl _ | omega) au10 (by first | omega | (unfold maxLen; omega)) (by simp only [Tryd.t3]; omega) (fun ad40 n40 cap40 m40 hn40 hs40 hin40 => ?_)
  refine LM.as rfl ?_
  refine LM.nil (QM.sub (e' := [(3, _), (5, _), (6, _), (7, _), (8, _)]) au9 (QM.then (wpM.region ?_)))
  refine LM.mv rfl <| LM.mv rfl ?_
  refine cE Tryd.func30 rfl (fun w hm hc hg => with_spec _ _ w) ?_
  refine LM.as rfl <| nC [(3, _), (5, _), (6, _), (7, _), (8, _)] <| QM.block_normal ?_
  refine QM.then (wpM.region ?_)
  refine LM.mv rfl <| LM.mv rfl <| LM.mv rfl ?_
  refine cE Tryd.func29 rfl (fun w hm hc hg => wnext_spec a (rngI (webO s.C)) w (hT.ext hc) hn11 (hs11.srM ir hm) hlow hal) ?_
  refine LM.as rfl <| nC [(3, _), (5, _), (6, _), (7, _), (8, _)] ?_
  refine QM.againK ((withS met (a : Nat), nxtI (webO s.C) a (rngI (webO s.C)), os ++ [(a : Int)], ad40, n40, cap40, m40)) ⟨au2, au2, au2, rfl, rfl, trivial⟩ au1 (fun _ h => h) ?_ ?_
  · exact ⟨by rw [List.length_append, List.length_singleton]; omega, by rw [hcy, cycL_next om om (show sHas met (a : Nat) = false by simpa using h4), List.append_assoc]; rfl, (nxtI_spec hra hrr).2, hs40⟩
  · have h9 := card_with (V := met) (w := (a : Nat)) om om (show sHas met (a : Nat) = false by simpa using h4); have h8 := card_le (withS met (a : Nat)); show 64 - card (withS met (a : Nat)) < 64 - card met; omega
 refine wpM.exit <| QM.then_exit <| QM.then_exit <| QM.block_hit <| tR <| LM.mv rfl <| LM.as rfl <| nA [(2, _)] <| wpM.ret ?_
 refine qL Tryd.results10 rfl fun w' hm' hc' hg' => ?_
 rw [cycL_stop (show sHas met (a : Nat) = true by simpa using h4), List.append_nil] at hcy; rw [ecy, hcy]; exact ⟨hc', mo, hso, hm'.pick mo⟩
abbrev oSl (b : Nat) (ad : Option Addr) (n cap : Nat) : Nat × Obj := (b, .cells #[.slice ad n cap] 22 (0, 0))
abbrev depP (G : Gr) (i k : Nat) : Int := ((1 + mxF (dep G) ((allL (ot G i)).take k) : Nat) : Int)
theorem depP_snoc {G : Gr} {i k nx : Nat} (h : (allL (ot G i))[k]? = some nx) : depP G i (k + 1) = max (depP G i k) ((dep G nx : Int) + 1) := by
  unfold depP; rw [List.take_add_one, h]; show ((1 + mxF (dep G) (_ ++ [nx]) : Nat) : Int) = _; rw [mxF_snoc]; omega
theorem mxT_bd (G : Gr) (l : List Int) : mxT G l ≤ 66 := mxF_bd
set_option maxHeartbeats 1000000 in
theorem depth_spec {s : StV} (w : World) (hT : Tab w) (hI : s.In w) : Ret Tryd.prog 13 #[s.val] w (fun v w' => v = .int .i64 (depW s.C : Nat) ∧ Ext w w') := by
 have hlen := webO_len s.C; have hlow := webO_low s.C
 refine Ret.enterM Tryd.func13 rfl Tryd.ntmps13 rfl ([]) (no) (Mem.nil w) ?_
 refine wR ?_
 refine LM.box rfl rfl (fun b1 hb1 => ?_)
 refine LM.as rfl <| nB [(1, _)] ?_
 refine LM.rd (om_ldW Tryd.isAgg26 Tryd.sizeOf26 rfl rfl) ?_
 refine LM.callT (oc_call (enters_fn Tryd.func23 kr rfl) rfl) OfT.mono (fun w hm hc hg => web_spec w (hI.ext hc)) ?_
 rintro u14 m14 ⟨ad14, n14, cap14, rfl, hn14, hs14⟩ hge14
 refine LM.mv rfl <| LM.val (ov_extract rfl rfl) <| LM.val (ov_extract rfl rfl) <| LM.as rfl <| LM.as rfl <| nB [(1, _), (3, _)] ?_
 refine LM.rd (om_ldW Tryd.isAgg26 Tryd.sizeOf26 rfl rfl) ?_
 refine LM.callT (oc_call (enters_fn Tryd.func9 kr rfl) rfl) OrT.mono (fun w hm hc hg => order_spec w (hT.ext hc) (hI.ext hc)) ?_
 rintro u19 m19 ⟨ad19, n19, cap19, rfl, hn19, hs19⟩ hge19
 refine LM.mv rfl <| LM.val (ov_extract rfl rfl) <| LM.val (ov_extract rfl rfl) <| LM.as rfl <| LM.as rfl <| nA [(3, _), (5, _), (6, _)] <| wpM.seq <| wR <| LM.mv rfl ?_
 refine LM.val (ov_not rfl) ?_
 refine nA [(3, _), (5, _), (23, _)] ?_
 refine wpM.condB rfl (fun h1 => ?_) (fun h1 => ?_)
 ·
  refine wR <| LM.as rfl <| nA [(2, _)] <| wpM.ret <| QM.then_ret ?_
  refine qL Tryd.results13 rfl fun w' hm' hc' hg' => ?_
  refine ⟨?_, hc'⟩; rw [depW_no (by simpa using h1)]; rfl
 have hok : okO s.C = true := (by simpa using h1); have hok2 := hok; unfold okO at hok2; rw [Bool.and_eq_true] at hok2; obtain ⟨hmay, hord1⟩ := hok2; have hA := (ordB_iff _).1 hord1; have eo : ordW s.C = ordO (webO s.C) := if_pos hok; rw [eo] at hs19 hn19; have hol := ordO_len hA hlen; have hm0 : mxT (webO s.C) ((ordO (webO s.C)).drop n19) = 0 := (by rw [List.drop_of_length_le om]; rfl)
 refine wpM.skip <| tR <| LM.mv rfl <| LM.val (ov_len Tryd.underlying56 rfl) ?_
 refine LM.makeS (f := fI) (a0 := 0) Tryd.underlying22 Tryd.typeInfo3 rfl rfl rfl rfl ir rfl rfl rfl om (by simp only [Tryd.t3]; omega) om (by unfold maxLen; omega) (fun ad26 n26 m26 hn26 hs26 => ?_)
 refine LM.alloc Tryd.zeroValue22 rfl (fun b7 hb7 => ?_)
 refine LM.st Tryd.sizeOf22 rfl rfl rfl au5 rfl au8 ?_
 refine nB [(3, _), (5, _), (7, _)] <| LM.as rfl <| nA [(3, _), (5, _), (7, _), (8, _)] <| wpM.seq <| wR <| LM.mv rfl <| LM.val (ov_len Tryd.underlying22 rfl) ?_
 refine LM.val (ov_sub64 rfl rfl om) ?_
 refine LM.as rfl <| nA [(3, _), (5, _), (7, _), (8, _), (9, _)] <| wpM.block ?_
 refine wpM.loopD (α := Nat × List Int × Mem0) (fun ⟨p, dp, md⟩ => [(8, .int .i64 (mxT (webO s.C) ((ordO (webO s.C)).drop p) : Nat)), (9, .int .i64 ((p : Int) - 1))]) [(3, _), (5, _), (7, _)] (fun ⟨p, dp, md⟩ => oSl b7 ad26 n26 n26 :: (md ++ (m19 ++ (m14 ++ (stB b1 s :: []))))) (fun ⟨p, dp, md⟩ => top) (fun ⟨p, dp, md⟩ => p ≤ n19 ∧ DepI (webO s.C) p dp ∧ Sl fI 3 1 w.heap.size dp (.slice ad26 n26 n26) md) (fun ⟨p, dp, md⟩ => p) ((n19, List.replicate n26 0, m26)) ⟨(by first | rfl | exact lk rfl (by rw [hm0]; rfl) | exact lk rfl (by rw [hmq, hfin]; congr 1; omega)), au2, rfl, rfl, rfl, trivial⟩ au1 (fun _ h => h) ⟨Nat.le_refl _, ⟨by rw [List.length_replicate]; omega, fun k hk => by rw [List.drop_of_length_le om] at hk; cases hk⟩, hs26⟩ ?_
 rintro ⟨p, dp, md⟩ ds1 hds1 ⟨hp, hDp, hs⟩
 change wpM _ _ _ _ _ _ _ (dM ds1 ++ (oSl b7 ad26 n26 n26 :: (md ++ (m19 ++ (m14 ++ (stB b1 s :: [])))))) _ _ _
 have hdl := hDp.1; have hmb := mxT_bd (webO s.C) ((ordO (webO s.C)).drop p)
 refine wpM.seq <| wR <| LM.mv rfl <| LM.val (ov_geq rfl rfl) <| nA [(3, _), (5, _), (7, _), (8, _), (9, _), (31, _)] ?_
 refine wpM.condD rfl (fun h2 => ?_) (fun h2 => ?_)
 ·
  obtain ⟨q, rfl⟩ : ∃ q, p = q + 1 := ⟨p - 1, by omega⟩; obtain ⟨i, l2, hgi, hil, hli, hdr0, hdr1, hsucc, hl2⟩ := ordO_at hA hlow hlen (p := q) om; have hdr : (ordO (webO s.C)).drop q = (i : Int) :: (ordO (webO s.C)).drop (q + 1) := (by have e := List.drop_eq_getElem_cons (l := ordO (webO s.C)) (i := q) om; rw [e]; congr 1; rw [← hgi, List.getD_eq_getElem?_getD, List.getElem?_eq_getElem om]; rfl); have hmq : mxT (webO s.C) ((ordO (webO s.C)).drop q) = max (dep (webO s.C) i) (mxT (webO s.C) ((ordO (webO s.C)).drop (q + 1))) := (by rw [hdr, mxT_cons]); rw [show ((q + 1 : Nat) : Int) - 1 = (q : Int) by omega]
  refine wpM.skip <| QM.then <| wpM.seq <| wpM.block <| wR <| LM.mv rfl <| LM.mv rfl ?_
  refine LM.val (ov_idxSN au6 Tryd.underlying22 Tryd.sizeOf3 rfl rfl om) ?_
  refine LM.rd (om_sl1 asm ir Tryd.isAgg3 rfl rfl (by exact getq 0 au4) (by rfl)) ?_
  rw [hgi]
  refine LM.alloc Tryd.zeroValue3 rfl (fun b10 hb10 => ?_)
  refine LM.st Tryd.sizeOf3 rfl rfl rfl au5 rfl au8 ?_
  refine nB [(3, _), (5, _), (7, _), (8, _), (9, _), (10, _)] ?_
  refine LM.rd (oml rfl rfl rfl) ?_
  refine LM.rd (oml rfl rfl rfl) ?_
  refine LM.val (ov_idxSN au6 Tryd.underlying22 Tryd.sizeOf3 rfl rfl om) ?_
  refine LM.stS ((1 : Int)) (j := 0) asm ir Tryd.sizeOf3 rfl rfl rfl (by exact getq 0 au4) rfl (by decide) (by rfl) rfl au10 (fun ms3 hss3 hmm3 => ?_)
  refine nA [(3, _), (5, _), (7, _), (8, _), (9, _), (10, _)] <| wpM.seq <| wR <| LM.mv rfl ?_
  refine LM.rd (oml rfl rfl rfl) ?_
  refine LM.val (ov_idxSN au6 Tryd.underlying56 Tryd.sizeOf34 rfl rfl om) ?_
  refine LM.rd (om_sl1 asm ir Tryd.isAgg34 rfl rfl (by exact getq 0#64 au4) (by rfl)) ?_
  refine LM.callT (oc_call (enters_fn Tryd.func34 kr rfl) rfl) AllT.mono (fun w hm hc hg => all_spec _ w) ?_
  rintro u45 m45 ⟨c1, rfl, rfl, hc1⟩ -
  refine nA [(3, _), (5, _), (7, _), (8, _), (9, _), (10, _), (45, _)] <| wpM.block ?_
  refine wpM.toRange (α := List Int × Mem0) (fun k ⟨dq, mq⟩ => dM ds1 ++ (uBx c1 (ot (webO s.C) i) :: oGI b10 (i : Nat) :: oSl b7 ad26 n26 n26 :: (mq ++ (m19 ++ (m14 ++ (stB b1 s :: [])))))) ((dp.set i 1, ms3)) au1 ?_
  refine wpM.range (α := List Int × Mem0) (β := Unit) (enters_fn Tryd.func55 kr rfl) rfl (all_seq (s := ot (webO s.C) i)) (fun k ⟨dq, mq⟩ => dM ds1 ++ (uBx c1 (ot (webO s.C) i) :: oGI b10 (i : Nat) :: oSl b7 ad26 n26 n26 :: (mq ++ (m19 ++ (m14 ++ (stB b1 s :: [])))))) (fun _ _ => top) (fun k ⟨dq, mq⟩ => k ≤ (allL (ot (webO s.C) i)).length ∧ dq = dp.set i (depP (webO s.C) i k) ∧ Sl fI 3 1 w.heap.size dq (.slice ad26 n26 n26) mq) (fun ⟨⟩ => []) (fun _ => top) (fun c ⟨⟩ => False) (dp.set i 1, ms3) rfl (fun _ h => h) ⟨Nat.zero_le _, rfl, hss3⟩ kr (by intro k av hav; obtain ⟨nx, hnx, rfl⟩ := allA_inv hav; have hlt := (List.getElem?_eq_some_iff.1 hnx).1; have hsn : sHas (ot (webO s.C) i) nx = true := allL_has.1 (List.mem_of_getElem? hnx); have hnl : nx < (webO s.C).length := hlow i nx hsn; have hne : i ≠ nx := (fun e => hA i (by rw [← e] at hsn; exact .base hsn)); have hdn : dp.getD nx 0 = (dep (webO s.C) nx : Int) := hDp.2 nx (by rw [hdr1]; exact (ordL_mem hA 64 _ (card_le _) _).2 ⟨nx, rfl, hsucc nx hsn⟩); have hb1 := dep_le (webO s.C) nx; rfl) (.inl trivial) (fun k a w hm hc _ _ => ⟨SubM.mem au1 w hm, hT.ext hc⟩) (fun _ _ _ _ => gl_top _) (fun _ _ _ => gl_top _) (fun k ⟨dq, mq⟩ h p hp => by rcases List.mem_append.1 hp with hp | hp; exact .inl (List.mem_append_left _ hp); exact (mm_cons rfl (mm_cons rfl (mm_cons rfl (mm_app h.2.2.wlk (mm_app hs19.wlk (mm_app hs14.wlk (mm_cons rfl mm_nil))))))) p hp) (fun c z _ => by ((repeat (refine mm_cons rfl ?_)); exact fun p hp => .inl (by first | exact hp | (simp at hp; done) | (simp [hp]; done) | (simp at hp ⊢; first | exact .inl hp | exact hp | (simp [hp]; done))))) ?_ ?_ ?_ ?_
  ·
   rintro k av ⟨dq, mq⟩ l D rc n1 W1 hD hll hput hrc hav ⟨hk, hdq, hsq⟩
   change wpM _ _ _ _ _ _ _ ((l, Obj.loop rc) :: ([(D, Obj.deferred (some []))] ++ (dM ds1 ++ (uBx c1 (ot (webO s.C) i) :: oGI b10 (i : Nat) :: oSl b7 ad26 n26 n26 :: (mq ++ (m19 ++ (m14 ++ (stB b1 s :: [])))))))) _ _ _
   obtain ⟨nx, hnx, rfl⟩ := allA_inv hav; have hlt := (List.getElem?_eq_some_iff.1 hnx).1; have hsn : sHas (ot (webO s.C) i) nx = true := allL_has.1 (List.mem_of_getElem? hnx); have hnl : nx < (webO s.C).length := hlow i nx hsn; have hne : i ≠ nx := (fun e => hA i (by rw [← e] at hsn; exact .base hsn)); have hdn : dp.getD nx 0 = (dep (webO s.C) nx : Int) := hDp.2 nx (by rw [hdr1]; exact (ordL_mem hA 64 _ (card_le _) _).2 ⟨nx, rfl, hsucc nx hsn⟩); have hb1 := dep_le (webO s.C) nx
   have hdql : dq.length = dp.length := (by rw [hdq, List.length_set]); have hqi : dq.getD i 0 = depP (webO s.C) i k := (by rw [hdq, set_getD om, if_pos rfl]); have hqn : dq.getD nx 0 = (dep (webO s.C) nx : Int) := (by rw [hdq, set_getD om, if_neg hne, hdn]); have hmb2 : depP (webO s.C) i k ≤ 67 := (by have := mxF_bd (G := webO s.C) (l := (allL (ot (webO s.C) i)).take k); unfold depP; omega)
   refine wpM.region ?_
   refine LM.as rfl <| nC [(7, _), (10, _), (11, _)] ?_
   refine QM.toBodyF (hput k ⟨dq, mq⟩) hll ?_
   refine wpM.block ?_
   refine wpM.draw [(0, 1), (1, 1), (2, 1), (3, 1), (4, 0), (5, 1), (6, 1), (7, 0), (8, 0), (9, 1), (10, 0), (11, 0), (12, 0), (13, 3)] kr kr ?_
   refine LD.rd rfl rfl (oml rfl rfl rfl) ?_
   refine LD.rd rfl rfl (oml rfl rfl rfl) ?_
   refine LD.rd rfl rfl (oml rfl rfl rfl) ?_
   refine LD.rd rfl rfl (oml rfl rfl rfl) ?_
   refine LD.val rfl rfl (ov_idxSN au6 Tryd.underlying22 Tryd.sizeOf3 rfl rfl om) ?_
   refine LD.rd rfl rfl (om_sl1 asm ir Tryd.isAgg3 rfl rfl (by exact getq 0 au4) (by rfl)) ?_
   refine LD.rd rfl rfl (oml rfl rfl rfl) ?_
   refine LD.val rfl rfl (ov_move rfl) ?_
   refine LD.val rfl rfl (ov_idxSN au6 Tryd.underlying22 Tryd.sizeOf3 rfl rfl om) ?_
   refine LD.rd rfl rfl (om_sl1 asm ir Tryd.isAgg3 rfl rfl (by exact getq 0 au4) (by rfl)) ?_
   refine LD.val rfl rfl (ov_add64 rfl rfl om) ?_
   refine LD.val rfl rfl (ov_max rfl rfl) ?_
   refine LD.val rfl rfl (ov_idxSN au6 Tryd.underlying22 Tryd.sizeOf3 rfl rfl om) ?_
   refine LD.tail rfl rfl ?_
   refine LM.stS _ (j := 0) asm ir Tryd.sizeOf3 rfl rfl rfl (by exact getq 0 au4) rfl (by decide) (by rfl) rfl au10 (fun ms hss hmm => ?_)
   refine LM.nil ?_
   refine QM.qn ?_
   refine QM.sub (e' := []) trivial ?_
   refine QM.block_normal ?_
   refine QM.next ((dq.set i (if dq.getD nx 0 + 1 > dq.getD i 0 then dq.getD nx 0 + 1 else dq.getD i 0), ms)) (SubM.mem au1) (fun _ h => h) ?_
   · exact ⟨by omega, by rw [hqi, hqn, hdq, set_set, depP_snoc hnx]; congr 1; split <;> omega, hss⟩
  ·
   rintro ⟨dq, mq⟩ D0 hD0 ⟨hk, hdq, hsq⟩
   dsimp only
   have hdql : dq.length = dp.length := (by rw [hdq, List.length_set])
   refine QM.sub (e' := [(3, _), (5, _), (7, _), (8, _), (9, _), (10, _)]) au9 ?_
   refine QM.block_normal ?_
   refine QM.then (wpM.region ?_)
   refine LM.mv rfl ?_
   refine LM.rd (oml rfl rfl rfl) ?_
   refine LM.rd (oml rfl rfl rfl) ?_
   refine LM.val (ov_idxSN au6 Tryd.underlying22 Tryd.sizeOf3 rfl rfl om) ?_
   refine LM.rd (om_sl1 asm ir Tryd.isAgg3 rfl rfl (by exact getq 0 au4) (by rfl)) ?_
   refine LM.val (ov_max rfl rfl) ?_
   refine LM.as rfl <| nC [(3, _), (5, _), (7, _), (8, _), (9, _)] <| QM.block_normal ?_
   refine QM.then (wpM.region ?_)
   refine LM.mv rfl ?_
   refine LM.val (ov_sub64 rfl rfl om) ?_
   refine LM.as rfl <| nC [(3, _), (5, _), (7, _), (8, _), (9, _)] ?_
   have hfin : dq.getD i 0 = (dep (webO s.C) i : Int) := (by rw [hdq, set_getD om, if_pos rfl, allA_len]; unfold depP; rw [List.take_of_length_le (Nat.le_refl _), ← dep_eq hA i])
   refine QM.againD ((q, dq, mq)) ⟨(by first | rfl | exact lk rfl (by rw [hm0]; rfl) | exact lk rfl (by rw [hmq, hfin]; congr 1; omega)), au2, rfl, rfl, rfl, trivial⟩ (by change SubM _ ((D0, Obj.deferred (some [])) :: (dM ds1 ++ ((fun ⟨p, dp, md⟩ => oSl b7 ad26 n26 n26 :: (md ++ (m19 ++ (m14 ++ (stB b1 s :: []))))) ((q, dq, mq))))); dsimp only; (repeat' (first | exact SubM.nil _ | refine SubM.cons rfl ?_ | refine SubM.app ?_))) (hd_cons hD0 hds1) (fun _ h => h) ?_ ?_
   · exact ⟨by omega, ⟨by rw [hdq, List.length_set]; exact hdl, fun k hk => by by_cases e : i = k; subst e; exact hfin; rw [hdq, set_getD om, if_neg e]; refine hDp.2 k ?_; rw [hdr] at hk; rcases List.mem_cons.1 hk with hk | hk; exact absurd om e; exact hk⟩, hsq⟩
   · omega
  ·
   rintro ⟨⟩ D0 hD0 hx
   exact hx.elim
  rintro id ⟨⟩ D0 hD0 hx
  exact hx.elim
 refine wpM.exit <| QM.then_exit <| QM.then_exit <| QM.block_hit <| tR <| LM.mv rfl <| LM.as rfl <| nA [(2, _)] <| wpM.ret ?_
 refine QM.leaveDF (ds := (ds1)) (.inl rfl) [.tmp 2] Tryd.results13 rfl hds1 ?_
 intro w' hm' hc'
 have hp0 : p = 0 := om; subst hp0; refine ⟨?_, hc'⟩; unfold depW; rw [if_pos hok, ← mx_ord hA hlen]; rfl
def OEdT (s : StV) (n0 : Nat) (v : Value) (m : Mem0) : Prop := ∃ c1, v = .func (.func 57) #[] #[.pointer (some ⟨c1, 0, none⟩)] ∧ m = [stB c1 s] ∧ n0 ≤ c1
theorem OEdT.mono {s : StV} : ∀ (k k' : Nat) u m, k' ≤ k → OEdT s k u m → OEdT s k' u m := fun k k' u m h ⟨b1, h1, h2, h3⟩ => ⟨b1, h1, h2, by omega⟩
def DonR (n : Nat) (done left : BitVec 64) : Prop := (∀ k : Nat, sHas left k = true → k < n) ∧ ∀ k : Nat, k < n → sHas done k = !sHas left k
theorem DonR.init {n : Nat} (h : n ≤ 12) : DonR n 0#64 (allN n) := ⟨fun k hk => by rw [allN_has h] at hk; exact of_decide_eq_true hk, fun k hk => by rw [allN_has h, sHas_zero, decide_eq_true hk]; rfl⟩
theorem DonR.step {n i : Nat} {done left : BitVec 64} (h : DonR n done left) (hn : n ≤ 12) (hi : i < n) : DonR n (withS done (i : Nat)) (witho left (i : Nat)) := by
  refine ⟨fun k hk => h.1 k (has_wo.1 hk).1, fun k hk => ?_⟩
  rw [sHas_withS, sHas_witho, h.2 k hk]
  by_cases e : (k : Int) = i
  · rw [decide_eq_true e]; simp; omega
  · rw [decide_eq_false e]; simp
theorem rgraph_spec {s : StV} (w : World) (hI : s.In w) (h12 : s.ls.length ≤ 12) : Ret Tryd.prog 8 #[s.val] w (New fU 34 1 (webO s.C) w) := by
 have hln := hI.hln; have hpn := hI.hpn; have hp := hI.hp; have hcl : s.C.ps.length = s.ps.length := List.length_map ..; have hll : s.C.ls.length = s.ls.length := rfl
 refine Ret.enterM Tryd.func8 rfl Tryd.ntmps8 rfl ([]) (no) (Mem.nil w) ?_
 refine wR ?_
 refine LM.box rfl rfl (fun b1 hb1 => ?_)
 refine LM.as rfl <| nB [(1, _)] <| LM.val (ovf 23 rfl rfl rfl rfl) ?_
 refine LM.rd (oml rfl rfl rfl) ?_
 refine LM.val (ov_len Tryd.underlying23 rfl) ?_
 refine LM.makeS (f := fU) (a0 := 0#64) Tryd.underlying29 Tryd.typeInfo34 rfl rfl rfl rfl ir rfl rfl rfl om (by simp only [Tryd.t34]; omega) om (by unfold maxLen; omega) (fun ad9 n9 m9 hn9 hs9 => ?_)
 refine LM.as rfl <| nA [(1, _), (3, _)] <| wpM.seq <| wR ?_
 refine LM.rd (om_ldW Tryd.isAgg26 Tryd.sizeOf26 rfl rfl) ?_
 refine cE Tryd.func7 rfl (fun w hm hc hg => rmayS_spec (s := s) w (hI.ext hc)) ?_
 refine LM.val (ov_not rfl) ?_
 refine nA [(1, _), (3, _), (12, _)] ?_
 refine wpM.condB rfl (fun h1 => ?_) (fun h1 => ?_)
 ·
  refine wR <| LM.as rfl <| nA [(2, _)] <| wpM.ret <| QM.then_ret ?_
  refine qL Tryd.results8 rfl fun w' hm' hc' hg' => ?_
  have hmay : mayS s.C = false := (by simpa using h1); rw [webO_no hmay]; exact ⟨hc', [], .nil _ _ _ _, Mem.nil _⟩
 have hmay : mayS s.C = true := (by simpa using h1); obtain ⟨h8, h8p, -⟩ := mayS_ps' hmay
 refine wpM.skip <| QM.then <| wpM.seq <| wR <| LM.as rfl <| nA [(1, _), (3, _), (4, _)] <| wpM.block ?_
 refine wpM.loopK0 (α := Nat × Mem0) (fun ⟨i, m⟩ => [(4, .int .i64 (i : Nat))]) [(1, _), (3, _)] (fun ⟨i, m⟩ => m ++ (stB b1 s :: [])) (fun ⟨i, m⟩ => i ≤ n9 ∧ Sl fU 34 1 w.heap.size (webP s.C i 0) (.slice ad9 n9 n9) m) (fun ⟨i, m⟩ => n9 - i) ((0, m9)) ⟨au2, rfl, rfl, trivial⟩ au1 ⟨Nat.zero_le _, by have h := hs9; rw [webP_zero]; rw [show n9 = s.C.ls.length by omega] at h ⊢; exact h⟩ ?_
 rintro ⟨i, m⟩ ⟨hi, hs⟩
 change wpM _ _ _ _ _ _ _ (m ++ (stB b1 s :: [])) _ _ _
 have hwl := webP_len s.C i 0
 refine wpM.seq <| wR <| LM.mv rfl <| LM.mv rfl <| LM.val (ov_len Tryd.underlying29 rfl) <| LM.val (ov_lss rfl rfl) <| nA [(1, _), (3, _), (4, _), (16, _)] ?_
 refine wpM.condD rfl (fun h2 => ?_) (fun h2 => ?_)
 ·
  refine wpM.skip <| QM.then <| wpM.seq <| wpM.block <| wR <| LM.as rfl <| nA [(1, _), (3, _), (4, _), (5, _)] <| wpM.block ?_
  refine wpM.loopK0 (α := Nat × Mem0) (fun ⟨k, mi⟩ => [(5, .int .i64 (k : Nat))]) [(1, _), (3, _), (4, _)] (fun ⟨k, mi⟩ => mi ++ (stB b1 s :: [])) (fun ⟨k, mi⟩ => k ≤ s.pn ∧ Sl fU 34 1 w.heap.size (webP s.C i k) (.slice ad9 n9 n9) mi) (fun ⟨k, mi⟩ => s.pn - k) ((0, m)) ⟨au2, rfl, rfl, rfl, trivial⟩ au1 ⟨Nat.zero_le _, hs⟩ ?_
  rintro ⟨k, mi⟩ ⟨hk, hsi⟩
  change wpM _ _ _ _ _ _ _ (mi ++ (stB b1 s :: [])) _ _ _
  have hwl2 := webP_len s.C i k
  refine wpM.seq <| wR <| LM.mv rfl <| LM.val (ovf 24 rfl rfl rfl rfl) ?_
  refine LM.rd (oml rfl rfl rfl) ?_
  refine LM.val (ov_len Tryd.underlying24 rfl) <| LM.val (ov_lss rfl rfl) <| nA [(1, _), (3, _), (4, _), (5, _), (23, _)] ?_
  refine wpM.condD rfl (fun h3 => ?_) (fun h3 => ?_)
  ·
   have hpm : s.ps.getD k default ∈ s.ps := List.mem_of_getElem? (getq default om); have hpi := hI.ops _ hpm; have hpl : (s.ps.getD k default).c.xs.length ≤ 20 := mayS_len hmay (List.mem_map_of_mem hpm)
   refine wpM.skip <| QM.then <| wpM.seq <| wpM.block ?_
   refine wpM.draw [(0, 0), (1, 0), (2, 0), (3, 0), (4, 0), (5, 1), (6, 0), (7, 1), (8, 0), (9, 0), (10, 1), (11, 0), (12, 2), (13, 0), (14, 0), (15, 3)] kr kr ?_
   refine LD.val rfl rfl (ov_move rfl) <| LD.val rfl rfl (ov_move rfl) <| LD.val rfl rfl (ov_move rfl) <| LD.val rfl rfl (ov_move rfl) ?_
   refine LD.val rfl rfl (ov_idxSN au6 Tryd.underlying29 Tryd.sizeOf34 rfl rfl om) ?_
   refine LD.rd rfl rfl (om_sl1 asm ir Tryd.isAgg34 rfl rfl (by exact getq 0#64 au4) (by rfl)) ?_
   refine LD.val rfl rfl (ovf 24 rfl rfl rfl rfl) ?_
   refine LD.rd rfl rfl (oml rfl rfl rfl) ?_
   refine LD.val rfl rfl (ov_move rfl) ?_
   refine LD.val rfl rfl (ov_idxSN au6 Tryd.underlying24 Tryd.sizeOf37 rfl rfl om) ?_
   refine LD.rdC rfl rfl (om_srEA asm ir Tryd.isAgg37 Tryd.sizeOf37 rfl au3 id) ?_
   refine LD.val rfl rfl (ov_move rfl) ?_
   refine dE rfl rfl Tryd.func12 rfl (fun w hm hc hg => rwithin_spec41 _ w hpi.1 (hpi.2.ext hc) hpl) ?_
   refine LD.val rfl rfl (ov_uor rfl rfl) ?_
   refine LD.val rfl rfl (ov_idxSN au6 Tryd.underlying29 Tryd.sizeOf34 rfl rfl om) ?_
   refine LD.tail rfl rfl ?_
   refine LM.stS _ (j := 0) asm ir Tryd.sizeOf34 rfl rfl rfl (by exact getq 0#64 au4) rfl (by decide) (by rfl) rfl au10 (fun ms hss hmm => ?_)
   refine LM.nil ?_
   refine QM.qn ?_
   refine QM.sub (e' := [(1, _), (3, _), (4, _), (5, _)]) au9 ?_
   refine QM.block_normal ?_
   refine QM.then (wpM.region ?_)
   refine LM.mv rfl ?_
   refine LM.val (ov_add64 rfl rfl om) ?_
   refine LM.as rfl <| nC [(1, _), (3, _), (4, _), (5, _)] ?_
   refine QM.againK ((k + 1, ms)) ⟨au2, rfl, rfl, rfl, trivial⟩ au1 (fun _ h => h) ?_ ?_
   · have e := webP_set (s := s.C) (i := i) (k := k) om om; rw [show s.C.ps.getD k default = (s.ps.getD k default).c from map_getD] at e; exact ⟨by omega, by rw [← e]; exact hss⟩
   · (dsimp only; omega)
  refine wpM.exit <| QM.then_exit <| QM.then_exit <| QM.block_hit <| QM.block_normal ?_
  refine QM.then (wpM.region ?_)
  refine LM.mv rfl ?_
  refine LM.val (ov_add64 rfl rfl om) ?_
  refine LM.as rfl <| nC [(1, _), (3, _), (4, _)] ?_
  refine QM.againK ((i + 1, mi)) ⟨au2, rfl, rfl, trivial⟩ au1 (fun _ h => h) ?_ ?_
  · exact ⟨by omega, by rw [← webP_next, show s.C.ps.length = k by omega]; exact hsi⟩
  · (dsimp only; omega)
 refine wpM.exit <| QM.then_exit <| QM.then_exit <| QM.block_hit <| tR <| LM.mv rfl <| LM.as rfl <| nA [(2, _)] <| wpM.ret ?_
 refine qL Tryd.results8 rfl fun w' hm' hc' hg' => ?_
 have hin : i = s.C.ls.length := om; rw [hin, webP_end, ← webO_yes hmay] at hs; exact ⟨hc', m, hs, hm'.pick m⟩
end Go.Eng
namespace Go.Eng
open Go Go.RowKit
structure Act where
  k : Int
  a : Int
  b : Int
  c : Int
  d : Int
deriving DecidableEq
instance : Inhabited Act := ⟨⟨0, 0, 0, 0, 0⟩⟩
def fA (o : Act) : List Value := [.int .i64 o.k, .int .i64 o.a, .int .i64 o.b, .int .i64 o.c, .int .i64 o.d]
def acW : List (List UInt8) := [[], [116, 105, 99, 107], [102, 105, 114, 101], [98, 97, 108, 97, 110, 99, 101], [115, 112, 97, 119, 110], [107, 105, 108, 108], [103, 114, 111, 117, 112], [109, 111, 118, 101], [114, 111, 117, 110, 100]]
def acT (k : Int) : List UInt8 := if 0 ≤ k ∧ k < 9 then acW.getD k.toNat [] else []
def manyA (k : Int) : Nat := if k = 1 ∨ k = 5 ∨ k = 8 then 1 else if k = 6 ∨ k = 7 then 2 else if k = 4 then 4 else 0
theorem manyA_le (k : Int) : manyA k ≤ 4 := by unfold manyA; (repeat' split) <;> omega
def manyL : List Int := [0, 1, 0, 0, 4, 1, 2, 2, 1]
theorem manyL_get {k : Int} (h : 0 ≤ k ∧ k < 9) : manyL.getD k.toNat 0 = (manyA k : Int) := by
  have : k = 0 ∨ k = 1 ∨ k = 2 ∨ k = 3 ∨ k = 4 ∨ k = 5 ∨ k = 6 ∨ k = 7 ∨ k = 8 := by omega
  rcases this with rfl | rfl | rfl | rfl | rfl | rfl | rfl | rfl | rfl <;> rfl
def kindAT (t : List UInt8) : Int := mx0 (fixI (fun y => decide (t = y)) acW)
def kindA (ws : List Wrd) (i : Nat) : Int := if (decide (i < ws.length) && decide ((ws.getD i default).k = 1)) then kindAT (ws.getD i default).t else 0
def refA (t : List UInt8) : Nat → Int
  | 0 => 0
  | k + 1 => if t = acW.getD (k + 1) [] then ((k + 1 : Nat) : Int) else refA t k
theorem refA_eq (t : List UInt8) : refA t 8 = kindAT t := by
  by_cases h : t ∈ acW
  · simp only [acW, List.mem_cons, List.not_mem_nil, or_false] at h
    rcases h with rfl | rfl | rfl | rfl | rfl | rfl | rfl | rfl | rfl <;> decide +kernel
  · have h2 : fixI (fun y => decide (t = y)) acW = -1 := fix_miss (by
      rw [List.any_eq_false]; intro y hy; simp only [decide_eq_true_eq]; rintro rfl; exact h hy)
    unfold kindAT; rw [h2]
    simp only [acW, List.mem_cons, List.not_mem_nil, or_false, not_or] at h
    obtain ⟨-, a1, a2, a3, a4, a5, a6, a7, a8⟩ := h
    simp only [refA, acW, List.getD_cons_succ, List.getD_cons_zero, if_neg a1, if_neg a2, if_neg a3, if_neg a4, if_neg a5, if_neg a6, if_neg a7, if_neg a8]
    rfl
theorem kindAT_rng (t : List UInt8) : 0 ≤ kindAT t ∧ kindAT t ≤ 8 := by
  rw [← refA_eq]
  have : ∀ k : Nat, 0 ≤ refA t k ∧ refA t k ≤ (k : Int) := by
    intro k
    induction k with
    | zero => exact ⟨Int.le_refl _, Int.le_refl _⟩
    | succ k ih => unfold refA; split <;> omega
  exact this 8
theorem kindA_rng (ws : List Wrd) (i : Nat) : 0 ≤ kindA ws i ∧ kindA ws i ≤ 8 := by
  unfold kindA; split
  · exact kindAT_rng _
  · omega
def numG (ws : List Wrd) : Nat → Nat → Nat → List Int → Nat × Int × List Int
  | 0, j, _, xs => (j, 0, xs)
  | f + 1, j, i, xs => if (decide (ws.length ≤ j) || decide ((ws.getD j default).k ≠ 2)) then (j, 5, xs) else numG ws f (j + 1) (i + 1) (xs.set i (ws.getD j default).n)
def toA (k : Int) (xs : List Int) : Act := ⟨k, xs.getD 0 0, xs.getD 1 0, xs.getD 2 0, xs.getD 3 0⟩
def zer4 : List Int := [0, 0, 0, 0]
def numK (ws : List Wrd) (i : Nat) : Nat × Int × List Int := numG ws (manyA (kindA ws i)) (i + 1) 0 zer4
theorem numG_le (ws : List Wrd) : ∀ (f j i : Nat) (xs : List Int), j ≤ ws.length → j ≤ (numG ws f j i xs).1 ∧ (numG ws f j i xs).1 ≤ ws.length
  | 0, j, i, xs, h => ⟨Nat.le_refl _, h⟩
  | f + 1, j, i, xs, h => by
    unfold numG; split
    · exact ⟨Nat.le_refl _, h⟩
    · rename_i q
      simp only [Bool.or_eq_true, decide_eq_true_eq, not_or] at q
      have := numG_le ws f (j + 1) (i + 1) (xs.set i (ws.getD j default).n) om
      omega
def oneA (ws : List Wrd) (i : Nat) : Act × Nat × Int :=
  if kindA ws i = 0 then (default, i, 5)
  else if (numK ws i).2.1 ≠ 0 then (default, (numK ws i).1, (numK ws i).2.1)
  else if isR ws (numK ws i).1 3 [59] then (toA (kindA ws i) (numK ws i).2.2, (numK ws i).1 + 1, 0)
  else (default, (numK ws i).1, 5)
theorem kindA_lt {ws : List Wrd} {i : Nat} (h : kindA ws i ≠ 0) : i < ws.length := by
  unfold kindA at h; split at h
  · rename_i q; simp only [Bool.and_eq_true, decide_eq_true_eq] at q; exact q.1
  · exact absurd rfl h
theorem oneA_lt {ws : List Wrd} {i : Nat} (h : (oneA ws i).2.2 = 0) : i < (oneA ws i).2.1 ∧ (oneA ws i).2.1 ≤ ws.length := by
  unfold oneA at h ⊢
  split at h
  · cases h
  rename_i h1
  rw [if_neg h1]
  split at h
  · rename_i h2; exact absurd h h2
  rename_i h2
  rw [if_neg h2]
  split at h
  · rename_i h3
    rw [if_pos h3]
    have h4 := numG_le ws (manyA (kindA ws i)) (i + 1) 0 zer4 (kindA_lt h1)
    have h5 := isR_lt h3
    unfold numK at h5 ⊢
    simp only; omega
  · cases h
def loopAF : Nat → List Wrd → Nat → List Act → List Act × Int × Int
  | 0, _, i, out => (out, (i : Nat), 0)
  | f + 1, ws, i, out =>
    if ws.length ≤ i then (out, (i : Nat), 0)
    else if kindA ws i = 0 then ([], (i : Nat), 5)
    else if out.length = 4000 then ([], (i : Nat), 6)
    else if (oneA ws i).2.2 ≠ 0 then ([], ((oneA ws i).2.1 : Nat), (oneA ws i).2.2)
    else loopAF f ws (oneA ws i).2.1 (out ++ [(oneA ws i).1])
theorem loopAF_fuel (ws : List Wrd) : ∀ (f g i : Nat) (out : List Act), ws.length - i ≤ f → ws.length - i ≤ g → loopAF f ws i out = loopAF g ws i out
  | 0, 0, i, out, _, _ => rfl
  | 0, g + 1, i, out, h1, h2 => by rw [loopAF, loopAF, if_pos om]
  | f + 1, 0, i, out, h1, h2 => by rw [loopAF, loopAF, if_pos om]
  | f + 1, g + 1, i, out, h1, h2 => by
    simp only [loopAF]
    split
    · rfl
    split
    · rfl
    split
    · rfl
    split
    · rfl
    · rename_i h4
      have := oneA_lt (Classical.not_not.1 h4)
      exact loopAF_fuel ws f g _ _ om om
def loopA (ws : List Wrd) (i : Nat) (out : List Act) : List Act × Int × Int := loopAF (ws.length - i) ws i out
theorem loopA_end {ws : List Wrd} {i : Nat} {out : List Act} (h : ws.length ≤ i) : loopA ws i out = (out, (i : Int), 0) := by
  unfold loopA; rw [show ws.length - i = 0 by omega]; rfl
theorem loopA_step {ws : List Wrd} {i : Nat} {out : List Act} (h : i < ws.length) : loopA ws i out =
    if kindA ws i = 0 then ([], (i : Int), 5)
    else if out.length = 4000 then ([], (i : Int), 6)
    else if (oneA ws i).2.2 ≠ 0 then ([], ((oneA ws i).2.1 : Int), (oneA ws i).2.2)
    else loopA ws (oneA ws i).2.1 (out ++ [(oneA ws i).1]) := by
  unfold loopA
  obtain ⟨f, hf⟩ : ∃ f, ws.length - i = f + 1 := ⟨ws.length - i - 1, by omega⟩
  rw [hf, loopAF, if_neg om]
  split
  · rfl
  split
  · rfl
  split
  · rfl
  · rename_i h4
    have := oneA_lt (Classical.not_not.1 h4)
    exact loopAF_fuel ws _ _ _ _ om om
def actsO (ws : List Wrd) (p : Int) : List Act × Int × Int := if p < 0 ∨ (ws.length : Int) < p then ([], 0, 5) else loopA ws p.toNat []
theorem acts_nat {ws : List Wrd} {i : Nat} (hi : i ≤ ws.length) : actsO ws (i : Int) = loopA ws i [] := by
  unfold actsO; rw [if_neg om, Int.toNat_natCast]
/-! what is parsed may be -/
end Go.Eng
namespace Go.Eng
open Go Go.Proofs Go.RowKit
theorem raname_spec (k : Int) (w : World) : Ret Tryd.prog 65 #[.int .i64 k] w (fun v w' => v = vS (acT k) ∧ Ext w w') := by
 refine Ret.enterM Tryd.func65 rfl Tryd.ntmps65 rfl ([]) (no) (Mem.nil w) ?_
 refine wR <| LM.as rfl <| nB [(0, _)] ?_
 refine LM.row (vs := [_, _, _, _, _, _, _, _, _]) Tryd.underlying136 Tryd.sizeOf9 Tryd.zeroValue9 rfl rfl rfl rfl rfl rfl (fun b4 hb4 => ?_)
 refine LM.as rfl <| nA [(0, _), (3, _)] <| wpM.seq <| wR <| LM.mv rfl <| LM.val (ov_lss rfl rfl) <| LM.mv rfl ?_
 refine LM.splitD (t := 7) rfl (fun h1 => ?_) (fun h1 => ?_)
 ·
  refine LM.dr 7 rfl rfl rfl <| LM.dr 7 rfl rfl rfl <| LM.val (ov_pickT rfl rfl) <| nA [(0, _), (3, _), (10, _)] ?_
  refine wpM.condT rfl ?_
  refine wR <| LM.as rfl <| nA [(2, _)] <| wpM.ret <| QM.then_ret ?_
  refine qL Tryd.results65 rfl fun w' hm' hc' hg' => ?_
  refine ⟨?_, hc'⟩; show vS _ = _; congr 1; first | (rw [acT, if_neg om]; done) | (rw [acT, if_pos om]; rfl)
 refine LM.sp 7 rfl rfl rfl <| LM.mv rfl <| LM.sp 7 rfl rfl rfl <| LM.val (ov_gtr rfl rfl) <| LM.val (ov_pickF rfl rfl) <| nA [(0, _), (3, _), (10, _)] ?_
 refine wpM.condD rfl (fun h2 => ?_) (fun h2 => ?_)
 ·
  refine wR <| LM.as rfl <| nA [(2, _)] <| wpM.ret <| QM.then_ret ?_
  refine qL Tryd.results65 rfl fun w' hm' hc' hg' => ?_
  refine ⟨?_, hc'⟩; show vS _ = _; congr 1; first | (rw [acT, if_neg om]; done) | (rw [acT, if_pos om]; rfl)
 refine wpM.skip <| tR <| LM.mv rfl <| LM.mv rfl ?_
 change LM _ _ _ _ _ _ _ _ ((b4, Obj.cells (arr fB acW []) 9 (0, 0)) :: _) _ _ _; have hs4 : Sl fB 9 1 w.heap.size acW (.slice (some ⟨b4, 0, none⟩) 9 9) [(b4, .cells (arr fB acW []) 9 (0, 0))] := .inr ⟨b4, 9, [], hb4, rfl, rfl, by decide, by unfold maxLen; decide, rfl⟩; have hl12 : acW.length = 9 := rfl
 refine LM.val (ov_idxS au6 Tryd.underlying136 Tryd.sizeOf9 rfl rfl om) ?_
 refine LM.rd (om_sl1 asm ir Tryd.isAgg9 rfl rfl au3 (by rfl)) ?_
 refine LM.as rfl <| nA [(2, _)] <| wpM.ret ?_
 refine qL Tryd.results65 rfl fun w' hm' hc' hg' => ?_
 refine ⟨?_, hc'⟩; show vS _ = _; congr 1; first | (rw [acT, if_neg om]; done) | (rw [acT, if_pos om]; rfl)
theorem rmany_spec (k : Int) (w : World) (hk : 0 ≤ k ∧ k < 9) : Ret Tryd.prog 66 #[.int .i64 k] w (fun v w' => v = .int .i64 (manyA k : Nat) ∧ Ext w w') := by
 refine Ret.enterM Tryd.func66 rfl Tryd.ntmps66 rfl ([]) (no) (Mem.nil w) ?_
 refine wR <| LM.as rfl <| nB [(0, _)] ?_
 refine LM.row (vs := [_, _, _, _, _, _, _, _, _]) Tryd.underlying22 Tryd.sizeOf3 Tryd.zeroValue3 rfl rfl rfl rfl rfl rfl (fun b4 hb4 => ?_)
 refine LM.as rfl <| nB [(0, _), (3, _)] <| LM.mv rfl <| LM.mv rfl ?_
 change LM _ _ _ _ _ _ _ _ ((b4, Obj.cells (arr fI manyL []) 3 (0, 0)) :: _) _ _ _; have hs4 : Sl fI 3 1 w.heap.size manyL (.slice (some ⟨b4, 0, none⟩) 9 9) [(b4, .cells (arr fI manyL []) 3 (0, 0))] := .inr ⟨b4, 9, [], hb4, rfl, rfl, by decide, by unfold maxLen; decide, rfl⟩; have hl12 : manyL.length = 9 := rfl
 refine LM.val (ov_idxS au6 Tryd.underlying22 Tryd.sizeOf3 rfl rfl om) ?_
 refine LM.rd (om_sl1 asm ir Tryd.isAgg3 rfl rfl (by exact getq 0 au4) (by rfl)) ?_
 refine LM.as rfl <| nA [(2, _)] <| wpM.ret ?_
 refine qL Tryd.results66 rfl fun w' hm' hc' hg' => ?_
 refine ⟨?_, hc'⟩; show Value.int .i64 (manyL.getD k.toNat 0) = _; rw [manyL_get hk]
theorem put_spec {k : Int} {xs : List Int} (i : Nat) (n : Int) (w : World) (hi : i < 4) (hx : xs.length = 4) : Ret Tryd.prog 67 #[.agg (fA (toA k xs)).toArray, .int .i64 (i : Nat), .int .i64 n] w (fun v w' => v = .agg (fA (toA k (xs.set i n))).toArray ∧ Ext w w') := by
 refine Ret.enterM Tryd.func67 rfl Tryd.ntmps67 rfl ([]) (no) (Mem.nil w) ?_
 refine wR ?_
 refine LM.box rfl rfl (fun b3 hb3 => ?_)
 refine LM.alloc Tryd.zeroValue118 rfl (fun b6 hb6 => ?_)
 refine nA [(1, _), (2, _), (3, _), (6, _)] <| wpM.seq <| wR <| LM.mv rfl <| LM.val (ov_eql rfl rfl) <| nA [(1, _), (2, _), (3, _), (6, _), (8, _)] ?_
 refine wpM.condD rfl (fun h1 => ?_) (fun h1 => ?_)
 ·
  refine wpM.region ?_
  refine LM.mv rfl <| LM.val (ovf 3 rfl rfl rfl rfl) ?_
  refine LM.st Tryd.sizeOf3 rfl rfl rfl au5 rfl au8 ?_
  refine nB [(3, _), (6, _)] ?_
  refine LM.rd (om_ldW Tryd.isAgg118 Tryd.sizeOf118 rfl rfl) ?_
  refine LM.stW Tryd.sizeOf118 rfl rfl rfl rfl au7 au8 ?_
  refine nA [(6, _)] <| wpM.ret ?_
  refine QM.leaveCs (ds := ([])) (.inl rfl) [.cell 6 118] Tryd.results67 hd_nil (rc_w rfl Tryd.isAgg118 Tryd.sizeOf118 rfl rc_nil) ?_
  intro w' hm' hc'
  refine ⟨?_, hc'⟩; have hi4 : i = 0 ∨ i = 1 ∨ i = 2 ∨ i = 3 := om; match xs, hx with | [a0, a1, a2, a3], _ => (rcases hi4 with rfl | rfl | rfl | rfl <;> first | rfl | (exfalso; omega))
 refine wR <| LM.mv rfl <| LM.val (ov_eql rfl rfl) <| nA [(1, _), (2, _), (3, _), (6, _), (12, _)] ?_
 refine wpM.condD rfl (fun h2 => ?_) (fun h2 => ?_)
 ·
  refine wpM.region ?_
  refine LM.mv rfl <| LM.val (ovf 3 rfl rfl rfl rfl) ?_
  refine LM.st Tryd.sizeOf3 rfl rfl rfl au5 rfl au8 ?_
  refine nB [(3, _), (6, _)] ?_
  refine LM.rd (om_ldW Tryd.isAgg118 Tryd.sizeOf118 rfl rfl) ?_
  refine LM.stW Tryd.sizeOf118 rfl rfl rfl rfl au7 au8 ?_
  refine nA [(6, _)] <| wpM.ret ?_
  refine QM.leaveCs (ds := ([])) (.inl rfl) [.cell 6 118] Tryd.results67 hd_nil (rc_w rfl Tryd.isAgg118 Tryd.sizeOf118 rfl rc_nil) ?_
  intro w' hm' hc'
  refine ⟨?_, hc'⟩; have hi4 : i = 0 ∨ i = 1 ∨ i = 2 ∨ i = 3 := om; match xs, hx with | [a0, a1, a2, a3], _ => (rcases hi4 with rfl | rfl | rfl | rfl <;> first | rfl | (exfalso; omega))
 refine wR <| LM.mv rfl <| LM.val (ov_eql rfl rfl) <| nA [(2, _), (3, _), (6, _), (16, _)] ?_
 refine wpM.condD rfl (fun h3 => ?_) (fun h3 => ?_)
 ·
  refine wpM.region ?_
  refine LM.mv rfl <| LM.val (ovf 3 rfl rfl rfl rfl) ?_
  refine LM.st Tryd.sizeOf3 rfl rfl rfl au5 rfl au8 ?_
  refine nB [(3, _), (6, _)] ?_
  refine LM.rd (om_ldW Tryd.isAgg118 Tryd.sizeOf118 rfl rfl) ?_
  refine LM.stW Tryd.sizeOf118 rfl rfl rfl rfl au7 au8 ?_
  refine nA [(6, _)] <| wpM.ret ?_
  refine QM.leaveCs (ds := ([])) (.inl rfl) [.cell 6 118] Tryd.results67 hd_nil (rc_w rfl Tryd.isAgg118 Tryd.sizeOf118 rfl rc_nil) ?_
  intro w' hm' hc'
  refine ⟨?_, hc'⟩; have hi4 : i = 0 ∨ i = 1 ∨ i = 2 ∨ i = 3 := om; match xs, hx with | [a0, a1, a2, a3], _ => (rcases hi4 with rfl | rfl | rfl | rfl <;> first | rfl | (exfalso; omega))
 refine wpM.region ?_
 refine LM.mv rfl <| LM.val (ovf 3 rfl rfl rfl rfl) ?_
 refine LM.st Tryd.sizeOf3 rfl rfl rfl au5 rfl au8 ?_
 refine nB [(3, _), (6, _)] ?_
 refine LM.rd (om_ldW Tryd.isAgg118 Tryd.sizeOf118 rfl rfl) ?_
 refine LM.stW Tryd.sizeOf118 rfl rfl rfl rfl au7 au8 ?_
 refine nA [(6, _)] <| wpM.ret ?_
 refine QM.leaveCs (ds := ([])) (.inl rfl) [.cell 6 118] Tryd.results67 hd_nil (rc_w rfl Tryd.isAgg118 Tryd.sizeOf118 rfl rc_nil) ?_
 intro w' hm' hc'
 refine ⟨?_, hc'⟩; have hi4 : i = 0 ∨ i = 1 ∨ i = 2 ∨ i = 3 := om; match xs, hx with | [a0, a1, a2, a3], _ => (rcases hi4 with rfl | rfl | rfl | rfl <;> first | rfl | (exfalso; omega))
theorem oneA_n {ws : List Wrd} {i j : Nat} {xs : List Int} (h : kindA ws i ≠ 0) (h2 : numK ws i = (j, 5, xs)) : oneA ws i = (default, j, 5) := by unfold oneA; rw [if_neg h, h2, if_pos (show (5 : Int) ≠ 0 by decide)]
theorem oneA_s {ws : List Wrd} {i j : Nat} {xs : List Int} (h : kindA ws i ≠ 0) (h2 : numK ws i = (j, 0, xs)) (h3 : isR ws j 3 [59] = false) : oneA ws i = (default, j, 5) := by unfold oneA; rw [if_neg h, h2, if_neg (fun q => q rfl), if_neg (by rw [h3]; simp)]
theorem oneA_ok {ws : List Wrd} {i j : Nat} {xs : List Int} (h : kindA ws i ≠ 0) (h2 : numK ws i = (j, 0, xs)) (h3 : isR ws j 3 [59] = true) : oneA ws i = (toA (kindA ws i) xs, j + 1, 0) := by unfold oneA; rw [if_neg h, h2, if_neg (fun q => q rfl), if_pos h3]
theorem numG_stop {ws : List Wrd} {f j i : Nat} {xs : List Int} (hf : 0 < f) (h : (decide (ws.length ≤ j) || decide ((ws.getD j default).k ≠ 2)) = true) : numG ws f j i xs = (j, 5, xs) := by
  obtain ⟨g, rfl⟩ : ∃ g, f = g + 1 := ⟨f - 1, by omega⟩
  unfold numG; rw [if_pos h]
theorem numG_next {ws : List Wrd} {f j i : Nat} {xs : List Int} (hf : 0 < f) (h : (decide (ws.length ≤ j) || decide ((ws.getD j default).k ≠ 2)) = false) : numG ws f j i xs = numG ws (f - 1) (j + 1) (i + 1) (xs.set i (ws.getD j default).n) := by
  obtain ⟨g, rfl⟩ : ∃ g, f = g + 1 := ⟨f - 1, by omega⟩
  conv => lhs; unfold numG
  rw [if_neg (by rw [h]; simp), Nat.add_sub_cancel]
def AcT (r : List Act × Int × Int) (n0 : Nat) (v : Value) (m : Mem0) : Prop := ∃ ad n cap, v = .tuple #[.slice ad n cap, .int .i64 r.2.1, .int .i64 r.2.2] ∧ n = r.1.length ∧ Sl fA 118 5 n0 r.1 (.slice ad n cap) m
theorem AcT.mono {r : List Act × Int × Int} : ∀ (k k' : Nat) u m, k' ≤ k → AcT r k u m → AcT r k' u m := fun k k' u m h ⟨ad, n, cap, h1, h2, h3⟩ => ⟨ad, n, cap, h1, h2, h3.mono h⟩
def kaccA (ws : List Wrd) (i : Nat) : Nat → Int
  | 0 => 0
  | m + 1 => if isR ws i 1 (acT ((m + 1 : Nat) : Int)) then ((m + 1 : Nat) : Int) else kaccA ws i m
theorem acT_nat {k : Nat} (h : k < 9) : acT (k : Int) = acW.getD k [] := by unfold acT; rw [if_pos om, Int.toNat_natCast]
theorem kaccA_eq (ws : List Wrd) (i : Nat) : kaccA ws i 8 = kindA ws i := by
  unfold kindA
  cases hc : (decide (i < ws.length) && decide ((ws.getD i default).k = 1)) with
  | false =>
    rw [if_neg (by simp)]
    have : ∀ m, kaccA ws i m = 0 := by
      intro m
      induction m with
      | zero => rfl
      | succ m ih => unfold kaccA isR; rw [hc, Bool.false_and, if_neg (by simp), ih]
    exact this 8
  | true =>
    rw [if_pos rfl, ← refA_eq]
    have : ∀ m, m ≤ 8 → kaccA ws i m = refA (ws.getD i default).t m := by
      intro m
      induction m with
      | zero => intro _; rfl
      | succ m ih =>
        intro hm
        unfold kaccA refA isR; rw [hc, Bool.true_and, ih om, acT_nat om]
        by_cases q : (ws.getD i default).t = acW.getD (m + 1) []
        · rw [if_pos q, if_pos (decide_eq_true q)]
        · rw [if_neg q, if_neg (by rw [decide_eq_false q]; simp)]
    exact this 8 (Nat.le_refl _)
theorem kaccA_t {ws : List Wrd} {i k : Nat} (h1 : 1 ≤ k) (h : isR ws i 1 (acT (k : Int)) = true) : kaccA ws i k = (k : Int) := by
  obtain ⟨m, rfl⟩ : ∃ m, k = m + 1 := ⟨k - 1, by omega⟩
  unfold kaccA; rw [if_pos h]
theorem kaccA_f {ws : List Wrd} {i k : Nat} (h1 : 1 ≤ k) (h : isR ws i 1 (acT (k : Int)) = false) : kaccA ws i k = kaccA ws i (k - 1) := by
  obtain ⟨m, rfl⟩ : ∃ m, k = m + 1 := ⟨k - 1, by omega⟩
  rw [show m + 1 - 1 = m by omega]
  conv => lhs; unfold kaccA
  rw [if_neg (by rw [h]; simp)]
theorem loopA_0 {ws : List Wrd} {i : Nat} {out : List Act} (h : i < ws.length) (h0 : kindA ws i = 0) : loopA ws i out = ([], (i : Int), 5) := by rw [loopA_step h, if_pos h0]
theorem loopA_6 {ws : List Wrd} {i : Nat} {out : List Act} (h : i < ws.length) (h0 : kindA ws i ≠ 0) (h1 : out.length = 4000) : loopA ws i out = ([], (i : Int), 6) := by rw [loopA_step h, if_neg h0, if_pos h1]
theorem loopA_e {ws : List Wrd} {i j : Nat} {out : List Act} (h : i < ws.length) (h0 : kindA ws i ≠ 0) (h1 : out.length ≠ 4000) (he : oneA ws i = (default, j, 5)) : loopA ws i out = ([], (j : Int), 5) := by rw [loopA_step h, if_neg h0, if_neg h1, if_pos (by rw [he]; exact (show (5 : Int) ≠ 0 by decide)), he]
theorem loopA_g {ws : List Wrd} {i j : Nat} {a : Act} {out : List Act} (h : i < ws.length) (h0 : kindA ws i ≠ 0) (h1 : out.length ≠ 4000) (he : oneA ws i = (a, j, 0)) : loopA ws i out = loopA ws j (out ++ [a]) := by rw [loopA_step h, if_neg h0, if_neg h1, if_neg (by rw [he]; exact fun q => q rfl), he]
set_option maxHeartbeats 1000000 in
theorem raparse_spec {ws : List Wrd} {ad : Option Addr} {n cap : Nat} (p : Int) (w : World) (hn : n = ws.length) (hx : ws.length ≤ 1000000000) (hl : Sr fW 4 ws (.slice ad n cap) w) : Ret Tryd.prog 43 #[.slice ad n cap, .int .i64 p] w (fun v w' => Ext w w' ∧ ∃ m, AcT (actsO ws p) w.heap.size v m ∧ Mem w' m ∧ ∀ p ∈ m, w.heap.size ≤ p.1) := by
 refine Ret.enterM Tryd.func43 rfl Tryd.ntmps43 rfl ([]) (no) (Mem.nil w) ?_
 refine wR <| LM.as rfl <| LM.as rfl <| LM.as rfl <| nA [(0, _), (1, _)] <| wpM.seq <| wR <| LM.mv rfl <| LM.val (ov_lss rfl rfl) <| LM.mv rfl ?_
 refine LM.splitD (t := 14) rfl (fun h1 => ?_) (fun h1 => ?_)
 ·
  refine LM.dr 14 rfl rfl rfl <| LM.dr 14 rfl rfl rfl <| LM.dr 14 rfl rfl rfl <| LM.dr 14 rfl rfl rfl <| LM.val (ov_pickT rfl rfl) <| nA [(0, _), (1, _), (19, _)] ?_
  refine wpM.condT rfl ?_
  refine wR <| LM.as rfl <| LM.as rfl <| LM.as rfl <| nA [(4, _), (5, _), (6, _)] <| wpM.ret <| QM.then_ret ?_
  refine QM.leave (.inl rfl) [.tmp 4, .tmp 5, .tmp 6] Tryd.results43 rfl ?_
  intro w' hm' hc' hg'
  have hpar : actsO ws p = ([], 0, 5) := (by unfold actsO; rw [if_pos om]); rw [hpar]; exact ⟨hc', [], ⟨none, 0, 0, rfl, rfl, .nil _ _ _ _⟩, Mem.nil _, fun p hp => by cases hp⟩
 refine LM.sp 14 rfl rfl rfl <| LM.mv rfl <| LM.sp 14 rfl rfl rfl <| LM.mv rfl <| LM.sp 14 rfl rfl rfl <| LM.val (ov_len Tryd.underlying85 rfl) <| LM.sp 14 rfl rfl rfl <| LM.val (ov_gtr rfl rfl) <| LM.val (ov_pickF rfl rfl) <| nA [(0, _), (1, _), (19, _)] ?_
 refine wpM.condD rfl (fun h2 => ?_) (fun h2 => ?_)
 ·
  refine wR <| LM.as rfl <| LM.as rfl <| LM.as rfl <| nA [(4, _), (5, _), (6, _)] <| wpM.ret <| QM.then_ret ?_
  refine QM.leave (.inl rfl) [.tmp 4, .tmp 5, .tmp 6] Tryd.results43 rfl ?_
  intro w' hm' hc' hg'
  have hpar : actsO ws p = ([], 0, 5) := (by unfold actsO; rw [if_pos om]); rw [hpar]; exact ⟨hc', [], ⟨none, 0, 0, rfl, rfl, .nil _ _ _ _⟩, Mem.nil _, fun p hp => by cases hp⟩
 obtain ⟨i0, rfl⟩ : ∃ i0 : Nat, p = (i0 : Nat) := ⟨p.toNat, by omega⟩; have hi0 : i0 ≤ ws.length := om
 refine wpM.skip <| tR <| LM.as rfl <| nA [(0, _), (1, _), (7, _)] <| wpM.seq <| wpM.block ?_
 refine wpM.loopK0 (α := Nat × List Act × Option Addr × Nat × Nat × Mem0) (fun ⟨i, out, ado, no, capo, mo⟩ => [(1, .int .i64 (i : Nat)), (7, .slice ado no capo)]) [(0, _)] (fun ⟨i, out, ado, no, capo, mo⟩ => mo ++ []) (fun ⟨i, out, ado, no, capo, mo⟩ => i ≤ ws.length ∧ loopA ws i out = loopA ws i0 [] ∧ no = out.length ∧ Sl fA 118 5 w.heap.size out (.slice ado no capo) mo ∧ out.length ≤ 4000) (fun ⟨i, out, ado, no, capo, mo⟩ => ws.length - i) ((i0, [], none, 0, 0, [])) ⟨au2, au2, rfl, trivial⟩ au1 ⟨by omega, rfl, rfl, .nil _ _ _ _, by decide⟩ ?_
 rintro ⟨i, out, ado, no, capo, mo⟩ ⟨hi, hL, hno, hso, hol⟩
 change wpM _ _ _ _ _ _ _ (mo ++ []) _ _ _
 refine wpM.seq <| wR <| LM.mv rfl <| LM.mv rfl <| LM.val (ov_len Tryd.underlying85 rfl) <| LM.val (ov_lss rfl rfl) <| nA [(0, _), (1, _), (7, _), (23, _)] ?_
 refine wpM.condD rfl (fun h3 => ?_) (fun h3 => ?_)
 ·
  have hilt : i < ws.length := om
  refine wpM.skip <| QM.then <| wpM.block <| wR <| LM.as rfl <| nA [(0, _), (1, _), (7, _), (8, _)] <| wpM.seq <| wR <| LM.as rfl <| nA [(0, _), (1, _), (7, _), (8, _), (9, _)] <| wpM.block ?_
  refine wpM.loopK0 (α := Nat × Int) (fun ⟨k, kd⟩ => [(8, .int .i64 kd), (9, .int .i64 (k : Nat))]) [(0, _), (1, _), (7, _)] (fun ⟨k, kd⟩ => mo ++ []) (fun ⟨k, kd⟩ => 1 ≤ k ∧ k ≤ 9 ∧ kd = kaccA ws i (k - 1)) (fun ⟨k, kd⟩ => 9 - k) ((1, 0)) ⟨au2, au2, rfl, rfl, rfl, trivial⟩ au1 ⟨by omega, by omega, rfl⟩ ?_
  rintro ⟨k, kd⟩ ⟨hk1, hk2, hkd⟩
  change wpM _ _ _ _ _ _ _ (mo ++ []) _ _ _
  refine wpM.seq <| wR <| LM.mv rfl <| LM.val (ov_leq rfl rfl) <| nA [(0, _), (1, _), (7, _), (8, _), (9, _), (25, _)] ?_
  refine wpM.condD rfl (fun h4 => ?_) (fun h4 => ?_)
  ·
   refine wpM.skip <| QM.then <| wpM.seq <| wpM.block <| wpM.seq ?_
   refine wpM.joinK (α := Bool) (fun q => [(43, .bool q)]) [(0, _), (1, _), (7, _), (8, _), (9, _)] (fun q => mo ++ []) (fun q => q = isR ws i 1 (acT (k : Int))) ⟨rfl, rfl, rfl, rfl, rfl, trivial⟩ ?_ ?_
   ·
    refine wpM.draw [(0, 0), (1, 0), (2, 0), (3, 0), (4, 1), (5, 0), (6, 0), (7, 0), (8, 0), (9, 0), (10, 0), (11, 1), (12, 0), (13, 2), (14, 0), (15, 0)] kr kr ?_
    refine LD.val rfl rfl (ov_move rfl) <| LD.val rfl rfl (ov_move rfl) ?_
    refine LD.val rfl rfl (ov_idxSN au6 Tryd.underlying85 Tryd.sizeOf104 rfl rfl om) ?_
    refine LD.val rfl rfl (ovf 3 rfl rfl rfl rfl) ?_
    refine LD.rdC rfl rfl (om_srE (j := 0) asm Tryd.isAgg3 rfl rfl au3 (by rfl) (by rfl) id) ?_
    refine LD.val rfl rfl (ov_eql rfl rfl) ?_
    refine LD.val rfl rfl (ov_move rfl) ?_
    refine LD.splitD (t := 34) rfl (fun h5 => ?_) (fun h5 => ?_)
    ·
     refine LD.val rfl ⟨34, _, rfl, rfl, rfl⟩ (ov_move rfl) <| LD.val rfl ⟨34, _, rfl, rfl, rfl⟩ (ov_move rfl) ?_
     refine LD.val rfl ⟨34, _, rfl, rfl, rfl⟩ (ov_idxSN au6 Tryd.underlying85 Tryd.sizeOf104 rfl rfl om) ?_
     refine LD.val rfl ⟨34, _, rfl, rfl, rfl⟩ (ovf 9 rfl rfl rfl rfl) ?_
     refine LD.rdC rfl ⟨34, _, rfl, rfl, rfl⟩ (om_srE (j := 1) asm Tryd.isAgg9 rfl rfl au3 (by rfl) (by rfl) id) ?_
     refine LD.val rfl ⟨34, _, rfl, rfl, rfl⟩ (ov_move rfl) ?_
     refine dE rfl ⟨34, _, rfl, rfl, rfl⟩ Tryd.func65 rfl (fun w hm hc hg => raname_spec _ w) ?_
     refine LD.val rfl ⟨34, _, rfl, rfl, rfl⟩ (ov_seqlL rfl rfl) ?_
     refine LD.val rfl rfl (ov_pickT rfl rfl) ?_
     refine LD.nil ?_
     refine QM.sub (e' := [(0, _), (1, _), (7, _), (8, _), (9, _), (43, _)]) au9 ?_
     refine QM.meetK (_) ⟨au2, rfl, rfl, rfl, rfl, rfl, trivial⟩ au1 ?_
     · unfold isR; rw [decide_eq_true hilt, decide_eq_true (show (ws.getD i default).k = 1 by omega)]; rfl
    refine LD.drop rfl rfl ⟨34, _, rfl, rfl, rfl⟩ <| LD.drop rfl rfl ⟨34, _, rfl, rfl, rfl⟩ <| LD.drop rfl rfl ⟨34, _, rfl, rfl, rfl⟩ <| LD.drop rfl rfl ⟨34, _, rfl, rfl, rfl⟩ <| LD.drop rfl rfl ⟨34, _, rfl, rfl, rfl⟩ <| LD.drop rfl rfl ⟨34, _, rfl, rfl, rfl⟩ <| LD.drop rfl rfl ⟨34, _, rfl, rfl, rfl⟩ <| LD.drop rfl rfl ⟨34, _, rfl, rfl, rfl⟩ ?_
    refine LD.val rfl rfl (ov_pickF rfl rfl) ?_
    refine LD.nil ?_
    refine QM.sub (e' := [(0, _), (1, _), (7, _), (8, _), (9, _), (43, _)]) au9 ?_
    refine QM.meetK (_) ⟨au2, rfl, rfl, rfl, rfl, rfl, trivial⟩ au1 ?_
    · unfold isR; rw [decide_eq_false (show ¬ (ws.getD i default).k = 1 by omega)]; simp
   rintro q hq
   change QM _ _ _ _ _ (mo ++ []) _ _ _
   refine QM.then ?_
   refine wpM.condB rfl (fun h6 => ?_) (fun h6 => ?_)
   ·
    refine wpM.region ?_
    refine LM.mv rfl <| LM.as rfl <| nC [(0, _), (1, _), (7, _), (8, _), (9, _)] <| QM.block_normal ?_
    refine QM.then (wpM.region ?_)
    refine LM.mv rfl ?_
    refine LM.val (ov_add64 rfl rfl om) ?_
    refine LM.as rfl <| nC [(0, _), (1, _), (7, _), (8, _), (9, _)] ?_
    refine QM.againK ((k + 1, (k : Int))) ⟨au2, au2, rfl, rfl, rfl, trivial⟩ au1 (fun _ h => h) ?_ ?_
    · exact ⟨by omega, by omega, (kaccA_t hk1 (hq.symm.trans h6)).symm⟩
    · (dsimp only; omega)
   refine wpM.skip <| QM.block_normal ?_
   refine QM.then (wpM.region ?_)
   refine LM.mv rfl ?_
   refine LM.val (ov_add64 rfl rfl om) ?_
   refine LM.as rfl <| nC [(0, _), (1, _), (7, _), (8, _), (9, _)] ?_
   refine QM.againK ((k + 1, kd)) ⟨au2, au2, rfl, rfl, rfl, trivial⟩ au1 (fun _ h => h) ?_ ?_
   · exact ⟨by omega, by omega, by rw [hkd]; exact (kaccA_f hk1 (hq.symm.trans h6)).symm⟩
   · (dsimp only; omega)
  obtain rfl : k = 9 := om; obtain rfl : kd = kindA ws i := hkd.trans (kaccA_eq ws i); have hkr := kindA_rng ws i
  refine wpM.exit <| QM.then_exit <| QM.then_exit <| QM.block_hit <| QM.then <| wpM.seq <| wR <| LM.mv rfl <| LM.val (ov_eql rfl rfl) <| nA [(0, _), (1, _), (7, _), (8, _), (46, _)] ?_
  refine wpM.condD rfl (fun h7 => ?_) (fun h7 => ?_)
  ·
   refine wR <| LM.mv rfl <| LM.as rfl <| LM.as rfl <| LM.as rfl <| nA [(4, _), (5, _), (6, _)] <| wpM.ret <| QM.then_ret <| QM.block_ret <| QM.then_ret <| QM.block_ret <| QM.then_ret ?_
   refine QM.leave (.inl rfl) [.tmp 4, .tmp 5, .tmp 6] Tryd.results43 rfl ?_
   intro w' hm' hc' hg'
   rw [acts_nat hi0, ← hL, loopA_0 hilt om]; exact ⟨hc', [], ⟨none, 0, 0, rfl, rfl, .nil _ _ _ _⟩, Mem.nil _, fun p hp => by cases hp⟩
  refine wpM.skip <| QM.then <| wpM.seq <| wR <| LM.mv rfl <| LM.val (ov_len Tryd.underlying46 rfl) <| LM.val (ov_eql rfl rfl) <| nA [(0, _), (1, _), (7, _), (8, _), (50, _)] ?_
  refine wpM.condD rfl (fun h8 => ?_) (fun h8 => ?_)
  ·
   refine wR <| LM.mv rfl <| LM.as rfl <| LM.as rfl <| LM.as rfl <| nA [(4, _), (5, _), (6, _)] <| wpM.ret <| QM.then_ret <| QM.block_ret <| QM.then_ret <| QM.block_ret <| QM.then_ret ?_
   refine QM.leave (.inl rfl) [.tmp 4, .tmp 5, .tmp 6] Tryd.results43 rfl ?_
   intro w' hm' hc' hg'
   rw [acts_nat hi0, ← hL, loopA_6 hilt h7 om]; exact ⟨hc', [], ⟨none, 0, 0, rfl, rfl, .nil _ _ _ _⟩, Mem.nil _, fun p hp => by cases hp⟩
  refine wpM.skip <| tR <| LM.mv rfl ?_
  refine LM.val (ov_add64 rfl rfl om) ?_
  refine LM.as rfl <| nB [(0, _), (1, _), (7, _), (8, _)] <| LM.mv rfl ?_
  refine LM.val (ov_build (cs := #[_, _, _, _, _]) rfl (by first | rfl | kernel_rfl)) ?_
  refine LM.alloc Tryd.zeroValue118 rfl (fun b10 hb10 => ?_)
  refine LM.stW Tryd.sizeOf118 rfl rfl rfl rfl au7 au8 ?_
  refine nA [(0, _), (1, _), (7, _), (8, _), (10, _)] <| wpM.seq <| wR <| LM.as rfl <| nA [(0, _), (1, _), (7, _), (8, _), (10, _), (11, _)] <| wpM.block ?_
  refine wpM.loopK0 (α := Nat × Nat × List Int) (fun ⟨k, j, xs⟩ => [(1, .int .i64 (j : Nat)), (11, .int .i64 (k : Nat))]) [(0, _), (7, _), (8, _), (10, _)] (fun ⟨k, j, xs⟩ => (b10, .cells (fA (toA (kindA ws i) xs)).toArray 118 (0, 0)) :: (mo ++ [])) (fun ⟨k, j, xs⟩ => k ≤ manyA (kindA ws i) ∧ j ≤ ws.length ∧ xs.length = 4 ∧ numG ws (manyA (kindA ws i) - k) j k xs = numK ws i) (fun ⟨k, j, xs⟩ => manyA (kindA ws i) - k) ((0, i + 1, zer4)) ⟨au2, au2, rfl, rfl, rfl, rfl, trivial⟩ au1 ⟨Nat.zero_le _, by omega, rfl, rfl⟩ ?_
  rintro ⟨k, j, xs⟩ ⟨hkm, hj, hx4, hN⟩
  change wpM _ _ _ _ _ _ _ ((b10, .cells (fA (toA (kindA ws i) xs)).toArray 118 (0, 0)) :: (mo ++ [])) _ _ _
  have hm4 := manyA_le (kindA ws i)
  refine wpM.seq <| wR <| LM.mv rfl <| LM.mv rfl ?_
  refine cE Tryd.func66 rfl (fun w hm hc hg => rmany_spec _ w om) ?_
  refine LM.val (ov_lss rfl rfl) <| nA [(0, _), (1, _), (7, _), (8, _), (10, _), (11, _), (59, _)] ?_
  refine wpM.condD rfl (fun h9 => ?_) (fun h9 => ?_)
  ·
   refine wpM.skip <| QM.then <| wpM.seq <| wpM.block <| wpM.seq <| wpM.seq ?_
   refine wpM.joinK (α := Bool) (fun q => [(73, .bool q)]) [(0, _), (1, _), (7, _), (8, _), (10, _), (11, _)] (fun q => (b10, .cells (fA (toA (kindA ws i) xs)).toArray 118 (0, 0)) :: (mo ++ [])) (fun q => q = (decide (ws.length ≤ j) || decide ((ws.getD j default).k ≠ 2))) ⟨rfl, rfl, rfl, rfl, rfl, rfl, trivial⟩ ?_ ?_
   ·
    refine wpM.region ?_
    refine LM.mv rfl <| LM.mv rfl <| LM.val (ov_len Tryd.underlying85 rfl) <| LM.val (ov_geq rfl rfl) <| LM.mv rfl ?_
    refine LM.splitD (t := 66) rfl (fun h10 => ?_) (fun h10 => ?_)
    ·
     refine LM.dr 66 rfl rfl rfl <| LM.dr 66 rfl rfl rfl <| LM.dr 66 rfl rfl rfl <| LM.dr 66 rfl rfl rfl <| LM.dr 66 rfl rfl rfl <| LM.dr 66 rfl rfl rfl <| LM.val (ov_pickT rfl rfl) <| nC [(0, _), (1, _), (7, _), (8, _), (10, _), (11, _), (73, _)] ?_
     refine QM.meetK (_) ⟨au2, rfl, rfl, rfl, rfl, rfl, rfl, trivial⟩ au1 ?_
     · rw [decide_eq_true (show ws.length ≤ j by omega), Bool.true_or]
    refine LM.sp 66 rfl rfl rfl <| LM.mv rfl <| LM.sp 66 rfl rfl rfl <| LM.mv rfl <| LM.sp 66 rfl rfl rfl ?_
    refine LM.val (ov_idxSN au6 Tryd.underlying85 Tryd.sizeOf104 rfl rfl om) ?_
    refine LM.sp 66 rfl rfl rfl <| LM.val (ovf 3 rfl rfl rfl rfl) <| LM.sp 66 rfl rfl rfl ?_
    refine LM.rdC (om_srE (j := 0) asm Tryd.isAgg3 rfl rfl au3 (by rfl) (by rfl) id) ?_
    refine LM.sp 66 rfl rfl rfl <| LM.val (ov_neq rfl rfl) <| LM.val (ov_pickF rfl rfl) <| nC [(0, _), (1, _), (7, _), (8, _), (10, _), (11, _), (73, _)] ?_
    refine QM.meetK (_) ⟨au2, rfl, rfl, rfl, rfl, rfl, rfl, trivial⟩ au1 ?_
    · rw [decide_eq_false (show ¬ ws.length ≤ j by omega), Bool.false_or]
   rintro q hq
   change QM _ _ _ _ _ ((b10, .cells (fA (toA (kindA ws i) xs)).toArray 118 (0, 0)) :: (mo ++ [])) _ _ _
   refine QM.then ?_
   refine wpM.condB rfl (fun h11 => ?_) (fun h11 => ?_)
   ·
    refine wR <| LM.mv rfl <| LM.as rfl <| LM.as rfl <| LM.as rfl <| nA [(4, _), (5, _), (6, _)] <| wpM.ret <| QM.then_ret <| QM.block_ret <| QM.then_ret <| QM.then_ret <| QM.block_ret <| QM.then_ret <| QM.block_ret <| QM.then_ret <| QM.block_ret <| QM.then_ret ?_
    refine QM.leave (.inl rfl) [.tmp 4, .tmp 5, .tmp 6] Tryd.results43 rfl ?_
    intro w' hm' hc' hg'
    have hNK : numK ws i = (j, 5, xs) := (by rw [← hN, numG_stop om (hq.symm.trans h11)]); rw [acts_nat hi0, ← hL, loopA_e hilt h7 om (oneA_n h7 hNK)]; exact ⟨hc', [], ⟨none, 0, 0, rfl, rfl, .nil _ _ _ _⟩, Mem.nil _, fun p hp => by cases hp⟩
   have hjn : j < ws.length := (by have h := hq.symm.trans h11; simp only [Bool.or_eq_false_iff, decide_eq_false_iff_not] at h; omega)
   refine wpM.skip <| QM.then <| wpM.seq ?_
   refine wpM.draw [(0, 1), (1, 0), (2, 0), (3, 0), (4, 0), (5, 0), (6, 1), (7, 2), (8, 3)] kr kr ?_
   refine LD.rd rfl rfl (om_ldW Tryd.isAgg118 Tryd.sizeOf118 rfl rfl) ?_
   refine LD.val rfl rfl (ov_move rfl) <| LD.val rfl rfl (ov_move rfl) <| LD.val rfl rfl (ov_move rfl) ?_
   refine LD.val rfl rfl (ov_idxSN au6 Tryd.underlying85 Tryd.sizeOf104 rfl rfl om) ?_
   refine LD.val rfl rfl (ovf 3 rfl rfl rfl rfl) ?_
   refine LD.rdC rfl rfl (om_srE (j := 2) asm Tryd.isAgg3 rfl rfl au3 (by rfl) (by rfl) id) ?_
   refine dE rfl rfl Tryd.func67 rfl (fun w hm hc hg => put_spec k _ w om hx4) ?_
   refine LD.tail rfl rfl ?_
   refine LM.stW Tryd.sizeOf118 rfl rfl rfl rfl au7 au8 ?_
   refine LM.nil ?_
   refine QM.qn ?_
   refine QM.sub (e' := [(0, _), (1, _), (7, _), (8, _), (10, _), (11, _)]) au9 (QM.then (wpM.region ?_))
   refine LM.mv rfl ?_
   refine LM.val (ov_add64 rfl rfl om) ?_
   refine LM.as rfl <| nC [(0, _), (1, _), (7, _), (8, _), (10, _), (11, _)] <| QM.block_normal ?_
   refine QM.then (wpM.region ?_)
   refine LM.mv rfl ?_
   refine LM.val (ov_add64 rfl rfl om) ?_
   refine LM.as rfl <| nC [(0, _), (1, _), (7, _), (8, _), (10, _), (11, _)] ?_
   refine QM.againK ((k + 1, j + 1, xs.set k (ws.getD j default).n)) ⟨au2, au2, rfl, rfl, rfl, rfl, trivial⟩ au1 (fun _ h => h) ?_ ?_
   · exact ⟨by omega, by omega, by simpa using hx4, by rw [show manyA (kindA ws i) - (k + 1) = manyA (kindA ws i) - k - 1 by omega, ← numG_next om (hq.symm.trans h11)]; exact hN⟩
   · (dsimp only; omega)
  refine wpM.exit <| QM.then_exit <| QM.then_exit <| QM.block_hit <| QM.then <| wpM.seq <| wpM.seq ?_
  refine wpM.joinK (α := Bool) (fun q => [(104, .bool q)]) [(0, _), (1, _), (7, _), (10, _)] (fun q => (b10, .cells (fA (toA (kindA ws i) xs)).toArray 118 (0, 0)) :: (mo ++ [])) (fun q => q = !isR ws j 3 [59]) ⟨rfl, rfl, rfl, rfl, trivial⟩ ?_ ?_
  ·
   refine wpM.region ?_
   refine LM.mv rfl <| LM.mv rfl <| LM.val (ov_len Tryd.underlying85 rfl) <| LM.val (ov_geq rfl rfl) <| LM.mv rfl ?_
   refine LM.splitD (t := 89) rfl (fun h12 => ?_) (fun h12 => ?_)
   ·
    refine LM.dr 89 rfl rfl rfl <| LM.dr 89 rfl rfl rfl <| LM.dr 89 rfl rfl rfl <| LM.dr 89 rfl rfl rfl <| LM.dr 89 rfl rfl rfl <| LM.dr 89 rfl rfl rfl <| LM.val (ov_pickT rfl rfl) <| LM.mv rfl <| LM.dr 97 rfl rfl rfl <| LM.dr 97 rfl rfl rfl <| LM.dr 97 rfl rfl rfl <| LM.dr 97 rfl rfl rfl <| LM.dr 97 rfl rfl rfl <| LM.dr 97 rfl rfl rfl <| LM.val (ov_pickT rfl rfl) <| nC [(0, _), (1, _), (7, _), (10, _), (104, _)] ?_
    refine QM.meetK (_) ⟨au2, rfl, rfl, rfl, rfl, trivial⟩ au1 ?_
    · unfold isR; rw [decide_eq_false (show ¬ j < ws.length by omega)]; rfl
   refine LM.sp 89 rfl rfl rfl <| LM.mv rfl <| LM.sp 89 rfl rfl rfl <| LM.mv rfl <| LM.sp 89 rfl rfl rfl ?_
   refine LM.val (ov_idxSN au6 Tryd.underlying85 Tryd.sizeOf104 rfl rfl om) ?_
   refine LM.sp 89 rfl rfl rfl <| LM.val (ovf 3 rfl rfl rfl rfl) <| LM.sp 89 rfl rfl rfl ?_
   refine LM.rdC (om_srE (j := 0) asm Tryd.isAgg3 rfl rfl au3 (by rfl) (by rfl) id) ?_
   refine LM.sp 89 rfl rfl rfl <| LM.val (ov_neq rfl rfl) <| LM.val (ov_pickF rfl rfl) <| LM.mv rfl ?_
   refine LM.splitD (t := 97) rfl (fun h13 => ?_) (fun h13 => ?_)
   ·
    refine LM.dr 97 rfl rfl rfl <| LM.dr 97 rfl rfl rfl <| LM.dr 97 rfl rfl rfl <| LM.dr 97 rfl rfl rfl <| LM.dr 97 rfl rfl rfl <| LM.dr 97 rfl rfl rfl <| LM.val (ov_pickT rfl rfl) <| nC [(0, _), (1, _), (7, _), (10, _), (104, _)] ?_
    refine QM.meetK (_) ⟨au2, rfl, rfl, rfl, rfl, trivial⟩ au1 ?_
    · unfold isR; rw [decide_eq_true (show j < ws.length by omega), decide_eq_false (show ¬ (ws.getD j default).k = 3 by omega)]; rfl
   refine LM.sp 97 rfl rfl rfl <| LM.mv rfl <| LM.sp 97 rfl rfl rfl <| LM.mv rfl <| LM.sp 97 rfl rfl rfl ?_
   refine LM.val (ov_idxSN au6 Tryd.underlying85 Tryd.sizeOf104 rfl rfl om) ?_
   refine LM.sp 97 rfl rfl rfl <| LM.val (ovf 9 rfl rfl rfl rfl) <| LM.sp 97 rfl rfl rfl ?_
   refine LM.rdC (om_srE (j := 1) asm Tryd.isAgg9 rfl rfl au3 (by rfl) (by rfl) id) ?_
   refine LM.sp 97 rfl rfl rfl ?_
   refine LM.val (ov_sneqL rfl rfl) ?_
   refine LM.val (ov_pickF rfl rfl) <| nC [(0, _), (1, _), (7, _), (10, _), (104, _)] ?_
   refine QM.meetK (_) ⟨au2, rfl, rfl, rfl, rfl, trivial⟩ au1 ?_
   · unfold isR; rw [decide_eq_true (show j < ws.length by omega), decide_eq_true (show (ws.getD j default).k = 3 by omega)]; simp only [Bool.true_and, decide_not]
  rintro q hq
  change QM _ _ _ _ _ ((b10, .cells (fA (toA (kindA ws i) xs)).toArray 118 (0, 0)) :: (mo ++ [])) _ _ _
  refine QM.then ?_
  refine wpM.condB rfl (fun h14 => ?_) (fun h14 => ?_)
  ·
   refine wR <| LM.mv rfl <| LM.as rfl <| LM.as rfl <| LM.as rfl <| nA [(4, _), (5, _), (6, _)] <| wpM.ret <| QM.then_ret <| QM.block_ret <| QM.then_ret <| QM.block_ret <| QM.then_ret ?_
   refine QM.leave (.inl rfl) [.tmp 4, .tmp 5, .tmp 6] Tryd.results43 rfl ?_
   intro w' hm' hc' hg'
   have hNK : numK ws i = (j, 0, xs) := (by rw [← hN, show manyA (kindA ws i) - k = 0 by omega]; rfl); rw [acts_nat hi0, ← hL, loopA_e hilt h7 om (oneA_s h7 hNK (by simpa using hq.symm.trans h14))]; exact ⟨hc', [], ⟨none, 0, 0, rfl, rfl, .nil _ _ _ _⟩, Mem.nil _, fun p hp => by cases hp⟩
  refine wpM.skip <| tR <| LM.mv rfl ?_
  refine LM.val (ov_add64 rfl rfl om) ?_
  refine LM.as rfl ?_
  refine LM.nil (QM.sub (e' := [(0, _), (1, _), (7, _), (10, _)]) au9 (QM.then (wpM.region ?_)))
  refine LM.mv rfl ?_
  refine LM.rd (om_ldW Tryd.isAgg118 Tryd.sizeOf118 rfl rfl) ?_
  refine LM.single Tryd.underlying46 Tryd.sizeOf118 Tryd.zeroValue118 rfl rfl rfl rfl rfl (fun b110 hb110 => ?_)
  refine LM.app (a := toA (kindA ws i) xs) Tryd.underlying46 Tryd.typeInfo118 rfl rfl rfl rfl rfl rfl rfl asm (by rfl) ir (by intro _ u hu; simp [fA] at hu; (repeat (first | (rcases hu with rfl | hu) | subst hu | rfl))) (by first | exact Nat.le_refl _ | omega) au10 (by first | omega | (unfold maxLen; omega)) (by simp only [Tryd.t118]; omega) (fun ad111 n111 cap111 m111 hn111 hs111 hin111 => ?_)
  refine LM.as rfl <| nC [(0, _), (1, _), (7, _)] <| QM.block_normal ?_
  have hNK : numK ws i = (j, 0, xs) := (by rw [← hN, show manyA (kindA ws i) - k = 0 by omega]; rfl); have hjs : isR ws j 3 [59] = true := (by simpa using hq.symm.trans h14); have hone := oneA_ok h7 hNK hjs; have hlt := oneA_lt (ws := ws) (i := i) (by rw [hone]); rw [hone] at hlt; have hlt : i < j + 1 ∧ j + 1 ≤ ws.length := hlt
  refine QM.againK ((j + 1, out ++ [toA (kindA ws i) xs], ad111, n111, cap111, m111)) ⟨au2, au2, rfl, trivial⟩ au1 (fun _ h => h) ?_ ?_
  · exact ⟨hlt.2, (loopA_g hilt h7 om hone).symm.trans hL, by rw [hn111]; simp, hs111, by simp; omega⟩
  · (dsimp only; omega)
 refine wpM.exit <| QM.then_exit <| QM.then_exit <| QM.block_hit <| tR <| LM.mv rfl <| LM.mv rfl <| LM.as rfl <| LM.as rfl <| LM.as rfl <| nA [(4, _), (5, _), (6, _)] <| wpM.ret ?_
 refine QM.leave (.inl rfl) [.tmp 4, .tmp 5, .tmp 6] Tryd.results43 rfl ?_
 intro w' hm' hc' hg'
 rw [acts_nat hi0, ← hL, loopA_end om]; exact ⟨hc', mo, ⟨ado, no, capo, rfl, hno, hso⟩, hm'.pick _, fun p hp => Sl.ge hso p hp⟩
end Go.Eng
namespace Go.Eng
open Go Go.RowKit
theorem scanF_len (s : List UInt8) : ∀ (f i : Nat) (last : Int) (out : List Wrd), (scanF f s i last out).1.length ≤ out.length + f
  | 0, i, last, out => Nat.le_refl _
  | f + 1, i, last, out => by
    rw [scanF]
    split
    · show out.length ≤ _; omega
    split
    · have := scanF_len s f (i + 1) last out; omega
    split
    · have := scanF_len s f (i + runL notNl s i) last out; omega
    split
    · exact Nat.zero_le _
    · have := scanF_len s f (oneO s i).2.1 ((oneO s i).2.1 : Nat) (out ++ [(oneO s i).1]); rw [List.length_append, List.length_singleton] at this; omega
theorem scan_len (s : List UInt8) : (scanO s).1.length ≤ s.length := by
  unfold scanO; split
  · exact Nat.zero_le _
  · have := scanF_len s (s.length - 0) 0 (-1) []; unfold scanR; simp only [List.length_nil] at this; omega
end Go.Eng
namespace Go.Eng
open Go Go.Proofs Go.RowKit
def placeO (s : List UInt8) (ws : List Wrd) (p : Int) : Int := if p < ws.length then (ws.getD p.toNat default).p else s.length
def scriptO (s : List UInt8) : StC × List Act × Int × Int :=
  if (scanO s).2.2 ≠ 0 then (default, [], (scanO s).2.1, (scanO s).2.2)
  else if (setO (scanO s).1 0).2.2 ≠ 0 then (default, [], placeO s (scanO s).1 (setO (scanO s).1 0).2.1, (setO (scanO s).1 0).2.2)
  else if (actsO (scanO s).1 (setO (scanO s).1 0).2.1).2.2 ≠ 0 then (default, [], placeO s (scanO s).1 (actsO (scanO s).1 (setO (scanO s).1 0).2.1).2.1, (actsO (scanO s).1 (setO (scanO s).1 0).2.1).2.2)
  else ((setO (scanO s).1 0).1, (actsO (scanO s).1 (setO (scanO s).1 0).2.1).1, 0, 0)
theorem pgF_pl {ws : List Wrd} : ∀ (f i : Nat) (e : Int) (ps : List PgC) (pl : List Int), (∀ x ∈ pl, 0 ≤ x) → ∀ x ∈ (pgF ws f i e ps pl).2.1, 0 ≤ x
  | 0, i, e, ps, pl, h => by unfold pgF; split <;> exact h
  | f + 1, i, e, ps, pl, h => by
    unfold pgF; split
    · refine pgF_pl f _ _ _ _ (fun x hx => ?_)
      rcases List.mem_append.1 hx with hx | hx
      · exact h x hx
      · rw [List.mem_singleton] at hx; omega
    · exact h
theorem set_pos (ws : List Wrd) (p : Int) : 0 ≤ (setO ws p).2.1 := by
  unfold setO stpR
  split
  · exact Int.le_refl _
  split
  · show (0 : Int) ≤ ((sP ws p.toNat).2.2.1 : Int); omega
  split
  · show (0 : Int) ≤ (sP ws p.toNat).2.1.getD _ 0
    rw [List.getD_eq_getElem?_getD]
    cases h : (sP ws p.toNat).2.1[(misI (sL ws p.toNat).1 (sP ws p.toNat).1).toNat]? with
    | none => exact Int.le_refl _
    | some x => exact pgF_pl _ _ _ _ _ (fun x hx => by cases hx) x (List.mem_of_getElem? h)
  · show (0 : Int) ≤ ((sP ws p.toNat).2.2.1 : Int); omega
theorem acts_pos (ws : List Wrd) (p : Int) : 0 ≤ (actsO ws p).2.1 := by
  have key : ∀ (f i : Nat) (out : List Act), 0 ≤ (loopAF f ws i out).2.1 := by
    intro f
    induction f with
    | zero => intro i out; show (0 : Int) ≤ (i : Int); omega
    | succ f ih =>
      intro i out
      unfold loopAF
      split
      · show (0 : Int) ≤ (i : Int); omega
      split
      · show (0 : Int) ≤ (i : Int); omega
      split
      · show (0 : Int) ≤ (i : Int); omega
      split
      · show (0 : Int) ≤ ((oneA ws i).2.1 : Int); omega
      · exact ih _ _
  unfold actsO; split
  · exact Int.le_refl _
  · exact key _ _ _
structure ScV where
  sv : StV
  xs : List Act
  ad : Option Addr
  n : Nat
  cap : Nat
abbrev ScV.val (x : ScV) : Value := .agg #[.int .i64 x.sv.cr, .int .i64 x.sv.gr, .slice x.sv.ga x.sv.gn x.sv.gc, .slice x.sv.la x.sv.ln x.sv.lc, .slice x.sv.pa x.sv.pn x.sv.pc, .slice x.ad x.n x.cap]
structure ScV.In (x : ScV) (w : World) : Prop where
  st : x.sv.In w
  hn : x.n = x.xs.length
  hx : Sr fA 5 x.xs (.slice x.ad x.n x.cap) w
theorem ScV.In.ext {x : ScV} {w w' : World} (h : x.In w) (k : Ext w w') : x.In w' := ⟨h.st.ext k, h.hn, h.hx.ext k⟩
def SpT (r : StC × List Act × Int × Int) (n0 : Nat) (v : Value) (m : Mem0) : Prop := ∃ x : ScV, v = .tuple #[x.val, .int .i64 r.2.2.1, .int .i64 r.2.2.2] ∧ x.sv.C = r.1 ∧ x.xs = r.2.1 ∧ ∀ w, Mem w m → x.In w
theorem SpT.mono {r : StC × List Act × Int × Int} : ∀ (k k' : Nat) u m, k' ≤ k → SpT r k u m → SpT r k' u m := fun k k' u m h q => q
theorem SpT.nil0 {p e : Int} {n0 : Nat} : SpT (default, [], p, e) n0 (.tuple #[.agg #[.int .i64 0, .int .i64 0, .slice none 0 0, .slice none 0 0, .slice none 0 0, .slice none 0 0], .int .i64 p, .int .i64 e]) [] :=
  ⟨⟨default, [], Option.none, 0, 0⟩, rfl, rfl, rfl, fun w _ => ⟨⟨rfl, .nil _ _ _, rfl, .nil _ _ _, rfl, .nil _ _ _, fun p hp => by cases hp⟩, rfl, .nil _ _ _⟩⟩
theorem rplaceN_spec {ws : List Wrd} {ad : Option Addr} {n cap : Nat} (s : List UInt8) (j : Nat) (w : World) (hn : n = ws.length) (hl : Sr fW 4 ws (.slice ad n cap) w) : Ret Tryd.prog 42 #[vS s, .slice ad n cap, .int .i64 (j : Nat)] w (fun v w' => v = .int .i64 (placeO s ws (j : Nat)) ∧ Ext w w') := by
 refine Ret.enterM Tryd.func42 rfl Tryd.ntmps42 rfl ([]) (no) (Mem.nil w) ?_
 refine wR <| LM.as rfl <| nA [(0, _), (1, _), (2, _)] <| wpM.seq <| wR <| LM.mv rfl <| LM.mv rfl <| LM.val (ov_len Tryd.underlying85 rfl) <| LM.val (ov_lss rfl rfl) <| nA [(0, _), (1, _), (2, _), (10, _)] ?_
 refine wpM.condD rfl (fun h1 => ?_) (fun h1 => ?_)
 ·
  refine wR <| LM.mv rfl <| LM.mv rfl ?_
  refine LM.val (ov_idxSN au6 Tryd.underlying85 Tryd.sizeOf104 rfl rfl om) ?_
  refine LM.val (ovf 3 rfl rfl rfl rfl) ?_
  refine LM.rdC (om_srE (j := 3) asm Tryd.isAgg3 rfl rfl au3 (by rfl) (by rfl) id) ?_
  refine LM.as rfl <| nA [(6, _)] <| wpM.ret <| QM.then_ret ?_
  refine qL Tryd.results42 rfl fun w' hm' hc' hg' => ?_
  refine ⟨?_, hc'⟩; unfold placeO; rw [if_pos om, Int.toNat_natCast]; rfl
 refine wpM.skip <| tR <| LM.mv rfl ?_
 refine LM.val (ov_slenL Tryd.underlying9 rfl) ?_
 refine LM.as rfl <| nA [(6, _)] <| wpM.ret ?_
 refine qL Tryd.results42 rfl fun w' hm' hc' hg' => ?_
 refine ⟨?_, hc'⟩; unfold placeO; rw [if_neg om]; rfl
theorem rplace_spec {ws : List Wrd} {ad : Option Addr} {n cap : Nat} (s : List UInt8) (p : Int) (w : World) (hn : n = ws.length) (hl : Sr fW 4 ws (.slice ad n cap) w) (hp0 : 0 ≤ p) :
    Ret Tryd.prog 42 #[vS s, .slice ad n cap, .int .i64 p] w (fun v w' => v = .int .i64 (placeO s ws p) ∧ Ext w w') := by
  obtain ⟨j, rfl⟩ : ∃ j : Nat, p = (j : Int) := ⟨p.toNat, by omega⟩
  exact rplaceN_spec s j w hn hl
theorem rscript_spec (s : List UInt8) (w : World) (hs : s.length ≤ 1000000000) : Ret Tryd.prog 20 #[vS s] w (fun v w' => Ext w w' ∧ ∃ m, SpT (scriptO s) w.heap.size v m ∧ Mem w' m ∧ ∀ p ∈ m, w.heap.size ≤ p.1) := by
 refine Ret.enterM Tryd.func20 rfl Tryd.ntmps20 rfl ([]) (no) (Mem.nil w) ?_
 refine wR ?_
 refine LM.alloc Tryd.zeroValue48 rfl (fun b2 hb2 => ?_)
 refine LM.as rfl <| LM.as rfl <| nB [(0, _), (2, _)] <| LM.mv rfl ?_
 refine LM.callT (oc_call (enters_fn Tryd.func40 kr rfl) rfl) ScT.mono (fun w hm hc hg => scan_spec w om) ?_
 rintro u13 m13 ⟨ad13, n13, cap13, rfl, hn13, hs13⟩ -; have hl13 := scan_len s
 refine LM.mv rfl <| LM.val (ov_extract rfl rfl) <| LM.val (ov_extract rfl rfl) <| LM.val (ov_extract rfl rfl) <| LM.as rfl <| LM.as rfl <| LM.as rfl <| nA [(0, _), (2, _), (5, _), (6, _), (7, _)] <| wpM.seq <| wR <| LM.mv rfl <| LM.val (ov_neq rfl rfl) <| nA [(0, _), (2, _), (5, _), (6, _), (7, _), (18, _)] ?_
 refine wpM.condD rfl (fun h1 => ?_) (fun h1 => ?_)
 ·
  refine wR ?_
  refine LM.val (ov_build (cs := #[_, _, _, _, _, _]) rfl (by first | rfl | kernel_rfl)) ?_
  refine LM.mv rfl <| LM.mv rfl ?_
  refine LM.stW Tryd.sizeOf48 rfl rfl rfl rfl au7 au8 ?_
  refine LM.as rfl <| LM.as rfl <| nA [(2, _), (3, _), (4, _)] <| wpM.ret <| QM.then_ret ?_
  refine QM.leaveCs (ds := ([])) (.inl rfl) [.cell 2 48, .tmp 3, .tmp 4] Tryd.results20 hd_nil (rc_w rfl Tryd.isAgg48 Tryd.sizeOf48 rfl (rc_tmp rfl (rc_tmp rfl rc_nil))) ?_
  intro w' hm' hc'
  unfold scriptO; rw [if_pos h1]; exact ⟨hc', [], SpT.nil0, Mem.nil _, fun p hp => by cases hp⟩
 refine wpM.skip <| tR <| LM.mv rfl ?_
 refine LM.callT (oc_call (enters_fn Tryd.func41 kr rfl) rfl) StT.mono (fun w hm hc hg => rsetup_spec 0 w hn13 om (hs13.srM ir hm)) ?_
 rintro u24 m24 ⟨sv, rfl, hsv, hin⟩ hge24
 refine LM.mv rfl <| LM.val (ov_extract rfl rfl) <| LM.val (ov_extract rfl rfl) <| LM.val (ov_extract rfl rfl) ?_
 refine LM.alloc Tryd.zeroValue26 rfl (fun b8 hb8 => ?_)
 refine LM.stW Tryd.sizeOf26 rfl rfl rfl rfl au7 au8 ?_
 refine LM.as rfl <| LM.as rfl <| nA [(0, _), (2, _), (5, _), (7, _), (8, _), (9, _)] <| wpM.seq <| wR <| LM.mv rfl <| LM.val (ov_neq rfl rfl) <| nA [(0, _), (2, _), (5, _), (7, _), (8, _), (9, _), (29, _)] ?_
 refine wpM.condD rfl (fun h2 => ?_) (fun h2 => ?_)
 ·
  refine wR ?_
  refine LM.val (ov_build (cs := #[_, _, _, _, _, _]) rfl (by first | rfl | kernel_rfl)) ?_
  refine LM.mv rfl <| LM.mv rfl <| LM.mv rfl ?_
  refine cE Tryd.func42 rfl (fun w hm hc hg => rplace_spec s _ w hn13 (hs13.srM ir hm) (set_pos _ _)) ?_
  refine LM.mv rfl ?_
  refine LM.stW Tryd.sizeOf48 rfl rfl rfl rfl au7 au8 ?_
  refine LM.as rfl <| LM.as rfl <| nA [(2, _), (3, _), (4, _)] <| wpM.ret <| QM.then_ret ?_
  refine QM.leaveCs (ds := ([])) (.inl rfl) [.cell 2 48, .tmp 3, .tmp 4] Tryd.results20 hd_nil (rc_w rfl Tryd.isAgg48 Tryd.sizeOf48 rfl (rc_tmp rfl (rc_tmp rfl rc_nil))) ?_
  intro w' hm' hc'
  unfold scriptO; rw [if_neg h1, if_pos h2]; exact ⟨hc', [], SpT.nil0, Mem.nil _, fun p hp => by cases hp⟩
 refine wpM.skip <| tR <| LM.mv rfl <| LM.mv rfl ?_
 refine LM.callT (oc_call (enters_fn Tryd.func43 kr rfl) rfl) AcT.mono (fun w hm hc hg => raparse_spec _ w hn13 om (hs13.srM ir hm)) ?_
 rintro u39 m39 ⟨ad39, n39, cap39, rfl, hn39, hs39⟩ hge39
 refine LM.mv rfl <| LM.val (ov_extract rfl rfl) <| LM.val (ov_extract rfl rfl) <| LM.val (ov_extract rfl rfl) <| LM.as rfl <| LM.as rfl <| LM.as rfl <| nA [(0, _), (2, _), (5, _), (7, _), (8, _), (9, _), (10, _)] <| wpM.seq <| wR <| LM.mv rfl <| LM.val (ov_neq rfl rfl) <| nA [(0, _), (2, _), (5, _), (7, _), (8, _), (9, _), (10, _), (44, _)] ?_
 refine wpM.condD rfl (fun h3 => ?_) (fun h3 => ?_)
 ·
  refine wR ?_
  refine LM.val (ov_build (cs := #[_, _, _, _, _, _]) rfl (by first | rfl | kernel_rfl)) ?_
  refine LM.mv rfl <| LM.mv rfl <| LM.mv rfl ?_
  refine cE Tryd.func42 rfl (fun w hm hc hg => rplace_spec s _ w hn13 (hs13.srM ir hm) (acts_pos _ _)) ?_
  refine LM.mv rfl ?_
  refine LM.stW Tryd.sizeOf48 rfl rfl rfl rfl au7 au8 ?_
  refine LM.as rfl <| LM.as rfl <| nA [(2, _), (3, _), (4, _)] <| wpM.ret <| QM.then_ret ?_
  refine QM.leaveCs (ds := ([])) (.inl rfl) [.cell 2 48, .tmp 3, .tmp 4] Tryd.results20 hd_nil (rc_w rfl Tryd.isAgg48 Tryd.sizeOf48 rfl (rc_tmp rfl (rc_tmp rfl rc_nil))) ?_
  intro w' hm' hc'
  unfold scriptO; rw [if_neg h1, if_neg h2, if_pos h3]; exact ⟨hc', [], SpT.nil0, Mem.nil _, fun p hp => by cases hp⟩
 refine wpM.skip <| tR ?_
 refine LM.rd (om_ldW Tryd.isAgg26 Tryd.sizeOf26 rfl rfl) ?_
 refine LM.mv rfl ?_
 refine LM.val (ov_build (cs := #[_, _, _, _, _, _]) rfl (by first | rfl | kernel_rfl)) ?_
 refine LM.stW Tryd.sizeOf48 rfl rfl rfl rfl au7 au8 ?_
 refine LM.as rfl <| LM.as rfl <| nA [(2, _), (3, _), (4, _)] <| wpM.ret ?_
 refine QM.leaveCs (ds := ([])) (.inl rfl) [.cell 2 48, .tmp 3, .tmp 4] Tryd.results20 hd_nil (rc_w rfl Tryd.isAgg48 Tryd.sizeOf48 rfl (rc_tmp rfl (rc_tmp rfl rc_nil))) ?_
 intro w' hm' hc'
 unfold scriptO; rw [if_neg h1, if_neg h2, if_neg h3]; refine ⟨hc', m39 ++ (m24 ++ []), ⟨⟨sv, _, ad39, n39, cap39⟩, rfl, hsv, rfl, fun w hm => ⟨hin w (hm.pick m24), hn39, hs39.srM ir hm⟩⟩, SubM.mem (by (repeat' (first | exact SubM.nil _ | refine SubM.app ?_))) w' hm', ?_⟩; intro p hp; simp only [List.mem_append, List.not_mem_nil, or_false] at hp; rcases hp with hp | hp; exact hge39 p hp; exact hge24 p hp
def aw41L : List UInt8 := [99, 111, 114, 101, 115, 32, 49, 59, 32, 103, 114, 97, 105, 110, 32, 49, 59, 32, 103, 114, 111, 117, 112, 32, 49, 59, 32, 108, 111, 99, 107, 32, 115, 108, 105, 99, 101, 32, 49, 32, 99, 114, 105, 116, 32, 57, 59, 32, 108, 111, 99, 107, 32, 115, 108, 105, 99, 101, 32, 49, 32, 99, 114, 105, 116, 32, 57, 59, 32, 112, 114, 111, 103, 32, 123, 32, 108, 111, 99, 107, 32, 48, 59, 32, 99, 111, 109, 112, 117, 116, 101, 32, 49, 59, 32, 108, 111, 99, 107, 32, 49, 59, 32, 99, 111, 109, 112, 117, 116, 101, 32, 49, 59, 32, 117, 110, 108, 111, 99, 107, 32, 49, 59, 32, 117, 110, 108, 111, 99, 107, 32, 48, 59, 32, 125, 32, 112, 114, 111, 103, 32, 123, 32, 108, 111, 99, 107, 32, 49, 59, 32, 99, 111, 109, 112, 117, 116, 101, 32, 49, 59, 32, 108, 111, 99, 107, 32, 48, 59, 32, 99, 111, 109, 112, 117, 116, 101, 32, 49, 59, 32, 117, 110, 108, 111, 99, 107, 32, 48, 59, 32, 117, 110, 108, 111, 99, 107, 32, 49, 59, 32, 125]
def aw41P : PgC := ⟨false, [⟨2, 0, 0⟩, ⟨1, 1, 0⟩, ⟨2, 1, 0⟩, ⟨1, 1, 0⟩, ⟨6, 1, 0⟩, ⟨6, 0, 0⟩]⟩
def aw41Q : PgC := ⟨false, [⟨2, 1, 0⟩, ⟨1, 1, 0⟩, ⟨2, 0, 0⟩, ⟨1, 1, 0⟩, ⟨6, 0, 0⟩, ⟨6, 1, 0⟩]⟩
def aw41S : StC := ⟨1, 1, [1], [⟨false, 1, 9, 0, 0⟩, ⟨false, 1, 9, 0, 0⟩], [aw41P, aw41Q]⟩
def aw41T : StC := ⟨1, 1, [1], [⟨false, 1, 9, 0, 0⟩, ⟨false, 1, 9, 0, 0⟩], [aw41P]⟩
theorem aw41_1 : scriptO aw41L = (aw41S, [], 0, 0) := by decide +kernel
theorem aw41_c : cycW aw41S = [0, 1] := by decide +kernel
theorem aw41_o : okO aw41S = false := by decide +kernel
theorem aw41_p : okO aw41T = true := by decide +kernel
theorem aw41_l : ordW aw41T = [0, 1] := by decide +kernel
theorem aw41_d : depW aw41T = 2 := by decide +kernel
theorem aw41_w : witO aw41P.xs 0 = 2#64 := by decide +kernel
def StV.one (s : StV) : StV := { s with ps := s.ps.take 1, pn := 1 }
theorem StV.one_in {s : StV} {w : World} (h : s.In w) (h1 : 1 ≤ s.ps.length) : s.one.In w :=
  ⟨h.hgn, h.hg, h.hln, h.hl, by show 1 = (s.ps.take 1).length; rw [List.length_take]; omega, h.hp.take h1, fun p hp => h.ops p (List.mem_of_mem_take hp)⟩
theorem StV.one_C {s : StV} (h : s.C = aw41S) : s.one.C = aw41T := by
  have h1 : s.cr = 1 := congrArg StC.cr h
  have h2 : s.gr = 1 := congrArg StC.gr h
  have h3 : s.gs = [1] := congrArg StC.gs h
  have h4 : s.ls = aw41S.ls := congrArg StC.ls h
  have h5 : s.ps.map PgV.c = [aw41P, aw41Q] := congrArg StC.ps h
  show StC.mk s.cr s.gr s.gs s.ls ((s.ps.take 1).map PgV.c) = aw41T
  rw [h1, h2, h3, h4, List.map_take, h5]; rfl
set_option maxHeartbeats 4000000 in
theorem awake41_spec (w : World) (hT : Tab w) : Ret Tryd.prog 5 #[] w (fun v w' => v = .bool true ∧ Ext w w') := by
 refine Ret.enterM Tryd.func5 rfl Tryd.ntmps5 rfl ([]) (no) (Mem.nil w) ?_
 refine wR <| LM.as rfl ?_
 refine LM.nil (QM.sub (e' := []) trivial (QM.then (wpM.seq (wpM.region ?_))))
 refine LM.callT (oc_call (enters_fn Tryd.func20 kr rfl) rfl) SpT.mono (fun w hm hc hg => rscript_spec aw41L w (by decide)) ?_
 rw [aw41_1]; rintro u10 m10 ⟨x, rfl, hxs, hxa, hin⟩ -
 refine LM.mv rfl <| LM.val (ov_extract rfl rfl) <| LM.val (ov_extract rfl rfl) <| LM.val (ov_extract rfl rfl) ?_
 refine LM.alloc Tryd.zeroValue48 rfl (fun b1 hb1 => ?_)
 refine LM.stW Tryd.sizeOf48 rfl rfl rfl rfl au7 au8 ?_
 refine LM.as rfl <| LM.as rfl <| nB [(1, _), (3, _)] <| LM.val (ovf 26 rfl rfl rfl rfl) ?_
 refine LM.rd (om_ldA Tryd.isAgg26 Tryd.sizeOf26 rfl (vs := [_, _, _, _, _]) rfl ⟨rfl, rfl, rfl, rfl, rfl, trivial⟩) ?_
 refine LM.cS (oc_call (enters_fn Tryd.func10 kr rfl) rfl) (fun w hm hc hg => cycle_spec (s := x.sv) w (hT.ext hc) (hin w (hm.pick m10)).st) (fun ad16 n16 cap16 m16 hn16 hs16 => ?_)
 rw [hxs, aw41_c] at hn16 hs16
 refine LM.as rfl <| nB [(1, _), (3, _), (4, _)] <| LM.val (ovf 26 rfl rfl rfl rfl) ?_
 refine LM.rd (om_ldA Tryd.isAgg26 Tryd.sizeOf26 rfl (vs := [_, _, _, _, _]) rfl ⟨rfl, rfl, rfl, rfl, rfl, trivial⟩) ?_
 refine LM.callT (oc_call (enters_fn Tryd.func9 kr rfl) rfl) OrT.mono (fun w hm hc hg => order_spec (s := x.sv) w (hT.ext hc) (hin w (hm.pick m10)).st) ?_
 rw [hxs]; rintro u20 m20 ⟨ad20, n20, cap20, rfl, hn20, hs20⟩ -; rw [aw41_o]
 refine LM.mv rfl <| LM.val (ov_extract rfl rfl) <| LM.val (ov_extract rfl rfl) <| LM.as rfl <| LM.as rfl <| nB [(1, _), (3, _), (4, _), (6, _)] <| LM.val (ovf 26 rfl rfl rfl rfl) <| LM.val (ovf 24 rfl rfl rfl rfl) ?_
 refine LM.rd (oml rfl rfl rfl) ?_
 refine LM.know (fun w hm _ _ => (hin w (hm.pick m10)).st.hp.open.2.1) (fun hcap => ?_); have hpl : x.sv.ps.length = 2 := (by have h := congrArg (fun s : StC => s.ps.length) hxs; simpa [StV.C, aw41S] using h); refine LM.val (ov_subHi Tryd.underlying24 Tryd.sizeOf37 rfl rfl (by decide) om) ?_
 refine LM.val (ovf 26 rfl rfl rfl rfl) <| LM.val (ovf 24 rfl rfl rfl rfl) ?_
 refine LM.st Tryd.sizeOf24 rfl rfl rfl au5 rfl au8 ?_
 refine nB [(1, _), (3, _), (4, _), (6, _)] <| LM.val (ovf 26 rfl rfl rfl rfl) ?_
 refine LM.rd (om_ldA Tryd.isAgg26 Tryd.sizeOf26 rfl (vs := [_, _, _, _, _]) rfl ⟨rfl, rfl, rfl, rfl, rfl, trivial⟩) ?_
 refine LM.callT (oc_call (enters_fn Tryd.func9 kr rfl) rfl) OrT.mono (fun w hm hc hg => order_spec (s := x.sv.one) w (hT.ext hc) (StV.one_in (hin w (hm.pick m10)).st om)) ?_
 rw [StV.one_C hxs]; rintro u32 m32 ⟨ad32, n32, cap32, rfl, hn32, hs32⟩ -; rw [aw41_p]; rw [aw41_l] at hn32 hs32
 refine LM.mv rfl <| LM.val (ov_extract rfl rfl) <| LM.val (ov_extract rfl rfl) <| LM.as rfl <| LM.as rfl <| nB [(1, _), (3, _), (4, _), (6, _), (7, _), (8, _)] <| LM.mv rfl <| LM.val (ov_eql rfl rfl) <| LM.mv rfl ?_
 refine LM.splitD (t := 37) rfl (fun h1 => ?_) (fun h1 => ?_)
 ·
  refine LM.sp 37 rfl rfl rfl <| LM.mv rfl <| LM.sp 37 rfl rfl rfl ?_
  refine LM.val (ov_not rfl) ?_
  refine LM.val (ov_pickT rfl rfl) <| LM.mv rfl ?_
  refine LM.splitB (t := 41) rfl (fun h2 => ?_) (fun h2 => ?_)
  ·
   refine LM.sp 41 rfl rfl rfl <| LM.mv rfl <| LM.sp 41 rfl rfl rfl <| LM.val (ov_len Tryd.underlying22 rfl) <| LM.sp 41 rfl rfl rfl <| LM.val (ov_eql rfl rfl) <| LM.val (ov_pickT rfl rfl) <| LM.mv rfl ?_
   refine LM.splitD (t := 46) rfl (fun h3 => ?_) (fun h3 => ?_)
   ·
    refine LM.sp 46 rfl rfl rfl <| LM.mv rfl <| LM.sp 46 rfl rfl rfl ?_
    refine LM.val (ov_idxSN (i := 0) au6 Tryd.underlying22 Tryd.sizeOf3 rfl rfl om) ?_
    refine LM.sp 46 rfl rfl rfl ?_
    refine LM.rd (om_sl1 (i := 0) asm ir Tryd.isAgg3 rfl rfl (by exact getq 0 au4) (by rfl)) ?_
    refine LM.sp 46 rfl rfl rfl <| LM.val (ov_eql rfl rfl) <| LM.val (ov_pickT rfl rfl) <| LM.mv rfl ?_
    refine LM.splitD (t := 52) rfl (fun h4 => ?_) (fun h4 => ?_)
    ·
     refine LM.sp 52 rfl rfl rfl <| LM.mv rfl <| LM.sp 52 rfl rfl rfl ?_
     refine LM.val (ov_idxSN (i := 1) au6 Tryd.underlying22 Tryd.sizeOf3 rfl rfl om) ?_
     refine LM.sp 52 rfl rfl rfl ?_
     refine LM.rd (om_sl1 (i := 1) asm ir Tryd.isAgg3 rfl rfl (by exact getq 0 au4) (by rfl)) ?_
     refine LM.sp 52 rfl rfl rfl <| LM.val (ov_eql rfl rfl) <| LM.val (ov_pickT rfl rfl) <| LM.mv rfl ?_
     refine LM.splitD (t := 58) rfl (fun h5 => ?_) (fun h5 => ?_)
     ·
      refine LM.sp 58 rfl rfl rfl <| LM.mv rfl <| LM.val (ov_pickT rfl rfl) <| LM.mv rfl ?_
      refine LM.splitB (t := 61) rfl (fun h6 => ?_) (fun h6 => ?_)
      ·
       refine LM.sp 61 rfl rfl rfl <| LM.mv rfl <| LM.sp 61 rfl rfl rfl <| LM.val (ov_len Tryd.underlying22 rfl) <| LM.sp 61 rfl rfl rfl <| LM.val (ov_eql rfl rfl) <| LM.val (ov_pickT rfl rfl) <| LM.mv rfl ?_
       refine LM.splitD (t := 66) rfl (fun h7 => ?_) (fun h7 => ?_)
       ·
        refine LM.sp 66 rfl rfl rfl <| LM.mv rfl <| LM.sp 66 rfl rfl rfl ?_
        refine LM.val (ov_idxSN (i := 0) au6 Tryd.underlying22 Tryd.sizeOf3 rfl rfl om) ?_
        refine LM.sp 66 rfl rfl rfl ?_
        refine LM.rd (om_sl1 (i := 0) asm ir Tryd.isAgg3 rfl rfl (by exact getq 0 au4) (by rfl)) ?_
        refine LM.sp 66 rfl rfl rfl <| LM.val (ov_eql rfl rfl) <| LM.val (ov_pickT rfl rfl) <| LM.mv rfl ?_
        refine LM.splitD (t := 72) rfl (fun h8 => ?_) (fun h8 => ?_)
        ·
         refine LM.sp 72 rfl rfl rfl <| LM.val (ovf 26 rfl rfl rfl rfl) <| LM.sp 72 rfl rfl rfl ?_
         refine LM.rd (om_ldA Tryd.isAgg26 Tryd.sizeOf26 rfl (vs := [_, _, _, _, _]) rfl ⟨rfl, rfl, rfl, rfl, rfl, trivial⟩) ?_
         refine LM.sp 72 rfl rfl rfl ?_
         refine cE Tryd.func13 rfl (fun w hm hc hg => (show depW x.sv.one.C = 2 by rw [StV.one_C hxs, aw41_d]) ▸ depth_spec (s := x.sv.one) w (hT.ext hc) (StV.one_in (hin w (hm.pick m10)).st om)) ?_
         refine LM.sp 72 rfl rfl rfl <| LM.val (ov_eql rfl rfl) <| LM.val (ov_pickT rfl rfl) <| LM.mv rfl ?_
         refine LM.splitD (t := 78) rfl (fun h9 => ?_) (fun h9 => ?_)
         ·
          refine LM.sp 78 rfl rfl rfl <| LM.val (ovf 26 rfl rfl rfl rfl) <| LM.sp 78 rfl rfl rfl <| LM.val (ovf 24 rfl rfl rfl rfl) <| LM.sp 78 rfl rfl rfl ?_
          refine LM.rd (oml rfl rfl rfl) ?_
          refine LM.sp 78 rfl rfl rfl ?_
          refine LM.know (fun w hm _ _ => (StV.one_in (hin w (hm.pick m10)).st om).hp.spt) (fun hsp => ?_); refine LM.val (ov_idxSN (i := 0) hsp Tryd.underlying24 Tryd.sizeOf37 rfl rfl (by show 0 < 1; omega)) ?_
          refine LM.sp 78 rfl rfl rfl ?_
          refine LM.rdC (fun w hm hc hg => ow_srEA (StV.one_in (hin w (hm.pick m10)).st om).hp ir Tryd.isAgg37 Tryd.sizeOf37 rfl (getq default (by show 0 < (x.sv.ps.take 1).length; rw [List.length_take]; omega))) ?_
          refine LM.sp 78 rfl rfl rfl ?_
          refine cE Tryd.func11 rfl (fun w hm hc hg => (show witO ((x.sv.ps.take 1).getD 0 default).c.xs 0 = 2#64 by rw [← map_getD, List.map_take, show x.sv.ps.map PgV.c = aw41S.ps from congrArg StC.ps hxs]; exact aw41_w) ▸ within_spec 0 w ((StV.one_in (hin w (hm.pick m10)).st om).ops _ (List.mem_of_getElem? (getq default (by show 0 < (x.sv.ps.take 1).length; rw [List.length_take]; omega)))).1 ((StV.one_in (hin w (hm.pick m10)).st om).ops _ (List.mem_of_getElem? (getq default (by show 0 < (x.sv.ps.take 1).length; rw [List.length_take]; omega)))).2 (by show ((x.sv.ps.take 1).getD 0 default).c.xs.length ≤ 20; rw [← map_getD, List.map_take, show x.sv.ps.map PgV.c = aw41S.ps from congrArg StC.ps hxs]; decide)) ?_
          refine LM.sp 78 rfl rfl rfl ?_
          refine LM.val (ov_ueql (b := 2#64) rfl rfl) ?_
          refine LM.val (ov_pickT rfl rfl) <| LM.as rfl <| nA [(0, _)] <| wpM.ret ?_
          refine qL Tryd.results5 rfl fun w' hm' hc' hg' => ?_
          exact ⟨rfl, hc'⟩
         refine LM.dr 78 rfl rfl rfl <| LM.dr 78 rfl rfl rfl <| LM.dr 78 rfl rfl rfl <| LM.dr 78 rfl rfl rfl <| LM.dr 78 rfl rfl rfl <| LM.dr 78 rfl rfl rfl <| LM.dr 78 rfl rfl rfl <| LM.val (ov_pickF rfl rfl) <| LM.as rfl <| nA [(0, _)] <| wpM.ret ?_
         refine qL Tryd.results5 rfl fun w' hm' hc' hg' => ?_
         (exfalso; first | omega | simp_all)
        refine LM.dr 72 rfl rfl rfl <| LM.dr 72 rfl rfl rfl <| LM.dr 72 rfl rfl rfl <| LM.dr 72 rfl rfl rfl <| LM.val (ov_pickF rfl rfl) <| LM.mv rfl <| LM.dr 78 rfl rfl rfl <| LM.dr 78 rfl rfl rfl <| LM.dr 78 rfl rfl rfl <| LM.dr 78 rfl rfl rfl <| LM.dr 78 rfl rfl rfl <| LM.dr 78 rfl rfl rfl <| LM.dr 78 rfl rfl rfl <| LM.val (ov_pickF rfl rfl) <| LM.as rfl <| nA [(0, _)] <| wpM.ret ?_
        refine qL Tryd.results5 rfl fun w' hm' hc' hg' => ?_
        (exfalso; first | omega | simp_all)
       refine LM.dr 66 rfl rfl rfl <| LM.dr 66 rfl rfl rfl <| LM.dr 66 rfl rfl rfl <| LM.dr 66 rfl rfl rfl <| LM.val (ov_pickF rfl rfl) <| LM.mv rfl <| LM.dr 72 rfl rfl rfl <| LM.dr 72 rfl rfl rfl <| LM.dr 72 rfl rfl rfl <| LM.dr 72 rfl rfl rfl <| LM.val (ov_pickF rfl rfl) <| LM.mv rfl <| LM.dr 78 rfl rfl rfl <| LM.dr 78 rfl rfl rfl <| LM.dr 78 rfl rfl rfl <| LM.dr 78 rfl rfl rfl <| LM.dr 78 rfl rfl rfl <| LM.dr 78 rfl rfl rfl <| LM.dr 78 rfl rfl rfl <| LM.val (ov_pickF rfl rfl) <| LM.as rfl <| nA [(0, _)] <| wpM.ret ?_
       refine qL Tryd.results5 rfl fun w' hm' hc' hg' => ?_
       (exfalso; first | omega | simp_all)
      refine LM.dr 61 rfl rfl rfl <| LM.dr 61 rfl rfl rfl <| LM.dr 61 rfl rfl rfl <| LM.val (ov_pickF rfl rfl) <| LM.mv rfl <| LM.dr 66 rfl rfl rfl <| LM.dr 66 rfl rfl rfl <| LM.dr 66 rfl rfl rfl <| LM.dr 66 rfl rfl rfl <| LM.val (ov_pickF rfl rfl) <| LM.mv rfl <| LM.dr 72 rfl rfl rfl <| LM.dr 72 rfl rfl rfl <| LM.dr 72 rfl rfl rfl <| LM.dr 72 rfl rfl rfl <| LM.val (ov_pickF rfl rfl) <| LM.mv rfl <| LM.dr 78 rfl rfl rfl <| LM.dr 78 rfl rfl rfl <| LM.dr 78 rfl rfl rfl <| LM.dr 78 rfl rfl rfl <| LM.dr 78 rfl rfl rfl <| LM.dr 78 rfl rfl rfl <| LM.dr 78 rfl rfl rfl <| LM.val (ov_pickF rfl rfl) <| LM.as rfl <| nA [(0, _)] <| wpM.ret ?_
      refine qL Tryd.results5 rfl fun w' hm' hc' hg' => ?_
      (exfalso; first | omega | simp_all)
     refine LM.dr 58 rfl rfl rfl <| LM.val (ov_pickF rfl rfl) <| LM.mv rfl <| LM.dr 61 rfl rfl rfl <| LM.dr 61 rfl rfl rfl <| LM.dr 61 rfl rfl rfl <| LM.val (ov_pickF rfl rfl) <| LM.mv rfl <| LM.dr 66 rfl rfl rfl <| LM.dr 66 rfl rfl rfl <| LM.dr 66 rfl rfl rfl <| LM.dr 66 rfl rfl rfl <| LM.val (ov_pickF rfl rfl) <| LM.mv rfl <| LM.dr 72 rfl rfl rfl <| LM.dr 72 rfl rfl rfl <| LM.dr 72 rfl rfl rfl <| LM.dr 72 rfl rfl rfl <| LM.val (ov_pickF rfl rfl) <| LM.mv rfl <| LM.dr 78 rfl rfl rfl <| LM.dr 78 rfl rfl rfl <| LM.dr 78 rfl rfl rfl <| LM.dr 78 rfl rfl rfl <| LM.dr 78 rfl rfl rfl <| LM.dr 78 rfl rfl rfl <| LM.dr 78 rfl rfl rfl <| LM.val (ov_pickF rfl rfl) <| LM.as rfl <| nA [(0, _)] <| wpM.ret ?_
     refine qL Tryd.results5 rfl fun w' hm' hc' hg' => ?_
     (exfalso; first | omega | simp_all)
    refine LM.dr 52 rfl rfl rfl <| LM.dr 52 rfl rfl rfl <| LM.dr 52 rfl rfl rfl <| LM.dr 52 rfl rfl rfl <| LM.val (ov_pickF rfl rfl) <| LM.mv rfl <| LM.dr 58 rfl rfl rfl <| LM.val (ov_pickF rfl rfl) <| LM.mv rfl <| LM.dr 61 rfl rfl rfl <| LM.dr 61 rfl rfl rfl <| LM.dr 61 rfl rfl rfl <| LM.val (ov_pickF rfl rfl) <| LM.mv rfl <| LM.dr 66 rfl rfl rfl <| LM.dr 66 rfl rfl rfl <| LM.dr 66 rfl rfl rfl <| LM.dr 66 rfl rfl rfl <| LM.val (ov_pickF rfl rfl) <| LM.mv rfl <| LM.dr 72 rfl rfl rfl <| LM.dr 72 rfl rfl rfl <| LM.dr 72 rfl rfl rfl <| LM.dr 72 rfl rfl rfl <| LM.val (ov_pickF rfl rfl) <| LM.mv rfl <| LM.dr 78 rfl rfl rfl <| LM.dr 78 rfl rfl rfl <| LM.dr 78 rfl rfl rfl <| LM.dr 78 rfl rfl rfl <| LM.dr 78 rfl rfl rfl <| LM.dr 78 rfl rfl rfl <| LM.dr 78 rfl rfl rfl <| LM.val (ov_pickF rfl rfl) <| LM.as rfl <| nA [(0, _)] <| wpM.ret ?_
    refine qL Tryd.results5 rfl fun w' hm' hc' hg' => ?_
    (exfalso; first | omega | simp_all)
   refine LM.dr 46 rfl rfl rfl <| LM.dr 46 rfl rfl rfl <| LM.dr 46 rfl rfl rfl <| LM.dr 46 rfl rfl rfl <| LM.val (ov_pickF rfl rfl) <| LM.mv rfl <| LM.dr 52 rfl rfl rfl <| LM.dr 52 rfl rfl rfl <| LM.dr 52 rfl rfl rfl <| LM.dr 52 rfl rfl rfl <| LM.val (ov_pickF rfl rfl) <| LM.mv rfl <| LM.dr 58 rfl rfl rfl <| LM.val (ov_pickF rfl rfl) <| LM.mv rfl <| LM.dr 61 rfl rfl rfl <| LM.dr 61 rfl rfl rfl <| LM.dr 61 rfl rfl rfl <| LM.val (ov_pickF rfl rfl) <| LM.mv rfl <| LM.dr 66 rfl rfl rfl <| LM.dr 66 rfl rfl rfl <| LM.dr 66 rfl rfl rfl <| LM.dr 66 rfl rfl rfl <| LM.val (ov_pickF rfl rfl) <| LM.mv rfl <| LM.dr 72 rfl rfl rfl <| LM.dr 72 rfl rfl rfl <| LM.dr 72 rfl rfl rfl <| LM.dr 72 rfl rfl rfl <| LM.val (ov_pickF rfl rfl) <| LM.mv rfl <| LM.dr 78 rfl rfl rfl <| LM.dr 78 rfl rfl rfl <| LM.dr 78 rfl rfl rfl <| LM.dr 78 rfl rfl rfl <| LM.dr 78 rfl rfl rfl <| LM.dr 78 rfl rfl rfl <| LM.dr 78 rfl rfl rfl <| LM.val (ov_pickF rfl rfl) ?_
   refine LM.as rfl <| nA [(0, _)] <| wpM.ret ?_
   refine qL Tryd.results5 rfl fun w' hm' hc' hg' => ?_
   (exfalso; first | omega | simp_all)
  refine LM.dr 41 rfl rfl rfl <| LM.dr 41 rfl rfl rfl <| LM.dr 41 rfl rfl rfl <| LM.val (ov_pickF rfl rfl) <| LM.mv rfl <| LM.dr 46 rfl rfl rfl <| LM.dr 46 rfl rfl rfl <| LM.dr 46 rfl rfl rfl <| LM.dr 46 rfl rfl rfl <| LM.val (ov_pickF rfl rfl) <| LM.mv rfl <| LM.dr 52 rfl rfl rfl <| LM.dr 52 rfl rfl rfl <| LM.dr 52 rfl rfl rfl <| LM.dr 52 rfl rfl rfl <| LM.val (ov_pickF rfl rfl) <| LM.mv rfl <| LM.dr 58 rfl rfl rfl <| LM.val (ov_pickF rfl rfl) <| LM.mv rfl <| LM.dr 61 rfl rfl rfl <| LM.dr 61 rfl rfl rfl <| LM.dr 61 rfl rfl rfl <| LM.val (ov_pickF rfl rfl) <| LM.mv rfl <| LM.dr 66 rfl rfl rfl <| LM.dr 66 rfl rfl rfl <| LM.dr 66 rfl rfl rfl <| LM.dr 66 rfl rfl rfl <| LM.val (ov_pickF rfl rfl) <| LM.mv rfl <| LM.dr 72 rfl rfl rfl <| LM.dr 72 rfl rfl rfl <| LM.dr 72 rfl rfl rfl <| LM.dr 72 rfl rfl rfl <| LM.val (ov_pickF rfl rfl) <| LM.mv rfl <| LM.dr 78 rfl rfl rfl <| LM.dr 78 rfl rfl rfl <| LM.dr 78 rfl rfl rfl ?_
  refine LM.dr 78 rfl rfl rfl <| LM.dr 78 rfl rfl rfl <| LM.dr 78 rfl rfl rfl <| LM.dr 78 rfl rfl rfl <| LM.val (ov_pickF rfl rfl) <| LM.as rfl <| nA [(0, _)] <| wpM.ret ?_
  refine qL Tryd.results5 rfl fun w' hm' hc' hg' => ?_
  (exfalso; first | omega | simp_all)
 refine LM.dr 37 rfl rfl rfl <| LM.dr 37 rfl rfl rfl <| LM.val (ov_pickF rfl rfl) <| LM.mv rfl <| LM.dr 41 rfl rfl rfl <| LM.dr 41 rfl rfl rfl <| LM.dr 41 rfl rfl rfl <| LM.val (ov_pickF rfl rfl) <| LM.mv rfl <| LM.dr 46 rfl rfl rfl <| LM.dr 46 rfl rfl rfl <| LM.dr 46 rfl rfl rfl <| LM.dr 46 rfl rfl rfl <| LM.val (ov_pickF rfl rfl) <| LM.mv rfl <| LM.dr 52 rfl rfl rfl <| LM.dr 52 rfl rfl rfl <| LM.dr 52 rfl rfl rfl <| LM.dr 52 rfl rfl rfl <| LM.val (ov_pickF rfl rfl) <| LM.mv rfl <| LM.dr 58 rfl rfl rfl <| LM.val (ov_pickF rfl rfl) <| LM.mv rfl <| LM.dr 61 rfl rfl rfl <| LM.dr 61 rfl rfl rfl <| LM.dr 61 rfl rfl rfl <| LM.val (ov_pickF rfl rfl) <| LM.mv rfl <| LM.dr 66 rfl rfl rfl <| LM.dr 66 rfl rfl rfl <| LM.dr 66 rfl rfl rfl <| LM.dr 66 rfl rfl rfl <| LM.val (ov_pickF rfl rfl) <| LM.mv rfl <| LM.dr 72 rfl rfl rfl <| LM.dr 72 rfl rfl rfl <| LM.dr 72 rfl rfl rfl <| LM.dr 72 rfl rfl rfl <| LM.val (ov_pickF rfl rfl) ?_
 refine LM.mv rfl <| LM.dr 78 rfl rfl rfl <| LM.dr 78 rfl rfl rfl <| LM.dr 78 rfl rfl rfl <| LM.dr 78 rfl rfl rfl <| LM.dr 78 rfl rfl rfl <| LM.dr 78 rfl rfl rfl <| LM.dr 78 rfl rfl rfl <| LM.val (ov_pickF rfl rfl) <| LM.as rfl <| nA [(0, _)] <| wpM.ret ?_
 refine qL Tryd.results5 rfl fun w' hm' hc' hg' => ?_
 (exfalso; first | omega | simp_all)
theorem cyc_at {G : Gr} (h : ¬ Acy G) {i : Nat} (hi : i < (cycO G).length) : ∃ k : Nat, (cycO G).getD i 0 = (k : Int) ∧ k < G.length := by
  obtain ⟨hr1, hr2, hr3⟩ := rngI_spec h
  have hm := List.getElem_mem hi
  obtain ⟨k, h1, h2⟩ := cycF_mem ((ovr_iff _ _ _).1 hr2) _ _ _ ((ovr_iff _ _ _).1 hr2) _ hm
  exact ⟨k, by rw [List.getD_eq_getElem?_getD, List.getElem?_eq_getElem hi]; exact h1, h2⟩
theorem cyc_link {G : Gr} (h : ¬ Acy G) {i k k2 : Nat} (hi : i + 1 < (cycO G).length) (h1 : (cycO G).getD i 0 = (k : Int)) (h2 : (cycO G).getD (i + 1) 0 = (k2 : Int)) : sHas (ot G k) (k2 : Nat) = true := by
  obtain ⟨hr1, hr2, hr3⟩ := rngI_spec h
  have := cycF_link ((ovr_iff _ _ _).1 hr2) _ _ _ ((ovr_iff _ _ _).1 hr2) i hi
  rw [show (cycF G (rngI G) 65 0#64 (rngI G)).getD i 0 = (k : Int) from h1, show (cycF G (rngI G) 65 0#64 (rngI G)).getD (i + 1) 0 = (k2 : Int) from h2, Int.toNat_natCast] at this
  exact this
def SeenI (G : Gr) (p : Nat) (seen : BitVec 64) : Prop := ∀ k : Nat, sHas seen k = true ↔ (k : Int) ∈ (ordO G).drop p
theorem SeenI.end (G : Gr) : SeenI G (ordO G).length 0#64 := fun k => by rw [sHas_zero, List.drop_length]; simp
theorem SeenI.step {G : Gr} {p i : Nat} {seen : BitVec 64} (h : SeenI G (p + 1) seen) (hd : (ordO G).drop p = (i : Int) :: (ordO G).drop (p + 1)) (hi : i < 64) : SeenI G p (seen ||| 1#64 <<< i) := fun k => by
  have e : seen ||| 1#64 <<< i = withS seen (i : Nat) := by unfold withS bitU; rw [if_neg om, Int.toNat_natCast]
  rw [e, sHas_withS, Bool.or_eq_true, h k, hd, List.mem_cons]
  simp only [Bool.and_eq_true, decide_eq_true_eq]
  constructor
  · rintro (h | h)
    · exact .inr h
    · exact .inl h.1
  · rintro (h | h)
    · exact .inr ⟨h, by omega, by omega⟩
    · exact .inl h
theorem bit_iff (s : BitVec 64) (n : Nat) : ((s >>> n) &&& 1#64 = 1#64) ↔ sHas s n = true := by
  rw [shr_and, sHas_nat]; cases s.getLsbD n <;> simp
theorem bit_zero (s : BitVec 64) (n : Nat) : ((s >>> n) &&& 1#64 = 0#64) ↔ sHas s n = false := by
  rw [shr_and, sHas_nat]; cases s.getLsbD n <;> simp
theorem sub_seen {s t : BitVec 64} (h : ∀ k : Nat, sHas s k = true → sHas t k = true) : s &&& ~~~t = 0#64 := by
  apply set_ext; intro k hk
  rw [sHas_andn _ _ _ hk, sHas_zero]
  cases h1 : sHas s k
  · rfl
  · rw [h k h1]; rfl
set_option maxHeartbeats 2000000 in
theorem orderHolds {s : StV} (w : World) (hT : Tab w) (hI : s.In w) : Ret Tryd.prog 3 #[s.val] w (fun v w' => v = .bool true ∧ Ext w w') := by
 have hlen := webO_len s.C; have hlow := webO_low s.C
 refine Ret.enterM Tryd.func3 rfl Tryd.ntmps3 rfl ([]) (no) (Mem.nil w) ?_
 refine wR ?_
 refine LM.box rfl rfl (fun b1 hb1 => ?_)
 refine LM.as rfl <| nA [(1, _)] <| wpM.seq <| wR ?_
 refine cE Tryd.func5 rfl (fun w hm hc hg => awake41_spec w (hT.ext hc)) ?_
 refine LM.val (ov_not rfl) ?_
 refine nA [(1, _), (11, _)] ?_
 refine wpM.condB rfl (fun h1 => ?_) (fun h1 => ?_)
 ·
  cases h1
 refine wpM.skip <| QM.then <| wpM.seq <| wR ?_
 refine LM.rd (om_ldW Tryd.isAgg26 Tryd.sizeOf26 rfl rfl) ?_
 refine cE Tryd.func6 rfl (fun w hm hc hg => small12_spec w (hI.ext hc)) ?_
 refine LM.val (ov_not rfl) ?_
 refine LM.mv rfl ?_
 refine LM.splitB (t := 15) rfl (fun h2 => ?_) (fun h2 => ?_)
 ·
  refine LM.dr 15 rfl rfl rfl <| LM.dr 15 rfl rfl rfl <| LM.dr 15 rfl rfl rfl <| LM.val (ov_pickT rfl rfl) <| nA [(1, _), (19, _)] ?_
  refine wpM.condT rfl ?_
  refine wR <| LM.as rfl <| nA [(2, _)] <| wpM.ret <| QM.then_ret ?_
  refine qL Tryd.results3 rfl fun w' hm' hc' hg' => ?_
  exact ⟨rfl, hc'⟩
 refine LM.sp 15 rfl rfl rfl ?_
 refine LM.rd (om_ldW Tryd.isAgg26 Tryd.sizeOf26 rfl rfl) ?_
 refine LM.sp 15 rfl rfl rfl ?_
 refine cE Tryd.func7 rfl (fun w hm hc hg => rmayS_spec (s := s) w (hI.ext hc)) ?_
 refine LM.sp 15 rfl rfl rfl ?_
 refine LM.val (ov_not rfl) ?_
 refine LM.val (ov_pickF rfl rfl) <| nA [(1, _), (19, _)] ?_
 refine wpM.condB rfl (fun h3 => ?_) (fun h3 => ?_)
 ·
  refine wR <| LM.as rfl <| nA [(2, _)] <| wpM.ret <| QM.then_ret ?_
  refine qL Tryd.results3 rfl fun w' hm' hc' hg' => ?_
  exact ⟨rfl, hc'⟩
 have hmay : mayS s.C = true := (by simpa using h3); have hsm : smallS s.C = true := (by simpa using h2); have h12 : s.ls.length ≤ 12 := (by have := (mayS_ps' hmay).1; have e : s.C.ls.length = s.ls.length := rfl; omega)
 refine wpM.skip <| tR ?_
 refine LM.rd (om_ldW Tryd.isAgg26 Tryd.sizeOf26 rfl rfl) ?_
 refine LM.cS (oc_call (enters_fn Tryd.func8 kr rfl) rfl) (fun w hm hc hg => rgraph_spec w (hI.ext hc) h12) (fun ad21 n21 cap21 m21 hn21 hs21 => ?_)
 refine LM.as rfl <| nB [(1, _), (3, _)] ?_
 refine LM.rd (om_ldW Tryd.isAgg26 Tryd.sizeOf26 rfl rfl) ?_
 refine LM.callT (oc_call (enters_fn Tryd.func9 kr rfl) rfl) OrT.mono (fun w hm hc hg => order_spec w (hT.ext hc) (hI.ext hc)) ?_
 rintro u24 m24 ⟨ad24, n24, cap24, rfl, hn24, hs24⟩ hge24
 refine LM.mv rfl <| LM.val (ov_extract rfl rfl) <| LM.val (ov_extract rfl rfl) <| LM.as rfl <| LM.as rfl <| nA [(1, _), (3, _), (4, _), (5, _)] <| wpM.seq <| wR <| LM.mv rfl ?_
 refine LM.val (ov_not rfl) ?_
 refine nA [(1, _), (3, _), (4, _), (28, _)] ?_
 refine wpM.condB rfl (fun h4 => ?_) (fun h4 => ?_)
 ·
  have hok : okO s.C = false := (by simpa using h4); have hord : ordB (webO s.C) = false := (by unfold okO at hok; rw [hmay, Bool.true_and] at hok; exact hok); have hA : ¬ Acy (webO s.C) := (fun q => by rw [(ordB_iff _).2 q] at hord; cases hord); have ecy : cycW s.C = cycO (webO s.C) := if_pos ⟨hmay, hord⟩; have h65 : (cycO (webO s.C)).length ≤ 65 := cycF_len _ _ _ _ _; have hcp := cycO_pos hA hlen
  refine wR ?_
  refine LM.rd (om_ldW Tryd.isAgg26 Tryd.sizeOf26 rfl rfl) ?_
  refine LM.cS (oc_call (enters_fn Tryd.func10 kr rfl) rfl) (fun w hm hc hg => cycle_spec w (hT.ext hc) (hI.ext hc)) (fun ad30 n30 cap30 m30 hn30 hs30 => ?_)
  rw [ecy] at hn30 hs30
  refine LM.as rfl <| nA [(3, _), (6, _)] <| wpM.seq <| wR <| LM.mv rfl <| LM.val (ov_len Tryd.underlying22 rfl) <| LM.mv rfl <| nA [(3, _), (6, _), (32, _), (33, _)] <| wpM.block ?_
  refine wpM.loopK0 (α := Nat) (fun i => [(33, .int .i64 (i : Nat))]) [(3, _), (6, _), (32, _)] (fun i => m30 ++ (m24 ++ (m21 ++ (stB b1 s :: [])))) (fun i => i ≤ n30) (fun i => n30 - i) (0) ⟨au2, rfl, rfl, rfl, trivial⟩ au1 (Nat.zero_le _) ?_
  rintro i hi
  change wpM _ _ _ _ _ _ _ (m30 ++ (m24 ++ (m21 ++ (stB b1 s :: [])))) _ _ _
  refine wR <| LM.val (ov_lss rfl rfl) <| nA [(3, _), (6, _), (32, _), (33, _), (34, _)] <| wpM.seq ?_
  refine wpM.condD rfl (fun h5 => ?_) (fun h5 => ?_)
  ·
   refine wpM.skip <| QM.then <| wpM.seq <| wpM.block <| wR <| LM.mv rfl <| LM.as rfl <| nA [(3, _), (6, _), (7, _), (32, _), (33, _)] <| wpM.seq ?_
   refine wpM.draw [(0, 0), (1, 0), (2, 0), (3, 0), (4, 0), (5, 0), (6, 0), (7, 0), (8, 0), (9, 0), (10, 1), (11, 0), (12, 1), (13, 0), (14, 0), (15, 0), (16, 0), (17, 1), (18, 0), (19, 0), (20, 0), (21, 0)] kr kr ?_
   refine LD.val rfl rfl (ov_move rfl) ?_
   refine LD.val rfl rfl (ov_add64 rfl rfl om) ?_
   refine LD.val rfl rfl (ov_move rfl) ?_
   refine LD.val rfl rfl (ov_len Tryd.underlying22 rfl) ?_
   refine LD.val rfl rfl (ov_lss rfl rfl) ?_
   refine LD.val rfl rfl (ov_move rfl) ?_
   refine LD.splitD (t := 41) rfl (fun h6 => ?_) (fun h6 => ?_)
   ·
    obtain ⟨k, hk1, hkl⟩ := cyc_at hA (i := i) om; obtain ⟨k2, hk2', hkl2⟩ := cyc_at hA (i := i + 1) om; have hlk := cyc_link hA om hk1 hk2'; have hk2 : (cycO (webO s.C)).getD ((i : Int) + 1).toNat 0 = (k2 : Int) := (by rw [← hk2']; congr 1)
    refine LD.val rfl ⟨41, _, rfl, rfl, rfl⟩ (ov_move rfl) <| LD.val rfl ⟨41, _, rfl, rfl, rfl⟩ (ov_move rfl) <| LD.val rfl ⟨41, _, rfl, rfl, rfl⟩ (ov_move rfl) ?_
    refine LD.val rfl ⟨41, _, rfl, rfl, rfl⟩ (ov_idxSN au6 Tryd.underlying22 Tryd.sizeOf3 rfl rfl om) ?_
    refine LD.rd rfl ⟨41, _, rfl, rfl, rfl⟩ (om_sl1 asm ir Tryd.isAgg3 rfl rfl (by exact getq 0 au4) (by rfl)) ?_
    rw [hk1]
    refine LD.val rfl ⟨41, _, rfl, rfl, rfl⟩ (ov_idxSN au6 Tryd.underlying29 Tryd.sizeOf34 rfl rfl om) ?_
    refine LD.rd rfl ⟨41, _, rfl, rfl, rfl⟩ (om_sl1 asm ir Tryd.isAgg34 rfl rfl (by exact getq 0#64 au4) (by rfl)) ?_
    refine LD.val rfl ⟨41, _, rfl, rfl, rfl⟩ (ov_move rfl) <| LD.val rfl ⟨41, _, rfl, rfl, rfl⟩ (ov_move rfl) ?_
    refine LD.val rfl ⟨41, _, rfl, rfl, rfl⟩ (ov_add64 rfl rfl om) ?_
    refine LD.val rfl ⟨41, _, rfl, rfl, rfl⟩ (ov_idxS au6 Tryd.underlying22 Tryd.sizeOf3 rfl rfl om) ?_
    refine LD.rd rfl ⟨41, _, rfl, rfl, rfl⟩ (om_sl1 asm ir Tryd.isAgg3 rfl rfl (by exact getq 0 au4) (by rfl)) ?_
    rw [hk2]
    refine LD.val rfl ⟨41, _, rfl, rfl, rfl⟩ (ov_ushr rfl rfl om) ?_
    refine LD.val rfl ⟨41, _, rfl, rfl, rfl⟩ (ov_uand (b := 1#64) rfl rfl) ?_
    refine LD.val rfl ⟨41, _, rfl, rfl, rfl⟩ (ov_ueql (b := 0#64) rfl rfl) ?_
    refine LD.val rfl rfl (ov_pickT rfl rfl) ?_
    refine LD.nil ?_
    refine QM.sub (e' := [(3, _), (6, _), (32, _), (33, _), (57, _)]) au9 (QM.then ?_)
    refine wpM.condD rfl (fun h7 => ?_) (fun h7 => ?_)
    ·
     exfalso; rw [show (webO s.C).getD k 0#64 = ot (webO s.C) k from rfl] at h7; simp only [Int.toNat_natCast] at h7; rw [bit_zero, hlk] at h7; cases h7
    refine wpM.skip <| QM.block_normal ?_
    refine QM.then (wpM.region ?_)
    refine LM.val (ov_add64 rfl rfl om) ?_
    refine LM.mv rfl <| nC [(3, _), (6, _), (32, _), (33, _)] ?_
    refine QM.againK (i + 1) ⟨au2, rfl, rfl, rfl, trivial⟩ au1 (fun _ h => h) ?_ ?_
    · omega
    · omega
   refine LD.drop rfl rfl ⟨41, _, rfl, rfl, rfl⟩ <| LD.drop rfl rfl ⟨41, _, rfl, rfl, rfl⟩ <| LD.drop rfl rfl ⟨41, _, rfl, rfl, rfl⟩ <| LD.drop rfl rfl ⟨41, _, rfl, rfl, rfl⟩ <| LD.drop rfl rfl ⟨41, _, rfl, rfl, rfl⟩ <| LD.drop rfl rfl ⟨41, _, rfl, rfl, rfl⟩ <| LD.drop rfl rfl ⟨41, _, rfl, rfl, rfl⟩ <| LD.drop rfl rfl ⟨41, _, rfl, rfl, rfl⟩ <| LD.drop rfl rfl ⟨41, _, rfl, rfl, rfl⟩ <| LD.drop rfl rfl ⟨41, _, rfl, rfl, rfl⟩ <| LD.drop rfl rfl ⟨41, _, rfl, rfl, rfl⟩ <| LD.drop rfl rfl ⟨41, _, rfl, rfl, rfl⟩ <| LD.drop rfl rfl ⟨41, _, rfl, rfl, rfl⟩ <| LD.drop rfl rfl ⟨41, _, rfl, rfl, rfl⟩ <| LD.drop rfl rfl ⟨41, _, rfl, rfl, rfl⟩ ?_
   refine LD.val rfl rfl (ov_pickF rfl rfl) ?_
   refine LD.nil ?_
   refine QM.sub (e' := [(3, _), (6, _), (32, _), (33, _), (57, _)]) au9 (QM.then ?_)
   refine wpM.condF rfl ?_
   refine wpM.skip <| QM.block_normal ?_
   refine QM.then (wpM.region ?_)
   refine LM.val (ov_add64 rfl rfl om) ?_
   refine LM.mv rfl <| nC [(3, _), (6, _), (32, _), (33, _)] ?_
   refine QM.againK (i + 1) ⟨au2, rfl, rfl, rfl, trivial⟩ au1 (fun _ h => h) ?_ ?_
   · omega
   · omega
  refine wpM.exit <| QM.then_exit <| QM.then_exit <| QM.block_hit <| tR <| LM.mv rfl <| LM.val (ov_len Tryd.underlying22 rfl) <| LM.val (ov_gtr rfl rfl) <| LM.as rfl <| nA [(2, _)] <| wpM.ret <| QM.then_ret ?_
  refine qL Tryd.results3 rfl fun w' hm' hc' hg' => ?_
  refine ⟨?_, hc'⟩; show Value.bool (decide ((n30 : Int) > 0)) = Value.bool true; rw [decide_eq_true om]
 have hok : okO s.C = true := (by simpa using h4); have hord : ordB (webO s.C) = true := (by unfold okO at hok; rw [hmay, Bool.true_and] at hok; exact hok); have hA := (ordB_iff _).1 hord; have eor : ordW s.C = ordO (webO s.C) := if_pos hok; have hol := ordO_len hA hlen; rw [eor] at hn24 hs24
 refine wpM.skip <| tR <| LM.as rfl <| nA [(3, _), (4, _), (8, _)] <| wpM.seq <| wR <| LM.mv rfl <| LM.val (ov_len Tryd.underlying22 rfl) ?_
 refine LM.val (ov_sub64 rfl rfl om) ?_
 refine LM.as rfl <| nA [(3, _), (4, _), (8, _), (9, _)] <| wpM.block ?_
 refine wpM.loopK0 (α := Nat × BitVec 64) (fun ⟨p, seen⟩ => [(8, U seen), (9, .int .i64 ((p : Int) - 1))]) [(3, _), (4, _)] (fun ⟨p, seen⟩ => m24 ++ (m21 ++ (stB b1 s :: []))) (fun ⟨p, seen⟩ => p ≤ n24 ∧ SeenI (webO s.C) p seen) (fun ⟨p, seen⟩ => p) ((n24, 0#64)) ⟨au2, au2, rfl, rfl, trivial⟩ au1 ⟨Nat.le_refl _, by rw [hn24]; exact SeenI.end _⟩ ?_
 rintro ⟨p, seen⟩ ⟨hp, hS⟩
 change wpM _ _ _ _ _ _ _ (m24 ++ (m21 ++ (stB b1 s :: []))) _ _ _
 refine wpM.seq <| wR <| LM.mv rfl <| LM.val (ov_geq rfl rfl) <| nA [(3, _), (4, _), (8, _), (9, _), (66, _)] ?_
 refine wpM.condD rfl (fun h8 => ?_) (fun h8 => ?_)
 ·
  obtain ⟨q, rfl⟩ : ∃ q, p = q + 1 := ⟨p - 1, by omega⟩; obtain ⟨i, l2, hgi, hil, hli, hdr0, hdr1, hsucc, hl2⟩ := ordO_at hA hlow hlen (p := q) om; have hdr : (ordO (webO s.C)).drop q = (i : Int) :: (ordO (webO s.C)).drop (q + 1) := (by have e := List.drop_eq_getElem_cons (l := ordO (webO s.C)) (i := q) om; rw [e]; congr 1; rw [← hgi, List.getD_eq_getElem?_getD, List.getElem?_eq_getElem om]; rfl); have hmem : ∀ k : Nat, (k : Int) ∈ (ordO (webO s.C)).drop (q + 1) ↔ sHas (witho l2 (i : Nat)) k = true := (fun k => by rw [hdr1]; exact (ordL_mem hA 64 _ (card_le _) _).trans ⟨fun ⟨z, hz, hh⟩ => by rw [show k = z by omega]; exact hh, fun h => ⟨k, rfl, h⟩⟩); have hns : sHas seen (i : Nat) = false := (by cases hq : sHas seen (i : Nat); rfl; exact absurd rfl (has_wo.1 ((hmem i).1 ((hS i).1 hq))).2); have hsub : ot (webO s.C) i &&& ~~~seen = 0#64 := sub_seen (fun k hk => (hS k).2 ((hmem k).2 (hsucc k hk))); rw [show ((q + 1 : Nat) : Int) - 1 = (q : Int) by omega]
  refine wpM.skip <| QM.then <| wpM.seq <| wpM.block <| wpM.seq <| wR <| LM.mv rfl <| LM.mv rfl ?_
  refine LM.val (ov_idxSN au6 Tryd.underlying22 Tryd.sizeOf3 rfl rfl om) ?_
  refine LM.rd (om_sl1 asm ir Tryd.isAgg3 rfl rfl (by exact getq 0 au4) (by rfl)) ?_
  rw [hgi]
  refine LM.val (ov_lss rfl rfl) <| LM.mv rfl ?_
  refine LM.splitD (t := 74) rfl (fun h9 => ?_) (fun h9 => ?_)
  ·
   refine LM.dr 74 rfl rfl rfl <| LM.dr 74 rfl rfl rfl <| LM.dr 74 rfl rfl rfl <| LM.dr 74 rfl rfl rfl <| LM.dr 74 rfl rfl rfl <| LM.dr 74 rfl rfl rfl <| LM.dr 74 rfl rfl rfl <| LM.val (ov_pickT rfl rfl) <| LM.mv rfl <| LM.dr 83 rfl rfl rfl <| LM.dr 83 rfl rfl rfl <| LM.dr 83 rfl rfl rfl <| LM.dr 83 rfl rfl rfl <| LM.dr 83 rfl rfl rfl <| LM.dr 83 rfl rfl rfl <| LM.dr 83 rfl rfl rfl <| LM.dr 83 rfl rfl rfl <| LM.val (ov_pickT rfl rfl) <| LM.mv rfl <| LM.dr 93 rfl rfl rfl <| LM.dr 93 rfl rfl rfl <| LM.dr 93 rfl rfl rfl <| LM.dr 93 rfl rfl rfl <| LM.dr 93 rfl rfl rfl <| LM.dr 93 rfl rfl rfl <| LM.dr 93 rfl rfl rfl <| LM.dr 93 rfl rfl rfl <| LM.dr 93 rfl rfl rfl <| LM.dr 93 rfl rfl rfl <| LM.val (ov_pickT rfl rfl) <| nA [(3, _), (4, _), (8, _), (9, _), (104, _)] ?_
   refine wpM.condT rfl ?_
   refine wR <| LM.as rfl <| nA [(2, _)] <| wpM.ret <| QM.then_ret <| QM.block_ret <| QM.then_ret <| QM.then_ret <| QM.block_ret <| QM.then_ret ?_
   refine qL Tryd.results3 rfl fun w' hm' hc' hg' => ?_
   (exfalso; first | omega | simp_all)
  refine LM.sp 74 rfl rfl rfl <| LM.mv rfl <| LM.sp 74 rfl rfl rfl <| LM.mv rfl <| LM.sp 74 rfl rfl rfl ?_
  refine LM.val (ov_idxSN au6 Tryd.underlying22 Tryd.sizeOf3 rfl rfl om) ?_
  refine LM.sp 74 rfl rfl rfl ?_
  refine LM.rd (om_sl1 asm ir Tryd.isAgg3 rfl rfl (by exact getq 0 au4) (by rfl)) ?_
  refine LM.sp 74 rfl rfl rfl ?_
  rw [hgi]
  refine LM.mv rfl <| LM.sp 74 rfl rfl rfl <| LM.val (ov_len Tryd.underlying29 rfl) <| LM.sp 74 rfl rfl rfl <| LM.val (ov_geq rfl rfl) <| LM.val (ov_pickF rfl rfl) <| LM.mv rfl ?_
  refine LM.splitD (t := 83) rfl (fun h10 => ?_) (fun h10 => ?_)
  ·
   refine LM.dr 83 rfl rfl rfl <| LM.dr 83 rfl rfl rfl <| LM.dr 83 rfl rfl rfl <| LM.dr 83 rfl rfl rfl <| LM.dr 83 rfl rfl rfl <| LM.dr 83 rfl rfl rfl <| LM.dr 83 rfl rfl rfl <| LM.dr 83 rfl rfl rfl <| LM.val (ov_pickT rfl rfl) <| LM.mv rfl <| LM.dr 93 rfl rfl rfl <| LM.dr 93 rfl rfl rfl <| LM.dr 93 rfl rfl rfl <| LM.dr 93 rfl rfl rfl <| LM.dr 93 rfl rfl rfl <| LM.dr 93 rfl rfl rfl <| LM.dr 93 rfl rfl rfl <| LM.dr 93 rfl rfl rfl <| LM.dr 93 rfl rfl rfl <| LM.dr 93 rfl rfl rfl <| LM.val (ov_pickT rfl rfl) <| nA [(3, _), (4, _), (8, _), (9, _), (104, _)] ?_
   refine wpM.condT rfl ?_
   refine wR <| LM.as rfl <| nA [(2, _)] <| wpM.ret <| QM.then_ret <| QM.block_ret <| QM.then_ret <| QM.then_ret <| QM.block_ret <| QM.then_ret ?_
   refine qL Tryd.results3 rfl fun w' hm' hc' hg' => ?_
   (exfalso; first | omega | simp_all)
  refine LM.sp 83 rfl rfl rfl <| LM.mv rfl <| LM.sp 83 rfl rfl rfl <| LM.mv rfl <| LM.sp 83 rfl rfl rfl <| LM.mv rfl <| LM.sp 83 rfl rfl rfl ?_
  refine LM.val (ov_idxSN au6 Tryd.underlying22 Tryd.sizeOf3 rfl rfl om) ?_
  refine LM.sp 83 rfl rfl rfl ?_
  refine LM.rd (om_sl1 asm ir Tryd.isAgg3 rfl rfl (by exact getq 0 au4) (by rfl)) ?_
  refine LM.sp 83 rfl rfl rfl ?_
  rw [hgi]
  refine LM.val (ov_ushr rfl rfl om) ?_
  refine LM.sp 83 rfl rfl rfl ?_
  refine LM.val (ov_uand (b := 1#64) rfl rfl) ?_
  refine LM.sp 83 rfl rfl rfl ?_
  refine LM.val (ov_ueql (b := 1#64) rfl rfl) ?_
  refine LM.val (ov_pickF rfl rfl) <| LM.mv rfl ?_
  refine LM.splitD (t := 93) rfl (fun h11 => ?_) (fun h11 => ?_)
  ·
   exfalso; simp only [Int.toNat_natCast] at h11; rw [bit_iff, hns] at h11; cases h11
  refine LM.sp 93 rfl rfl rfl <| LM.mv rfl <| LM.sp 93 rfl rfl rfl <| LM.mv rfl <| LM.sp 93 rfl rfl rfl <| LM.mv rfl <| LM.sp 93 rfl rfl rfl ?_
  refine LM.val (ov_idxSN au6 Tryd.underlying22 Tryd.sizeOf3 rfl rfl om) ?_
  refine LM.sp 93 rfl rfl rfl ?_
  refine LM.rd (om_sl1 asm ir Tryd.isAgg3 rfl rfl (by exact getq 0 au4) (by rfl)) ?_
  refine LM.sp 93 rfl rfl rfl ?_
  rw [hgi]
  refine LM.val (ov_idxSN au6 Tryd.underlying29 Tryd.sizeOf34 rfl rfl om) ?_
  refine LM.sp 93 rfl rfl rfl ?_
  refine LM.rd (om_sl1 asm ir Tryd.isAgg34 rfl rfl (by exact getq 0#64 au4) (by rfl)) ?_
  refine LM.sp 93 rfl rfl rfl <| LM.mv rfl <| LM.sp 93 rfl rfl rfl ?_
  refine LM.val (ov_uandNot rfl rfl) ?_
  refine LM.sp 93 rfl rfl rfl ?_
  refine LM.val (ov_uneq (b := 0#64) rfl rfl) ?_
  refine LM.val (ov_pickF rfl rfl) <| nA [(3, _), (4, _), (8, _), (9, _), (104, _)] ?_
  refine wpM.condD rfl (fun h12 => ?_) (fun h12 => ?_)
  ·
   exfalso; exact h12 hsub
  refine wpM.skip ?_
  refine QM.then (wpM.region ?_)
  refine LM.mv rfl <| LM.mv rfl <| LM.mv rfl ?_
  refine LM.val (ov_idxSN au6 Tryd.underlying22 Tryd.sizeOf3 rfl rfl om) ?_
  refine LM.rd (om_sl1 asm ir Tryd.isAgg3 rfl rfl (by exact getq 0 au4) (by rfl)) ?_
  rw [hgi]
  refine LM.val (ov_ushl (a := 1#64) rfl rfl om) ?_
  refine LM.val (ov_uor rfl rfl) ?_
  refine LM.as rfl <| nC [(3, _), (4, _), (8, _), (9, _)] <| QM.block_normal ?_
  refine QM.then (wpM.region ?_)
  refine LM.mv rfl ?_
  refine LM.val (ov_sub64 rfl rfl om) ?_
  refine LM.as rfl <| nC [(3, _), (4, _), (8, _), (9, _)] ?_
  refine QM.againK ((q, seen ||| 1#64 <<< i)) ⟨au2, au2, rfl, rfl, trivial⟩ au1 (fun _ h => h) ?_ ?_
  · exact ⟨by omega, hS.step hdr om⟩
  · (dsimp only; omega)
 refine wpM.exit <| QM.then_exit <| QM.then_exit <| QM.block_hit <| tR <| LM.mv rfl <| LM.val (ov_len Tryd.underlying22 rfl) <| LM.mv rfl <| LM.val (ov_len Tryd.underlying29 rfl) <| LM.val (ov_eql rfl rfl) <| LM.as rfl <| nA [(2, _)] <| wpM.ret ?_
 refine qL Tryd.results3 rfl fun w' hm' hc' hg' => ?_
 refine ⟨?_, hc'⟩; show Value.bool (decide ((n24 : Int) = (n21 : Int))) = Value.bool true; rw [decide_eq_true om]
end Go.Eng
namespace Go.Eng
end Go.Eng
