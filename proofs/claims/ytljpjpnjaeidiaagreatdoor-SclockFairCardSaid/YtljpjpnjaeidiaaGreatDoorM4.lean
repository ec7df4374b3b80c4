/- The walks of a table of waits: a row is made. No condition. -/
import Derived.Test.YtljpjpnjaeidiaaGreatDoorM2
import Derived.Test.YtljpjpnjaeidiaaGreatDoorM3
import Derived.Test.YtljpjpnjaeidiaaGreatDoorRows
import Derived.Laws.Externs
set_option linter.unusedVariables false
set_option linter.unusedSimpArgs false
set_option maxRecDepth 100000
namespace Go.Eng
open Go Go.Proofs Go.RowKit
def RwN (key each : Int) (n0 n1 j : Nat) (hs : List Bh) (rs : List Rw) (ad : Option Addr) (n cap : Nat) (u : Value) (m : Mem0) : Prop :=
  ∃ b' h' mo' ms' mq, u = .pointer (some ⟨b', 0, none⟩) ∧ m = mo' ++ (ms' ++ mq) ∧ Sl fBh 164 1 n0 (hs.set j h') (.slice ad n cap) mo' ∧ h'.n = rs.length + 1 ∧ Sl fRw 166 2 n0 (rs ++ [⟨key, b', [], 0⟩]) (.slice h'.ad h'.n h'.cap) ms' ∧ FoM (newAr each).most n1 b' [] 0 mq
theorem rwn_leaf {key each : Int} {n0 j n n' cap cap' b' : Nat} {hs : List Bh} {rs : List Rw} {ad ad' : Option Addr} {mo ms mo' ms' mq M : Mem0} {w w' : World} (ho : Sl fBh 164 1 n0 (hs.set j ⟨ad', n', cap'⟩) (.slice ad n cap) mo') (hr : Sl fRw 166 2 n0 (rs ++ [⟨key, b', [], 0⟩]) (.slice ad' n' cap') ms') (hq : FoM (newAr each).most w.heap.size b' [] 0 mq)
    (hm : Mem w' M) (hs' : SubM M (mo' ++ (ms' ++ (mq ++ [])))) (hc : Chg (inM (mo ++ ms)) w w') (h1 : inn mo w.heap.size mo') (h2 : inn ms w.heap.size ms') :
    Upd (mo ++ ms) (fun u m => RwN key each n0 w.heap.size j hs rs ad n cap u m) w (.pointer (some ⟨b', 0, none⟩)) w' := by
  rw [List.append_nil] at hs'
  refine ⟨hc, _, ⟨b', ⟨ad', n', cap'⟩, mo', ms', mq, rfl, rfl, ho, hr.len.1.trans (by rw [List.length_append, List.length_singleton]), hr, hq⟩, hs'.mem w' hm, fun p hp => ?_⟩
  rcases List.mem_append.1 hp with hp | hp
  · exact (h1 p hp).imp id (fun ⟨q, hq, e⟩ => ⟨q, List.mem_append_left _ hq, e⟩)
  · rcases List.mem_append.1 hp with hp | hp
    · exact (h2 p hp).imp id (fun ⟨q, hq, e⟩ => ⟨q, List.mem_append_right _ hq, e⟩)
    · exact .inl (hq.ge p hp)
theorem inM_al {x y : Mem0} : ∀ p ∈ x, inM (x ++ y) p.1 := fun p hp => ⟨p, List.mem_append_left _ hp, rfl⟩
theorem inM_ar {x y : Mem0} : ∀ p ∈ y, inM (x ++ y) p.1 := fun p hp => ⟨p, List.mem_append_right _ hp, rfl⟩
theorem tqueue_new {n0 b n cap : Nat} {ad : Option Addr} {most each : Int} {bs bh : Nat} {hs : List Bh} {rs : List Rw} {mo ms : Mem0} (key : Int) (j : Nat) (w : World) (hn : n = hs.length) (hn64 : n ≤ 64) (ho : Sl fBh 164 1 n0 hs (.slice ad n cap) mo) (hj : j < hs.length) (hbk : bucketF key (n : Nat) = (j : Nat)) (hr : Sl fRw 166 2 n0 rs (.slice (bg hs j).ad (bg hs j).n (bg hs j).cap) ms) (hrm : rs.length ≤ 1000000000) (hno : ∀ i', i' < rs.length → (rg rs i').key ≠ key) (hn0 : n0 ≤ w.heap.size) (hM : Mem w (tbC b ad n cap most each bs bh :: (mo ++ ms))) : Ret Tryz.prog 105 #[.pointer (some ⟨b, 0, none⟩), .int .i64 key, .bool true] w (Upd (mo ++ ms) (fun u m => RwN key each n0 w.heap.size j hs rs ad n cap u m) w) := by
 have hrl := hr.len.1; generalize hhn : (bg hs j).n = hn0 at hr hrl; generalize hha : (bg hs j).ad = ha0 at hr; generalize hhc : (bg hs j).cap = hc0 at hr
 refine Ret.enterM Tryz.func105 rfl Tryz.ntmps105 rfl (tbC b ad n cap most each bs bh :: (mo ++ (ms ++ []))) (inM (mo ++ ms)) aM ?_
 refine wR <| LM.as rfl <| nB [(0, _), (1, _), (2, _)] <| LM.mv rfl <| LM.mv rfl <| LM.nc rfl <| LM.val (ovf 107 rfl rfl rfl rfl) ?_
 refine LM.rd (oml rfl rfl rfl) ?_
 refine LM.val (ov_len Tryz.underlying107 rfl) ?_
 refine cE Tryz.func137 rfl (fun w hm hc hg => bucket_spec key (n : Nat) w om) ?_
 rw [hbk]
 refine LM.as rfl <| nA [(0, _), (1, _), (2, _), (7, _)] <| wpM.seq <| wR <| LM.mv rfl <| LM.nc rfl <| LM.val (ovf 107 rfl rfl rfl rfl) ?_
 refine LM.rd (oml rfl rfl rfl) ?_
 refine LM.mv rfl ?_
 refine LM.val (ov_idxSN au6 Tryz.underlying107 Tryz.sizeOf164 rfl rfl om) ?_
 refine LM.rd (om_sl1 asm ir Tryz.isAgg164 rfl rfl au3 (by rfl)) ?_
 rw [hhn, hha, hhc]
 refine LM.val (ov_len Tryz.underlying164 rfl) <| LM.mv rfl <| nA [(0, _), (1, _), (2, _), (7, _), (24, _), (25, _), (26, _)] <| wpM.block ?_
 refine wpM.loopK0 (α := Nat) (fun i1 => [(26, .int .i64 (i1 : Nat))]) [(0, _), (1, _), (2, _), (7, _), (24, _), (25, _)] (fun i1 => tbC b ad n cap most each bs bh :: (mo ++ (ms ++ []))) (fun i1 => i1 ≤ rs.length) (fun i1 => rs.length - i1) (0) ⟨au2, rfl, rfl, rfl, rfl, rfl, rfl, trivial⟩ au1 (Nat.zero_le _) ?_
 rintro i1 hi1
 change wpM _ _ _ _ _ _ _ (tbC b ad n cap most each bs bh :: (mo ++ (ms ++ []))) _ _ _
 refine wR <| LM.val (ov_lss rfl rfl) <| nA [(0, _), (1, _), (2, _), (7, _), (24, _), (25, _), (26, _), (27, _)] <| wpM.seq ?_
 refine wpM.condD rfl (fun h1 => ?_) (fun h1 => ?_)
 ·
  refine wpM.skip <| QM.then <| wpM.seq <| wpM.block <| wR ?_
  refine LM.val (ov_idxSN au6 Tryz.underlying164 Tryz.sizeOf166 rfl rfl om) ?_
  refine LM.rd (om_slA asm ir Tryz.isAgg166 Tryz.sizeOf166 rfl au3) ?_
  refine LM.alloc Tryz.zeroValue166 rfl (fun b9 hb9 => ?_)
  refine LM.stW Tryz.sizeOf166 rfl rfl rfl rfl au7 auH ?_
  refine nB [(0, _), (1, _), (2, _), (7, _), (9, _), (24, _), (25, _), (26, _)] <| LM.val (ovf 3 rfl rfl rfl rfl) ?_
  refine LM.rd (oml rfl rfl rfl) ?_
  refine LM.mv rfl <| LM.val (ov_eql rfl rfl) <| nA [(0, _), (1, _), (2, _), (7, _), (9, _), (24, _), (25, _), (26, _), (33, _)] ?_
  refine wpM.condD rfl (fun h2 => ?_) (fun h2 => ?_)
  ·
   exact absurd h2 (hno i1 om)
  refine wpM.skip <| QM.block_normal ?_
  refine QM.then (wpM.region ?_)
  refine LM.val (ov_add64 rfl rfl om) ?_
  refine LM.mv rfl <| nC [(0, _), (1, _), (2, _), (7, _), (24, _), (25, _), (26, _)] ?_
  refine QM.againK (i1 + 1) ⟨au2, rfl, rfl, rfl, rfl, rfl, rfl, trivial⟩ au1 (fun _ h => h) ?_ ?_
  · omega
  · omega
 refine wpM.exit <| QM.then_exit <| QM.then_exit <| QM.block_hit <| QM.then <| wpM.seq <| wR <| LM.mv rfl ?_
 first | refine LM.val (ov_notD rfl) ?_ | refine LM.val (ov_not rfl) ?_
 refine nA [(0, _), (1, _), (7, _), (38, _)] ?_
 first | refine wpM.condD rfl (fun h3 => ?_) (fun h3 => ?_) | refine wpM.condB rfl (fun h3 => ?_) (fun h3 => ?_)
 ·
  cases h3
 refine wpM.skip <| tR <| LM.mv rfl <| LM.nc rfl <| LM.val (ovf 3 rfl rfl rfl rfl) ?_
 refine LM.rd (oml rfl rfl rfl) ?_
 refine LM.callT (oc_call (enters_fn Tryz.func138 kr rfl) rfl) FoN.mono (fun w hm hc hg => fonew_spec each w) ?_
 rintro u43 m43 ⟨b43, rfl, h43⟩ hge43
 refine LM.as rfl <| nA [(0, _), (1, _), (7, _), (10, _)] <| wpM.seq ?_
 refine wpM.keep (tbC b ad n cap most each bs bh :: (mo ++ [])) (fun _ => True) (.one 0 0 (.one 1 0 (.one 2 0 (.one 3 1 (.one 4 0 (.one 5 0 (.one 6 0 (.one 7 0 (.one 8 1 (.one 9 0 (.one 10 0 (.one 11 1 (.one 12 0 (.one 13 0 (.one 14 0 (.one 15 2 (.one 16 2 (.one 17 0 (.last 18))))))))))))))))))) kr kr au1 (fun _ _ => trivial) ?_
 refine KD.val rfl rfl (ov_move rfl) <| KD.val rfl rfl (ov_nilCheck rfl) <| KD.val rfl rfl (ovf 107 rfl rfl rfl rfl) ?_
 refine KD.rd rfl rfl (oml rfl rfl rfl) ?_
 refine KD.val rfl rfl (ov_move rfl) <| KD.val rfl rfl (ov_move rfl) <| KD.val rfl rfl (ov_nilCheck rfl) <| KD.val rfl rfl (ovf 107 rfl rfl rfl rfl) ?_
 refine KD.rd rfl rfl (oml rfl rfl rfl) ?_
 refine KD.val rfl rfl (ov_move rfl) ?_
 refine KD.val rfl rfl (ov_idxSN au6 Tryz.underlying107 Tryz.sizeOf164 rfl rfl om) ?_
 refine KD.rd rfl rfl (om_sl1 asm ir Tryz.isAgg164 rfl rfl au3 (by rfl)) ?_
 rw [hhn, hha, hhc]
 refine KD.val rfl rfl (ov_move rfl) <| KD.val rfl rfl (ov_move rfl) ?_
 refine KD.val rfl rfl (ov_build (cs := #[_, _]) rfl (by first | rfl | kernel_rfl)) ?_
 refine KD.one rfl ?_
 refine LM.single Tryz.underlying164 Tryz.sizeOf166 Tryz.zeroValue166 rfl rfl rfl rfl rfl (fun b59 hb59 => ?_)
 refine LM.nil ?_
 refine kq1 ?_
 refine KD.one rfl ?_
 refine LM.app (a := (⟨key, b43, [], 0⟩ : Rw)) Tryz.underlying164 Tryz.typeInfo166 rfl rfl rfl rfl rfl rfl rfl asm (by rfl) ir (by intro _ u hu; simp [fRw] at hu; (repeat (first | (rcases hu with rfl | hu) | subst hu | rfl))) (by first | exact Nat.le_refl _ | omega) (fun p hp hlt => by first | exact inM_al p hp | exact inM_ar p hp) (by first | omega | (unfold maxLen; omega)) (by simp only [Tryz.t166]; omega) (fun ad60 n60 cap60 m60 hn60 hs60 hin60 => ?_)
 refine LM.nil ?_
 refine kq1 ?_
 refine KD.val rfl rfl (ov_idxSN au6 Tryz.underlying107 Tryz.sizeOf164 rfl rfl om) ?_
 refine KD.last rfl ?_
 refine LM.stS ((⟨ad60, n60, cap60⟩ : Bh)) (j := 0) (i := j) asm ir Tryz.sizeOf164 rfl rfl rfl au3 rfl (by decide) (by rfl) rfl (fun p hp hlt => by first | exact inM_al p hp | exact inM_ar p hp) (fun ms1 hss1 hmm1 => ?_)
 refine LM.nil ?_
 refine QM.qn ?_
 refine QM.sub (e' := [(10, _)]) ⟨rfl, trivial⟩ (QM.then (wpM.seq (wpM.region ?_)))
 refine LM.mv rfl <| LM.as rfl <| nA [(6, _)] <| wpM.ret ?_
 refine qL Tryz.results105 rfl fun w' hm' hc' hg' => ?_
 exact rwn_leaf hss1 hs60 h43 hm' (by (repeat' (first | exact SubM.nil _ | refine SubM.cons (by rfl) ?_ | refine SubM.app ?_))) hc' (inn_of hmm1) hin60
def RwD (n0 j i : Nat) (hs : List Bh) (rs : List Rw) (ad : Option Addr) (n cap : Nat) (u : Value) (m : Mem0) : Prop :=
  ∃ h' mo' ms', u = .tuple #[] ∧ m = mo' ++ ms' ∧ Sl fBh 164 1 n0 (hs.set j h') (.slice ad n cap) mo' ∧ h'.n = rs.length - 1 ∧ Sl fRw 166 2 n0 (rs.eraseIdx i) (.slice h'.ad h'.n h'.cap) ms'
theorem rwd_leaf {n0 j i n n' cap cap' : Nat} {hs : List Bh} {rs : List Rw} {ad ad' : Option Addr} {mo ms mo' ms' M : Mem0} {w w' : World} (hi : i < rs.length) (ho : Sl fBh 164 1 n0 (hs.set j ⟨ad', n', cap'⟩) (.slice ad n cap) mo') (hr : Sl fRw 166 2 n0 (rs.eraseIdx i) (.slice ad' n' cap') ms')
    (hm : Mem w' M) (hs' : SubM M (mo' ++ (ms' ++ []))) (hc : Chg (inM (mo ++ ms)) w w') (h1 : inn mo w.heap.size mo') (h2 : inn ms w.heap.size ms') :
    Upd (mo ++ ms) (fun u m => RwD n0 j i hs rs ad n cap u m) w (.tuple #[]) w' := by
  rw [List.append_nil] at hs'
  refine ⟨hc, _, ⟨⟨ad', n', cap'⟩, mo', ms', rfl, rfl, ho, hr.len.1.trans (by rw [List.length_eraseIdx, if_pos hi]), hr⟩, hs'.mem w' hm, fun p hp => ?_⟩
  rcases List.mem_append.1 hp with hp | hp
  · exact (h1 p hp).imp id (fun ⟨q, hq, e⟩ => ⟨q, List.mem_append_left _ hq, e⟩)
  · exact (h2 p hp).imp id (fun ⟨q, hq, e⟩ => ⟨q, List.mem_append_right _ hq, e⟩)
theorem tclean_yes {n0 b n cap : Nat} {ad : Option Addr} {most each mst : Int} {bs bh n1 : Nat} {hs : List Bh} {rs : List Rw} {mo ms mq : Mem0} {tk : Int} (key : Int) (j i : Nat) (w : World) (hn : n = hs.length) (hn64 : n ≤ 64) (ho : Sl fBh 164 1 n0 hs (.slice ad n cap) mo) (hj : j < hs.length) (hbk : bucketF key (n : Nat) = (j : Nat)) (hr : Sl fRw 166 2 n0 rs (.slice (bg hs j).ad (bg hs j).n (bg hs j).cap) ms) (hi : i < rs.length) (hk : (rg rs i).key = key) (hno : ∀ i', i' < i → (rg rs i').key ≠ key) (hq : FoM mst n1 (rg rs i).b [] tk mq) (hM : Mem w (tbC b ad n cap most each bs bh :: (mo ++ (ms ++ mq)))) : Ret Tryz.prog 131 #[.pointer (some ⟨b, 0, none⟩), .int .i64 key] w (Upd (mo ++ ms) (fun u m => RwD n0 j i hs rs ad n cap u m) w) := by
 have hrl := hr.len.1; have hrm : rs.length ≤ 9223372036854775807 := Nat.le_trans hr.len.2.1 (by unfold maxLen; decide); generalize hhn : (bg hs j).n = hn0 at hr hrl; generalize hha : (bg hs j).ad = ha0 at hr; generalize hhc : (bg hs j).cap = hc0 at hr
 refine Ret.enterM Tryz.func131 rfl Tryz.ntmps131 rfl (tbC b ad n cap most each bs bh :: (mo ++ (ms ++ (mq ++ [])))) (inM (mo ++ ms)) aM ?_
 refine wR <| LM.mv rfl <| LM.mv rfl <| LM.nc rfl <| LM.val (ovf 107 rfl rfl rfl rfl) ?_
 refine LM.rd (oml rfl rfl rfl) ?_
 refine LM.val (ov_len Tryz.underlying107 rfl) ?_
 refine cE Tryz.func137 rfl (fun w hm hc hg => bucket_spec key (n : Nat) w om) ?_
 rw [hbk]
 refine LM.as rfl <| nB [(0, _), (1, _), (4, _)] <| LM.mv rfl <| LM.nc rfl <| LM.val (ovf 107 rfl rfl rfl rfl) ?_
 refine LM.rd (oml rfl rfl rfl) ?_
 refine LM.mv rfl ?_
 refine LM.val (ov_idxSN au6 Tryz.underlying107 Tryz.sizeOf164 rfl rfl om) ?_
 refine LM.rd (om_sl1 asm ir Tryz.isAgg164 rfl rfl au3 (by rfl)) ?_
 rw [hhn, hha, hhc]
 refine LM.val (ov_len Tryz.underlying164 rfl) <| LM.mv rfl <| nA [(0, _), (1, _), (4, _), (20, _), (21, _), (22, _)] <| wpM.block ?_
 refine wpM.loopK0 (α := Nat) (fun i1 => [(22, .int .i64 (i1 : Nat))]) [(0, _), (1, _), (4, _), (20, _), (21, _)] (fun i1 => tbC b ad n cap most each bs bh :: (mo ++ (ms ++ (mq ++ [])))) (fun i1 => i1 ≤ i) (fun i1 => rs.length - i1) (0) ⟨au2, rfl, rfl, rfl, rfl, rfl, trivial⟩ au1 (Nat.zero_le _) ?_
 rintro i1 hi1
 change wpM _ _ _ _ _ _ _ (tbC b ad n cap most each bs bh :: (mo ++ (ms ++ (mq ++ [])))) _ _ _
 refine wR <| LM.val (ov_lss rfl rfl) <| nA [(0, _), (1, _), (4, _), (20, _), (21, _), (22, _), (23, _)] <| wpM.seq ?_
 refine wpM.condD rfl (fun h1 => ?_) (fun h1 => ?_)
 ·
  refine wpM.skip <| QM.then <| wpM.seq <| wpM.block <| wR <| LM.mv rfl ?_
  refine LM.val (ov_idxSN au6 Tryz.underlying164 Tryz.sizeOf166 rfl rfl om) ?_
  refine LM.rd (om_slA asm ir Tryz.isAgg166 Tryz.sizeOf166 rfl au3) ?_
  refine LM.alloc Tryz.zeroValue166 rfl (fun b6 hb6 => ?_)
  refine LM.as rfl ?_
  refine LM.stW Tryz.sizeOf166 rfl rfl rfl rfl au7 auH ?_
  refine nB [(0, _), (1, _), (4, _), (5, _), (6, _), (20, _), (21, _), (22, _)] <| LM.val (ovf 3 rfl rfl rfl rfl) ?_
  refine LM.rd (oml rfl rfl rfl) ?_
  refine LM.mv rfl <| LM.val (ov_eql rfl rfl) <| LM.mv rfl ?_
  refine LM.splitD (t := 31) rfl (fun h2 => ?_) (fun h2 => ?_)
  ·
   have ei : i1 = i := (by rcases Nat.lt_or_ge i1 i with z | z; exact absurd h2 (hno i1 z); omega); subst ei
   refine LM.sp 31 rfl rfl rfl <| LM.val (ovf 136 rfl rfl rfl rfl) <| LM.sp 31 rfl rfl rfl ?_
   refine LM.rd (oml rfl rfl rfl) ?_
   refine LM.sp 31 rfl rfl rfl ?_
   refine cE Tryz.func106 rfl (fun w hm hc hg => foLen_spec w hq (hm.pick mq)) ?_
   refine LM.sp 31 rfl rfl rfl <| LM.val (ov_eql rfl rfl) <| LM.val (ov_pickT rfl rfl) <| nA [(0, _), (1, _), (4, _), (5, _), (20, _), (21, _), (22, _), (36, _)] ?_
   refine wpM.condD rfl (fun h3 => ?_) (fun h3 => ?_)
   ·
    refine wpM.seq ?_
    refine wpM.keep (tbC b ad n cap most each bs bh :: (mo ++ [])) (fun _ => True) (.one 0 0 (.one 1 0 (.one 2 0 (.one 3 1 (.one 4 0 (.one 5 0 (.one 6 0 (.one 7 0 (.one 8 1 (.one 9 0 (.one 10 0 (.one 11 1 (.one 12 0 (.one 13 0 (.one 14 0 (.one 15 0 (.one 16 0 (.one 17 1 (.one 18 0 (.one 19 0 (.one 20 1 (.one 21 0 (.one 22 0 (.one 23 0 (.one 24 2 (.one 25 0 (.last 26))))))))))))))))))))))))))) kr kr au1 (fun _ _ => trivial) ?_
    refine KD.val rfl rfl (ov_move rfl) <| KD.val rfl rfl (ov_nilCheck rfl) <| KD.val rfl rfl (ovf 107 rfl rfl rfl rfl) ?_
    refine KD.rd rfl rfl (oml rfl rfl rfl) ?_
    refine KD.val rfl rfl (ov_move rfl) <| KD.val rfl rfl (ov_move rfl) <| KD.val rfl rfl (ov_nilCheck rfl) <| KD.val rfl rfl (ovf 107 rfl rfl rfl rfl) ?_
    refine KD.rd rfl rfl (oml rfl rfl rfl) ?_
    refine KD.val rfl rfl (ov_move rfl) ?_
    refine KD.val rfl rfl (ov_idxSN au6 Tryz.underlying107 Tryz.sizeOf164 rfl rfl om) ?_
    refine KD.rd rfl rfl (om_sl1 asm ir Tryz.isAgg164 rfl rfl au3 (by rfl)) ?_
    rw [hhn, hha, hhc]
    refine KD.val rfl rfl (ov_move rfl) ?_
    refine KD.val rfl rfl (ov_subHi Tryz.underlying164 Tryz.sizeOf166 rfl rfl om (by have := hr.len; omega)) ?_
    rw [Int.toNat_natCast]
    refine KD.val rfl rfl (ov_move rfl) <| KD.val rfl rfl (ov_nilCheck rfl) <| KD.val rfl rfl (ovf 107 rfl rfl rfl rfl) ?_
    refine KD.rd rfl rfl (oml rfl rfl rfl) ?_
    refine KD.val rfl rfl (ov_move rfl) ?_
    refine KD.val rfl rfl (ov_idxSN au6 Tryz.underlying107 Tryz.sizeOf164 rfl rfl om) ?_
    refine KD.rd rfl rfl (om_sl1 asm ir Tryz.isAgg164 rfl rfl au3 (by rfl)) ?_
    rw [hhn, hha, hhc]
    refine KD.val rfl rfl (ov_move rfl) ?_
    refine KD.val rfl rfl (ov_add64 rfl rfl om) ?_
    refine KD.val rfl rfl (ov_subLo (i1 + 1) Tryz.underlying164 Tryz.sizeOf166 rfl rfl om om) ?_
    refine KD.one rfl ?_
    refine LM.appDel (f := fRw) (n := hn0) (cap := hc0) i1 Tryz.underlying164 Tryz.typeInfo166 rfl rfl rfl rfl rfl hr ir (by intro _ u hu; simp [fRw] at hu; (repeat (first | (rcases hu with rfl | hu) | subst hu | rfl))) om (fun p hp _ => inM_ar p hp) (fun n61 m61 hn61 hs61 hin61 => ?_)
    refine LM.nil ?_
    refine kq1 ?_
    refine KD.val rfl rfl (ov_idxSN au6 Tryz.underlying107 Tryz.sizeOf164 rfl rfl om) ?_
    refine KD.last rfl ?_
    refine LM.stS ((⟨ha0, n61, hc0⟩ : Bh)) (j := 0) (i := j) asm ir Tryz.sizeOf164 rfl rfl rfl au3 rfl (by decide) (by rfl) rfl (fun p hp hlt => by first | exact inM_al p hp | exact inM_ar p hp) (fun ms2 hss2 hmm2 => ?_)
    refine LM.nil ?_
    refine QM.qn ?_
    refine QM.sub (e' := []) trivial (QM.then ?_)
    refine wpM.ret <| QM.block_ret <| QM.then_ret <| QM.then_ret <| QM.block_ret ?_
    refine QM.leave (.inl rfl) [] Tryz.results131 rfl ?_
    intro w' hm' hc' hg'
    exact rwd_leaf hi hss2 hs61 hm' (by (repeat' (first | exact SubM.nil _ | refine SubM.cons (by rfl) ?_ | refine SubM.app ?_))) hc' (inn_of hmm2) (inn_of hin61)
   first | cases h3 | exact absurd rfl h3 | (simp at h3; done)
  refine LM.dr 31 rfl rfl rfl <| LM.dr 31 rfl rfl rfl <| LM.dr 31 rfl rfl rfl <| LM.dr 31 rfl rfl rfl <| LM.val (ov_pickF rfl rfl) <| nA [(0, _), (1, _), (4, _), (5, _), (20, _), (21, _), (22, _), (36, _)] ?_
  refine wpM.condF rfl ?_
  refine wpM.skip <| QM.block_normal ?_
  refine QM.then (wpM.region ?_)
  refine LM.val (ov_add64 rfl rfl om) ?_
  refine LM.mv rfl <| nC [(0, _), (1, _), (4, _), (20, _), (21, _), (22, _)] ?_
  refine QM.againK (i1 + 1) ⟨au2, rfl, rfl, rfl, rfl, rfl, trivial⟩ au1 (fun _ h => h) ?_ ?_
  · rcases Nat.lt_or_ge i1 i with z | z; omega; exact absurd (by rw [show i1 = i by omega]; exact hk) h2
  · omega
 omega
theorem tclean_no {n0 b n cap : Nat} {ad : Option Addr} {most each mst : Int} {bs bh n1 : Nat} {hs : List Bh} {rs : List Rw} {mo ms mq : Mem0} {tk : Int} {q : List (Int × Wt)} (key : Int) (j i : Nat) (w : World) (hn : n = hs.length) (hn64 : n ≤ 64) (ho : Sl fBh 164 1 n0 hs (.slice ad n cap) mo) (hj : j < hs.length) (hbk : bucketF key (n : Nat) = (j : Nat)) (hr : Sl fRw 166 2 n0 rs (.slice (bg hs j).ad (bg hs j).n (bg hs j).cap) ms) (hk : ∀ i', i' < rs.length → (rg rs i').key = key → i' = i) (hq : FoM mst n1 (rg rs i).b q tk mq) (hq0 : 0 < q.length) (hM : Mem w (tbC b ad n cap most each bs bh :: (mo ++ (ms ++ mq)))) : Ret Tryz.prog 131 #[.pointer (some ⟨b, 0, none⟩), .int .i64 key] w (fun u w' => u = .tuple #[] ∧ Ext w w') := by
 have hrl := hr.len.1; have hrm : rs.length ≤ 9223372036854775807 := Nat.le_trans hr.len.2.1 (by unfold maxLen; decide); generalize hhn : (bg hs j).n = hn0 at hr hrl; generalize hha : (bg hs j).ad = ha0 at hr; generalize hhc : (bg hs j).cap = hc0 at hr
 refine Ret.enterM Tryz.func131 rfl Tryz.ntmps131 rfl (tbC b ad n cap most each bs bh :: (mo ++ (ms ++ (mq ++ [])))) (no) aM ?_
 refine wR <| LM.mv rfl <| LM.mv rfl <| LM.nc rfl <| LM.val (ovf 107 rfl rfl rfl rfl) ?_
 refine LM.rd (oml rfl rfl rfl) ?_
 refine LM.val (ov_len Tryz.underlying107 rfl) ?_
 refine cE Tryz.func137 rfl (fun w hm hc hg => bucket_spec key (n : Nat) w om) ?_
 rw [hbk]
 refine LM.as rfl <| nB [(0, _), (1, _), (4, _)] <| LM.mv rfl <| LM.nc rfl <| LM.val (ovf 107 rfl rfl rfl rfl) ?_
 refine LM.rd (oml rfl rfl rfl) ?_
 refine LM.mv rfl ?_
 refine LM.val (ov_idxSN au6 Tryz.underlying107 Tryz.sizeOf164 rfl rfl om) ?_
 refine LM.rd (om_sl1 asm ir Tryz.isAgg164 rfl rfl au3 (by rfl)) ?_
 rw [hhn, hha, hhc]
 refine LM.val (ov_len Tryz.underlying164 rfl) <| LM.mv rfl <| nA [(0, _), (1, _), (4, _), (20, _), (21, _), (22, _)] <| wpM.block ?_
 refine wpM.loopK0 (α := Nat) (fun i1 => [(22, .int .i64 (i1 : Nat))]) [(0, _), (1, _), (4, _), (20, _), (21, _)] (fun i1 => tbC b ad n cap most each bs bh :: (mo ++ (ms ++ (mq ++ [])))) (fun i1 => i1 ≤ rs.length) (fun i1 => rs.length - i1) (0) ⟨au2, rfl, rfl, rfl, rfl, rfl, trivial⟩ au1 (Nat.zero_le _) ?_
 rintro i1 hi1
 change wpM _ _ _ _ _ _ _ (tbC b ad n cap most each bs bh :: (mo ++ (ms ++ (mq ++ [])))) _ _ _
 refine wR <| LM.val (ov_lss rfl rfl) <| nA [(0, _), (1, _), (4, _), (20, _), (21, _), (22, _), (23, _)] <| wpM.seq ?_
 refine wpM.condD rfl (fun h1 => ?_) (fun h1 => ?_)
 ·
  refine wpM.skip <| QM.then <| wpM.seq <| wpM.block <| wR <| LM.mv rfl ?_
  refine LM.val (ov_idxSN au6 Tryz.underlying164 Tryz.sizeOf166 rfl rfl om) ?_
  refine LM.rd (om_slA asm ir Tryz.isAgg166 Tryz.sizeOf166 rfl au3) ?_
  refine LM.alloc Tryz.zeroValue166 rfl (fun b6 hb6 => ?_)
  refine LM.as rfl ?_
  refine LM.stW Tryz.sizeOf166 rfl rfl rfl rfl au7 auH ?_
  refine nB [(0, _), (1, _), (4, _), (5, _), (6, _), (20, _), (21, _), (22, _)] <| LM.val (ovf 3 rfl rfl rfl rfl) ?_
  refine LM.rd (oml rfl rfl rfl) ?_
  refine LM.mv rfl <| LM.val (ov_eql rfl rfl) <| LM.mv rfl ?_
  refine LM.splitD (t := 31) rfl (fun h2 => ?_) (fun h2 => ?_)
  ·
   have ei : i1 = i := hk i1 om h2; subst ei
   refine LM.sp 31 rfl rfl rfl <| LM.val (ovf 136 rfl rfl rfl rfl) <| LM.sp 31 rfl rfl rfl ?_
   refine LM.rd (oml rfl rfl rfl) ?_
   refine LM.sp 31 rfl rfl rfl ?_
   refine cE Tryz.func106 rfl (fun w hm hc hg => foLen_spec w hq (hm.pick mq)) ?_
   refine LM.sp 31 rfl rfl rfl <| LM.val (ov_eql rfl rfl) <| LM.val (ov_pickT rfl rfl) <| nA [(0, _), (1, _), (4, _), (5, _), (20, _), (21, _), (22, _), (36, _)] ?_
   refine wpM.condD rfl (fun h3 => ?_) (fun h3 => ?_)
   ·
    omega
   refine wpM.skip <| QM.block_normal ?_
   refine QM.then (wpM.region ?_)
   refine LM.val (ov_add64 rfl rfl om) ?_
   refine LM.mv rfl <| nC [(0, _), (1, _), (4, _), (20, _), (21, _), (22, _)] ?_
   refine QM.againK (i1 + 1) ⟨au2, rfl, rfl, rfl, rfl, rfl, trivial⟩ au1 (fun _ h => h) ?_ ?_
   · omega
   · omega
  refine LM.dr 31 rfl rfl rfl <| LM.dr 31 rfl rfl rfl <| LM.dr 31 rfl rfl rfl <| LM.dr 31 rfl rfl rfl <| LM.val (ov_pickF rfl rfl) <| nA [(0, _), (1, _), (4, _), (5, _), (20, _), (21, _), (22, _), (36, _)] ?_
  refine wpM.condF rfl ?_
  refine wpM.skip <| QM.block_normal ?_
  refine QM.then (wpM.region ?_)
  refine LM.val (ov_add64 rfl rfl om) ?_
  refine LM.mv rfl <| nC [(0, _), (1, _), (4, _), (20, _), (21, _), (22, _)] ?_
  refine QM.againK (i1 + 1) ⟨au2, rfl, rfl, rfl, rfl, rfl, trivial⟩ au1 (fun _ h => h) ?_ ?_
  · omega
  · omega
 refine wpM.exit <| QM.then_exit <| QM.then_exit <| QM.block_hit ?_
 refine QM.leave (.inr rfl) [] Tryz.results131 rfl ?_
 intro w' hm' hc' hg'
 exact ⟨rfl, hc'⟩
def fk (key : Int) : List Rw → Option Rw
  | [] => none
  | r :: rs => if r.key = key then some r else fk key rs
def RU (rs : List Rw) : Prop := (rs.map (·.key)).Nodup
theorem fk_some : ∀ {rs : List Rw} {key : Int} {r : Rw}, fk key rs = some r → ∃ i, i < rs.length ∧ rg rs i = r ∧ r.key = key ∧ ∀ i', i' < i → (rg rs i').key ≠ key
  | [], _, _, h => by cases h
  | x :: rs, key, r, h => by
    unfold fk at h
    by_cases c : x.key = key
    · rw [if_pos c] at h; cases h
      exact ⟨0, by simp, rfl, c, fun i' hi => by cases hi⟩
    · rw [if_neg c] at h
      obtain ⟨i, h1, h2, h3, h4⟩ := fk_some h
      refine ⟨i + 1, by simp only [List.length_cons]; omega, h2, h3, fun i' hi => ?_⟩
      cases i' with
      | zero => exact c
      | succ i' => exact h4 i' om
theorem fk_none : ∀ {rs : List Rw} {key : Int}, fk key rs = none → ∀ i, i < rs.length → (rg rs i).key ≠ key
  | [], _, _, i, hi => by cases hi
  | x :: rs, key, h, i, hi => by
    unfold fk at h
    by_cases c : x.key = key
    · rw [if_pos c] at h; cases h
    · rw [if_neg c] at h
      cases i with
      | zero => exact c
      | succ i => exact fk_none h i (Nat.lt_of_succ_lt_succ hi)
theorem fk_snoc : ∀ {rs : List Rw} (r : Rw) (k : Int), fk r.key rs = none → fk k (rs ++ [r]) = if k = r.key then some r else fk k rs
  | [], r, k, _ => by
    show (if r.key = k then some r else none) = _
    by_cases e : k = r.key
    · rw [if_pos e.symm, if_pos e]
    · rw [if_neg (fun z => e z.symm), if_neg e]; rfl
  | x :: rs, r, k, h => by
    unfold fk at h
    by_cases c : x.key = r.key
    · rw [if_pos c] at h; cases h
    · rw [if_neg c] at h
      show (if x.key = k then some x else fk k (rs ++ [r])) = if k = r.key then some r else if x.key = k then some x else fk k rs
      rw [fk_snoc r k h]
      by_cases e : x.key = k
      · rw [if_pos e, if_neg (by rw [← e]; exact c), if_pos e]
      · rw [if_neg e, if_neg e]
theorem fk_set : ∀ {rs : List Rw} {i : Nat} {r' : Rw} (k : Int), i < rs.length → (rg rs i).key = r'.key → (∀ i', i' < i → (rg rs i').key ≠ r'.key) → fk k (rs.set i r') = if k = r'.key then some r' else fk k rs
  | [], i, r', k, h, _, _ => by cases h
  | x :: rs, 0, r', k, _, h1, _ => by
    have h1' : x.key = r'.key := h1
    show (if r'.key = k then some r' else fk k rs) = if k = r'.key then some r' else if x.key = k then some x else fk k rs
    by_cases e : k = r'.key
    · rw [if_pos e.symm, if_pos e]
    · rw [if_neg (fun z => e z.symm), if_neg e, if_neg (fun z => e (by rw [← z, h1']))]
  | x :: rs, i + 1, r', k, h, h1, h2 => by
    have hx : x.key ≠ r'.key := h2 0 om
    have ih := fk_set (rs := rs) (i := i) (r' := r') k (Nat.lt_of_succ_lt_succ h) h1 (fun i' hi => h2 (i' + 1) om)
    show (if x.key = k then some x else fk k (rs.set i r')) = if k = r'.key then some r' else if x.key = k then some x else fk k rs
    rw [ih]
    by_cases e : x.key = k
    · rw [if_pos e, if_neg (by rw [← e]; exact hx), if_pos e]
    · rw [if_neg e, if_neg e]
theorem fk_no {rs : List Rw} {key : Int} (h : key ∉ rs.map (·.key)) : fk key rs = none := by
  cases hf : fk key rs with
  | none => rfl
  | some r =>
    obtain ⟨i, hi, h2, h3, _⟩ := fk_some hf
    refine absurd (List.mem_map.2 ⟨rg rs i, ?_, by rw [h2]; exact h3⟩) h
    unfold rg; rw [List.getD_eq_getElem?_getD, List.getElem?_eq_getElem hi]; exact List.getElem_mem _
theorem fk_erase : ∀ {rs : List Rw} {i : Nat} (k : Int), RU rs → i < rs.length → fk k (rs.eraseIdx i) = if k = (rg rs i).key then none else fk k rs
  | [], i, k, _, h => by cases h
  | x :: rs, 0, k, hu, _ => by
    have h1 := List.nodup_cons.1 hu
    show fk k rs = if k = x.key then none else if x.key = k then some x else fk k rs
    by_cases e : k = x.key
    · rw [if_pos e, e]; exact fk_no h1.1
    · rw [if_neg e, if_neg (fun z => e z.symm)]
  | x :: rs, i + 1, k, hu, h => by
    have h1 := List.nodup_cons.1 hu
    have hi := Nat.lt_of_succ_lt_succ h
    have ih := fk_erase (rs := rs) (i := i) k h1.2 hi
    show (if x.key = k then some x else fk k (rs.eraseIdx i)) = if k = (rg rs i).key then none else if x.key = k then some x else fk k rs
    rw [ih]
    by_cases e : x.key = k
    · rw [if_pos e, if_neg ?_, if_pos e]
      intro z
      refine h1.1 (List.mem_map.2 ⟨rg rs i, ?_, by show (rg rs i).key = x.key; rw [← z, e]⟩)
      unfold rg; rw [List.getD_eq_getElem?_getD, List.getElem?_eq_getElem hi]; exact List.getElem_mem _
    · rw [if_neg e, if_neg e]
theorem RU.snoc {rs : List Rw} (h : RU rs) {r : Rw} (hn : fk r.key rs = none) : RU (rs ++ [r]) := by
  unfold RU at *
  rw [List.map_append, List.nodup_append]
  refine ⟨h, by simp, fun a ha b hb e => ?_⟩
  simp only [List.map_cons, List.map_nil, List.mem_singleton] at hb
  subst hb; subst e
  obtain ⟨x, hx, hxe⟩ := List.mem_map.1 ha
  obtain ⟨i, hi, rfl⟩ := List.getElem_of_mem hx
  have := fk_none hn i hi
  unfold rg at this; rw [List.getD_eq_getElem?_getD, List.getElem?_eq_getElem hi] at this
  exact this hxe
theorem RU.set {rs : List Rw} (h : RU rs) {i : Nat} {r' : Rw} (hi : i < rs.length) (e : (rg rs i).key = r'.key) : RU (rs.set i r') := by
  unfold RU at *
  rw [List.map_set]
  have : (rs.map (·.key)).set i r'.key = rs.map (·.key) := by
    apply List.ext_getElem?
    intro j
    rw [List.getElem?_set]
    by_cases q : i = j
    · subst q
      rw [if_pos rfl, if_pos (by simpa using hi), List.getElem?_map, List.getElem?_eq_getElem hi]
      unfold rg at e; rw [List.getD_eq_getElem?_getD, List.getElem?_eq_getElem hi] at e
      simp at e ⊢; exact e.symm
    · rw [if_neg q]
  rw [this]; exact h
theorem RU.erase {rs : List Rw} (h : RU rs) (i : Nat) : RU (rs.eraseIdx i) := List.Nodup.sublist ((List.eraseIdx_sublist rs i).map _) h
theorem RU.uniq {rs : List Rw} (h : RU rs) {i i' : Nat} (hi : i < rs.length) (hi' : i' < rs.length) (e : (rg rs i').key = (rg rs i).key) : i' = i := by
  unfold RU at h
  have h1 : ((rs.map (·.key)))[i']'(by simpa using hi') = (rs.map (·.key))[i]'(by simpa using hi) := by
    unfold rg at e
    rw [List.getD_eq_getElem?_getD, List.getD_eq_getElem?_getD, List.getElem?_eq_getElem hi, List.getElem?_eq_getElem hi'] at e
    simpa using e
  exact (List.getElem_inj h).1 h1
def RwM (mst : Int) (n0 : Nat) (rs : List Rw) (mq : Mem0) : Prop := ∃ M : List Mem0, mq = M.flatten ∧ M.length = rs.length ∧ ∀ i, i < rs.length → FoM mst n0 (rg rs i).b (rg rs i).q (rg rs i).tk (M.getD i [])
theorem RwM.ge {mst : Int} {n0 : Nat} {rs : List Rw} {mq : Mem0} (h : RwM mst n0 rs mq) : ∀ p ∈ mq, n0 ≤ p.1 := by
  obtain ⟨M, rfl, h2, h3⟩ := h
  intro p hp
  obtain ⟨m, hm, hpm⟩ := List.mem_flatten.1 hp
  obtain ⟨i, hi, rfl⟩ := List.getElem_of_mem hm
  refine (h3 i om).ge p ?_
  rw [List.getD_eq_getElem?_getD, List.getElem?_eq_getElem hi]; exact hpm
theorem RwM.wlk {mst : Int} {n0 : Nat} {rs : List Rw} {mq : Mem0} (h : RwM mst n0 rs mq) : ∀ p ∈ mq, wlk p.2 = false := by
  obtain ⟨M, rfl, h2, h3⟩ := h
  intro p hp
  obtain ⟨m, hm, hpm⟩ := List.mem_flatten.1 hp
  obtain ⟨i, hi, rfl⟩ := List.getElem_of_mem hm
  refine (h3 i om).wlk p ?_
  rw [List.getD_eq_getElem?_getD, List.getElem?_eq_getElem hi]; exact hpm
theorem RwM.mono {mst : Int} {n0 n1 : Nat} {rs : List Rw} {mq : Mem0} (h : RwM mst n0 rs mq) (k : n1 ≤ n0) : RwM mst n1 rs mq := by
  obtain ⟨M, h1, h2, h3⟩ := h
  exact ⟨M, h1, h2, fun i hi => (h3 i hi).mono k⟩
theorem RwM.snoc {mst : Int} {n0 : Nat} {rs : List Rw} {mq m : Mem0} (h : RwM mst n0 rs mq) {r : Rw} (hr : FoM mst n0 r.b r.q r.tk m) : RwM mst n0 (rs ++ [r]) (mq ++ m) := by
  obtain ⟨M, rfl, h2, h3⟩ := h
  refine ⟨M ++ [m], by simp, by simp [h2], fun i hi => ?_⟩
  rw [List.length_append, List.length_singleton] at hi
  unfold rg
  rw [List.getD_eq_getElem?_getD, List.getD_eq_getElem?_getD]
  by_cases e : i = rs.length
  · rw [List.getElem?_append_right om, List.getElem?_append_right om, h2, e]; simpa using hr
  · rw [List.getElem?_append_left om, List.getElem?_append_left om]
    have := h3 i om
    unfold rg at this
    rw [List.getD_eq_getElem?_getD, List.getD_eq_getElem?_getD] at this; exact this
theorem RwM.split {mst : Int} {n0 : Nat} {rs : List Rw} {mq : Mem0} (h : RwM mst n0 rs mq) {i : Nat} (hi : i < rs.length) : ∃ m rest, FoM mst n0 (rg rs i).b (rg rs i).q (rg rs i).tk m ∧ mq.Perm (m ++ rest) ∧
    (∀ r' m', FoM mst n0 r'.b r'.q r'.tk m' → ∃ mq', RwM mst n0 (rs.set i r') mq' ∧ mq'.Perm (m' ++ rest)) ∧ RwM mst n0 (rs.eraseIdx i) rest := by
  obtain ⟨M, rfl, h2, h3⟩ := h
  have hiM : i < M.length := by omega
  refine ⟨M.getD i [], (M.eraseIdx i).flatten, h3 i hi, fl_perm M i hiM, fun r' m' hr' => ⟨(M.set i m').flatten, ⟨M.set i m', rfl, by rw [List.length_set, List.length_set]; exact h2, fun k hk => ?_⟩, fl_permS hiM m'⟩, M.eraseIdx i, rfl, ?_, fun k hk => ?_⟩
  · rw [List.length_set] at hk
    unfold rg
    rw [List.getD_eq_getElem?_getD (l := rs.set i r'), List.getD_eq_getElem?_getD (l := M.set i m'), List.getElem?_set, List.getElem?_set]
    by_cases e : i = k
    · subst e; rw [if_pos rfl, if_pos hi, if_pos rfl, if_pos hiM]; exact hr'
    · rw [if_neg e, if_neg e]
      have := h3 k hk
      unfold rg at this
      rw [List.getD_eq_getElem?_getD, List.getD_eq_getElem?_getD] at this; exact this
  · rw [List.length_eraseIdx, List.length_eraseIdx, if_pos hi, if_pos hiM, h2]
  · rw [List.length_eraseIdx, if_pos hi] at hk
    unfold rg
    rw [List.getD_eq_getElem?_getD (l := rs.eraseIdx i), List.getD_eq_getElem?_getD (l := M.eraseIdx i), List.getElem?_eraseIdx, List.getElem?_eraseIdx]
    split
    · have := h3 k om
      unfold rg at this
      rw [List.getD_eq_getElem?_getD, List.getD_eq_getElem?_getD] at this; exact this
    · have := h3 (k + 1) om
      unfold rg at this
      rw [List.getD_eq_getElem?_getD, List.getD_eq_getElem?_getD] at this; exact this
def BkM (mst : Int) (n0 : Nat) (h : Bh) (rs : List Rw) (m : Mem0) : Prop := ∃ ms mq, m = ms ++ mq ∧ Sl fRw 166 2 n0 rs (.slice h.ad h.n h.cap) ms ∧ RwM mst n0 rs mq ∧ RU rs
def TkM (mst : Int) (n0 : Nat) (hs : List Bh) (B : List (List Rw)) (mb : Mem0) : Prop := ∃ M : List Mem0, mb = M.flatten ∧ M.length = hs.length ∧ B.length = hs.length ∧ ∀ j, j < hs.length → BkM mst n0 (bg hs j) (B.getD j []) (M.getD j [])
theorem BkM.ge {mst : Int} {n0 : Nat} {h : Bh} {rs : List Rw} {m : Mem0} (k : BkM mst n0 h rs m) : ∀ p ∈ m, n0 ≤ p.1 := by
  obtain ⟨ms, mq, rfl, h1, h2, h3⟩ := k
  intro p hp
  rcases List.mem_append.1 hp with hp | hp
  · exact h1.ge p hp
  · exact h2.ge p hp
theorem BkM.wlk {mst : Int} {n0 : Nat} {h : Bh} {rs : List Rw} {m : Mem0} (k : BkM mst n0 h rs m) : ∀ p ∈ m, Go.Eng.wlk p.2 = false := by
  obtain ⟨ms, mq, rfl, h1, h2, h3⟩ := k
  intro p hp
  rcases List.mem_append.1 hp with hp | hp
  · exact h1.wlk p hp
  · exact h2.wlk p hp
theorem BkM.mono {mst : Int} {n0 n1 : Nat} {h : Bh} {rs : List Rw} {m : Mem0} (k : BkM mst n0 h rs m) (hn : n1 ≤ n0) : BkM mst n1 h rs m := by
  obtain ⟨ms, mq, h0, h1, h2, h3⟩ := k
  exact ⟨ms, mq, h0, h1.mono hn, h2.mono hn, h3⟩
theorem TkM.ge {mst : Int} {n0 : Nat} {hs : List Bh} {B : List (List Rw)} {mb : Mem0} (h : TkM mst n0 hs B mb) : ∀ p ∈ mb, n0 ≤ p.1 := by
  obtain ⟨M, rfl, h2, h3, h4⟩ := h
  intro p hp
  obtain ⟨m, hm, hpm⟩ := List.mem_flatten.1 hp
  obtain ⟨i, hi, rfl⟩ := List.getElem_of_mem hm
  refine (h4 i om).ge p ?_
  rw [List.getD_eq_getElem?_getD, List.getElem?_eq_getElem hi]; exact hpm
theorem TkM.wlk {mst : Int} {n0 : Nat} {hs : List Bh} {B : List (List Rw)} {mb : Mem0} (h : TkM mst n0 hs B mb) : ∀ p ∈ mb, Go.Eng.wlk p.2 = false := by
  obtain ⟨M, rfl, h2, h3, h4⟩ := h
  intro p hp
  obtain ⟨m, hm, hpm⟩ := List.mem_flatten.1 hp
  obtain ⟨i, hi, rfl⟩ := List.getElem_of_mem hm
  refine (h4 i om).wlk p ?_
  rw [List.getD_eq_getElem?_getD, List.getElem?_eq_getElem hi]; exact hpm
theorem TkM.mono {mst : Int} {n0 n1 : Nat} {hs : List Bh} {B : List (List Rw)} {mb : Mem0} (h : TkM mst n0 hs B mb) (hn : n1 ≤ n0) : TkM mst n1 hs B mb := by
  obtain ⟨M, h1, h2, h3, h4⟩ := h
  exact ⟨M, h1, h2, h3, fun j hj => (h4 j hj).mono hn⟩
theorem TkM.split {mst : Int} {n0 : Nat} {hs : List Bh} {B : List (List Rw)} {mb : Mem0} (h : TkM mst n0 hs B mb) {j : Nat} (hj : j < hs.length) : ∃ m rest, BkM mst n0 (bg hs j) (B.getD j []) m ∧ mb.Perm (m ++ rest) ∧
    (∀ h' rs' m', BkM mst n0 h' rs' m' → ∃ mb', TkM mst n0 (hs.set j h') (B.set j rs') mb' ∧ mb'.Perm (m' ++ rest)) := by
  obtain ⟨M, rfl, h2, h3, h4⟩ := h
  have hjM : j < M.length := by omega
  refine ⟨M.getD j [], (M.eraseIdx j).flatten, h4 j hj, fl_perm M j hjM, fun h' rs' m' hb => ⟨(M.set j m').flatten, ⟨M.set j m', rfl, by rw [List.length_set, List.length_set]; exact h2, by rw [List.length_set, List.length_set]; exact h3, fun k hk => ?_⟩, fl_permS hjM m'⟩⟩
  rw [List.length_set] at hk
  unfold bg
  rw [List.getD_eq_getElem?_getD (l := hs.set j h'), List.getD_eq_getElem?_getD (l := M.set j m'), List.getD_eq_getElem?_getD (l := B.set j rs'), List.getElem?_set, List.getElem?_set, List.getElem?_set]
  by_cases e : j = k
  · subst e; rw [if_pos rfl, if_pos hj, if_pos rfl, if_pos hjM, if_pos rfl, if_pos om]; exact hb
  · rw [if_neg e, if_neg e, if_neg e]
    have := h4 k hk
    unfold bg at this
    rw [List.getD_eq_getElem?_getD, List.getD_eq_getElem?_getD, List.getD_eq_getElem?_getD] at this; exact this
def bk (key : Int) (n : Nat) : Nat := (bucketF key (n : Nat)).toNat
theorem bk_lt {key : Int} {n : Nat} (h0 : 0 < n) (h : n ≤ 64) : bk key n < n ∧ bucketF key (n : Nat) = (bk key n : Nat) := by
  have h1 := bucket_rng key (n : Nat) om
  unfold bk
  by_cases c : n < 2
  · have := h1.2.2 om; omega
  · have := h1.2.1 om; omega
structure RoI (each : Int) (n0 n cap : Nat) (ad : Option Addr) (R : Nat) (F : Int → Option Rw) (hs : List Bh) (B : List (List Rw)) (mo mb : Mem0) : Prop where
  hn : n = hs.length
  hpos : 0 < n
  h64 : n ≤ 64
  o : Sl fBh 164 1 n0 hs (.slice ad n cap) mo
  t : TkM (newAr each).most n0 hs B mb
  r : ∀ j, j < n → (B.getD j []).length ≤ R
  f : ∀ key, F key = fk key (B.getD (bk key n) [])
def RoM (each : Int) (n0 n cap : Nat) (ad : Option Addr) (R : Nat) (F : Int → Option Rw) (m : Mem0) : Prop := ∃ hs B mo mb, m = mo ++ mb ∧ RoI each n0 n cap ad R F hs B mo mb
theorem RoM.ge {each : Int} {n0 n cap : Nat} {ad : Option Addr} {R : Nat} {F : Int → Option Rw} {m : Mem0} (h : RoM each n0 n cap ad R F m) : ∀ p ∈ m, n0 ≤ p.1 := by
  obtain ⟨hs, B, mo, mb, rfl, h⟩ := h
  intro p hp
  rcases List.mem_append.1 hp with hp | hp
  · exact h.o.ge p hp
  · exact h.t.ge p hp
theorem RoM.wlk {each : Int} {n0 n cap : Nat} {ad : Option Addr} {R : Nat} {F : Int → Option Rw} {m : Mem0} (h : RoM each n0 n cap ad R F m) : ∀ p ∈ m, Go.Eng.wlk p.2 = false := by
  obtain ⟨hs, B, mo, mb, rfl, h⟩ := h
  intro p hp
  rcases List.mem_append.1 hp with hp | hp
  · exact h.o.wlk p hp
  · exact h.t.wlk p hp
theorem RoM.mono {each : Int} {n0 n1 n cap : Nat} {ad : Option Addr} {R : Nat} {F : Int → Option Rw} {m : Mem0} (h : RoM each n0 n cap ad R F m) (k : n1 ≤ n0) : RoM each n1 n cap ad R F m := by
  obtain ⟨hs, B, mo, mb, e, h⟩ := h
  exact ⟨hs, B, mo, mb, e, h.hn, h.hpos, h.h64, h.o.mono k, h.t.mono k, h.r, h.f⟩
theorem RoM.more {each : Int} {n0 n cap : Nat} {ad : Option Addr} {R R' : Nat} {F : Int → Option Rw} {m : Mem0} (h : RoM each n0 n cap ad R F m) (k : R ≤ R') : RoM each n0 n cap ad R' F m := by
  obtain ⟨hs, B, mo, mb, e, h⟩ := h
  exact ⟨hs, B, mo, mb, e, h.hn, h.hpos, h.h64, h.o, h.t, fun j hj => Nat.le_trans (h.r j hj) k, h.f⟩
theorem RoM.split {each : Int} {n0 n cap : Nat} {ad : Option Addr} {R : Nat} {F : Int → Option Rw} {m : Mem0} (h : RoM each n0 n cap ad R F m) (key : Int) :
    ∃ hs mo rs ms mq rest, n = hs.length ∧ n ≤ 64 ∧ bk key n < hs.length ∧ bucketF key (n : Nat) = (bk key n : Nat) ∧ Sl fBh 164 1 n0 hs (.slice ad n cap) mo ∧ Sl fRw 166 2 n0 rs (.slice (bg hs (bk key n)).ad (bg hs (bk key n)).n (bg hs (bk key n)).cap) ms ∧ RwM (newAr each).most n0 rs mq ∧ RU rs ∧ rs.length ≤ R ∧ F key = fk key rs ∧
      m.Perm (mo ++ (ms ++ (mq ++ rest))) ∧
      (∀ h' rs' mo' ms' mq' R', Sl fBh 164 1 n0 (hs.set (bk key n) h') (.slice ad n cap) mo' → Sl fRw 166 2 n0 rs' (.slice h'.ad h'.n h'.cap) ms' → RwM (newAr each).most n0 rs' mq' → RU rs' → rs'.length ≤ R' → R ≤ R' → ∀ F', (∀ k, F' k = if bk k n = bk key n then fk k rs' else F k) →
        ∃ m', RoM each n0 n cap ad R' F' m' ∧ m'.Perm (mo' ++ (ms' ++ (mq' ++ rest)))) ∧ (∀ k, bk k n = bk key n → F k = fk k rs) := by
  obtain ⟨hs, B, mo, mb, rfl, h⟩ := h
  have hb := bk_lt (key := key) h.hpos h.h64
  have hj : bk key n < hs.length := by rw [← h.hn]; exact hb.1
  obtain ⟨m, rest, ⟨ms, mq, rfl, h1, h2, h3⟩, hp, hk⟩ := h.t.split hj
  have hBl : B.length = hs.length := by obtain ⟨_, _, _, q, _⟩ := h.t; exact q
  refine ⟨hs, mo, B.getD (bk key n) [], ms, mq, rest, h.hn, h.h64, hj, hb.2, h.o, h1, h2, h3, h.r _ hb.1, h.f key, ?_, fun h' rs' mo' ms' mq' R' k1 k2 k3 k4 k5 k6 F' k7 => ?_, fun k e => by rw [h.f k, e]⟩
  · rw [← List.append_assoc ms]; exact hp.append_left mo
  · obtain ⟨mb', q1, q2⟩ := hk h' rs' (ms' ++ mq') ⟨ms', mq', rfl, k2, k3, k4⟩
    refine ⟨mo' ++ mb', ⟨hs.set (bk key n) h', B.set (bk key n) rs', mo', mb', rfl, by rw [List.length_set]; exact h.hn, h.hpos, h.h64, k1, q1, fun j hj' => ?_, fun k => ?_⟩, ?_⟩
    · rw [List.getD_eq_getElem?_getD, List.getElem?_set]
      by_cases e : bk key n = j
      · subst e; rw [if_pos rfl, if_pos om]; exact k5
      · rw [if_neg e]
        have := h.r j hj'
        rw [List.getD_eq_getElem?_getD] at this; omega
    · rw [k7 k, List.getD_eq_getElem?_getD, List.getElem?_set]
      by_cases e : bk k n = bk key n
      · rw [if_pos e, if_pos e.symm, if_pos om]; rfl
      · rw [if_neg e, if_neg (fun z => e z.symm), h.f k, List.getD_eq_getElem?_getD]
    · rw [← List.append_assoc ms']; exact q2.append_left mo'
def fset (F : Int → Option Rw) (key : Int) (v : Option Rw) : Int → Option Rw := fun k => if k = key then v else F k
theorem bg_set {hs : List Bh} {j : Nat} (hj : j < hs.length) : hs.set j (bg hs j) = hs := by
  apply List.ext_getElem?
  intro i
  rw [List.getElem?_set]
  by_cases e : j = i
  · subst e; rw [if_pos rfl, if_pos hj]; unfold bg; rw [List.getD_eq_getElem?_getD, List.getElem?_eq_getElem hj]; rfl
  · rw [if_neg e]
theorem rows_set : ∀ (l : List Rw) (i : Nat) (r' : Rw), i < l.length → fRw (rg l i) = fRw r' → (l.set i r').flatMap fRw = l.flatMap fRw
  | [], i, r', h, _ => by cases h
  | x :: l, 0, r', _, e => by
    have e' : fRw x = fRw r' := e
    simp only [List.set_cons_zero, List.flatMap_cons]; rw [e']
  | x :: l, i + 1, r', h, e => by
    simp only [List.set_cons_succ, List.flatMap_cons]; rw [rows_set l i r' (Nat.lt_of_succ_lt_succ h) e]
section
variable {each most : Int} {n0 n cap b bs bh : Nat} {ad : Option Addr} {R : Nat} {F : Int → Option Rw} {m : Mem0} {key : Int} {r : Rw} {w : World}
theorem rq_some (fr : Bool) (h : RoM each n0 n cap ad R F m) (hF : F key = some r) (hM : Mem w (tbC b ad n cap most each bs bh :: m)) :
    Ret Tryz.prog 105 #[.pointer (some ⟨b, 0, none⟩), .int .i64 key, .bool fr] w (fun u w' => u = .pointer (some ⟨r.b, 0, none⟩) ∧ Ext w w') := by
  obtain ⟨hs, mo, rs, ms, mq, rest, h1, h2, h3, h4, h5, h6, h7, h8, h9, h10, h11, h12, h13⟩ := h.split key
  rw [h10] at hF
  obtain ⟨i, hi, hr, hk, hno⟩ := fk_some hF
  have hM' : Mem w (tbC b ad n cap most each bs bh :: (mo ++ ms)) := hM.part1 (rest := mq ++ rest) (by rw [List.append_assoc]; exact h11)
  have := tqueue_yes key fr (bk key n) i w h1 h2 h5 h3 h4 h6 hi (by rw [hr]; exact hk) hno hM'
  rw [hr] at this; exact this
theorem rq_none (h : RoM each n0 n cap ad R F m) (hF : F key = none) (hM : Mem w (tbC b ad n cap most each bs bh :: m)) :
    Ret Tryz.prog 105 #[.pointer (some ⟨b, 0, none⟩), .int .i64 key, .bool false] w (fun u w' => u = .pointer none ∧ Ext w w') := by
  obtain ⟨hs, mo, rs, ms, mq, rest, h1, h2, h3, h4, h5, h6, h7, h8, h9, h10, h11, h12, h13⟩ := h.split key
  rw [h10] at hF
  have hM' : Mem w (tbC b ad n cap most each bs bh :: (mo ++ ms)) := hM.part1 (rest := mq ++ rest) (by rw [List.append_assoc]; exact h11)
  exact tqueue_no key (bk key n) w h1 h2 h5 h3 h4 h6 (fk_none hF) hM'
theorem rq_new (h : RoM each n0 n cap ad R F m) (hF : F key = none) (hR : R ≤ 1000000000) (hn0 : n0 ≤ w.heap.size) (hM : Mem w (tbC b ad n cap most each bs bh :: m)) :
    Ret Tryz.prog 105 #[.pointer (some ⟨b, 0, none⟩), .int .i64 key, .bool true] w (Upd m (fun u m' => ∃ b', u = .pointer (some ⟨b', 0, none⟩) ∧ RoM each n0 n cap ad (R + 1) (fset F key (some ⟨key, b', [], 0⟩)) m') w) := by
  obtain ⟨hs, mo, rs, ms, mq, rest, h1, h2, h3, h4, h5, h6, h7, h8, h9, h10, h11, h12, h13⟩ := h.split key
  rw [h10] at hF
  have hp : m.Perm ((mo ++ ms) ++ (mq ++ rest)) := by rw [List.append_assoc]; exact h11
  have hM' := hM.part1 hp
  refine (tqueue_new key (bk key n) w h1 h2 h5 h3 h4 h6 om (fk_none hF) hn0 hM').mono (fun u w' hU => ?_)
  refine hU.lift hp hM.tail (fun p hp => ?_) (fun mp' ⟨b', h', mo', ms', mq', q1, q2, q3, q4, q5, q6⟩ => ?_)
  · rcases List.mem_append.1 hp with hp | hp
    · exact h5.wlk p hp
    · exact h6.wlk p hp
  · have hnk : fk (⟨key, b', [], 0⟩ : Rw).key rs = none := hF
    obtain ⟨m', k1, k2⟩ := h12 h' (rs ++ [⟨key, b', [], 0⟩]) mo' ms' (mq ++ mq') (R + 1) q3 q5 (h7.snoc (q6.mono hn0)) (h8.snoc hnk) (by rw [List.length_append, List.length_singleton]; omega) om (fset F key (some ⟨key, b', [], 0⟩)) (fun k => by
      rw [fk_snoc _ k hnk]
      unfold fset
      by_cases e : k = key
      · subst e; rw [if_pos rfl, if_pos rfl, if_pos rfl]
      · rw [if_neg e, if_neg e]
        by_cases e2 : bk k n = bk key n
        · rw [if_pos e2]; exact h13 k e2
        · rw [if_neg e2])
    refine ⟨m', ⟨b', q1, k1⟩, k2.trans ?_⟩
    rw [q2]
    simp only [List.append_assoc]
    refine List.Perm.append_left _ (List.Perm.append_left _ ?_)
    rw [← List.append_assoc, ← List.append_assoc]
    exact List.perm_append_comm.append_right _
theorem rq_split (h : RoM each n0 n cap ad R F m) (hF : F key = some r) : ∃ mq rest, FoM (newAr each).most n0 r.b r.q r.tk mq ∧ m.Perm (mq ++ rest) ∧ (∀ q' tk' mq', FoM (newAr each).most n0 r.b q' tk' mq' → ∃ m', RoM each n0 n cap ad R (fset F key (some { r with q := q', tk := tk' })) m' ∧ m'.Perm (mq' ++ rest)) := by
  obtain ⟨hs, mo, rs, ms, mq, rest, h1, h2, h3, h4, h5, h6, h7, h8, h9, h10, h11, h12, h13⟩ := h.split key
  have hF' := hF
  rw [h10] at hF
  obtain ⟨i, hi, hr, hk, hno⟩ := fk_some hF
  obtain ⟨m1, rest1, k1, k2, k3, _⟩ := h7.split hi
  rw [hr] at k1
  refine ⟨m1, mo ++ (ms ++ (rest1 ++ rest)), k1, h11.trans ?_, fun q' tk' mq' hq => ?_⟩
  · have e1 : (mo ++ (ms ++ (mq ++ rest))).Perm (mo ++ (ms ++ ((m1 ++ rest1) ++ rest))) := (k2.append_right rest).append_left ms |>.append_left mo
    refine e1.trans ?_
    rw [List.append_assoc]
    refine List.Perm.trans ?_ (List.perm_append_comm.trans ?_ : ((mo ++ ms) ++ (rest1 ++ rest) ++ m1).Perm _)
    · simp only [List.append_assoc]
      refine List.Perm.append_left _ (List.Perm.append_left _ ?_)
      rw [← List.append_assoc rest1]
      exact List.perm_append_comm
    · simp only [List.append_assoc]; exact List.Perm.refl _
  · obtain ⟨mq2, j1, j2⟩ := k3 { r with q := q', tk := tk' } mq' hq
    have hke : (rg rs i).key = ({ r with q := q', tk := tk' } : Rw).key := by rw [hr]
    have hSl : Sl fRw 166 2 n0 (rs.set i { r with q := q', tk := tk' }) (.slice (bg hs (bk key n)).ad (bg hs (bk key n)).n (bg hs (bk key n)).cap) ms := by
      have e3 : (rs.set i { r with q := q', tk := tk' }).flatMap fRw = rs.flatMap fRw := rows_set rs i _ hi (by rw [hr]; rfl)
      rcases h6 with ⟨z1, z2, z3⟩ | ⟨z, c, junk, z1, z2, z3, z4, z5, z6⟩
      · subst z3; cases hi
      · exact .inr ⟨z, c, junk, z1, by rw [List.length_set]; exact z2, by unfold arr at *; rw [e3]; exact z3, by rw [List.length_set]; exact z4, z5, by rw [List.length_set]; exact z6⟩
    obtain ⟨m', p1, p2⟩ := h12 (bg hs (bk key n)) (rs.set i { r with q := q', tk := tk' }) mo ms mq2 R (by rw [bg_set h3]; exact h5) hSl j1 (h8.set hi hke) (by rw [List.length_set]; exact h9) (Nat.le_refl _) (fset F key (some { r with q := q', tk := tk' })) (fun k => by
      rw [fk_set k hi hke (fun i' hi' => by show _ ≠ r.key; rw [hk]; exact hno i' hi')]
      unfold fset
      show (if k = key then _ else _) = if bk k n = bk key n then (if k = r.key then _ else _) else _
      rw [hk]
      by_cases e : k = key
      · subst e; rw [if_pos rfl, if_pos rfl, if_pos rfl]
      · rw [if_neg e, if_neg e]
        by_cases e2 : bk k n = bk key n
        · rw [if_pos e2]; exact h13 k e2
        · rw [if_neg e2])
    · refine ⟨m', p1, p2.trans ?_⟩
      have e1 : (mo ++ (ms ++ (mq2 ++ rest))).Perm (mo ++ (ms ++ ((mq' ++ rest1) ++ rest))) := (j2.append_right rest).append_left ms |>.append_left mo
      refine e1.trans ?_
      rw [List.append_assoc]
      refine List.Perm.trans ?_ (List.perm_append_comm.trans ?_ : ((mo ++ ms) ++ (rest1 ++ rest) ++ mq').Perm _)
      · simp only [List.append_assoc]
        refine List.Perm.append_left _ (List.Perm.append_left _ ?_)
        rw [← List.append_assoc rest1]
        exact List.perm_append_comm
      · simp only [List.append_assoc]; exact List.Perm.refl _
theorem rq_push (v : Wt) (h : RoM each n0 n cap ad R F m) (hF : F key = some r) (htk : r.tk ≤ 1000000000) (hn0 : n0 ≤ w.heap.size) (hM : Mem w m) :
    Ret Tryz.prog 130 #[.pointer (some ⟨r.b, 0, none⟩), .agg (fWt v).toArray] w (Upd m (fun u m' => u = .tuple #[.int .i64 (if (newAr each).most ≤ (r.q.length : Int) then 0 else r.tk + 1), .int .i64 (foE (newAr each).most r.q)] ∧ RoM each n0 n cap ad R (fset F key (some { r with q := foX (newAr each).most r.q r.tk v, tk := foT (newAr each).most r.q r.tk })) m') w) := by
  obtain ⟨mq, rest, h1, h2, h3⟩ := rq_split h hF
  refine (foPush_spec v w h1 htk hn0 (hM.part h2)).mono (fun u w' hU => hU.lift h2 hM h1.wlk (fun mp' ⟨e, hq⟩ => ?_))
  obtain ⟨m', k1, k2⟩ := h3 _ _ mp' hq
  exact ⟨m', ⟨e, k1⟩, k2⟩
theorem rq_remove (i : Nat) (h : RoM each n0 n cap ad R F m) (hF : F key = some r) (hi : i < r.q.length) (hM : Mem w m) :
    Ret Tryz.prog 156 #[.pointer (some ⟨r.b, 0, none⟩), .int .i64 (qd r.q i).1] w (Upd m (fun u m' => u = .tuple #[.agg (fWt (qd r.q i).2).toArray, .bool true] ∧ RoM each n0 n cap ad R (fset F key (some { r with q := r.q.eraseIdx i })) m') w) := by
  obtain ⟨mq, rest, h1, h2, h3⟩ := rq_split h hF
  refine (fremove_spec i w h1 hi (hM.part h2)).mono (fun u w' hU => hU.lift h2 hM h1.wlk (fun mp' ⟨e, hq⟩ => ?_))
  obtain ⟨m', k1, k2⟩ := h3 _ _ mp' hq
  exact ⟨m', ⟨e, k1⟩, k2⟩
theorem rq_get (i : Nat) (h : RoM each n0 n cap ad R F m) (hF : F key = some r) (hi : i < r.q.length) (hM : Mem w m) :
    Ret Tryz.prog 123 #[.pointer (some ⟨r.b, 0, none⟩), .int .i64 (qd r.q i).1] w (fun u w' => u = .tuple #[.agg (fWt (qd r.q i).2).toArray, .bool true] ∧ Ext w w') := by
  obtain ⟨mq, rest, h1, h2, h3⟩ := rq_split h hF
  exact foGet_spec i w h1 hi (hM.part h2)
theorem rq_len (h : RoM each n0 n cap ad R F m) (hF : F key = some r) (hM : Mem w m) :
    Ret Tryz.prog 106 #[.pointer (some ⟨r.b, 0, none⟩)] w (fun u w' => u = .int .i64 (r.q.length : Nat) ∧ Ext w w') := by
  obtain ⟨mq, rest, h1, h2, h3⟩ := rq_split h hF
  exact foLen_spec w h1 (hM.part h2)
theorem rq_clean_yes (h : RoM each n0 n cap ad R F m) (hF : F key = some r) (hq : r.q = []) (hM : Mem w (tbC b ad n cap most each bs bh :: m)) :
    Ret Tryz.prog 131 #[.pointer (some ⟨b, 0, none⟩), .int .i64 key] w (Upd m (fun u m' => u = .tuple #[] ∧ RoM each n0 n cap ad R (fset F key none) m') w) := by
  obtain ⟨hs, mo, rs, ms, mq, rest, h1, h2, h3, h4, h5, h6, h7, h8, h9, h10, h11, h12, h13⟩ := h.split key
  rw [h10] at hF
  obtain ⟨i, hi, hr, hk, hno⟩ := fk_some hF
  obtain ⟨m1, rest1, k1, k2, k3, k4⟩ := h7.split hi
  have hkey : (rg rs i).key = key := by rw [hr]; exact hk
  rw [show (rg rs i).q = [] by rw [hr]; exact hq] at k1
  have hp0 : m.Perm ((mo ++ (ms ++ m1)) ++ (rest1 ++ rest)) := by
    refine h11.trans ?_
    simp only [List.append_assoc]
    refine List.Perm.append_left _ (List.Perm.append_left _ ?_)
    rw [← List.append_assoc m1]
    exact k2.append_right rest
  have hp : m.Perm ((mo ++ ms) ++ (m1 ++ (rest1 ++ rest))) := by simp only [List.append_assoc] at *; exact hp0
  refine (tclean_yes key (bk key n) i w h1 h2 h5 h3 h4 h6 hi hkey hno k1 (hM.part1 hp0)).mono (fun u w' hU => ?_)
  refine hU.liftD hp hM.tail (fun p hp => ?_) (fun mp' ⟨h', mo', ms', q1, q2, q3, q4, q5⟩ => ?_)
  · rcases List.mem_append.1 hp with hp | hp
    · exact h5.wlk p hp
    · exact h6.wlk p hp
  obtain ⟨mF, j1, j2⟩ := h12 h' (rs.eraseIdx i) mo' ms' rest1 R q3 q5 k4 (h8.erase i) (by rw [List.length_eraseIdx, if_pos hi]; omega) (Nat.le_refl _) (fset F key none) (fun k => by
    rw [fk_erase k h8 hi, hkey]
    unfold fset
    by_cases e : k = key
    · subst e; rw [if_pos rfl, if_pos rfl, if_pos rfl]
    · rw [if_neg e, if_neg e]
      by_cases e2 : bk k n = bk key n
      · rw [if_pos e2]; exact h13 k e2
      · rw [if_neg e2])
  refine ⟨mF, m1, ⟨q1, j1⟩, ?_⟩
  rw [q2]
  refine List.Perm.trans ?_ (j2.symm.append_right m1)
  simp only [List.append_assoc]
  refine List.Perm.append_left _ (List.Perm.append_left _ ?_)
  rw [← List.append_assoc rest1]
  exact List.perm_append_comm
theorem rq_clean_no (h : RoM each n0 n cap ad R F m) (hF : F key = some r) (hq : 0 < r.q.length) (hM : Mem w (tbC b ad n cap most each bs bh :: m)) :
    Ret Tryz.prog 131 #[.pointer (some ⟨b, 0, none⟩), .int .i64 key] w (fun u w' => u = .tuple #[] ∧ Ext w w') := by
  obtain ⟨hs, mo, rs, ms, mq, rest, h1, h2, h3, h4, h5, h6, h7, h8, h9, h10, h11, h12, h13⟩ := h.split key
  rw [h10] at hF
  obtain ⟨i, hi, hr, hk, hno⟩ := fk_some hF
  obtain ⟨m1, rest1, k1, k2, k3, k4⟩ := h7.split hi
  have hkey : (rg rs i).key = key := by rw [hr]; exact hk
  have hp0 : m.Perm ((mo ++ (ms ++ m1)) ++ (rest1 ++ rest)) := by
    refine h11.trans ?_
    simp only [List.append_assoc]
    refine List.Perm.append_left _ (List.Perm.append_left _ ?_)
    rw [← List.append_assoc m1]
    exact k2.append_right rest
  exact tclean_no key (bk key n) i w h1 h2 h5 h3 h4 h6 (fun i' hi' e => h8.uniq hi hi' (by rw [e, hkey])) k1 (by rw [hr]; exact hq) (hM.part1 hp0)
end
def vSp (key tk : Int) : Value := .agg #[.int .i64 key, .int .i64 tk]
abbrev mE (each : Int) : Int := (newAr each).most
theorem fset_at (F : Int → Option Rw) (key : Int) (v : Option Rw) : fset F key v key = v := if_pos rfl
theorem inM_tr {a c : Nat × Obj} {m : Mem0} : ∀ p ∈ m, inM (a :: c :: m) p.1 := fun p hp => ⟨p, List.mem_cons_of_mem _ (List.mem_cons_of_mem _ hp), rfl⟩
theorem tb_leaf {each most : Int} {n0 n cap b bs bh cl cl' R : Nat} {ad : Option Addr} {F' : Int → Option Rw} {es es' : Array MapEntry} {sp' : List (Int × Value)} {mr mr' M : Mem0} {u0 : Value} {w w' : World} (hR : RoM each n0 n cap ad R F' mr') (he : EnsS .i64 es' cl' sp') (hm : Mem w' M)
    (hs : SubM M (tbC b ad n cap most each bs bh :: (bs, .map es' cl') :: (mr' ++ []))) (hc : Chg (inM (tbC b ad n cap most each bs bh :: (bs, .map es cl) :: mr)) w w') (hin : inn mr w.heap.size mr') :
    Upd (tbC b ad n cap most each bs bh :: (bs, .map es cl) :: mr) (fun u m' => u = u0 ∧ ∃ es' cl' mr', m' = tbC b ad n cap most each bs bh :: (bs, .map es' cl') :: mr' ∧ RoM each n0 n cap ad R F' mr' ∧ EnsS .i64 es' cl' sp') w u0 w' := by
  rw [List.append_nil] at hs
  refine ⟨hc, _, ⟨rfl, es', cl', mr', rfl, hR, he⟩, hs.mem w' hm, fun p hp => ?_⟩
  simp only [List.mem_cons] at hp
  rcases hp with rfl | rfl | hp
  · exact .inr ⟨_, List.mem_cons_self .., rfl⟩
  · exact .inr ⟨(bs, .map es cl), by simp only [List.mem_cons, true_or, or_true], rfl⟩
  · rcases hin p hp with q | ⟨q, hq, e⟩
    · exact .inl q
    · exact .inr ⟨q, List.mem_cons_of_mem _ (List.mem_cons_of_mem _ hq), e⟩
theorem getD_some9 {l : List (Int × Value)} {a : Int} {v z : Value} (h : aget l a = some v) : (aget l a).getD z = v := by rw [h]; rfl
theorem getD_none9 {l : List (Int × Value)} {a : Int} {z : Value} (h : aget l a = none) : (aget l a).getD z = z := by rw [h]; rfl
def entN (each : Int) (F : Int → Option Rw) (v : Wt) (b' : Nat) : Int → Option Rw := if mE each ≤ 0 then F else fset F v.key (some ⟨v.key, b', [(1, v)], 1⟩)
theorem entN_full {each : Int} {F : Int → Option Rw} {v : Wt} {b' : Nat} {x y : Option Rw} (h : mE each ≤ 0) (hF : F v.key = none) : fset (fset (fset F v.key x) v.key y) v.key none = entN each F v b' := by
  unfold entN; rw [if_pos h]
  funext k
  unfold fset
  by_cases e : k = v.key
  · rw [if_pos e, e, hF]
  · rw [if_neg e, if_neg e, if_neg e]
theorem entN_new {each : Int} {F : Int → Option Rw} {v : Wt} {b' : Nat} {x : Option Rw} (h : ¬ mE each ≤ 0) : fset (fset F v.key x) v.key (some { (⟨v.key, b', [], 0⟩ : Rw) with q := foX (mE each) [] 0 v, tk := foT (mE each) [] 0 }) = entN each F v b' := by
  unfold entN; rw [if_neg h]
  have e1 : foX (mE each) [] 0 v = [(1, v)] := if_neg h
  have e2 : foT (mE each) [] 0 = 1 := if_neg h
  funext k
  unfold fset
  by_cases e : k = v.key
  · rw [if_pos e, if_pos e]; show some (Rw.mk _ _ (foX (mE each) [] 0 v) (foT (mE each) [] 0)) = _; rw [e1, e2]
  · rw [if_neg e, if_neg e, if_neg e]
theorem tb_leafN {each most : Int} {n0 n cap b bs bh cl cl' R b' : Nat} {ad : Option Addr} {F : Int → Option Rw} {es es' : Array MapEntry} {sp' : List (Int × Value)} {mr mr' M : Mem0} {u0 : Value} {v : Wt} {w w' : World} (hR : RoM each n0 n cap ad R (entN each F v b') mr') (he : EnsS .i64 es' cl' sp') (hm : Mem w' M)
    (hs : SubM M (tbC b ad n cap most each bs bh :: (bs, .map es' cl') :: (mr' ++ []))) (hc : Chg (inM (tbC b ad n cap most each bs bh :: (bs, .map es cl) :: mr)) w w') (hin : inn mr w.heap.size mr') :
    Upd (tbC b ad n cap most each bs bh :: (bs, .map es cl) :: mr) (fun u m' => u = u0 ∧ ∃ b' es' cl' mr', m' = tbC b ad n cap most each bs bh :: (bs, .map es' cl') :: mr' ∧ RoM each n0 n cap ad R (entN each F v b') mr' ∧ EnsS .i64 es' cl' sp') w u0 w' := by
  obtain ⟨h1, m', ⟨h2, es2, cl2, mr2, h3, h4, h5⟩, h6, h7⟩ := tb_leaf hR he hm hs hc hin
  exact ⟨h1, m', ⟨h2, b', es2, cl2, mr2, h3, h4, h5⟩, h6, h7⟩
theorem tenter_some {each most : Int} {n0 n cap b bs bh cl R : Nat} {ad : Option Addr} {F : Int → Option Rw} {es : Array MapEntry} {sp : List (Int × Value)} {mr : Mem0} {r : Rw} (v : Wt) (w : World) (hR : RoM each n0 n cap ad R F mr) (he : EnsS .i64 es cl sp) (hF : F v.key = some r) (hq : 0 < r.q.length) (htk : r.tk ≤ 1000000000) (hn0 : n0 ≤ w.heap.size) (hM : Mem w (tbC b ad n cap most each bs bh :: (bs, .map es cl) :: mr)) : Ret Tryz.prog 93 #[.pointer (some ⟨b, 0, none⟩), .agg (fWt v).toArray] w (Upd (tbC b ad n cap most each bs bh :: (bs, .map es cl) :: mr) (fun u m' => u = .int .i64 (foE (mE each) r.q) ∧ ∃ es' cl' mr', m' = tbC b ad n cap most each bs bh :: (bs, .map es' cl') :: mr' ∧ RoM each n0 n cap ad R (fset F v.key (some { r with q := foX (mE each) r.q r.tk v, tk := foT (mE each) r.q r.tk })) mr' ∧ EnsS .i64 es' cl' (if mE each ≤ (r.q.length : Int) then sp else aput sp v.who (vSp v.key (r.tk + 1)))) w) := by
 have he1 := he.1
 refine Ret.enterM Tryz.func93 rfl Tryz.ntmps93 rfl (tbC b ad n cap most each bs bh :: (bs, .map es cl) :: (mr ++ [])) ((inM (tbC b ad n cap most each bs bh :: (bs, .map es cl) :: mr))) aM ?_
 refine wR ?_
 refine LM.box rfl rfl (fun b3 hb3 => ?_)
 refine LM.as rfl <| nA [(0, _), (3, _)] <| wpM.seq ?_
 refine wpM.keep ((b3, .cells (fWt v).toArray 85 (0, 0)) :: []) (fun _ => True) (.one 0 0 (.one 1 0 (.one 2 1 (.one 4 1 (.one 3 2 (.one 5 2 (.one 6 0 (.one 7 0 (.one 8 0 (.one 9 0 (.one 10 0 .nil))))))))))) kr kr au1 (fun _ _ => trivial) ?_
 refine KD.val rfl rfl (ov_move rfl) <| KD.val rfl rfl (ovf 3 rfl rfl rfl rfl) ?_
 refine KD.rd rfl rfl (oml rfl rfl rfl) ?_
 refine KD.rd rfl rfl (om_ldW Tryz.isAgg85 Tryz.sizeOf85 rfl rfl) ?_
 refine KD.one rfl ?_
 refine cE Tryz.func105 rfl (fun w hm hc hg => rq_some true hR hF (hm.pick (tbC b ad n cap most each bs bh :: mr))) ?_
 refine LM.nil ?_
 refine kq1 ?_
 refine KD.one rfl ?_
 refine cU Tryz.func130 rfl (fun w hm hc hg => rq_push v hR hF htk (Nat.le_trans hn0 hc.size) (hm.pick mr)) hR.wlk (fun p hp _ => inM_tr p hp) ?_
 rintro u13 m13 ⟨rfl, h13⟩ hin13
 refine LM.nil ?_
 refine kq1 ?_
 refine KD.val rfl rfl (ov_move rfl) ?_
 refine KD.val rfl rfl (ov_extract rfl rfl) ?_
 refine KD.val rfl rfl (ov_extract rfl rfl) ?_
 refine KD.val rfl rfl (ov_assign rfl) <| KD.val rfl rfl (ov_assign rfl) <| KD.nil ?_
 refine QM.sub (e' := [(0, _), (3, _), (5, _), (6, _)]) au9 (QM.then ?_)
 refine wpM.seq <| wR <| LM.mv rfl <| LM.val (ov_neq rfl rfl) <| nA [(0, _), (3, _), (5, _), (6, _), (17, _)] ?_
 refine wpM.condD rfl (fun h1 => ?_) (fun h1 => ?_)
 ·
  have hfull : mE each ≤ (r.q.length : Int) := (by apply Classical.byContradiction; intro z; unfold foE at h1; rw [if_neg z] at h1; exact absurd rfl h1)
  refine wR <| LM.mv rfl <| LM.val (ovf 3 rfl rfl rfl rfl) ?_
  refine LM.rd (oml rfl rfl rfl) ?_
  refine cE Tryz.func131 rfl (fun w hm hc hg => rq_clean_no (r := { r with q := foX (mE each) r.q r.tk v, tk := foT (mE each) r.q r.tk }) h13 (fset_at _ _ _) (by show 0 < (foX (mE each) r.q r.tk v).length; unfold foX; split <;> first | exact hq | (rw [List.length_append, List.length_singleton]; omega)) (hm.pick (tbC b ad n cap most each bs bh :: m13))) ?_
  refine nB [(6, _)] <| LM.mv rfl <| LM.as rfl <| nA [(4, _)] <| wpM.ret <| QM.then_ret ?_
  refine qL Tryz.results93 rfl fun w' hm' hc' hg' => ?_
  rw [if_pos hfull]; exact tb_leaf h13 he hm' (by (repeat' (first | exact SubM.nil _ | refine SubM.cons (by rfl) ?_ | refine SubM.app ?_))) hc' hin13
 have hfull : ¬ mE each ≤ (r.q.length : Int) := (by intro z; unfold foE at h1; rw [if_pos z] at h1; exact absurd h1 (by decide))
 refine wpM.skip <| QM.then <| wpM.seq ?_
 refine wpM.draw [(0, 0), (1, 0), (2, 0), (3, 1), (4, 0), (5, 1), (6, 0), (7, 1), (8, 0), (9, 0), (10, 3)] kr kr ?_
 refine LD.val rfl rfl (ov_move rfl) <| LD.val rfl rfl (ov_nilCheck rfl) <| LD.val rfl rfl (ovf 108 rfl rfl rfl rfl) ?_
 refine LD.rd rfl rfl (oml rfl rfl rfl) ?_
 refine LD.val rfl rfl (ovf 3 rfl rfl rfl rfl) ?_
 refine LD.rd rfl rfl (oml rfl rfl rfl) ?_
 refine LD.val rfl rfl (ovf 3 rfl rfl rfl rfl) ?_
 refine LD.rd rfl rfl (oml rfl rfl rfl) ?_
 refine LD.val rfl rfl (ov_move rfl) ?_
 refine LD.val rfl rfl (ov_build (cs := #[_, _]) rfl (by first | rfl | kernel_rfl)) ?_
 refine LD.tail rfl rfl ?_
 refine LM.mUS Tryz.underlying108 Tryz.underlying3 rfl rfl rfl asm auH (fun esu1 clu1 hesu1 => ?_)
 refine LM.nil ?_
 refine QM.qn ?_
 refine QM.sub (e' := []) trivial (QM.then (wpM.seq (wpM.region ?_)))
 refine LM.as rfl <| nA [(4, _)] <| wpM.ret ?_
 refine qL Tryz.results93 rfl fun w' hm' hc' hg' => ?_
 rw [if_neg hfull, show foE (mE each) r.q = 0 from if_neg hfull]; refine tb_leaf h13 ?_ hm' (by (repeat' (first | exact SubM.nil _ | refine SubM.cons (by rfl) ?_ | refine SubM.app ?_))) hc' hin13; rw [if_neg hfull] at hesu1; exact hesu1
theorem tenter_none {each most : Int} {n0 n cap b bs bh cl R : Nat} {ad : Option Addr} {F : Int → Option Rw} {es : Array MapEntry} {sp : List (Int × Value)} {mr : Mem0} (v : Wt) (w : World) (hR : RoM each n0 n cap ad R F mr) (he : EnsS .i64 es cl sp) (hF : F v.key = none) (hRr : R ≤ 1000000000) (hn0 : n0 ≤ w.heap.size) (hM : Mem w (tbC b ad n cap most each bs bh :: (bs, .map es cl) :: mr)) : Ret Tryz.prog 93 #[.pointer (some ⟨b, 0, none⟩), .agg (fWt v).toArray] w (Upd (tbC b ad n cap most each bs bh :: (bs, .map es cl) :: mr) (fun u m' => u = .int .i64 (foE (mE each) []) ∧ ∃ b' es' cl' mr', m' = tbC b ad n cap most each bs bh :: (bs, .map es' cl') :: mr' ∧ RoM each n0 n cap ad (R + 1) (entN each F v b') mr' ∧ EnsS .i64 es' cl' (if mE each ≤ 0 then sp else aput sp v.who (vSp v.key 1))) w) := by
 have he1 := he.1
 refine Ret.enterM Tryz.func93 rfl Tryz.ntmps93 rfl (tbC b ad n cap most each bs bh :: (bs, .map es cl) :: (mr ++ [])) ((inM (tbC b ad n cap most each bs bh :: (bs, .map es cl) :: mr))) aM ?_
 refine wR ?_
 refine LM.box rfl rfl (fun b3 hb3 => ?_)
 refine LM.as rfl <| nA [(0, _), (3, _)] <| wpM.seq ?_
 refine wpM.keep ((b3, .cells (fWt v).toArray 85 (0, 0)) :: []) (fun _ => True) (.one 0 0 (.one 1 0 (.one 2 1 (.one 4 1 (.one 3 2 (.one 5 2 (.one 6 0 (.one 7 0 (.one 8 0 (.one 9 0 (.one 10 0 .nil))))))))))) kr kr au1 (fun _ _ => trivial) ?_
 refine KD.val rfl rfl (ov_move rfl) <| KD.val rfl rfl (ovf 3 rfl rfl rfl rfl) ?_
 refine KD.rd rfl rfl (oml rfl rfl rfl) ?_
 refine KD.rd rfl rfl (om_ldW Tryz.isAgg85 Tryz.sizeOf85 rfl rfl) ?_
 refine KD.one rfl ?_
 refine cU Tryz.func105 rfl (fun w hm hc hg => rq_new hR hF hRr (Nat.le_trans hn0 hc.size) (hm.pick (tbC b ad n cap most each bs bh :: mr))) hR.wlk (fun p hp _ => inM_tr p hp) ?_
 rintro u11 m11 ⟨b11, rfl, h11⟩ hin11
 refine LM.nil ?_
 refine kq1 ?_
 refine KD.one rfl ?_
 refine cU Tryz.func130 rfl (fun w hm hc hg => rq_push (r := ⟨v.key, b11, [], 0⟩) v h11 (fset_at _ _ _) (show (0 : Int) ≤ 1000000000 by decide) (Nat.le_trans hn0 hc.size) (hm.pick m11)) h11.wlk (inn_S hin11 inM_tr) ?_
 rintro u13 m13 ⟨rfl, h13⟩ hin13
 refine LM.nil ?_
 refine kq1 ?_
 refine KD.val rfl rfl (ov_move rfl) ?_
 refine KD.val rfl rfl (ov_extract rfl rfl) ?_
 refine KD.val rfl rfl (ov_extract rfl rfl) ?_
 refine KD.val rfl rfl (ov_assign rfl) <| KD.val rfl rfl (ov_assign rfl) <| KD.nil ?_
 refine QM.sub (e' := [(0, _), (3, _), (5, _), (6, _)]) au9 (QM.then ?_)
 refine wpM.seq <| wR <| LM.mv rfl <| LM.val (ov_neq rfl rfl) <| nA [(0, _), (3, _), (5, _), (6, _), (17, _)] ?_
 refine wpM.condD rfl (fun h1 => ?_) (fun h1 => ?_)
 ·
  have hfull : mE each ≤ (([] : List (Int × Wt)).length : Int) := (by apply Classical.byContradiction; intro z; unfold foE at h1; rw [if_neg z] at h1; exact absurd rfl h1)
  refine wR <| LM.mv rfl <| LM.val (ovf 3 rfl rfl rfl rfl) ?_
  refine LM.rd (oml rfl rfl rfl) ?_
  refine cU Tryz.func131 rfl (fun w hm hc hg => rq_clean_yes (r := { (⟨v.key, b11, [], 0⟩ : Rw) with q := foX (mE each) [] 0 v, tk := foT (mE each) [] 0 }) h13 (fset_at _ _ _) (if_pos hfull) (hm.pick (tbC b ad n cap most each bs bh :: m13))) h13.wlk (inn_S (inn_trans hin11 hin13) inM_tr) ?_
  rintro u21 m21 ⟨rfl, h21⟩ hin21
  refine nB [(6, _)] <| LM.mv rfl <| LM.as rfl <| nA [(4, _)] <| wpM.ret <| QM.then_ret ?_
  refine qL Tryz.results93 rfl fun w' hm' hc' hg' => ?_
  rw [if_pos (show mE each ≤ 0 from hfull)]; rw [entN_full (b' := b11) hfull hF] at h21; exact tb_leafN h21 he hm' (by (repeat' (first | exact SubM.nil _ | refine SubM.cons (by rfl) ?_ | refine SubM.app ?_))) hc' (inn_trans (inn_trans hin11 hin13) hin21)
 have hfull : ¬ mE each ≤ (([] : List (Int × Wt)).length : Int) := (by intro z; unfold foE at h1; rw [if_pos z] at h1; exact absurd h1 (by decide))
 refine wpM.skip <| QM.then <| wpM.seq ?_
 refine wpM.draw [(0, 0), (1, 0), (2, 0), (3, 1), (4, 0), (5, 1), (6, 0), (7, 1), (8, 0), (9, 0), (10, 3)] kr kr ?_
 refine LD.val rfl rfl (ov_move rfl) <| LD.val rfl rfl (ov_nilCheck rfl) <| LD.val rfl rfl (ovf 108 rfl rfl rfl rfl) ?_
 refine LD.rd rfl rfl (oml rfl rfl rfl) ?_
 refine LD.val rfl rfl (ovf 3 rfl rfl rfl rfl) ?_
 refine LD.rd rfl rfl (oml rfl rfl rfl) ?_
 refine LD.val rfl rfl (ovf 3 rfl rfl rfl rfl) ?_
 refine LD.rd rfl rfl (oml rfl rfl rfl) ?_
 refine LD.val rfl rfl (ov_move rfl) ?_
 refine LD.val rfl rfl (ov_build (cs := #[_, _]) rfl (by first | rfl | kernel_rfl)) ?_
 refine LD.tail rfl rfl ?_
 refine LM.mUS Tryz.underlying108 Tryz.underlying3 rfl rfl rfl asm auH (fun esu1 clu1 hesu1 => ?_)
 refine LM.nil ?_
 refine QM.qn ?_
 refine QM.sub (e' := []) trivial (QM.then (wpM.seq (wpM.region ?_)))
 refine LM.as rfl <| nA [(4, _)] <| wpM.ret ?_
 refine qL Tryz.results93 rfl fun w' hm' hc' hg' => ?_
 rw [if_neg (show ¬ mE each ≤ 0 from hfull), show foE (mE each) [] = 0 from if_neg hfull]; rw [entN_new hfull] at h13; refine tb_leafN h13 ?_ hm' (by (repeat' (first | exact SubM.nil _ | refine SubM.cons (by rfl) ?_ | refine SubM.app ?_))) hc' (inn_trans hin11 hin13); rw [if_neg hfull] at hesu1; exact hesu1
theorem fset_fset (F : Int → Option Rw) (key : Int) (x y : Option Rw) : fset (fset F key x) key y = fset F key y := by
  funext k; unfold fset
  by_cases e : k = key
  · rw [if_pos e, if_pos e]
  · rw [if_neg e, if_neg e, if_neg e]
def lvF (F : Int → Option Rw) (key : Int) (r : Rw) (i : Nat) : Int → Option Rw := if r.q.length = 1 then fset F key none else fset F key (some { r with q := r.q.eraseIdx i })
theorem tleave_last {each most : Int} {n0 n cap b bs bh cl R : Nat} {ad : Option Addr} {F : Int → Option Rw} {es : Array MapEntry} {sp : List (Int × Value)} {mr : Mem0} {r : Rw} {key who : Int} (i : Nat) (w : World) (hR : RoM each n0 n cap ad R F mr) (he : EnsS .i64 es cl sp) (hF : F key = some r) (hi : i < r.q.length) (h1q : r.q.length = 1) (hw0 : aget sp who = some (vSp key (qd r.q i).1)) (hM : Mem w (tbC b ad n cap most each bs bh :: (bs, .map es cl) :: mr)) : Ret Tryz.prog 134 #[.pointer (some ⟨b, 0, none⟩), .int .i64 who] w (Upd (tbC b ad n cap most each bs bh :: (bs, .map es cl) :: mr) (fun u m' => u = .tuple #[.agg (fWt (qd r.q i).2).toArray, .bool true] ∧ ∃ es' cl' mr', m' = tbC b ad n cap most each bs bh :: (bs, .map es' cl') :: mr' ∧ RoM each n0 n cap ad R (lvF F key r i) mr' ∧ EnsS .i64 es' cl' (adel sp who)) w) := by
 have he1 := he.1
 refine Ret.enterM Tryz.func134 rfl Tryz.ntmps134 rfl (tbC b ad n cap most each bs bh :: (bs, .map es cl) :: (mr ++ [])) ((inM (tbC b ad n cap most each bs bh :: (bs, .map es cl) :: mr))) aM ?_
 refine wR ?_
 refine LM.alloc Tryz.zeroValue85 rfl (fun b4 hb4 => ?_)
 refine LM.as rfl <| nA [(0, _), (1, _), (4, _)] <| wpM.seq <| wR <| LM.mv rfl ?_
 refine LM.val (ov_peql kr rfl rfl) ?_
 refine nA [(0, _), (1, _), (4, _), (11, _)] ?_
 refine wpM.condF rfl ?_
 refine wpM.skip <| tR <| LM.mv rfl <| LM.nc rfl <| LM.val (ovf 108 rfl rfl rfl rfl) ?_
 refine LM.rd (oml rfl rfl rfl) ?_
 refine LM.mv rfl ?_
 refine LM.rd (om_lkOk Tryz.underlying108 Tryz.underlying3 Tryz.zeroValue125 rfl rfl asm (getD_some9 hw0) (has_some' hw0)) ?_
 refine LM.mv rfl <| LM.val (ov_extract rfl rfl) <| LM.val (ov_extract rfl rfl) ?_
 refine LM.alloc Tryz.zeroValue125 rfl (fun b6 hb6 => ?_)
 refine LM.stW Tryz.sizeOf125 rfl rfl rfl rfl au7 auH ?_
 refine LM.as rfl <| nA [(0, _), (1, _), (4, _), (6, _), (7, _)] <| wpM.seq <| wR <| LM.mv rfl ?_
 first | refine LM.val (ov_notD rfl) ?_ | refine LM.val (ov_not rfl) ?_
 refine nA [(0, _), (1, _), (4, _), (6, _), (23, _)] ?_
 first | refine wpM.condD rfl (fun h1 => ?_) (fun h1 => ?_) | refine wpM.condB rfl (fun h1 => ?_) (fun h1 => ?_)
 ·
  cases h1
 refine wpM.skip <| QM.then <| wpM.seq ?_
 refine wpM.keep ((b6, .cells #[.int .i64 key, .int .i64 (qd r.q i).1] 125 (0, 0)) :: []) (fun _ => True) (.one 0 0 (.one 1 0 (.one 2 1 (.one 4 0 (.one 5 1 (.fork 3 (.fork 6 (.one 7 0 (.one 8 0 (.one 9 0 (.one 10 2 (.one 11 2 (.one 12 0 .nil)))))) 10 (.one 6 2 (.one 7 0 (.one 8 0 (.one 9 0 (.one 11 2 (.one 12 0 .nil))))))) 10 (.one 3 2 (.one 6 2 (.one 7 0 (.one 8 0 (.one 9 0 (.one 11 2 (.one 12 0 .nil))))))))))))) kr kr au1 (fun _ _ => trivial) ?_
 refine KD.val rfl rfl (ov_move rfl) <| KD.val rfl rfl (ovf 3 rfl rfl rfl rfl) ?_
 refine KD.rd rfl rfl (oml rfl rfl rfl) ?_
 refine KD.val rfl rfl (ovf 3 rfl rfl rfl rfl) ?_
 refine KD.rd rfl rfl (oml rfl rfl rfl) ?_
 refine KD.fork rfl rfl ?_ ?_
 ·
  refine cE Tryz.func105 rfl (fun w hm hc hg => rq_some false hR hF (hm.pick (tbC b ad n cap most each bs bh :: mr))) ?_
  refine LM.nil ?_
  refine kq1 ?_
  refine KD.fork rfl rfl ?_ ?_
  ·
   refine cU Tryz.func156 rfl (fun w hm hc hg => rq_remove i hR hF hi (hm.pick mr)) hR.wlk (fun p hp _ => inM_tr p hp) ?_
   rintro u32 m32 ⟨rfl, h32⟩ hin32
   refine LM.nil ?_
   refine kq1 ?_
   refine KD.val rfl rfl (ov_move rfl) ?_
   refine KD.val rfl rfl (ov_extract rfl rfl) ?_
   refine KD.val rfl rfl (ov_extract rfl rfl) ?_
   refine KD.one rfl ?_
   refine LM.alloc Tryz.zeroValue85 rfl (fun b8 hb8 => ?_)
   refine LM.nil ?_
   refine kq1 ?_
   refine KD.one rfl ?_
   refine LM.stW Tryz.sizeOf85 rfl rfl rfl rfl au7 auH ?_
   refine LM.nil ?_
   refine kq1 ?_
   refine KD.val rfl rfl (ov_assign rfl) <| KD.nil ?_
   refine QM.sub (e' := [(0, _), (1, _), (4, _), (6, _), (8, _)]) au9 (QM.then (wpM.seq (wpM.region ?_)))
   refine LM.mv rfl <| LM.nc rfl <| LM.val (ovf 108 rfl rfl rfl rfl) ?_
   refine LM.rd (oml rfl rfl rfl) ?_
   refine LM.mv rfl ?_
   refine LM.mDS Tryz.underlying108 Tryz.underlying3 rfl rfl asm auH (fun esu1 clu1 hesu1 => ?_)
   refine nB [(0, _), (4, _), (6, _), (8, _)] <| LM.mv rfl <| LM.val (ovf 3 rfl rfl rfl rfl) ?_
   refine LM.rd (oml rfl rfl rfl) ?_
   refine cU Tryz.func131 rfl (fun w hm hc hg => rq_clean_yes (r := { r with q := r.q.eraseIdx i }) h32 (fset_at _ _ _) (List.eq_nil_of_length_eq_zero (by show (r.q.eraseIdx i).length = 0; rw [List.length_eraseIdx, if_pos hi]; omega)) (hm.pick (tbC b ad n cap most each bs bh :: m32))) h32.wlk (inn_S hin32 inM_tr) ?_
   rintro u43 m43 ⟨rfl, h43⟩ hin43
   refine nB [(4, _), (8, _)] ?_
   refine LM.rd (om_ldW Tryz.isAgg85 Tryz.sizeOf85 rfl rfl) ?_
   refine LM.stW Tryz.sizeOf85 rfl rfl rfl rfl au7 auH ?_
   refine LM.as rfl <| nA [(4, _), (5, _)] <| wpM.ret ?_
   refine QM.leaveCs (ds := ([])) (.inl rfl) [.cell 4 85, .tmp 5] Tryz.results134 hd_nil (rc_w rfl Tryz.isAgg85 Tryz.sizeOf85 rfl (rc_tmp rfl rc_nil)) ?_
   intro w' hm' hc'
   rw [fset_fset] at h43; exact tb_leaf (by rw [show lvF F key r i = fset F key none from if_pos h1q]; exact h43) hesu1 hm' (by (repeat' (first | exact SubM.nil _ | refine SubM.cons (by rfl) ?_ | refine SubM.app ?_))) hc' (inn_trans hin32 hin43)
  refine LM.alloc Tryz.zeroValue85 rfl (fun b8 hb8 => ?_)
  refine LM.nil ?_
  refine kq1 ?_
  refine KD.one rfl ?_
  refine cU Tryz.func156 rfl (fun w hm hc hg => rq_remove i hR hF hi (hm.pick mr)) hR.wlk (fun p hp _ => inM_tr p hp) ?_
  rintro u32 m32 ⟨rfl, h32⟩ hin32
  refine LM.nil ?_
  refine kq1 ?_
  refine KD.val rfl rfl (ov_move rfl) ?_
  refine KD.val rfl rfl (ov_extract rfl rfl) ?_
  refine KD.val rfl rfl (ov_extract rfl rfl) ?_
  refine KD.one rfl ?_
  refine LM.stW Tryz.sizeOf85 rfl rfl rfl rfl au7 auH ?_
  refine LM.nil ?_
  refine kq1 ?_
  refine KD.val rfl rfl (ov_assign rfl) <| KD.nil ?_
  refine QM.sub (e' := [(0, _), (1, _), (4, _), (6, _), (8, _)]) au9 (QM.then (wpM.seq (wpM.region ?_)))
  refine LM.mv rfl <| LM.nc rfl <| LM.val (ovf 108 rfl rfl rfl rfl) ?_
  refine LM.rd (oml rfl rfl rfl) ?_
  refine LM.mv rfl ?_
  refine LM.mDS Tryz.underlying108 Tryz.underlying3 rfl rfl asm auH (fun esu1 clu1 hesu1 => ?_)
  refine nB [(0, _), (4, _), (6, _), (8, _)] <| LM.mv rfl <| LM.val (ovf 3 rfl rfl rfl rfl) ?_
  refine LM.rd (oml rfl rfl rfl) ?_
  refine cU Tryz.func131 rfl (fun w hm hc hg => rq_clean_yes (r := { r with q := r.q.eraseIdx i }) h32 (fset_at _ _ _) (List.eq_nil_of_length_eq_zero (by show (r.q.eraseIdx i).length = 0; rw [List.length_eraseIdx, if_pos hi]; omega)) (hm.pick (tbC b ad n cap most each bs bh :: m32))) h32.wlk (inn_S hin32 inM_tr) ?_
  rintro u43 m43 ⟨rfl, h43⟩ hin43
  refine nB [(4, _), (8, _)] ?_
  refine LM.rd (om_ldW Tryz.isAgg85 Tryz.sizeOf85 rfl rfl) ?_
  refine LM.stW Tryz.sizeOf85 rfl rfl rfl rfl au7 auH ?_
  refine LM.as rfl <| nA [(4, _), (5, _)] <| wpM.ret ?_
  refine QM.leaveCs (ds := ([])) (.inl rfl) [.cell 4 85, .tmp 5] Tryz.results134 hd_nil (rc_w rfl Tryz.isAgg85 Tryz.sizeOf85 rfl (rc_tmp rfl rc_nil)) ?_
  intro w' hm' hc'
  rw [fset_fset] at h43; exact tb_leaf (by rw [show lvF F key r i = fset F key none from if_pos h1q]; exact h43) hesu1 hm' (by (repeat' (first | exact SubM.nil _ | refine SubM.cons (by rfl) ?_ | refine SubM.app ?_))) hc' (inn_trans hin32 hin43)
 refine LM.alloc Tryz.zeroValue85 rfl (fun b8 hb8 => ?_)
 refine LM.nil ?_
 refine kq1 ?_
 refine KD.one rfl ?_
 refine cE Tryz.func105 rfl (fun w hm hc hg => rq_some false hR hF (hm.pick (tbC b ad n cap most each bs bh :: mr))) ?_
 refine LM.nil ?_
 refine kq1 ?_
 refine KD.one rfl ?_
 refine cU Tryz.func156 rfl (fun w hm hc hg => rq_remove i hR hF hi (hm.pick mr)) hR.wlk (fun p hp _ => inM_tr p hp) ?_
 rintro u32 m32 ⟨rfl, h32⟩ hin32
 refine LM.nil ?_
 refine kq1 ?_
 refine KD.val rfl rfl (ov_move rfl) ?_
 refine KD.val rfl rfl (ov_extract rfl rfl) ?_
 refine KD.val rfl rfl (ov_extract rfl rfl) ?_
 refine KD.one rfl ?_
 refine LM.stW Tryz.sizeOf85 rfl rfl rfl rfl au7 auH ?_
 refine LM.nil ?_
 refine kq1 ?_
 refine KD.val rfl rfl (ov_assign rfl) <| KD.nil ?_
 refine QM.sub (e' := [(0, _), (1, _), (4, _), (6, _), (8, _)]) au9 (QM.then (wpM.seq (wpM.region ?_)))
 refine LM.mv rfl <| LM.nc rfl <| LM.val (ovf 108 rfl rfl rfl rfl) ?_
 refine LM.rd (oml rfl rfl rfl) ?_
 refine LM.mv rfl ?_
 refine LM.mDS Tryz.underlying108 Tryz.underlying3 rfl rfl asm auH (fun esu1 clu1 hesu1 => ?_)
 refine nB [(0, _), (4, _), (6, _), (8, _)] <| LM.mv rfl <| LM.val (ovf 3 rfl rfl rfl rfl) ?_
 refine LM.rd (oml rfl rfl rfl) ?_
 refine cU Tryz.func131 rfl (fun w hm hc hg => rq_clean_yes (r := { r with q := r.q.eraseIdx i }) h32 (fset_at _ _ _) (List.eq_nil_of_length_eq_zero (by show (r.q.eraseIdx i).length = 0; rw [List.length_eraseIdx, if_pos hi]; omega)) (hm.pick (tbC b ad n cap most each bs bh :: m32))) h32.wlk (inn_S hin32 inM_tr) ?_
 rintro u43 m43 ⟨rfl, h43⟩ hin43
 refine nB [(4, _), (8, _)] ?_
 refine LM.rd (om_ldW Tryz.isAgg85 Tryz.sizeOf85 rfl rfl) ?_
 refine LM.stW Tryz.sizeOf85 rfl rfl rfl rfl au7 auH ?_
 refine LM.as rfl <| nA [(4, _), (5, _)] <| wpM.ret ?_
 refine QM.leaveCs (ds := ([])) (.inl rfl) [.cell 4 85, .tmp 5] Tryz.results134 hd_nil (rc_w rfl Tryz.isAgg85 Tryz.sizeOf85 rfl (rc_tmp rfl rc_nil)) ?_
 intro w' hm' hc'
 rw [fset_fset] at h43; exact tb_leaf (by rw [show lvF F key r i = fset F key none from if_pos h1q]; exact h43) hesu1 hm' (by (repeat' (first | exact SubM.nil _ | refine SubM.cons (by rfl) ?_ | refine SubM.app ?_))) hc' (inn_trans hin32 hin43)
theorem tleave_more {each most : Int} {n0 n cap b bs bh cl R : Nat} {ad : Option Addr} {F : Int → Option Rw} {es : Array MapEntry} {sp : List (Int × Value)} {mr : Mem0} {r : Rw} {key who : Int} (i : Nat) (w : World) (hR : RoM each n0 n cap ad R F mr) (he : EnsS .i64 es cl sp) (hF : F key = some r) (hi : i < r.q.length) (h1q : r.q.length ≠ 1) (hw0 : aget sp who = some (vSp key (qd r.q i).1)) (hM : Mem w (tbC b ad n cap most each bs bh :: (bs, .map es cl) :: mr)) : Ret Tryz.prog 134 #[.pointer (some ⟨b, 0, none⟩), .int .i64 who] w (Upd (tbC b ad n cap most each bs bh :: (bs, .map es cl) :: mr) (fun u m' => u = .tuple #[.agg (fWt (qd r.q i).2).toArray, .bool true] ∧ ∃ es' cl' mr', m' = tbC b ad n cap most each bs bh :: (bs, .map es' cl') :: mr' ∧ RoM each n0 n cap ad R (lvF F key r i) mr' ∧ EnsS .i64 es' cl' (adel sp who)) w) := by
 have he1 := he.1
 refine Ret.enterM Tryz.func134 rfl Tryz.ntmps134 rfl (tbC b ad n cap most each bs bh :: (bs, .map es cl) :: (mr ++ [])) ((inM (tbC b ad n cap most each bs bh :: (bs, .map es cl) :: mr))) aM ?_
 refine wR ?_
 refine LM.alloc Tryz.zeroValue85 rfl (fun b4 hb4 => ?_)
 refine LM.as rfl <| nA [(0, _), (1, _), (4, _)] <| wpM.seq <| wR <| LM.mv rfl ?_
 refine LM.val (ov_peql kr rfl rfl) ?_
 refine nA [(0, _), (1, _), (4, _), (11, _)] ?_
 refine wpM.condF rfl ?_
 refine wpM.skip <| tR <| LM.mv rfl <| LM.nc rfl <| LM.val (ovf 108 rfl rfl rfl rfl) ?_
 refine LM.rd (oml rfl rfl rfl) ?_
 refine LM.mv rfl ?_
 refine LM.rd (om_lkOk Tryz.underlying108 Tryz.underlying3 Tryz.zeroValue125 rfl rfl asm (getD_some9 hw0) (has_some' hw0)) ?_
 refine LM.mv rfl <| LM.val (ov_extract rfl rfl) <| LM.val (ov_extract rfl rfl) ?_
 refine LM.alloc Tryz.zeroValue125 rfl (fun b6 hb6 => ?_)
 refine LM.stW Tryz.sizeOf125 rfl rfl rfl rfl au7 auH ?_
 refine LM.as rfl <| nA [(0, _), (1, _), (4, _), (6, _), (7, _)] <| wpM.seq <| wR <| LM.mv rfl ?_
 first | refine LM.val (ov_notD rfl) ?_ | refine LM.val (ov_not rfl) ?_
 refine nA [(0, _), (1, _), (4, _), (6, _), (23, _)] ?_
 first | refine wpM.condD rfl (fun h1 => ?_) (fun h1 => ?_) | refine wpM.condB rfl (fun h1 => ?_) (fun h1 => ?_)
 ·
  cases h1
 refine wpM.skip <| QM.then <| wpM.seq ?_
 refine wpM.keep ((b6, .cells #[.int .i64 key, .int .i64 (qd r.q i).1] 125 (0, 0)) :: []) (fun _ => True) (.one 0 0 (.one 1 0 (.one 2 1 (.one 4 0 (.one 5 1 (.fork 3 (.fork 6 (.one 7 0 (.one 8 0 (.one 9 0 (.one 10 2 (.one 11 2 (.one 12 0 .nil)))))) 10 (.one 6 2 (.one 7 0 (.one 8 0 (.one 9 0 (.one 11 2 (.one 12 0 .nil))))))) 10 (.one 3 2 (.one 6 2 (.one 7 0 (.one 8 0 (.one 9 0 (.one 11 2 (.one 12 0 .nil))))))))))))) kr kr au1 (fun _ _ => trivial) ?_
 refine KD.val rfl rfl (ov_move rfl) <| KD.val rfl rfl (ovf 3 rfl rfl rfl rfl) ?_
 refine KD.rd rfl rfl (oml rfl rfl rfl) ?_
 refine KD.val rfl rfl (ovf 3 rfl rfl rfl rfl) ?_
 refine KD.rd rfl rfl (oml rfl rfl rfl) ?_
 refine KD.fork rfl rfl ?_ ?_
 ·
  refine cE Tryz.func105 rfl (fun w hm hc hg => rq_some false hR hF (hm.pick (tbC b ad n cap most each bs bh :: mr))) ?_
  refine LM.nil ?_
  refine kq1 ?_
  refine KD.fork rfl rfl ?_ ?_
  ·
   refine cU Tryz.func156 rfl (fun w hm hc hg => rq_remove i hR hF hi (hm.pick mr)) hR.wlk (fun p hp _ => inM_tr p hp) ?_
   rintro u32 m32 ⟨rfl, h32⟩ hin32
   refine LM.nil ?_
   refine kq1 ?_
   refine KD.val rfl rfl (ov_move rfl) ?_
   refine KD.val rfl rfl (ov_extract rfl rfl) ?_
   refine KD.val rfl rfl (ov_extract rfl rfl) ?_
   refine KD.one rfl ?_
   refine LM.alloc Tryz.zeroValue85 rfl (fun b8 hb8 => ?_)
   refine LM.nil ?_
   refine kq1 ?_
   refine KD.one rfl ?_
   refine LM.stW Tryz.sizeOf85 rfl rfl rfl rfl au7 auH ?_
   refine LM.nil ?_
   refine kq1 ?_
   refine KD.val rfl rfl (ov_assign rfl) <| KD.nil ?_
   refine QM.sub (e' := [(0, _), (1, _), (4, _), (6, _), (8, _)]) au9 (QM.then (wpM.seq (wpM.region ?_)))
   refine LM.mv rfl <| LM.nc rfl <| LM.val (ovf 108 rfl rfl rfl rfl) ?_
   refine LM.rd (oml rfl rfl rfl) ?_
   refine LM.mv rfl ?_
   refine LM.mDS Tryz.underlying108 Tryz.underlying3 rfl rfl asm auH (fun esu1 clu1 hesu1 => ?_)
   refine nB [(0, _), (4, _), (6, _), (8, _)] <| LM.mv rfl <| LM.val (ovf 3 rfl rfl rfl rfl) ?_
   refine LM.rd (oml rfl rfl rfl) ?_
   refine cE Tryz.func131 rfl (fun w hm hc hg => rq_clean_no (r := { r with q := r.q.eraseIdx i }) h32 (fset_at _ _ _) (by show 0 < (r.q.eraseIdx i).length; rw [List.length_eraseIdx, if_pos hi]; omega) (hm.pick (tbC b ad n cap most each bs bh :: m32))) ?_
   refine nB [(4, _), (8, _)] ?_
   refine LM.rd (om_ldW Tryz.isAgg85 Tryz.sizeOf85 rfl rfl) ?_
   refine LM.stW Tryz.sizeOf85 rfl rfl rfl rfl au7 auH ?_
   refine LM.as rfl <| nA [(4, _), (5, _)] <| wpM.ret ?_
   refine QM.leaveCs (ds := ([])) (.inl rfl) [.cell 4 85, .tmp 5] Tryz.results134 hd_nil (rc_w rfl Tryz.isAgg85 Tryz.sizeOf85 rfl (rc_tmp rfl rc_nil)) ?_
   intro w' hm' hc'
   exact tb_leaf (by rw [show lvF F key r i = fset F key (some { r with q := r.q.eraseIdx i }) from if_neg h1q]; exact h32) hesu1 hm' (by (repeat' (first | exact SubM.nil _ | refine SubM.cons (by rfl) ?_ | refine SubM.app ?_))) hc' hin32
  refine LM.alloc Tryz.zeroValue85 rfl (fun b8 hb8 => ?_)
  refine LM.nil ?_
  refine kq1 ?_
  refine KD.one rfl ?_
  refine cU Tryz.func156 rfl (fun w hm hc hg => rq_remove i hR hF hi (hm.pick mr)) hR.wlk (fun p hp _ => inM_tr p hp) ?_
  rintro u32 m32 ⟨rfl, h32⟩ hin32
  refine LM.nil ?_
  refine kq1 ?_
  refine KD.val rfl rfl (ov_move rfl) ?_
  refine KD.val rfl rfl (ov_extract rfl rfl) ?_
  refine KD.val rfl rfl (ov_extract rfl rfl) ?_
  refine KD.one rfl ?_
  refine LM.stW Tryz.sizeOf85 rfl rfl rfl rfl au7 auH ?_
  refine LM.nil ?_
  refine kq1 ?_
  refine KD.val rfl rfl (ov_assign rfl) <| KD.nil ?_
  refine QM.sub (e' := [(0, _), (1, _), (4, _), (6, _), (8, _)]) au9 (QM.then (wpM.seq (wpM.region ?_)))
  refine LM.mv rfl <| LM.nc rfl <| LM.val (ovf 108 rfl rfl rfl rfl) ?_
  refine LM.rd (oml rfl rfl rfl) ?_
  refine LM.mv rfl ?_
  refine LM.mDS Tryz.underlying108 Tryz.underlying3 rfl rfl asm auH (fun esu1 clu1 hesu1 => ?_)
  refine nB [(0, _), (4, _), (6, _), (8, _)] <| LM.mv rfl <| LM.val (ovf 3 rfl rfl rfl rfl) ?_
  refine LM.rd (oml rfl rfl rfl) ?_
  refine cE Tryz.func131 rfl (fun w hm hc hg => rq_clean_no (r := { r with q := r.q.eraseIdx i }) h32 (fset_at _ _ _) (by show 0 < (r.q.eraseIdx i).length; rw [List.length_eraseIdx, if_pos hi]; omega) (hm.pick (tbC b ad n cap most each bs bh :: m32))) ?_
  refine nB [(4, _), (8, _)] ?_
  refine LM.rd (om_ldW Tryz.isAgg85 Tryz.sizeOf85 rfl rfl) ?_
  refine LM.stW Tryz.sizeOf85 rfl rfl rfl rfl au7 auH ?_
  refine LM.as rfl <| nA [(4, _), (5, _)] <| wpM.ret ?_
  refine QM.leaveCs (ds := ([])) (.inl rfl) [.cell 4 85, .tmp 5] Tryz.results134 hd_nil (rc_w rfl Tryz.isAgg85 Tryz.sizeOf85 rfl (rc_tmp rfl rc_nil)) ?_
  intro w' hm' hc'
  exact tb_leaf (by rw [show lvF F key r i = fset F key (some { r with q := r.q.eraseIdx i }) from if_neg h1q]; exact h32) hesu1 hm' (by (repeat' (first | exact SubM.nil _ | refine SubM.cons (by rfl) ?_ | refine SubM.app ?_))) hc' hin32
 refine LM.alloc Tryz.zeroValue85 rfl (fun b8 hb8 => ?_)
 refine LM.nil ?_
 refine kq1 ?_
 refine KD.one rfl ?_
 refine cE Tryz.func105 rfl (fun w hm hc hg => rq_some false hR hF (hm.pick (tbC b ad n cap most each bs bh :: mr))) ?_
 refine LM.nil ?_
 refine kq1 ?_
 refine KD.one rfl ?_
 refine cU Tryz.func156 rfl (fun w hm hc hg => rq_remove i hR hF hi (hm.pick mr)) hR.wlk (fun p hp _ => inM_tr p hp) ?_
 rintro u32 m32 ⟨rfl, h32⟩ hin32
 refine LM.nil ?_
 refine kq1 ?_
 refine KD.val rfl rfl (ov_move rfl) ?_
 refine KD.val rfl rfl (ov_extract rfl rfl) ?_
 refine KD.val rfl rfl (ov_extract rfl rfl) ?_
 refine KD.one rfl ?_
 refine LM.stW Tryz.sizeOf85 rfl rfl rfl rfl au7 auH ?_
 refine LM.nil ?_
 refine kq1 ?_
 refine KD.val rfl rfl (ov_assign rfl) <| KD.nil ?_
 refine QM.sub (e' := [(0, _), (1, _), (4, _), (6, _), (8, _)]) au9 (QM.then (wpM.seq (wpM.region ?_)))
 refine LM.mv rfl <| LM.nc rfl <| LM.val (ovf 108 rfl rfl rfl rfl) ?_
 refine LM.rd (oml rfl rfl rfl) ?_
 refine LM.mv rfl ?_
 refine LM.mDS Tryz.underlying108 Tryz.underlying3 rfl rfl asm auH (fun esu1 clu1 hesu1 => ?_)
 refine nB [(0, _), (4, _), (6, _), (8, _)] <| LM.mv rfl <| LM.val (ovf 3 rfl rfl rfl rfl) ?_
 refine LM.rd (oml rfl rfl rfl) ?_
 refine cE Tryz.func131 rfl (fun w hm hc hg => rq_clean_no (r := { r with q := r.q.eraseIdx i }) h32 (fset_at _ _ _) (by show 0 < (r.q.eraseIdx i).length; rw [List.length_eraseIdx, if_pos hi]; omega) (hm.pick (tbC b ad n cap most each bs bh :: m32))) ?_
 refine nB [(4, _), (8, _)] ?_
 refine LM.rd (om_ldW Tryz.isAgg85 Tryz.sizeOf85 rfl rfl) ?_
 refine LM.stW Tryz.sizeOf85 rfl rfl rfl rfl au7 auH ?_
 refine LM.as rfl <| nA [(4, _), (5, _)] <| wpM.ret ?_
 refine QM.leaveCs (ds := ([])) (.inl rfl) [.cell 4 85, .tmp 5] Tryz.results134 hd_nil (rc_w rfl Tryz.isAgg85 Tryz.sizeOf85 rfl (rc_tmp rfl rc_nil)) ?_
 intro w' hm' hc'
 exact tb_leaf (by rw [show lvF F key r i = fset F key (some { r with q := r.q.eraseIdx i }) from if_neg h1q]; exact h32) hesu1 hm' (by (repeat' (first | exact SubM.nil _ | refine SubM.cons (by rfl) ?_ | refine SubM.app ?_))) hc' hin32
theorem tleave_no {each most : Int} {n cap b bs bh cl : Nat} {ad : Option Addr} {es : Array MapEntry} {sp : List (Int × Value)} {who : Int} (w : World) (he : EnsS .i64 es cl sp) (hw0 : aget sp who = none) (hM : Mem w (tbC b ad n cap most each bs bh :: (bs, .map es cl) :: [])) : Ret Tryz.prog 134 #[.pointer (some ⟨b, 0, none⟩), .int .i64 who] w (fun u w' => u = .tuple #[.agg (fWt default).toArray, .bool false] ∧ Ext w w') := by
 have he1 := he.1
 refine Ret.enterM Tryz.func134 rfl Tryz.ntmps134 rfl (tbC b ad n cap most each bs bh :: (bs, .map es cl) :: []) (no) hM ?_
 refine wR ?_
 refine LM.alloc Tryz.zeroValue85 rfl (fun b4 hb4 => ?_)
 refine LM.as rfl <| nA [(0, _), (1, _), (4, _)] <| wpM.seq <| wR <| LM.mv rfl ?_
 refine LM.val (ov_peql kr rfl rfl) ?_
 refine nA [(0, _), (1, _), (4, _), (11, _)] ?_
 refine wpM.condF rfl ?_
 refine wpM.skip <| tR <| LM.mv rfl <| LM.nc rfl <| LM.val (ovf 108 rfl rfl rfl rfl) ?_
 refine LM.rd (oml rfl rfl rfl) ?_
 refine LM.mv rfl ?_
 refine LM.rd (om_lkOk Tryz.underlying108 Tryz.underlying3 Tryz.zeroValue125 rfl rfl asm (getD_none9 hw0) (has_none' hw0)) ?_
 refine LM.mv rfl <| LM.val (ov_extract rfl rfl) <| LM.val (ov_extract rfl rfl) ?_
 refine LM.alloc Tryz.zeroValue125 rfl (fun b6 hb6 => ?_)
 refine LM.stW Tryz.sizeOf125 rfl rfl rfl rfl au7 auH ?_
 refine LM.as rfl <| nA [(0, _), (1, _), (4, _), (6, _), (7, _)] <| wpM.seq <| wR <| LM.mv rfl ?_
 first | refine LM.val (ov_notD rfl) ?_ | refine LM.val (ov_not rfl) ?_
 refine nA [(0, _), (1, _), (4, _), (6, _), (23, _)] ?_
 first | refine wpM.condD rfl (fun h1 => ?_) (fun h1 => ?_) | refine wpM.condB rfl (fun h1 => ?_) (fun h1 => ?_)
 ·
  refine wR ?_
  refine LM.val (ov_build (cs := #[_, _, _]) rfl (by first | rfl | kernel_rfl)) ?_
  refine LM.stW Tryz.sizeOf85 rfl rfl rfl rfl au7 auH ?_
  refine LM.as rfl <| nA [(4, _), (5, _)] <| wpM.ret <| QM.then_ret ?_
  refine QM.leaveCs (ds := ([])) (.inl rfl) [.cell 4 85, .tmp 5] Tryz.results134 hd_nil (rc_w rfl Tryz.isAgg85 Tryz.sizeOf85 rfl (rc_tmp rfl rc_nil)) ?_
  intro w' hm' hc'
  exact ⟨rfl, hc'⟩
 cases h1
end Go.Eng
namespace Go.Eng
open Go Go.RowKit
abbrev qS (q : List (Int × Wt)) : List Wt := q.map (·.2)
def LF (L : List Wt) (key : Int) : List Wt := L.filter (fun w => decide (w.key = key))
def rmW (L : List Wt) (who : Int) : List Wt := L.filter (fun w => decide (w.who ≠ who))
def Wd1 (L : List Wt) : Prop := L.Pairwise (fun a b => a.who ≠ b.who)
theorem LF_app (L : List Wt) (v : Wt) (k : Int) : LF (L ++ [v]) k = if k = v.key then LF L k ++ [v] else LF L k := by
  unfold LF; rw [List.filter_append]
  by_cases e : k = v.key
  · rw [if_pos e, List.filter_cons_of_pos (by simp [e])]; rfl
  · rw [if_neg e, List.filter_cons_of_neg (by simpa using fun z => e z.symm)]; simp
theorem LF_rm (L : List Wt) (who k : Int) : LF (rmW L who) k = rmW (LF L k) who := by
  unfold LF rmW; rw [List.filter_filter, List.filter_filter]; congr 1; funext w; rw [Bool.and_comm]
theorem LF_mem {L : List Wt} {k : Int} {w : Wt} : w ∈ LF L k ↔ w ∈ L ∧ w.key = k := by unfold LF; rw [List.mem_filter]; simp
theorem rm_mem {L : List Wt} {who : Int} {w : Wt} : w ∈ rmW L who ↔ w ∈ L ∧ w.who ≠ who := by unfold rmW; rw [List.mem_filter]; simp
theorem rm_no {L : List Wt} {who : Int} (h : ∀ w ∈ L, w.who ≠ who) : rmW L who = L := List.filter_eq_self.2 (fun w hw => decide_eq_true (h w hw))
theorem wd_rm {L : List Wt} (h : Wd1 L) (who : Int) : Wd1 (rmW L who) := h.filter _
theorem wd_lf {L : List Wt} (h : Wd1 L) (k : Int) : Wd1 (LF L k) := h.filter _
theorem wd_snoc {L : List Wt} (h : Wd1 L) {v : Wt} (hn : ∀ w ∈ L, w.who ≠ v.who) : Wd1 (L ++ [v]) :=
  List.pairwise_append.2 ⟨h, List.pairwise_singleton .., fun a ha b hb => by rw [List.mem_singleton] at hb; subst hb; exact hn a ha⟩
theorem wd_eq {L : List Wt} (h : Wd1 L) {a b : Wt} (ha : a ∈ L) (hb : b ∈ L) (e : a.who = b.who) : a = b := by
  induction L with
  | nil => cases ha
  | cons x L ih =>
    have h1 := List.pairwise_cons.1 h
    rcases List.mem_cons.1 ha with ea | ha
    · rcases List.mem_cons.1 hb with eb | hb
      · rw [ea, eb]
      · rw [ea] at e; exact absurd e (h1.1 b hb)
    · rcases List.mem_cons.1 hb with eb | hb
      · rw [eb] at e; exact absurd e.symm (h1.1 a ha)
      · exact ih h1.2 ha hb
theorem rm_erase : ∀ {L : List Wt} {i : Nat} {w : Wt}, Wd1 L → L[i]? = some w → rmW L w.who = L.eraseIdx i
  | [], i, w, _, h => by simp at h
  | x :: L, 0, w, h, hi => by
    simp at hi; subst hi
    have h1 := List.pairwise_cons.1 h
    show List.filter _ _ = _
    rw [List.filter_cons_of_neg (by simp)]
    exact rm_no (fun y hy e => h1.1 y hy e.symm)
  | x :: L, i + 1, w, h, hi => by
    have h1 := List.pairwise_cons.1 h
    have hi' : L[i]? = some w := by simpa using hi
    have hx : x.who ≠ w.who := h1.1 w (List.mem_of_getElem? hi')
    show List.filter _ _ = _
    rw [List.filter_cons_of_pos (by simpa using hx), List.eraseIdx_cons_succ]
    congr 1
    exact rm_erase h1.2 hi'
theorem rm_len {L : List Wt} (h : Wd1 L) {w : Wt} (hw : w ∈ L) : (rmW L w.who).length + 1 = L.length := by
  obtain ⟨i, hi, rfl⟩ := List.getElem_of_mem hw
  rw [rm_erase h (List.getElem?_eq_getElem hi), List.length_eraseIdx, if_pos hi]; omega
theorem nd_le : ∀ (a b : List Int), a.Nodup → (∀ x ∈ a, x ∈ b) → a.length ≤ b.length
  | [], b, _, _ => Nat.zero_le _
  | x :: a, b, h, hs => by
    have h1 := List.nodup_cons.1 h
    have hx := hs x (List.mem_cons_self ..)
    have := nd_le a (b.erase x) h1.2 (fun y hy => (List.mem_erase_of_ne (fun e => h1.1 (by rw [← e]; exact hy))).2 (hs y (List.mem_cons_of_mem _ hy)))
    rw [List.length_erase_of_mem hx] at this
    have hb : 0 < b.length := List.length_pos_of_mem hx
    simp only [List.length_cons]; omega
theorem map_eraseW {α β : Type} (f : α → β) : ∀ (l : List α) (i : Nat), (l.eraseIdx i).map f = (l.map f).eraseIdx i
  | [], _ => rfl
  | _ :: _, 0 => rfl
  | x :: l, i + 1 => by simp only [List.eraseIdx_cons_succ, List.map_cons]; rw [map_eraseW f l i]
theorem qS_get {q : List (Int × Wt)} {i : Nat} (h : i < q.length) : (qS q)[i]? = some (qd q i).2 := by
  unfold qS qd; rw [List.getElem?_map, List.getD_eq_getElem?_getD, List.getElem?_eq_getElem h]; rfl
structure TbQ (most each : Int) (T : Nat) (L : List Wt) (F : Int → Option Rw) (sp : List (Int × Value)) : Prop where
  mo : 0 ≤ most ∧ most ≤ 4096
  ea : 0 ≤ each ∧ each ≤ 4096
  len : (L.length : Int) ≤ most
  wd : Wd1 L
  fn : ∀ key, F key = none → LF L key = []
  fs : ∀ key r, F key = some r → 0 < r.q.length ∧ qS r.q = LF L key ∧ r.tk ≤ T
  sk : (sp.map (·.1)).Nodup
  sl : sp.length = L.length
  si : ∀ key r i, F key = some r → i < r.q.length → aget sp (qd r.q i).2.who = some (vSp key (qd r.q i).1)
  sn : ∀ who, (∀ w ∈ L, w.who ≠ who) → aget sp who = none
structure TbH (L : List Wt) (S : List Hi) : Prop where
  hs : ∀ x ∈ S, ∃ w ∈ L, w.who = x.id ∧ w.til = x.V ∧ w.til ≠ 0#64
  hc : ∀ w ∈ L, w.til ≠ 0#64 → ∃ x ∈ S, x.id = w.who ∧ x.V = w.til
theorem mE_each {each : Int} (h : 0 ≤ each ∧ each ≤ 4096) : mE each = each := by unfold mE newAr; simp only; rw [if_neg om, if_neg om]
theorem aput_lenN {m : List (Int × Value)} {a : Int} {v : Value} (h : aget m a = none) : (aput m a v).length = m.length + 1 := by
  induction m with
  | nil => rw [aput_nil]; rfl
  | cons x m ih =>
    obtain ⟨b, u⟩ := x
    rw [aget_cons] at h
    by_cases e : a = b
    · rw [if_pos e] at h; cases h
    · rw [if_neg e] at h
      rw [aput_cons, if_neg e, List.length_cons, List.length_cons, ih h]
theorem adel_lenS {m : List (Int × Value)} {a : Int} {v : Value} (h : aget m a = some v) : (adel m a).length + 1 = m.length := by
  induction m with
  | nil => rw [aget_nil] at h; cases h
  | cons x m ih =>
    obtain ⟨b, u⟩ := x
    rw [aget_cons] at h
    by_cases e : a = b
    · rw [adel_cons, if_pos e]; rfl
    · rw [if_neg e] at h
      rw [adel_cons, if_neg e, List.length_cons, List.length_cons, ih h]
def cntL (L : List Wt) (key : Int) : Nat := (LF L key).length
def entE (each : Int) (L : List Wt) (v : Wt) : Int := if each ≤ (cntL L v.key : Int) then 3 else 0
def entL (each : Int) (L : List Wt) (v : Wt) : List Wt := if each ≤ (cntL L v.key : Int) then L else L ++ [v]
theorem TbQ.mono {most each : Int} {T T' : Nat} {L : List Wt} {F : Int → Option Rw} {sp : List (Int × Value)} (h : TbQ most each T L F sp) (k : T ≤ T') : TbQ most each T' L F sp :=
  ⟨h.mo, h.ea, h.len, h.wd, h.fn, fun key r hr => ⟨(h.fs key r hr).1, (h.fs key r hr).2.1, by have := (h.fs key r hr).2.2; omega⟩, h.sk, h.sl, h.si, h.sn⟩
theorem TbQ.at {most each : Int} {T : Nat} {L : List Wt} {F : Int → Option Rw} {sp : List (Int × Value)} (h : TbQ most each T L F sp) {w : Wt} (hw : w ∈ L) : ∃ r i, F w.key = some r ∧ i < r.q.length ∧ (qd r.q i).2 = w ∧ aget sp w.who = some (vSp w.key (qd r.q i).1) := by
  have h1 : w ∈ LF L w.key := LF_mem.2 ⟨hw, rfl⟩
  cases hF : F w.key with
  | none => rw [h.fn _ hF] at h1; cases h1
  | some r =>
    obtain ⟨h2, h3, h4⟩ := h.fs _ r hF
    rw [← h3] at h1
    obtain ⟨i, hi, e⟩ := List.getElem_of_mem h1
    have hi' : i < r.q.length := by simpa using hi
    have e2 : (qd r.q i).2 = w := by
      have := qS_get hi'
      rw [List.getElem?_eq_getElem hi, e] at this; exact (Option.some.inj this).symm
    have h5 := h.si _ r i hF hi'
    rw [e2] at h5
    exact ⟨r, i, rfl, hi', e2, h5⟩
theorem TbQ.more {most each : Int} {T : Nat} {L : List Wt} {F : Int → Option Rw} {sp : List (Int × Value)} (h : TbQ most each T L F sp) {v : Wt} (hn : ∀ w ∈ L, w.who ≠ v.who) (hl : (L.length : Int) < most) {q : List (Int × Wt)} {tk : Int} {r' : Rw} (h1 : r'.q = q ++ [(tk + 1, v)]) (h2 : r'.tk = tk + 1)
    (hq : qS q = LF L v.key) (hqi : ∀ i, i < q.length → aget sp (qd q i).2.who = some (vSp v.key (qd q i).1)) (htk : tk ≤ T) :
    TbQ most each (T + 1) (L ++ [v]) (fset F v.key (some r')) (aput sp v.who (vSp v.key (tk + 1))) := by
  have hnone := h.sn v.who hn
  constructor
  case mo => exact h.mo
  case ea => exact h.ea
  case len => rw [List.length_append, List.length_singleton]; omega
  case wd => exact wd_snoc h.wd hn
  case fn =>
    intro key hk
    unfold fset at hk
    by_cases e : key = v.key
    · rw [if_pos e] at hk; cases hk
    · rw [if_neg e] at hk
      rw [LF_app, if_neg e]; exact h.fn key hk
  case fs =>
    intro key r hk
    unfold fset at hk
    rw [LF_app]
    by_cases e : key = v.key
    · rw [if_pos e] at hk; cases hk
      rw [if_pos e, e]
      rw [h1, h2]
      refine ⟨by simp, by unfold qS at *; rw [List.map_append, hq]; rfl, by omega⟩
    · rw [if_neg e] at hk
      rw [if_neg e]
      obtain ⟨k1, k2, k3⟩ := h.fs key r hk
      exact ⟨k1, k2, by omega⟩
  case sk => exact aputN' h.sk
  case sl => rw [aput_lenN hnone, List.length_append, List.length_singleton, h.sl]
  case si =>
    intro key r i hk hi
    unfold fset at hk
    rw [aget_aput]
    by_cases e : key = v.key
    · rw [if_pos e] at hk; cases hk
      rw [h1] at hi ⊢
      rw [List.length_append, List.length_singleton] at hi
      rw [qd_snoc]
      by_cases e2 : i = q.length
      · rw [if_pos e2, if_pos rfl, e]
      · rw [if_neg e2, if_neg ?_, e]; exact hqi i om
        have : (qd q i).2 ∈ LF L v.key := by rw [← hq]; exact List.mem_of_getElem? (qS_get om)
        exact hn _ (LF_mem.1 this).1
    · rw [if_neg e] at hk
      rw [if_neg ?_]; exact h.si key r i hk hi
      have : (qd r.q i).2 ∈ LF L key := by rw [← (h.fs key r hk).2.1]; exact List.mem_of_getElem? (qS_get hi)
      exact hn _ (LF_mem.1 this).1
  case sn =>
    intro who hw
    have h1 := hw v (by simp)
    rw [aget_aput, if_neg (fun e => h1 e.symm)]
    exact h.sn who (fun w hwm => hw w (List.mem_append_left _ hwm))
theorem TbQ.less {most each : Int} {T : Nat} {L : List Wt} {F : Int → Option Rw} {sp : List (Int × Value)} (h : TbQ most each T L F sp) {r : Rw} {i : Nat} {key : Int} (hF : F key = some r) (hi : i < r.q.length) :
    TbQ most each T (rmW L (qd r.q i).2.who) (lvF F key r i) (adel sp (qd r.q i).2.who) := by
  obtain ⟨k1, k2, k3⟩ := h.fs key r hF
  have hwq : (qd r.q i).2 ∈ LF L key := by rw [← k2]; exact List.mem_of_getElem? (qS_get hi)
  have hwL := (LF_mem.1 hwq).1
  have hwk := (LF_mem.1 hwq).2
  have hlen := rm_len h.wd hwL
  have hqe : qS (r.q.eraseIdx i) = LF (rmW L (qd r.q i).2.who) key := by
    rw [LF_rm, ← k2, rm_erase (by rw [k2]; exact wd_lf h.wd key) (qS_get hi)]
    unfold qS; exact map_eraseW _ _ _
  have hother : ∀ k, k ≠ key → LF (rmW L (qd r.q i).2.who) k = LF L k := fun k hk => by
    rw [LF_rm]; refine rm_no (fun x hx e => hk ?_)
    have h1 := LF_mem.1 hx
    rw [← h1.2, wd_eq h.wd h1.1 hwL e, hwk]
  have hel : (r.q.eraseIdx i).length = r.q.length - 1 := by rw [List.length_eraseIdx, if_pos hi]
  have hcase : (lvF F key r i key = none ∧ r.q.length = 1) ∨ (lvF F key r i key = some { r with q := r.q.eraseIdx i } ∧ r.q.length ≠ 1) := by
    unfold lvF
    by_cases c : r.q.length = 1
    · rw [if_pos c]; exact .inl ⟨fset_at _ _ _, c⟩
    · rw [if_neg c]; exact .inr ⟨fset_at _ _ _, c⟩
  have hoth : ∀ k, k ≠ key → lvF F key r i k = F k := fun k hk => by
    unfold lvF; split <;> exact if_neg hk
  constructor
  case mo => exact h.mo
  case ea => exact h.ea
  case len => have := h.len; omega
  case wd => exact wd_rm h.wd _
  case fn =>
    intro k hk
    by_cases e : k = key
    · subst e
      rcases hcase with ⟨c1, c2⟩ | ⟨c1, c2⟩
      · rw [← hqe, List.eq_nil_of_length_eq_zero (l := r.q.eraseIdx i) om]; rfl
      · rw [c1] at hk; cases hk
    · rw [hoth k e] at hk; rw [hother k e]; exact h.fn k hk
  case fs =>
    intro k r' hk
    by_cases e : k = key
    · subst e
      rcases hcase with ⟨c1, c2⟩ | ⟨c1, c2⟩
      · rw [c1] at hk; cases hk
      · rw [c1] at hk; cases hk
        exact ⟨by show 0 < (r.q.eraseIdx i).length; omega, hqe, k3⟩
    · rw [hoth k e] at hk; rw [hother k e]; exact h.fs k r' hk
  case sk => exact adelN' h.sk
  case sl => have := adel_lenS (h.si key r i hF hi); have := h.sl; omega
  case si =>
    intro k r' j hk hj
    rw [aget_adel' h.sk]
    by_cases e : k = key
    · subst e
      rcases hcase with ⟨c1, c2⟩ | ⟨c1, c2⟩
      · rw [c1] at hk; cases hk
      · rw [c1] at hk; cases hk
        have hj' : j < (r.q.eraseIdx i).length := hj
        have hne : (qd (r.q.eraseIdx i) j).2.who ≠ (qd r.q i).2.who := by
          have : (qd (r.q.eraseIdx i) j).2 ∈ LF (rmW L (qd r.q i).2.who) k := by rw [← hqe]; exact List.mem_of_getElem? (qS_get hj')
          exact (rm_mem.1 (LF_mem.1 this).1).2
        show (if (qd (r.q.eraseIdx i) j).2.who = _ then _ else _) = _
        rw [if_neg hne]
        show aget sp (qd (r.q.eraseIdx i) j).2.who = some (vSp k (qd (r.q.eraseIdx i) j).1)
        rw [qd_erase]
        split
        · exact h.si k r j hF om
        · exact h.si k r (j + 1) hF om
    · rw [hoth k e] at hk
      have : (qd r'.q j).2 ∈ LF L k := by rw [← (h.fs k r' hk).2.1]; exact List.mem_of_getElem? (qS_get hj)
      rw [if_neg (fun z => e (by rw [← (LF_mem.1 this).2, wd_eq h.wd (LF_mem.1 this).1 hwL z, hwk]))]
      exact h.si k r' j hk hj
  case sn =>
    intro who hw
    rw [aget_adel' h.sk]
    by_cases e : who = (qd r.q i).2.who
    · rw [if_pos e]
    · rw [if_neg e]
      refine h.sn who (fun w hwm z => ?_)
      exact hw w (rm_mem.2 ⟨hwm, fun q => e (z.symm.trans q)⟩) z
theorem TbH.len {L : List Wt} {S : List Hi} (h : TbH L S) (hi : S.Pairwise (fun a b => a.id ≠ b.id)) : S.length ≤ L.length := by
  have := nd_le (S.map (·.id)) (L.map (·.who)) (by rw [List.nodup_iff_pairwise_ne, List.pairwise_map]; exact hi) (fun x hx => by
    obtain ⟨y, hy, rfl⟩ := List.mem_map.1 hx
    obtain ⟨w, hw, e, _⟩ := h.hs y hy
    exact List.mem_map.2 ⟨w, hw, e⟩)
  simpa using this
end Go.Eng
namespace Go.Eng
open Go Go.Proofs Go.RowKit
def TqM (most each : Int) (n0 T : Nat) (L : List Wt) (b bh : Nat) (m : Mem0) : Prop :=
  ∃ (ad : Option Addr) (n cap bs : Nat) (es : Array MapEntry) (cl : Nat) (F : Int → Option Rw) (R : Nat) (sp : List (Int × Value)) (mr : Mem0), m = tbC b ad n cap most each bs bh :: (bs, .map es cl) :: mr ∧ RoM each n0 n cap ad R F mr ∧ EnsS .i64 es cl sp ∧ n0 ≤ b ∧ n0 ≤ bs ∧ R ≤ T ∧ TbQ most each T L F sp
theorem TqM.ge {most each : Int} {n0 T b bh : Nat} {L : List Wt} {m : Mem0} (h : TqM most each n0 T L b bh m) : ∀ p ∈ m, n0 ≤ p.1 := by
  obtain ⟨ad, n, cap, bs, es, cl, F, R, sp, mr, rfl, hR, he, hb, hbs, hRT, hQ⟩ := h
  intro p hp
  simp only [List.mem_cons] at hp
  rcases hp with rfl | rfl | hp
  · exact hb
  · exact hbs
  · exact hR.ge p hp
theorem TqM.wlk {most each : Int} {n0 T b bh : Nat} {L : List Wt} {m : Mem0} (h : TqM most each n0 T L b bh m) : ∀ p ∈ m, Go.Eng.wlk p.2 = false := by
  obtain ⟨ad, n, cap, bs, es, cl, F, R, sp, mr, rfl, hR, he, hb, hbs, hRT, hQ⟩ := h
  exact wlk_h rfl rfl hR.wlk
theorem TqM.mono {most each : Int} {n0 n1 T b bh : Nat} {L : List Wt} {m : Mem0} (h : TqM most each n0 T L b bh m) (k : n1 ≤ n0) : TqM most each n1 T L b bh m := by
  obtain ⟨ad, n, cap, bs, es, cl, F, R, sp, mr, rfl, hR, he, hb, hbs, hRT, hQ⟩ := h
  exact ⟨ad, n, cap, bs, es, cl, F, R, sp, mr, rfl, hR.mono k, he, Nat.le_trans k hb, Nat.le_trans k hbs, hRT, hQ⟩
theorem TqM.tmono {most each : Int} {n0 T T' b bh : Nat} {L : List Wt} {m : Mem0} (h : TqM most each n0 T L b bh m) (k : T ≤ T') : TqM most each n0 T' L b bh m := by
  obtain ⟨ad, n, cap, bs, es, cl, F, R, sp, mr, e, hR, he, hb, hbs, hRT, hQ⟩ := h
  exact ⟨ad, n, cap, bs, es, cl, F, R, sp, mr, e, hR, he, hb, hbs, by omega, hQ.mono k⟩
theorem TqM.lim {most each : Int} {n0 T b bh : Nat} {L : List Wt} {m : Mem0} (h : TqM most each n0 T L b bh m) : (0 ≤ most ∧ most ≤ 4096) ∧ (0 ≤ each ∧ each ≤ 4096) ∧ (L.length : Int) ≤ most ∧ Wd1 L := by
  obtain ⟨ad, n, cap, bs, es, cl, F, R, sp, mr, rfl, hR, he, hb, hbs, hRT, hQ⟩ := h
  exact ⟨hQ.mo, hQ.ea, hQ.len, hQ.wd⟩
theorem qlen_cnt {most each : Int} {T : Nat} {L : List Wt} {F : Int → Option Rw} {sp : List (Int × Value)} (h : TbQ most each T L F sp) {key : Int} {r : Rw} (hF : F key = some r) : r.q.length = cntL L key := by
  unfold cntL; rw [← (h.fs key r hF).2.1]; unfold qS; rw [List.length_map]
theorem fset_id {F : Int → Option Rw} {key : Int} {r : Rw} (h : F key = some r) : fset F key (some r) = F := by
  funext k; unfold fset
  by_cases e : k = key
  · rw [if_pos e, e, h]
  · rw [if_neg e]
theorem tent_spec {most each : Int} {n0 T b bh : Nat} {L : List Wt} {m : Mem0} (v : Wt) (w : World) (h : TqM most each n0 T L b bh m) (hT : T ≤ 1000000000) (hn : ∀ x ∈ L, x.who ≠ v.who) (hl : (L.length : Int) < most) (hn0 : n0 ≤ w.heap.size) (hM : Mem w m) :
    Ret Tryz.prog 93 #[.pointer (some ⟨b, 0, none⟩), .agg (fWt v).toArray] w (Upd m (fun u m' => u = .int .i64 (entE each L v) ∧ TqM most each n0 (T + 1) (entL each L v) b bh m') w) := by
  obtain ⟨ad, n, cap, bs, es, cl, F, R, sp, mr, rfl, hR, he, hb, hbs, hRT, hQ⟩ := h
  have hmE := mE_each hQ.ea
  cases hF : F v.key with
  | some r =>
    obtain ⟨k1, k2, k3⟩ := hQ.fs _ r hF
    have hlen := qlen_cnt hQ hF
    refine (tenter_some v w hR he hF k1 om hn0 hM).mono (fun u w' hU => hU.imp (fun u m' ⟨e, es', cl', mr', hm', hR', he'⟩ => ?_))
    unfold foE foX foT at *
    rw [hmE, hlen] at *
    unfold entE entL
    by_cases c : each ≤ (cntL L v.key : Int)
    · rw [if_pos c] at e he'
      rw [if_pos c, if_pos c] at hR'
      rw [if_pos c, if_pos c]
      exact ⟨e, ad, n, cap, bs, es', cl', F, R, sp, mr', hm', by rw [← fset_id hF]; exact hR', he', hb, hbs, by omega, hQ.mono om⟩
    · rw [if_neg c] at e he'
      rw [if_neg c, if_neg c] at hR'
      rw [if_neg c, if_neg c]
      exact ⟨e, ad, n, cap, bs, es', cl', _, R, _, mr', hm', hR', he', hb, hbs, by omega, hQ.more hn hl rfl rfl k2 (fun i hi => hQ.si _ r i hF hi) k3⟩
  | none =>
    have hnil := hQ.fn _ hF
    have hcnt : cntL L v.key = 0 := by unfold cntL; rw [hnil]; rfl
    refine (tenter_none v w hR he hF om hn0 hM).mono (fun u w' hU => hU.imp (fun u m' ⟨e, b', es', cl', mr', hm', hR', he'⟩ => ?_))
    unfold foE entN at *
    rw [hmE] at *
    unfold entE entL
    rw [hcnt]
    by_cases c : each ≤ 0
    · rw [if_pos (show each ≤ ((0 : Nat) : Int) from c), if_pos (show each ≤ ((0 : Nat) : Int) from c)]
      rw [if_pos (show each ≤ (([] : List (Int × Wt)).length : Int) from c)] at e
      rw [if_pos c] at hR' he'
      exact ⟨e, ad, n, cap, bs, es', cl', F, R + 1, sp, mr', hm', hR', he', hb, hbs, by omega, hQ.mono om⟩
    · rw [if_neg (show ¬ each ≤ ((0 : Nat) : Int) from c), if_neg (show ¬ each ≤ ((0 : Nat) : Int) from c)]
      rw [if_neg (show ¬ each ≤ (([] : List (Int × Wt)).length : Int) from c)] at e
      rw [if_neg c] at hR' he'
      exact ⟨e, ad, n, cap, bs, es', cl', _, R + 1, _, mr', hm', hR', he', hb, hbs, by omega, hQ.more (q := []) (tk := 0) hn hl rfl rfl (by rw [hnil]; rfl) (fun i hi => by cases hi) om⟩
theorem tlv_spec {most each : Int} {n0 T b bh : Nat} {L : List Wt} {m : Mem0} (x : Wt) (w : World) (h : TqM most each n0 T L b bh m) (hx : x ∈ L) (hM : Mem w m) :
    Ret Tryz.prog 134 #[.pointer (some ⟨b, 0, none⟩), .int .i64 x.who] w (Upd m (fun u m' => u = .tuple #[.agg (fWt x).toArray, .bool true] ∧ TqM most each n0 T (rmW L x.who) b bh m') w) := by
  obtain ⟨ad, n, cap, bs, es, cl, F, R, sp, mr, rfl, hR, he, hb, hbs, hRT, hQ⟩ := h
  obtain ⟨r, i, hF, hi, hxi, hsp⟩ := hQ.at hx
  have hL := hQ.less hF hi
  rw [hxi] at hL
  by_cases c : r.q.length = 1
  · have k := tleave_last i w hR he hF hi c hsp hM
    rw [hxi] at k
    exact k.mono (fun u w' hU => hU.imp (fun u m' ⟨e, es', cl', mr', hm', hR', he'⟩ => ⟨e, ad, n, cap, bs, es', cl', _, R, _, mr', hm', hR', he', hb, hbs, hRT, hL⟩))
  · have k := tleave_more i w hR he hF hi c hsp hM
    rw [hxi] at k
    exact k.mono (fun u w' hU => hU.imp (fun u m' ⟨e, es', cl', mr', hm', hR', he'⟩ => ⟨e, ad, n, cap, bs, es', cl', _, R, _, mr', hm', hR', he', hb, hbs, hRT, hL⟩))
theorem tlv_no {most each : Int} {n0 T b bh : Nat} {L : List Wt} {m : Mem0} (who : Int) (w : World) (h : TqM most each n0 T L b bh m) (hx : ∀ x ∈ L, x.who ≠ who) (hM : Mem w m) :
    Ret Tryz.prog 134 #[.pointer (some ⟨b, 0, none⟩), .int .i64 who] w (fun u w' => u = .tuple #[.agg (fWt default).toArray, .bool false] ∧ Ext w w') := by
  obtain ⟨ad, n, cap, bs, es, cl, F, R, sp, mr, rfl, hR, he, hb, hbs, hRT, hQ⟩ := h
  exact tleave_no w he (hQ.sn who hx) (hM.sub ((List.nil_sublist _).cons_cons _ |>.cons_cons _))
def TbM (most each : Int) (n0 T : Nat) (L : List Wt) (b : Nat) (m : Mem0) : Prop := ∃ bh S mq mh, m = mq ++ mh ∧ TqM most each n0 T L b bh mq ∧ HoM 4096 n0 bh S mh ∧ TbH L S
theorem TbM.ge {most each : Int} {n0 T b : Nat} {L : List Wt} {m : Mem0} (h : TbM most each n0 T L b m) : ∀ p ∈ m, n0 ≤ p.1 := by
  obtain ⟨bh, S, mq, mh, rfl, h1, h2, h3⟩ := h
  intro p hp
  rcases List.mem_append.1 hp with hp | hp
  · exact h1.ge p hp
  · exact h2.ge p hp
theorem TbM.wlk {most each : Int} {n0 T b : Nat} {L : List Wt} {m : Mem0} (h : TbM most each n0 T L b m) : ∀ p ∈ m, Go.Eng.wlk p.2 = false := by
  obtain ⟨bh, S, mq, mh, rfl, h1, h2, h3⟩ := h
  intro p hp
  rcases List.mem_append.1 hp with hp | hp
  · exact h1.wlk p hp
  · exact h2.wlk p hp
theorem TbM.mono {most each : Int} {n0 n1 T b : Nat} {L : List Wt} {m : Mem0} (h : TbM most each n0 T L b m) (k : n1 ≤ n0) : TbM most each n1 T L b m := by
  obtain ⟨bh, S, mq, mh, e, h1, h2, h3⟩ := h
  exact ⟨bh, S, mq, mh, e, h1.mono k, h2.mono k, h3⟩
theorem TbM.tmono {most each : Int} {n0 T T' b : Nat} {L : List Wt} {m : Mem0} (h : TbM most each n0 T L b m) (k : T ≤ T') : TbM most each n0 T' L b m := by
  obtain ⟨bh, S, mq, mh, e, h1, h2, h3⟩ := h
  exact ⟨bh, S, mq, mh, e, h1.tmono k, h2, h3⟩
theorem TbM.lim {most each : Int} {n0 T b : Nat} {L : List Wt} {m : Mem0} (h : TbM most each n0 T L b m) : (0 ≤ most ∧ most ≤ 4096) ∧ (0 ≤ each ∧ each ≤ 4096) ∧ (L.length : Int) ≤ most ∧ Wd1 L := by
  obtain ⟨bh, S, mq, mh, e, h1, h2, h3⟩ := h; exact h1.lim
theorem tb_fin {most each : Int} {n0 T' b bh : Nat} {L' : List Wt} {S' : List Hi} {mq mh mq' mh' M : Mem0} {u0 : Value} {w w' : World} (hq : TqM most each n0 T' L' b bh mq') (hS : HoM 4096 n0 bh S' mh') (hH : TbH L' S') (hm : Mem w' M) (hs : SubM M (mq' ++ (mh' ++ []))) (hc : Chg (inM (mq ++ mh)) w w') (h1 : inn mq w.heap.size mq') (h2 : inn mh w.heap.size mh') :
    Upd (mq ++ mh) (fun u m' => u = u0 ∧ TbM most each n0 T' L' b m') w u0 w' := by
  rw [List.append_nil] at hs
  refine ⟨hc, _, ⟨rfl, bh, S', mq', mh', rfl, hq, hS, hH⟩, hs.mem w' hm, fun p hp => ?_⟩
  rcases List.mem_append.1 hp with hp | hp
  · exact (h1 p hp).imp id (fun ⟨q, hq, e⟩ => ⟨q, List.mem_append_left _ hq, e⟩)
  · exact (h2 p hp).imp id (fun ⟨q, hq, e⟩ => ⟨q, List.mem_append_right _ hq, e⟩)
theorem tbh_same {L : List Wt} {S : List Hi} (h : TbH L S) {v : Wt} (hz : v.til = 0#64) : TbH (L ++ [v]) S :=
  ⟨fun x hx => by obtain ⟨w, hw, k⟩ := h.hs x hx; exact ⟨w, List.mem_append_left _ hw, k⟩, fun w hw hne => by
    rcases List.mem_append.1 hw with hw | hw
    · exact h.hc w hw hne
    · rw [List.mem_singleton] at hw; subst hw; exact absurd hz hne⟩
theorem tbh_push {L : List Wt} {S : List Hi} (h : TbH L S) {v : Wt} (hz : v.til ≠ 0#64) : TbH (L ++ [v]) (insS ⟨v.til, v.who, v.key⟩ S) :=
  ⟨fun x hx => by
    rcases List.mem_cons.1 ((insS_perm _ S).mem_iff.1 hx) with e | hx
    · subst e; exact ⟨v, by simp, rfl, rfl, hz⟩
    · obtain ⟨w, hw, k⟩ := h.hs x hx; exact ⟨w, List.mem_append_left _ hw, k⟩, fun w hw hne => by
    rcases List.mem_append.1 hw with hw | hw
    · obtain ⟨x, hx, k⟩ := h.hc w hw hne; exact ⟨x, (insS_perm _ S).mem_iff.2 (List.mem_cons_of_mem _ hx), k⟩
    · rw [List.mem_singleton] at hw; subst hw; exact ⟨_, (insS_perm _ S).mem_iff.2 (List.mem_cons_self ..), rfl, rfl⟩⟩
theorem tbh_rm {L : List Wt} {S : List Hi} (h : TbH L S) (who : Int) : TbH (rmW L who) (S.filter (fun y => y.id ≠ who)) :=
  ⟨fun x hx => by
    rw [List.mem_filter] at hx
    obtain ⟨w, hw, e, k⟩ := h.hs x hx.1
    exact ⟨w, rm_mem.2 ⟨hw, by rw [e]; exact of_decide_eq_true hx.2⟩, e, k⟩, fun w hw hne => by
    obtain ⟨h1, h2⟩ := rm_mem.1 hw
    obtain ⟨x, hx, e, k⟩ := h.hc w h1 hne
    exact ⟨x, List.mem_filter.2 ⟨hx, decide_eq_true (by rw [e]; exact h2)⟩, e, k⟩⟩
def wtE (most each : Int) (L : List Wt) (v : Wt) : Int := if ∃ x ∈ L, x.who = v.who then 12 else if most ≤ (L.length : Int) then 3 else entE each L v
def wtL (most each : Int) (L : List Wt) (v : Wt) : List Wt := if ∃ x ∈ L, x.who = v.who then L else if most ≤ (L.length : Int) then L else entL each L v
theorem twait_met {most each : Int} {n cap b bs bh cl : Nat} {ad : Option Addr} {es : Array MapEntry} {sp : List (Int × Value)} {key tk : Int} (v : Wt) (w : World) (he : EnsS .i64 es cl sp) (hw0 : aget sp v.who = some (vSp key tk)) (hM : Mem w (tbC b ad n cap most each bs bh :: (bs, .map es cl) :: [])) : Ret Tryz.prog 47 #[.pointer (some ⟨b, 0, none⟩), .agg (fWt v).toArray] w (fun u w' => u = .int .i64 12 ∧ Ext w w') := by
 have he1 := he.1
 refine Ret.enterM Tryz.func47 rfl Tryz.ntmps47 rfl (tbC b ad n cap most each bs bh :: (bs, .map es cl) :: []) (no) hM ?_
 refine wR ?_
 refine LM.box rfl rfl (fun b3 hb3 => ?_)
 refine LM.as rfl <| nA [(0, _), (3, _)] <| wpM.seq <| wR <| LM.mv rfl ?_
 refine LM.val (ov_peql kr rfl rfl) ?_
 refine nA [(0, _), (3, _), (9, _)] ?_
 refine wpM.condF rfl ?_
 refine wpM.skip <| QM.then <| wpM.seq <| wpM.seq ?_
 refine wpM.keep (tbC b ad n cap most each bs bh :: (bs, .map es cl) :: (b3, .cells (fWt v).toArray 85 (0, 0)) :: []) (fun _ => True) (.one 0 0 (.one 1 0 (.one 2 0 (.one 3 1 (.one 4 0 (.one 5 1 (.one 6 1 (.one 7 0 (.one 8 0 (.one 9 0 (.one 10 2 (.one 11 2 (.one 12 0 .nil))))))))))))) kr kr au1 (fun _ _ => trivial) ?_
 refine KD.val rfl rfl (ov_move rfl) <| KD.val rfl rfl (ov_nilCheck rfl) <| KD.val rfl rfl (ovf 108 rfl rfl rfl rfl) ?_
 refine KD.rd rfl rfl (oml rfl rfl rfl) ?_
 refine KD.val rfl rfl (ovf 3 rfl rfl rfl rfl) ?_
 refine KD.rd rfl rfl (oml rfl rfl rfl) ?_
 refine KD.rd rfl rfl (om_lkOk Tryz.underlying108 Tryz.underlying3 Tryz.zeroValue125 rfl rfl asm (getD_some9 hw0) (has_some' hw0)) ?_
 refine KD.val rfl rfl (ov_move rfl) ?_
 refine KD.val rfl rfl (ov_extract rfl rfl) ?_
 refine KD.val rfl rfl (ov_extract rfl rfl) ?_
 refine KD.one rfl ?_
 refine LM.alloc Tryz.zeroValue125 rfl (fun b5 hb5 => ?_)
 refine LM.nil ?_
 refine kq1 ?_
 refine KD.one rfl ?_
 refine LM.stW Tryz.sizeOf125 rfl rfl rfl rfl au7 auH ?_
 refine LM.nil ?_
 refine kq1 ?_
 refine KD.val rfl rfl (ov_assign rfl) <| KD.nil ?_
 refine QM.sub (e' := [(0, _), (3, _), (6, _)]) au9 (QM.then (wpM.seq (wpM.region ?_)))
 refine LM.mv rfl <| nA [(0, _), (3, _), (20, _)] ?_
 first | refine wpM.condD rfl (fun h1 => ?_) (fun h1 => ?_) | refine wpM.condB rfl (fun h1 => ?_) (fun h1 => ?_)
 ·
  refine wR <| LM.as rfl <| nA [(4, _)] <| wpM.ret <| QM.then_ret ?_
  refine qL Tryz.results47 rfl fun w' hm' hc' hg' => ?_
  exact ⟨rfl, hc'⟩
 cases h1
theorem twait_new {most each : Int} {n0 T b bh : Nat} {L : List Wt} {S : List Hi} {mq mh : Mem0} (v : Wt) (w : World) (hTq : TqM most each n0 T L b bh mq) (hT : T ≤ 1000000000) (hS : HoM 4096 n0 bh S mh) (hH : TbH L S) (hnw : ∀ x ∈ L, x.who ≠ v.who) (hn0 : n0 ≤ w.heap.size) (hM : Mem w (mq ++ mh)) : Ret Tryz.prog 47 #[.pointer (some ⟨b, 0, none⟩), .agg (fWt v).toArray] w (Upd (mq ++ mh) (fun u m' => u = .int .i64 (wtE most each L v) ∧ TbM most each n0 (T + 1) (wtL most each L v) b m') w) := by
 have hQ0 := hTq; obtain ⟨ad, n, cap, bs, es, cl, F, R, sp, mr, rfl, hR, he, hb, hbs, hRT, hQ⟩ := hTq; have he1 := he.1; have hw0 := hQ.sn v.who hnw; have hno : ¬ ∃ x ∈ L, x.who = v.who := (fun ⟨x, hx, e⟩ => hnw x hx e); have hsl := hQ.sl
 refine Ret.enterM Tryz.func47 rfl Tryz.ntmps47 rfl (tbC b ad n cap most each bs bh :: (bs, .map es cl) :: (mr ++ (mh ++ []))) ((inM ((tbC b ad n cap most each bs bh :: (bs, .map es cl) :: mr) ++ mh))) aM ?_
 refine wR ?_
 refine LM.box rfl rfl (fun b3 hb3 => ?_)
 refine LM.as rfl <| nA [(0, _), (3, _)] <| wpM.seq <| wR <| LM.mv rfl ?_
 refine LM.val (ov_peql kr rfl rfl) ?_
 refine nA [(0, _), (3, _), (9, _)] ?_
 refine wpM.condF rfl ?_
 refine wpM.skip <| QM.then <| wpM.seq <| wpM.seq ?_
 refine wpM.keep (tbC b ad n cap most each bs bh :: (bs, .map es cl) :: (b3, .cells (fWt v).toArray 85 (0, 0)) :: []) (fun _ => True) (.one 0 0 (.one 1 0 (.one 2 0 (.one 3 1 (.one 4 0 (.one 5 1 (.one 6 1 (.one 7 0 (.one 8 0 (.one 9 0 (.one 10 2 (.one 11 2 (.one 12 0 .nil))))))))))))) kr kr au1 (fun _ _ => trivial) ?_
 refine KD.val rfl rfl (ov_move rfl) <| KD.val rfl rfl (ov_nilCheck rfl) <| KD.val rfl rfl (ovf 108 rfl rfl rfl rfl) ?_
 refine KD.rd rfl rfl (oml rfl rfl rfl) ?_
 refine KD.val rfl rfl (ovf 3 rfl rfl rfl rfl) ?_
 refine KD.rd rfl rfl (oml rfl rfl rfl) ?_
 refine KD.rd rfl rfl (om_lkOk Tryz.underlying108 Tryz.underlying3 Tryz.zeroValue125 rfl rfl asm (getD_none9 hw0) (has_none' hw0)) ?_
 refine KD.val rfl rfl (ov_move rfl) ?_
 refine KD.val rfl rfl (ov_extract rfl rfl) ?_
 refine KD.val rfl rfl (ov_extract rfl rfl) ?_
 refine KD.one rfl ?_
 refine LM.alloc Tryz.zeroValue125 rfl (fun b5 hb5 => ?_)
 refine LM.nil ?_
 refine kq1 ?_
 refine KD.one rfl ?_
 refine LM.stW Tryz.sizeOf125 rfl rfl rfl rfl au7 auH ?_
 refine LM.nil ?_
 refine kq1 ?_
 refine KD.val rfl rfl (ov_assign rfl) <| KD.nil ?_
 refine QM.sub (e' := [(0, _), (3, _), (6, _)]) au9 (QM.then (wpM.seq (wpM.region ?_)))
 refine LM.mv rfl <| nA [(0, _), (3, _), (20, _)] ?_
 first | refine wpM.condD rfl (fun h1 => ?_) (fun h1 => ?_) | refine wpM.condB rfl (fun h1 => ?_) (fun h1 => ?_)
 ·
  cases h1
 refine wpM.skip <| QM.then <| wpM.seq <| wpM.seq ?_
 refine wpM.draw [(0, 0), (1, 0), (2, 0), (3, 1), (4, 1), (5, 0), (6, 0), (7, 0), (8, 1), (9, 0)] kr kr ?_
 refine LD.val rfl rfl (ov_move rfl) <| LD.val rfl rfl (ov_nilCheck rfl) <| LD.val rfl rfl (ovf 108 rfl rfl rfl rfl) ?_
 refine LD.rd rfl rfl (oml rfl rfl rfl) ?_
 refine LD.rd rfl rfl (om_mlen Tryz.underlying108 rfl asm rfl) ?_
 refine LD.val rfl rfl (ov_move rfl) <| LD.val rfl rfl (ov_nilCheck rfl) <| LD.val rfl rfl (ovf 3 rfl rfl rfl rfl) ?_
 refine LD.rd rfl rfl (oml rfl rfl rfl) ?_
 refine LD.val rfl rfl (ov_geq rfl rfl) ?_
 refine LD.nil ?_
 refine QM.sub (e' := [(0, _), (3, _), (30, _)]) au9 (QM.then ?_)
 refine wpM.condD rfl (fun h2 => ?_) (fun h2 => ?_)
 ·
  refine wR <| LM.as rfl <| nA [(4, _)] <| wpM.ret <| QM.then_ret ?_
  refine qL Tryz.results47 rfl fun w' hm' hc' hg' => ?_
  rw [show wtE most each L v = 3 by (unfold wtE; rw [if_neg hno, if_pos om]), show wtL most each L v = L by (unfold wtL; rw [if_neg hno, if_pos om])]; exact tb_fin (hQ0.tmono (Nat.le_succ _)) hS hH hm' (by (repeat' (first | exact SubM.nil _ | refine SubM.cons (by rfl) ?_ | refine SubM.app ?_))) hc' (inn_refl _ _) (inn_refl _ _)
 refine wpM.skip <| tR <| LM.mv rfl ?_
 refine LM.rd (om_ldW Tryz.isAgg85 Tryz.sizeOf85 rfl rfl) ?_
 refine cU Tryz.func93 rfl (fun w hm hc hg => tent_spec v w hQ0 hT hnw om (Nat.le_trans hn0 hc.size) (hm.pick (tbC b ad n cap most each bs bh :: (bs, .map es cl) :: mr))) hQ0.wlk (fun p hp _ => inM_al p hp) ?_
 rintro u33 m33 ⟨rfl, h33⟩ hin33; have hQ3 := h33; obtain ⟨ad3, n3, cap3, bs3, es3, cl3, F3, R3, sp3, mr3, rfl, hR3, he3, hb3, hbs3, hRT3, hQ3'⟩ := h33
 refine LM.as rfl <| nA [(0, _), (3, _), (7, _)] <| wpM.seq <| wR <| LM.mv rfl <| LM.val (ov_eql rfl rfl) <| LM.mv rfl ?_
 refine LM.splitD (t := 36) rfl (fun h3 => ?_) (fun h3 => ?_)
 ·
  refine LM.sp 36 rfl rfl rfl <| LM.val (ovf 51 rfl rfl rfl rfl) <| LM.sp 36 rfl rfl rfl ?_
  refine LM.rd (oml rfl rfl rfl) ?_
  refine LM.sp 36 rfl rfl rfl ?_
  refine LM.val (ov_uneq (b := 0#64) rfl rfl) ?_
  refine LM.val (ov_pickT rfl rfl) <| nA [(0, _), (3, _), (7, _), (40, _)] ?_
  refine wpM.condD rfl (fun h4 => ?_) (fun h4 => ?_)
  ·
   refine wpM.draw [(0, 0), (1, 0), (2, 0), (3, 1), (4, 0), (5, 1), (6, 0), (7, 1), (8, 0), (9, 0), (10, 1), (11, 3)] kr kr ?_
   refine LD.val rfl rfl (ov_move rfl) <| LD.val rfl rfl (ov_nilCheck rfl) <| LD.val rfl rfl (ovf 109 rfl rfl rfl rfl) ?_
   refine LD.rd rfl rfl (oml rfl rfl rfl) ?_
   refine LD.val rfl rfl (ovf 51 rfl rfl rfl rfl) ?_
   refine LD.rd rfl rfl (oml rfl rfl rfl) ?_
   refine LD.val rfl rfl (ovf 3 rfl rfl rfl rfl) ?_
   refine LD.rd rfl rfl (oml rfl rfl rfl) ?_
   refine LD.val rfl rfl (ov_build (cs := #[_, _]) rfl (by first | rfl | kernel_rfl)) ?_
   refine LD.val rfl rfl (ovf 3 rfl rfl rfl rfl) ?_
   refine LD.rd rfl rfl (oml rfl rfl rfl) ?_
   refine LD.tail rfl rfl ?_
   refine cU Tryz.func94 rfl (fun w hm hc hg => hopush_spec ⟨v.til, v.who, v.key⟩ w hS (Nat.le_trans hn0 hc.size) (hm.pick mh)) hS.wlk (fun p hp _ => inM_ar p hp) ?_
   rintro u52 m52 ⟨rfl, h52⟩ hin52
   refine LM.nil ?_
   refine QM.qn ?_
   refine QM.sub (e' := [(7, _)]) ⟨rfl, trivial⟩ (QM.then (wpM.seq (wpM.region ?_)))
   refine LM.mv rfl <| LM.as rfl <| nA [(4, _)] <| wpM.ret ?_
   refine qL Tryz.results47 rfl fun w' hm' hc' hg' => ?_
   have hE : ¬ each ≤ (cntL L v.key : Int) := (by intro z; unfold entE at h3; rw [if_pos z] at h3; exact absurd h3 (by decide)); have hI := hH.len hS.ids; have hlm := hS.len; have hmo := hQ.mo; have hz : v.til ≠ 0#64 := h4; rw [show wtE most each L v = entE each L v by (unfold wtE; rw [if_neg hno, if_neg om]), show wtL most each L v = L ++ [v] by (unfold wtL entL; rw [if_neg hno, if_neg om, if_neg hE])]; rw [show entL each L v = L ++ [v] from if_neg hE] at hQ3; rw [show hoX 4096 S ⟨v.til, v.who, v.key⟩ = insS ⟨v.til, v.who, v.key⟩ S by (unfold hoX; rw [if_neg (fun ⟨y, hy, e⟩ => by obtain ⟨x, hx, e2, _⟩ := hH.hs y hy; exact hnw x hx (e2.trans e)), if_neg om])] at h52; exact tb_fin hQ3 h52 (tbh_push hH hz) hm' (by (repeat' (first | exact SubM.nil _ | refine SubM.cons (by rfl) ?_ | refine SubM.app ?_))) hc' hin33 hin52
  refine wpM.skip <| tR <| LM.mv rfl <| LM.as rfl <| nA [(4, _)] <| wpM.ret ?_
  refine qL Tryz.results47 rfl fun w' hm' hc' hg' => ?_
  have hE : ¬ each ≤ (cntL L v.key : Int) := (by intro z; unfold entE at h3; rw [if_pos z] at h3; exact absurd h3 (by decide)); have hz : v.til = 0#64 := (by simpa using h4); rw [show wtE most each L v = entE each L v by (unfold wtE; rw [if_neg hno, if_neg om]), show wtL most each L v = L ++ [v] by (unfold wtL entL; rw [if_neg hno, if_neg om, if_neg hE])]; rw [show entL each L v = L ++ [v] from if_neg hE] at hQ3; exact tb_fin hQ3 hS (tbh_same hH hz) hm' (by (repeat' (first | exact SubM.nil _ | refine SubM.cons (by rfl) ?_ | refine SubM.app ?_))) hc' hin33 (inn_refl _ _)
 refine LM.dr 36 rfl rfl rfl <| LM.dr 36 rfl rfl rfl <| LM.dr 36 rfl rfl rfl <| LM.val (ov_pickF rfl rfl) <| nA [(0, _), (3, _), (7, _), (40, _)] ?_
 refine wpM.condF rfl ?_
 refine wpM.skip <| tR <| LM.mv rfl <| LM.as rfl <| nA [(4, _)] <| wpM.ret ?_
 refine qL Tryz.results47 rfl fun w' hm' hc' hg' => ?_
 have hE : each ≤ (cntL L v.key : Int) := (by apply Classical.byContradiction; intro z; unfold entE at h3; rw [if_neg z] at h3; exact absurd rfl h3); rw [show wtE most each L v = entE each L v by (unfold wtE; rw [if_neg hno, if_neg om]), show wtL most each L v = L by (unfold wtL entL; rw [if_neg hno, if_neg om, if_pos hE])]; rw [show entL each L v = L from if_pos hE] at hQ3; exact tb_fin hQ3 hS hH hm' (by (repeat' (first | exact SubM.nil _ | refine SubM.cons (by rfl) ?_ | refine SubM.app ?_))) hc' hin33 (inn_refl _ _)
theorem twait_spec {most each : Int} {n0 T b : Nat} {L : List Wt} {m : Mem0} (v : Wt) (w : World) (h : TbM most each n0 T L b m) (hT : T ≤ 1000000000) (hn0 : n0 ≤ w.heap.size) (hM : Mem w m) :
    Ret Tryz.prog 47 #[.pointer (some ⟨b, 0, none⟩), .agg (fWt v).toArray] w (Upd m (fun u m' => u = .int .i64 (wtE most each L v) ∧ TbM most each n0 (T + 1) (wtL most each L v) b m') w) := by
  have h0 := h
  obtain ⟨bh, S, mq, mh, rfl, h1, h2, h3⟩ := h
  by_cases c : ∃ x ∈ L, x.who = v.who
  · obtain ⟨x, hx, e⟩ := c
    obtain ⟨ad, n, cap, bs, es, cl, F, R, sp, mr, rfl, hR, he, hb, hbs, hRT, hQ⟩ := h1
    obtain ⟨r, i, hF, hi, hxi, hsp⟩ := hQ.at hx
    rw [e] at hsp
    refine (twait_met v w he hsp (hM.sub ((List.nil_sublist _).cons_cons _ |>.cons_cons _))).mono (fun u w' ⟨hu, hc⟩ => ?_)
    have hc' : ∃ x ∈ L, x.who = v.who := ⟨x, hx, e⟩
    rw [show wtE most each L v = 12 from if_pos hc', show wtL most each L v = L from if_pos hc']
    exact ⟨hc.chg, _, ⟨hu, h0.tmono (Nat.le_succ _)⟩, hM.ext hc, fun p hp => .inr ⟨p, hp, rfl⟩⟩
  · exact twait_new v w h1 hT h2 h3 (fun x hx e => c ⟨x, hx, e⟩) hn0 hM
theorem tcancel_t {most each : Int} {n0 T b bh : Nat} {L : List Wt} {S : List Hi} {mq mh : Mem0} (x : Wt) (w : World) (hTq : TqM most each n0 T L b bh mq) (hS : HoM 4096 n0 bh S mh) (hH : TbH L S) (hx : x ∈ L) (hz : x.til ≠ 0#64) (hM : Mem w (mq ++ mh)) : Ret Tryz.prog 102 #[.pointer (some ⟨b, 0, none⟩), .int .i64 x.who] w (Upd (mq ++ mh) (fun u m' => u = .tuple #[.agg (fWt x).toArray, .bool true] ∧ TbM most each n0 T (rmW L x.who) b m') w) := by
 obtain ⟨y, hyS, hyi, hyV⟩ := hH.hc x hx hz
 refine Ret.enterM Tryz.func102 rfl Tryz.ntmps102 rfl (mq ++ (mh ++ [])) ((inM (mq ++ mh))) aM ?_
 refine wR ?_
 refine LM.alloc Tryz.zeroValue85 rfl (fun b4 hb4 => ?_)
 refine LM.as rfl <| nB [(0, _), (1, _), (4, _)] <| LM.mv rfl <| LM.mv rfl ?_
 refine cU Tryz.func134 rfl (fun w hm hc hg => tlv_spec x w hTq hx (hm.pick mq)) hTq.wlk (fun p hp _ => inM_al p hp) ?_
 rintro u11 m11 ⟨rfl, h11⟩ hin11; have hQ3 := h11; obtain ⟨ad3, n3, cap3, bs3, es3, cl3, F3, R3, sp3, mr3, rfl, hR3, he3, hb3, hbs3, hRT3, hQ3'⟩ := h11
 refine LM.mv rfl <| LM.val (ov_extract rfl rfl) <| LM.val (ov_extract rfl rfl) ?_
 refine LM.alloc Tryz.zeroValue85 rfl (fun b6 hb6 => ?_)
 refine LM.stW Tryz.sizeOf85 rfl rfl rfl rfl au7 auH ?_
 refine LM.as rfl <| nA [(0, _), (1, _), (4, _), (6, _), (7, _)] <| wpM.seq <| wR <| LM.mv rfl <| nA [(0, _), (1, _), (4, _), (6, _), (7, _), (14, _)] ?_
 first | refine wpM.condD rfl (fun h1 => ?_) (fun h1 => ?_) | refine wpM.condB rfl (fun h1 => ?_) (fun h1 => ?_)
 ·
  refine wpM.region ?_
  refine LM.mv rfl <| LM.nc rfl <| LM.val (ovf 109 rfl rfl rfl rfl) ?_
  refine LM.rd (oml rfl rfl rfl) ?_
  refine LM.mv rfl ?_
  refine cU Tryz.func135 rfl (fun w hm hc hg => (by have k := horemove_yes y w hS hyS (hm.pick mh); rw [hyi] at k; exact k)) hS.wlk (fun p hp _ => inM_ar p hp) ?_
  rintro u20 m20 ⟨rfl, h20⟩ hin20
  refine nB [(4, _), (6, _), (7, _)] ?_
  refine LM.rd (om_ldW Tryz.isAgg85 Tryz.sizeOf85 rfl rfl) ?_
  refine LM.mv rfl ?_
  refine LM.stW Tryz.sizeOf85 rfl rfl rfl rfl au7 auH ?_
  refine LM.as rfl <| nA [(4, _), (5, _)] <| wpM.ret ?_
  refine QM.leaveCs (ds := ([])) (.inl rfl) [.cell 4 85, .tmp 5] Tryz.results102 hd_nil (rc_w rfl Tryz.isAgg85 Tryz.sizeOf85 rfl (rc_tmp rfl rc_nil)) ?_
  intro w' hm' hc'
  exact tb_fin hQ3 h20 (tbh_rm hH _) hm' (by (repeat' (first | exact SubM.nil _ | refine SubM.cons (by rfl) ?_ | refine SubM.app ?_))) hc' hin11 hin20
 cases h1
theorem tcancel_z {most each : Int} {n0 T b bh : Nat} {L : List Wt} {S : List Hi} {mq mh : Mem0} (x : Wt) (w : World) (hTq : TqM most each n0 T L b bh mq) (hS : HoM 4096 n0 bh S mh) (hH : TbH L S) (hx : x ∈ L) (hns : ∀ y ∈ S, y.id ≠ x.who) (hM : Mem w (mq ++ mh)) : Ret Tryz.prog 102 #[.pointer (some ⟨b, 0, none⟩), .int .i64 x.who] w (Upd (mq ++ mh) (fun u m' => u = .tuple #[.agg (fWt x).toArray, .bool true] ∧ TbM most each n0 T (rmW L x.who) b m') w) := by
 refine Ret.enterM Tryz.func102 rfl Tryz.ntmps102 rfl (mq ++ (mh ++ [])) ((inM (mq ++ mh))) aM ?_
 refine wR ?_
 refine LM.alloc Tryz.zeroValue85 rfl (fun b4 hb4 => ?_)
 refine LM.as rfl <| nB [(0, _), (1, _), (4, _)] <| LM.mv rfl <| LM.mv rfl ?_
 refine cU Tryz.func134 rfl (fun w hm hc hg => tlv_spec x w hTq hx (hm.pick mq)) hTq.wlk (fun p hp _ => inM_al p hp) ?_
 rintro u11 m11 ⟨rfl, h11⟩ hin11; have hQ3 := h11; obtain ⟨ad3, n3, cap3, bs3, es3, cl3, F3, R3, sp3, mr3, rfl, hR3, he3, hb3, hbs3, hRT3, hQ3'⟩ := h11
 refine LM.mv rfl <| LM.val (ov_extract rfl rfl) <| LM.val (ov_extract rfl rfl) ?_
 refine LM.alloc Tryz.zeroValue85 rfl (fun b6 hb6 => ?_)
 refine LM.stW Tryz.sizeOf85 rfl rfl rfl rfl au7 auH ?_
 refine LM.as rfl <| nA [(0, _), (1, _), (4, _), (6, _), (7, _)] <| wpM.seq <| wR <| LM.mv rfl <| nA [(0, _), (1, _), (4, _), (6, _), (7, _), (14, _)] ?_
 first | refine wpM.condD rfl (fun h1 => ?_) (fun h1 => ?_) | refine wpM.condB rfl (fun h1 => ?_) (fun h1 => ?_)
 ·
  refine wpM.region ?_
  refine LM.mv rfl <| LM.nc rfl <| LM.val (ovf 109 rfl rfl rfl rfl) ?_
  refine LM.rd (oml rfl rfl rfl) ?_
  refine LM.mv rfl ?_
  refine cE Tryz.func135 rfl (fun w hm hc hg => horemove_no x.who w hS hns (hm.pick mh)) ?_
  refine nB [(4, _), (6, _), (7, _)] ?_
  refine LM.rd (om_ldW Tryz.isAgg85 Tryz.sizeOf85 rfl rfl) ?_
  refine LM.mv rfl ?_
  refine LM.stW Tryz.sizeOf85 rfl rfl rfl rfl au7 auH ?_
  refine LM.as rfl <| nA [(4, _), (5, _)] <| wpM.ret ?_
  refine QM.leaveCs (ds := ([])) (.inl rfl) [.cell 4 85, .tmp 5] Tryz.results102 hd_nil (rc_w rfl Tryz.isAgg85 Tryz.sizeOf85 rfl (rc_tmp rfl rc_nil)) ?_
  intro w' hm' hc'
  exact tb_fin hQ3 hS (by have k := tbh_rm hH x.who; rw [filter_none hns] at k; exact k) hm' (by (repeat' (first | exact SubM.nil _ | refine SubM.cons (by rfl) ?_ | refine SubM.app ?_))) hc' hin11 (inn_refl _ _)
 cases h1
theorem tcancel_yes {most each : Int} {n0 T b : Nat} {L : List Wt} {m : Mem0} (x : Wt) (w : World) (h : TbM most each n0 T L b m) (hx : x ∈ L) (hM : Mem w m) :
    Ret Tryz.prog 102 #[.pointer (some ⟨b, 0, none⟩), .int .i64 x.who] w (Upd m (fun u m' => u = .tuple #[.agg (fWt x).toArray, .bool true] ∧ TbM most each n0 T (rmW L x.who) b m') w) := by
  obtain ⟨bh, S, mq, mh, rfl, h1, h2, h3⟩ := h
  have hwd := h1.lim.2.2.2
  by_cases hz : x.til = 0#64
  · refine tcancel_z x w h1 h2 h3 hx (fun y hy e => ?_) hM
    obtain ⟨v, hv, e1, e2, e3⟩ := h3.hs y hy
    rw [wd_eq hwd hv hx (e1.trans e)] at e3; exact e3 hz
  · exact tcancel_t x w h1 h2 h3 hx hz hM
theorem tcancel_no0 {most each : Int} {n0 T b bh : Nat} {L : List Wt} {mq : Mem0} (who : Int) (w : World) (hTq : TqM most each n0 T L b bh mq) (hx : ∀ x ∈ L, x.who ≠ who) (hM : Mem w mq) : Ret Tryz.prog 102 #[.pointer (some ⟨b, 0, none⟩), .int .i64 who] w (fun u w' => u = .tuple #[.agg (fWt default).toArray, .bool false] ∧ Ext w w') := by
 refine Ret.enterM Tryz.func102 rfl Tryz.ntmps102 rfl (mq ++ []) (no) aM ?_
 refine wR ?_
 refine LM.alloc Tryz.zeroValue85 rfl (fun b4 hb4 => ?_)
 refine LM.as rfl <| nB [(0, _), (1, _), (4, _)] <| LM.mv rfl <| LM.mv rfl ?_
 refine cE Tryz.func134 rfl (fun w hm hc hg => tlv_no who w hTq hx (hm.pick mq)) ?_
 refine LM.mv rfl <| LM.val (ov_extract rfl rfl) <| LM.val (ov_extract rfl rfl) ?_
 refine LM.alloc Tryz.zeroValue85 rfl (fun b6 hb6 => ?_)
 refine LM.stW Tryz.sizeOf85 rfl rfl rfl rfl au7 auH ?_
 refine LM.as rfl <| nA [(0, _), (1, _), (4, _), (6, _), (7, _)] <| wpM.seq <| wR <| LM.mv rfl <| nA [(0, _), (1, _), (4, _), (6, _), (7, _), (14, _)] ?_
 first | refine wpM.condD rfl (fun h1 => ?_) (fun h1 => ?_) | refine wpM.condB rfl (fun h1 => ?_) (fun h1 => ?_)
 ·
  cases h1
 refine wpM.skip <| tR ?_
 refine LM.rd (om_ldW Tryz.isAgg85 Tryz.sizeOf85 rfl rfl) ?_
 refine LM.mv rfl ?_
 refine LM.stW Tryz.sizeOf85 rfl rfl rfl rfl au7 auH ?_
 refine LM.as rfl <| nA [(4, _), (5, _)] <| wpM.ret ?_
 refine QM.leaveCs (ds := ([])) (.inl rfl) [.cell 4 85, .tmp 5] Tryz.results102 hd_nil (rc_w rfl Tryz.isAgg85 Tryz.sizeOf85 rfl (rc_tmp rfl rc_nil)) ?_
 intro w' hm' hc'
 exact ⟨rfl, hc'⟩
theorem tcancel_no {most each : Int} {n0 T b : Nat} {L : List Wt} {m : Mem0} (who : Int) (w : World) (h : TbM most each n0 T L b m) (hx : ∀ x ∈ L, x.who ≠ who) (hM : Mem w m) :
    Ret Tryz.prog 102 #[.pointer (some ⟨b, 0, none⟩), .int .i64 who] w (fun u w' => u = .tuple #[.agg (fWt default).toArray, .bool false] ∧ Ext w w') := by
  obtain ⟨bh, S, mq, mh, rfl, h1, h2, h3⟩ := h
  exact tcancel_no0 who w h1 hx (hM.sub (List.sublist_append_left ..))
theorem twho_yes0 {each most : Int} {n0 n cap b bs bh cl R : Nat} {ad : Option Addr} {F : Int → Option Rw} {es : Array MapEntry} {sp : List (Int × Value)} {mr : Mem0} {r : Rw} {key who : Int} (i : Nat) (w : World) (hR : RoM each n0 n cap ad R F mr) (he : EnsS .i64 es cl sp) (hF : F key = some r) (hi : i < r.q.length) (hw0 : aget sp who = some (vSp key (qd r.q i).1)) (hM : Mem w (tbC b ad n cap most each bs bh :: (bs, .map es cl) :: mr)) : Ret Tryz.prog 86 #[.pointer (some ⟨b, 0, none⟩), .int .i64 who] w (fun u w' => u = .tuple #[.agg (fWt (qd r.q i).2).toArray, .bool true] ∧ Ext w w') := by
 have he1 := he.1
 refine Ret.enterM Tryz.func86 rfl Tryz.ntmps86 rfl (tbC b ad n cap most each bs bh :: (bs, .map es cl) :: (mr ++ [])) (no) aM ?_
 refine wR ?_
 refine LM.alloc Tryz.zeroValue85 rfl (fun b4 hb4 => ?_)
 refine LM.as rfl <| nA [(0, _), (1, _), (4, _)] <| wpM.seq <| wR <| LM.mv rfl ?_
 refine LM.val (ov_peql kr rfl rfl) ?_
 refine nA [(0, _), (1, _), (4, _), (9, _)] ?_
 refine wpM.condF rfl ?_
 refine wpM.skip <| tR <| LM.mv rfl <| LM.nc rfl <| LM.val (ovf 108 rfl rfl rfl rfl) ?_
 refine LM.rd (oml rfl rfl rfl) ?_
 refine LM.mv rfl ?_
 refine LM.rd (om_lkOk Tryz.underlying108 Tryz.underlying3 Tryz.zeroValue125 rfl rfl asm (getD_some9 hw0) (has_some' hw0)) ?_
 refine LM.mv rfl <| LM.val (ov_extract rfl rfl) <| LM.val (ov_extract rfl rfl) ?_
 refine LM.alloc Tryz.zeroValue125 rfl (fun b6 hb6 => ?_)
 refine LM.stW Tryz.sizeOf125 rfl rfl rfl rfl au7 auH ?_
 refine LM.as rfl <| nA [(0, _), (4, _), (6, _), (7, _)] <| wpM.seq <| wR <| LM.mv rfl ?_
 first | refine LM.val (ov_notD rfl) ?_ | refine LM.val (ov_not rfl) ?_
 refine nA [(0, _), (4, _), (6, _), (21, _)] ?_
 first | refine wpM.condD rfl (fun h1 => ?_) (fun h1 => ?_) | refine wpM.condB rfl (fun h1 => ?_) (fun h1 => ?_)
 ·
  cases h1
 refine wpM.skip <| QM.then <| wpM.seq ?_
 refine wpM.keep ((b6, .cells #[.int .i64 key, .int .i64 (qd r.q i).1] 125 (0, 0)) :: []) (fun _ => True) (.one 0 0 (.one 1 0 (.one 2 1 (.one 4 0 (.one 5 1 (.one 3 2 (.one 6 2 (.one 7 0 (.one 8 0 (.one 9 2 (.one 10 0 .nil))))))))))) kr kr au1 (fun _ _ => trivial) ?_
 refine KD.val rfl rfl (ov_move rfl) <| KD.val rfl rfl (ovf 3 rfl rfl rfl rfl) ?_
 refine KD.rd rfl rfl (oml rfl rfl rfl) ?_
 refine KD.val rfl rfl (ovf 3 rfl rfl rfl rfl) ?_
 refine KD.rd rfl rfl (oml rfl rfl rfl) ?_
 refine KD.one rfl ?_
 refine cE Tryz.func105 rfl (fun w hm hc hg => rq_some false hR hF (hm.pick (tbC b ad n cap most each bs bh :: mr))) ?_
 refine LM.nil ?_
 refine kq1 ?_
 refine KD.one rfl ?_
 refine cE Tryz.func123 rfl (fun w hm hc hg => rq_get i hR hF hi (hm.pick mr)) ?_
 refine LM.nil ?_
 refine kq1 ?_
 refine KD.val rfl rfl (ov_extract rfl rfl) ?_
 refine KD.val rfl rfl (ov_extract rfl rfl) ?_
 refine KD.one rfl ?_
 refine LM.stW Tryz.sizeOf85 rfl rfl rfl rfl au7 auH ?_
 refine LM.nil ?_
 refine kq1 ?_
 refine KD.val rfl rfl (ov_assign rfl) <| KD.nil ?_
 refine QM.sub (e' := [(4, _), (5, _)]) au9 (QM.then ?_)
 refine wpM.ret ?_
 refine QM.leaveCs (ds := ([])) (.inl rfl) [.cell 4 85, .tmp 5] Tryz.results86 hd_nil (rc_w rfl Tryz.isAgg85 Tryz.sizeOf85 rfl (rc_tmp rfl rc_nil)) ?_
 intro w' hm' hc'
 exact ⟨rfl, hc'⟩
theorem twho_yes {most each : Int} {n0 T b : Nat} {L : List Wt} {m : Mem0} (x : Wt) (w : World) (h : TbM most each n0 T L b m) (hx : x ∈ L) (hM : Mem w m) :
    Ret Tryz.prog 86 #[.pointer (some ⟨b, 0, none⟩), .int .i64 x.who] w (fun u w' => u = .tuple #[.agg (fWt x).toArray, .bool true] ∧ Ext w w') := by
  obtain ⟨bh, S, mq, mh, rfl, h1, h2, h3⟩ := h
  obtain ⟨ad, n, cap, bs, es, cl, F, R, sp, mr, rfl, hR, he, hb, hbs, hRT, hQ⟩ := h1
  obtain ⟨r, i, hF, hi, hxi, hsp⟩ := hQ.at hx
  have k := twho_yes0 i w hR he hF hi hsp (hM.sub (List.sublist_append_left ..))
  rw [hxi] at k; exact k
theorem twho_no0 {each most : Int} {n cap b bs bh cl : Nat} {ad : Option Addr} {es : Array MapEntry} {sp : List (Int × Value)} {who : Int} (w : World) (he : EnsS .i64 es cl sp) (hw0 : aget sp who = none) (hM : Mem w (tbC b ad n cap most each bs bh :: (bs, .map es cl) :: [])) : Ret Tryz.prog 86 #[.pointer (some ⟨b, 0, none⟩), .int .i64 who] w (fun u w' => u = .tuple #[.agg (fWt default).toArray, .bool false] ∧ Ext w w') := by
 have he1 := he.1
 refine Ret.enterM Tryz.func86 rfl Tryz.ntmps86 rfl (tbC b ad n cap most each bs bh :: (bs, .map es cl) :: []) (no) hM ?_
 refine wR ?_
 refine LM.alloc Tryz.zeroValue85 rfl (fun b4 hb4 => ?_)
 refine LM.as rfl <| nA [(0, _), (1, _), (4, _)] <| wpM.seq <| wR <| LM.mv rfl ?_
 refine LM.val (ov_peql kr rfl rfl) ?_
 refine nA [(0, _), (1, _), (4, _), (9, _)] ?_
 refine wpM.condF rfl ?_
 refine wpM.skip <| tR <| LM.mv rfl <| LM.nc rfl <| LM.val (ovf 108 rfl rfl rfl rfl) ?_
 refine LM.rd (oml rfl rfl rfl) ?_
 refine LM.mv rfl ?_
 refine LM.rd (om_lkOk Tryz.underlying108 Tryz.underlying3 Tryz.zeroValue125 rfl rfl asm (getD_none9 hw0) (has_none' hw0)) ?_
 refine LM.mv rfl <| LM.val (ov_extract rfl rfl) <| LM.val (ov_extract rfl rfl) ?_
 refine LM.alloc Tryz.zeroValue125 rfl (fun b6 hb6 => ?_)
 refine LM.stW Tryz.sizeOf125 rfl rfl rfl rfl au7 auH ?_
 refine LM.as rfl <| nA [(0, _), (4, _), (6, _), (7, _)] <| wpM.seq <| wR <| LM.mv rfl ?_
 first | refine LM.val (ov_notD rfl) ?_ | refine LM.val (ov_not rfl) ?_
 refine nA [(0, _), (4, _), (6, _), (21, _)] ?_
 first | refine wpM.condD rfl (fun h1 => ?_) (fun h1 => ?_) | refine wpM.condB rfl (fun h1 => ?_) (fun h1 => ?_)
 ·
  refine wR ?_
  refine LM.val (ov_build (cs := #[_, _, _]) rfl (by first | rfl | kernel_rfl)) ?_
  refine LM.stW Tryz.sizeOf85 rfl rfl rfl rfl au7 auH ?_
  refine LM.as rfl <| nA [(4, _), (5, _)] <| wpM.ret <| QM.then_ret ?_
  refine QM.leaveCs (ds := ([])) (.inl rfl) [.cell 4 85, .tmp 5] Tryz.results86 hd_nil (rc_w rfl Tryz.isAgg85 Tryz.sizeOf85 rfl (rc_tmp rfl rc_nil)) ?_
  intro w' hm' hc'
  exact ⟨rfl, hc'⟩
 cases h1
theorem twho_no {most each : Int} {n0 T b : Nat} {L : List Wt} {m : Mem0} (who : Int) (w : World) (h : TbM most each n0 T L b m) (hx : ∀ x ∈ L, x.who ≠ who) (hM : Mem w m) :
    Ret Tryz.prog 86 #[.pointer (some ⟨b, 0, none⟩), .int .i64 who] w (fun u w' => u = .tuple #[.agg (fWt default).toArray, .bool false] ∧ Ext w w') := by
  obtain ⟨bh, S, mq, mh, rfl, h1, h2, h3⟩ := h
  obtain ⟨ad, n, cap, bs, es, cl, F, R, sp, mr, rfl, hR, he, hb, hbs, hRT, hQ⟩ := h1
  exact twho_no0 w he (hQ.sn who hx) ((hM.sub (List.sublist_append_left ..)).sub ((List.nil_sublist _).cons_cons _ |>.cons_cons _))
theorem foLen_nil (w : World) : Ret Tryz.prog 106 #[.pointer none] w (fun u w' => u = .int .i64 0 ∧ Ext w w') := by
 refine Ret.enterM Tryz.func106 rfl Tryz.ntmps106 rfl ([]) (no) (Mem.nil w) ?_
 refine wR <| LM.as rfl <| nA [(0, _)] <| wpM.seq <| wR <| LM.mv rfl ?_
 refine LM.val (ov_peql kr rfl rfl) ?_
 refine nA [(0, _), (4, _)] ?_
 first | refine wpM.condD rfl (fun h1 => ?_) (fun h1 => ?_) | refine wpM.condB rfl (fun h1 => ?_) (fun h1 => ?_)
 ·
  refine wR <| LM.as rfl <| nA [(2, _)] <| wpM.ret <| QM.then_ret ?_
  refine qL Tryz.results106 rfl fun w' hm' hc' hg' => ?_
  exact ⟨rfl, hc'⟩
 cases h1
theorem tcount_some {each most : Int} {n0 n cap b bs bh R : Nat} {ad : Option Addr} {F : Int → Option Rw} {mr : Mem0} {r : Rw} {key : Int} (w : World) (hR : RoM each n0 n cap ad R F mr) (hF : F key = some r) (hM : Mem w (tbC b ad n cap most each bs bh :: mr)) : Ret Tryz.prog 58 #[.pointer (some ⟨b, 0, none⟩), .int .i64 key] w (fun u w' => u = .int .i64 (r.q.length : Nat) ∧ Ext w w') := by
 refine Ret.enterM Tryz.func58 rfl Tryz.ntmps58 rfl (tbC b ad n cap most each bs bh :: (mr ++ [])) (no) aM ?_
 refine wR <| LM.as rfl <| nA [(0, _), (1, _)] <| wpM.seq <| wR <| LM.mv rfl ?_
 refine LM.val (ov_peql kr rfl rfl) ?_
 refine nA [(0, _), (1, _), (6, _)] ?_
 refine wpM.condF rfl ?_
 refine wpM.skip <| tR <| LM.mv rfl <| LM.mv rfl ?_
 refine cE Tryz.func105 rfl (fun w hm hc hg => rq_some false hR hF (hm.pick (tbC b ad n cap most each bs bh :: mr))) ?_
 refine cE Tryz.func106 rfl (fun w hm hc hg => rq_len hR hF (hm.pick mr)) ?_
 refine LM.as rfl <| nA [(4, _)] <| wpM.ret ?_
 refine qL Tryz.results58 rfl fun w' hm' hc' hg' => ?_
 exact ⟨rfl, hc'⟩
theorem tcount_none {each most : Int} {n0 n cap b bs bh R : Nat} {ad : Option Addr} {F : Int → Option Rw} {mr : Mem0} {key : Int} (w : World) (hR : RoM each n0 n cap ad R F mr) (hF : F key = none) (hM : Mem w (tbC b ad n cap most each bs bh :: mr)) : Ret Tryz.prog 58 #[.pointer (some ⟨b, 0, none⟩), .int .i64 key] w (fun u w' => u = .int .i64 0 ∧ Ext w w') := by
 refine Ret.enterM Tryz.func58 rfl Tryz.ntmps58 rfl (tbC b ad n cap most each bs bh :: (mr ++ [])) (no) aM ?_
 refine wR <| LM.as rfl <| nA [(0, _), (1, _)] <| wpM.seq <| wR <| LM.mv rfl ?_
 refine LM.val (ov_peql kr rfl rfl) ?_
 refine nA [(0, _), (1, _), (6, _)] ?_
 refine wpM.condF rfl ?_
 refine wpM.skip <| tR <| LM.mv rfl <| LM.mv rfl ?_
 refine cE Tryz.func105 rfl (fun w hm hc hg => rq_none hR hF (hm.pick (tbC b ad n cap most each bs bh :: mr))) ?_
 refine cE Tryz.func106 rfl (fun w hm hc hg => foLen_nil w) ?_
 refine LM.as rfl <| nA [(4, _)] <| wpM.ret ?_
 refine qL Tryz.results58 rfl fun w' hm' hc' hg' => ?_
 exact ⟨rfl, hc'⟩
theorem tcount_spec {most each : Int} {n0 T b : Nat} {L : List Wt} {m : Mem0} (key : Int) (w : World) (h : TbM most each n0 T L b m) (hM : Mem w m) :
    Ret Tryz.prog 58 #[.pointer (some ⟨b, 0, none⟩), .int .i64 key] w (fun u w' => u = .int .i64 (cntL L key : Nat) ∧ Ext w w') := by
  obtain ⟨bh, S, mq, mh, rfl, h1, h2, h3⟩ := h
  obtain ⟨ad, n, cap, bs, es, cl, F, R, sp, mr, rfl, hR, he, hb, hbs, hRT, hQ⟩ := h1
  have hM' : Mem w (tbC b ad n cap most each bs bh :: mr) := (hM.sub (List.sublist_append_left ..)).sub ((List.sublist_cons_self _ _).cons_cons _)
  cases hF : F key with
  | some r => have k := tcount_some w hR hF hM'; rw [qlen_cnt hQ hF] at k; exact k
  | none => have k := tcount_none w hR hF hM'; rw [show cntL L key = 0 by unfold cntL; rw [hQ.fn _ hF]; rfl]; exact k
def ofA (l : List Wt) : List (Array Value) := l.map (fun x => #[.agg (fWt x).toArray])
theorem ofA_len (l : List Wt) : (ofA l).length = l.length := List.length_map ..
theorem ofA_get {q : List (Int × Wt)} {k : Nat} (h : k < q.length) : (ofA (qS q))[k]? = some #[.agg (fWt (qd q k).2).toArray] := by
  unfold ofA; rw [List.getElem?_map, qS_get h]; rfl
theorem ofA_inv {l : List Wt} {k : Nat} {av : Array Value} (h : (ofA l)[k]? = some av) : ∃ x, l[k]? = some x ∧ av = #[.agg (fWt x).toArray] := by
  unfold ofA at h; rw [List.getElem?_map] at h
  cases hx : l[k]? with
  | none => rw [hx] at h; cases h
  | some x => rw [hx] at h; exact ⟨x, rfl, (Option.some.inj h).symm⟩
abbrev tF (c : Nat) (g : Option Addr) : Nat × Obj := (c, .cells #[.pointer g] 66 (0, 0))
abbrev kF (c : Nat) (key : Int) : Nat × Obj := (c, .cells #[.int .i64 key] 3 (0, 0))
abbrev yF (c l : Nat) : Nat × Obj := (c, .cells #[.func (.yield l) #[] #[]] 204 (0, 0))
abbrev qF0 (c : Nat) : Nat × Obj := (c, .cells #[.pointer none] 136 (0, 0))
def OfT (g : Option Addr) (key : Int) (n0 : Nat) (v : Value) (m : Mem0) : Prop := ∃ c1 c2, v = .func (.func 173) #[] #[.pointer (some ⟨c1, 0, none⟩), .pointer (some ⟨c2, 0, none⟩)] ∧ m = tF c1 g :: kF c2 key :: [] ∧ n0 ≤ c1 ∧ n0 ≤ c2
theorem OfT.mono {g : Option Addr} {key : Int} : ∀ (k k' : Nat) u m, k' ≤ k → OfT g key k u m → OfT g key k' u m := fun k k' u m h ⟨c1, c2, h1, h2, h3, h4⟩ => ⟨c1, c2, h1, h2, by omega, by omega⟩
def FoA0 (n0 : Nat) (v : Value) (m : Mem0) : Prop := ∃ c1, v = .func (.func 178) #[] #[.pointer (some ⟨c1, 0, none⟩)] ∧ m = [qF0 c1] ∧ n0 ≤ c1
theorem FoA0.mono : ∀ (k k' : Nat) u m, k' ≤ k → FoA0 k u m → FoA0 k' u m := fun k k' u m h ⟨b1, h1, h2, h3⟩ => ⟨b1, h1, h2, by omega⟩
theorem hgd {w : World} {c : Nat × Obj} {m : Mem0} {wj : World} (hc : w.heap[c.1]? = some c.2) (hm : Mem w m) (hlt : ∀ p ∈ m, p.1 < wj.heap.size) (hge : wj.heap.size ≤ c.1) : Mem w (c :: m) := hm.cons hc (fun p hp e => by have := hlt p hp; omega)
theorem of_spec (g : Option Addr) (key : Int) (w : World) : Ret Tryz.prog 161 #[.pointer g, .int .i64 key] w (fun v w' => Ext w w' ∧ ∃ m, OfT g key w.heap.size v m ∧ Mem w' m ∧ ∀ p ∈ m, w.heap.size ≤ p.1) := by
 refine Ret.enterM Tryz.func161 rfl Tryz.ntmps161 rfl ([]) (no) (Mem.nil w) ?_
 refine wR ?_
 refine LM.box rfl rfl (fun b2 hb2 => ?_)
 refine LM.box rfl rfl (fun b3 hb3 => ?_)
 refine LM.as rfl <| nB [(2, _), (3, _)] ?_
 refine LM.val (ov_makeFunc rfl) ?_
 refine LM.as rfl <| nA [(4, _)] <| wpM.ret ?_
 refine qL Tryz.results161 rfl fun w' hm' hc' hg' => ?_
 exact ⟨hc', _, ⟨b2, b3, rfl, rfl, hb2, hb3⟩, SubM.mem au1 _ hm', fun p hp => by simp only [List.mem_cons, List.not_mem_nil, or_false] at hp; rcases hp with rfl | rfl <;> assumption⟩
theorem foall_nil (w : World) : Ret Tryz.prog 174 #[.pointer none] w (fun v w' => Ext w w' ∧ ∃ m, FoA0 w.heap.size v m ∧ Mem w' m ∧ ∀ p ∈ m, w.heap.size ≤ p.1) := by
 refine Ret.enterM Tryz.func174 rfl Tryz.ntmps174 rfl ([]) (no) (Mem.nil w) ?_
 refine wR ?_
 refine LM.box rfl rfl (fun b1 hb1 => ?_)
 refine LM.as rfl <| nB [(1, _)] ?_
 refine LM.val (ov_makeFunc rfl) ?_
 refine LM.as rfl <| nA [(2, _)] <| wpM.ret ?_
 refine qL Tryz.results174 rfl fun w' hm' hc' hg' => ?_
 exact ⟨hc', _, ⟨b1, rfl, rfl, hb1⟩, SubM.mem au1 _ hm', fun p hp => by simp only [List.mem_cons, List.not_mem_nil, or_false] at hp; subst hp; assumption⟩
theorem foall_seq0 {c1 : Nat} : SeqCP Tryz.prog 178 #[.pointer (some ⟨c1, 0, none⟩)] ([]) (fun w => Mem w [qF0 c1]) (True) := by
 refine SeqCP.enter (lb := [.pointer (some ⟨c1, 0, none⟩)]) Tryz.func178 rfl Tryz.ntmps178 rfl ?_
 intro l0 n0 J Jx w0 hn0 hfin hJr hL hy
 refine wpM.openJ (n := n0) (fun wj1 hmj1 hCj1 hjj1 hkj1 => ?_)
 refine wpM.seq <| wR ?_
 refine LM.rdC (fun w hm hc hg => om_ld (M := qF0 c1 :: []) Tryz.isAgg136 rfl rfl w ((hL.rd hJr hjj1 hc))) ?_
 refine LM.val (ov_peql kr rfl rfl) ?_
 refine nA [(0, _), (1, _), (7, _)] ?_
 first | refine wpM.condD rfl (fun h1 => ?_) (fun h1 => ?_) | refine wpM.condB rfl (fun h1 => ?_) (fun h1 => ?_)
 ·
  refine wpM.ret <| QM.then_ret ?_
  refine QM.closeJ hL hCj1 hjj1 hkj1 (kk_top _) ([]) (SubM.mem (by (try dsimp only); (repeat' (first | exact SubM.nil _ | refine SubM.cons rfl ?_ | refine SubM.app ?_)))) (by (try dsimp only); (repeat' (first | exact pn_nil | refine pn_cons (by first | (left; omega) | (right; simp; done)) rfl ?_ | refine pn_app ?_ ?_))) ?_
  refine QM.leaveDJ (ds := ([])) (.inl rfl) [] Tryz.results178 rfl hn0 hd_nil (gl_j hL (Nat.le_refl _) (gl_top _)) ?_
  intro w' hm' hg'
  exact .inl hg'.1
 cases h1
theorem of_seq_some {each most : Int} {nR n cap b bs bh c1 c2 R : Nat} {ad : Option Addr} {F : Int → Option Rw} {mr : Mem0} {r : Rw} {key : Int} (hR : RoM each nR n cap ad R F mr) (hF : F key = some r) : SeqCP Tryz.prog 173 #[.pointer (some ⟨c1, 0, none⟩),  .pointer (some ⟨c2, 0, none⟩)] (ofA (qS r.q)) (fun w => Mem w (tF c1 (some ⟨b, 0, none⟩) :: kF c2 key :: tbC b ad n cap most each bs bh :: mr)) (True) := by
 obtain ⟨mq, rest, hFo, hpm, -⟩ := rq_split hR hF
 refine SeqCP.enter (lb := [.pointer (some ⟨c1, 0, none⟩),  .pointer (some ⟨c2, 0, none⟩)]) Tryz.func173 rfl Tryz.ntmps173 rfl ?_
 intro l0 n0 J Jx w0 hn0 hfin hJr hL hy
 refine wpM.openJ (n := n0) (fun wj1 hmj1 hCj1 hjj1 hkj1 => ?_)
 have hlt : ∀ p ∈ mq, p.1 < wj1.heap.size := fun p hp => (hJr _ _ _ hjj1).lt (List.mem_cons_of_mem _ (List.mem_cons_of_mem _ (List.mem_cons_of_mem _ (hpm.mem_iff.2 (List.mem_append_left _ hp)))))
 refine wR ?_
 refine LM.box rfl rfl (fun b3 hb3 => ?_)
 refine nA [(1, _), (2, _), (3, _)] <| wpM.seq <| wR ?_
 refine LM.rdC (fun w hm hc hg => om_ld (M := tF c1 (some ⟨b, 0, none⟩) :: kF c2 key :: tbC b ad n cap most each bs bh :: mr) Tryz.isAgg66 rfl rfl w ((hL.rd hJr hjj1 hc))) ?_
 refine LM.val (ov_peql kr rfl rfl) ?_
 refine nA [(1, _), (2, _), (3, _), (7, _)] ?_
 refine wpM.condF rfl ?_
 refine wpM.skip <| tR ?_
 refine LM.rdC (fun w hm hc hg => om_ld (M := tF c1 (some ⟨b, 0, none⟩) :: kF c2 key :: tbC b ad n cap most each bs bh :: mr) Tryz.isAgg66 rfl rfl w ((hL.rd hJr hjj1 hc))) ?_
 refine LM.rdC (fun w hm hc hg => om_ld (M := tF c1 (some ⟨b, 0, none⟩) :: kF c2 key :: tbC b ad n cap most each bs bh :: mr) Tryz.isAgg3 rfl rfl w ((hL.rd hJr hjj1 hc))) ?_
 refine cE Tryz.func105 rfl (fun w hm hc hg => rq_some false hR hF ((hL.rd hJr hjj1 hc)).tail.tail) ?_
 refine LM.callT (oc_call (enters_fn Tryz.func174 kr rfl) rfl) FoA.mono (fun w hm hc hg => foall_spec r.b w) ?_
 rintro u11 m11 ⟨c11, rfl, rfl, hc11⟩ -
 refine nA [(3, _), (11, _)] <| wpM.block ?_
 refine wpM.closeJ hL hCj1 hjj1 hkj1 (kk_top _) ((yF b3 l0 :: qF c11 r.b :: []) ++ []) (SubM.mem (by (try dsimp only); (repeat' (first | exact SubM.nil _ | refine SubM.cons rfl ?_ | refine SubM.app ?_ | exact SubM.all _ | exact SubM.spl)))) (by (try dsimp only); (repeat' (first | exact pn_nil | exact pn_sameR (fun p hp => (hin p hp).2) | refine pn_cons (by first | (left; omega) | (right; simp; done)) rfl ?_ | refine pn_app ?_ ?_))) ?_
 refine wpM.toRange (α := Unit) (fun k ⟨⟩ => yF b3 l0 :: qF c11 r.b :: ([] ++ [])) (⟨⟩) (by (repeat' (first | exact SubM.nil _ | refine SubM.cons rfl ?_ | refine SubM.app ?_ | exact SubM.all _ | exact SubM.spl))) ?_
 refine wpM.rangeS (α := Unit) (β := Unit) (enters_fn Tryz.func178 kr rfl) rfl ((foall_seq hFo).toS) (fun k ⟨⟩ Mp => yF b3 l0 :: qF c11 r.b :: (Mp ++ [])) (by rintro k ⟨⟩ Mp; first | rfl | simp) (fun k ⟨⟩ Mp => (fun w => J (k) ((yF b3 l0 :: qF c11 r.b :: []) ++ Mp) w ∧ top w)) (fun k ⟨⟩ => True) (fun ⟨⟩ => []) (fun _ => (fun w => Jx w ∧ top w)) (fun c ⟨⟩ => c = .ret ∧ True) ⟨⟩ rfl (fun _ h => h) trivial kr (by intro k av hav; obtain ⟨hkl, rfl⟩ := foA_inv hav; rfl) (fun p hp => by cases hp) (fun _ _ _ => trivial) (.inl trivial) (fun k x Mp w hm hc hg _ => hgd (wj := wj1) (hm.2 _ (by simp)) (((hJr _ _ _ hg.1).tail.tail.tail).part hpm) hlt hc11) (by rintro k ⟨⟩ Mp Mp' w w' g hm hm' hc hn hw -; (try dsimp only at g); (try dsimp only at hm); (try dsimp only at hm'); (try dsimp only); exact gu_j (mp := (yF b3 l0 :: qF c11 r.b :: [])) hL (kk_top _) (by intro p hp; simp only [List.mem_cons, List.not_mem_nil, or_false] at hp; rcases hp with rfl | rfl <;> rfl) g (hm.pick Mp) (by have h9 := SubM.mem (M' := (yF b3 l0 :: qF c11 r.b :: []) ++ (Mp' ++ [])) (by (repeat' (first | exact SubM.nil _ | refine SubM.cons rfl ?_ | refine SubM.app ?_ | exact SubM.all _ | exact SubM.spl))) w' hm'; rw [List.append_nil] at h9; exact h9) hc hn hw) (fun w hg _ _ _ => gl_j hL (hL.le _ _ _ hg.1) (gl_top _)) (fun w hg _ => gl_x hL (hL.le _ _ _ hg.1) (gl_top _)) (fun k x _ => by ((repeat (refine mm_cons rfl ?_)); exact fun p hp => .inl (by first | exact hp | (simp at hp; done) | (simp [hp]; done) | (simp at hp ⊢; first | exact .inl hp | exact hp | (simp [hp]; done))))) (fun c z _ => by ((repeat (refine mm_cons rfl ?_)); exact fun p hp => .inl (by first | exact hp | (simp at hp; done) | (simp [hp]; done) | (simp at hp ⊢; first | exact .inl hp | exact hp | (simp [hp]; done))))) ?_ ?_ ?_ ?_
 ·
  rintro k av ⟨⟩ l D rc n1 W1 Mp hnn hD hll hput hrc hav hT hin -
  have hnn1 : n0 ≤ n1 := (by obtain ⟨w, hg, hw⟩ := hnn; exact Nat.le_trans (hL.le _ _ _ hg.1) hw)
  change wpM _ _ _ _ _ _ _ ((l, Obj.loop rc) :: ([(D, Obj.deferred (some []))] ++ (yF b3 l0 :: qF c11 r.b :: (Mp ++ [])))) _ _ _
  obtain ⟨hkl, rfl⟩ := foA_inv hav
  refine wpM.openJ2 (n := n0) (fun wj2 hmj2 hCj2 hjj2 hkj2 => ?_)
  refine wpM.region ?_
  refine LM.alloc Tryz.zeroValue85 rfl (fun b5 hb5 => ?_)
  refine LM.stW Tryz.sizeOf85 rfl rfl rfl rfl au7 (fun hlt => by first | exact absurd hlt om | (simp [inM]; done)) ?_
  refine nC [(3, _), (5, _)] ?_
  refine QM.closeJ2 hL hCj2 hjj2 hkj2 (kk_and (kk_top _) hnn1) ((yF b3 l0 :: qF c11 r.b :: []) ++ Mp) (SubM.mem (by (try dsimp only); (repeat' (first | exact SubM.nil _ | refine SubM.cons rfl ?_ | refine SubM.app ?_ | exact SubM.all _ | exact SubM.spl)))) (by (try dsimp only); (repeat' (first | exact pn_nil | exact pn_sameR (fun p hp => (hin p hp).2) | refine pn_cons (by first | (left; omega) | (right; simp; done)) rfl ?_ | refine pn_app ?_ ?_))) ?_
  refine QM.toBodyF (hput k ⟨⟩ Mp) hll ?_
  refine wpM.openJ2 (n := n0) (fun wj3 hmj3 hCj3 hjj3 hkj3 => ?_)
  refine wpM.block <| wR ?_
  refine LM.rd (oml rfl rfl rfl) ?_
  refine LM.rd (om_ldW Tryz.isAgg85 Tryz.sizeOf85 rfl rfl) ?_
  refine LM.yieldJ (n := n0) (k := k) hL rfl rfl (fun m w hj => hy (k) _ m w (ofA_get hkl) hj) hCj3 hjj3 hkj3 (kk_and (kk_top _) hnn1) ((l, Obj.loop (busyOf rc)) :: (D, Obj.deferred (some [])) :: ([])) ((yF b3 l0 :: qF c11 r.b :: []) ++ Mp) ((l, Obj.loop (busyOf rc)) :: (D, Obj.deferred (some [])) :: ((yF b3 l0 :: qF c11 r.b :: []) ++ Mp)) (by simp only [List.append_assoc, List.cons_append, List.nil_append]) (SubM.mem (by (repeat' (first | exact SubM.nil _ | refine SubM.cons rfl ?_ | refine SubM.app ?_ | exact SubM.all _ | exact SubM.spl)))) (by (repeat' (first | exact pn_nil | refine lo_cons om rfl ?_ | refine lo_dm (by intro D hD; first | (have := hds1 D hD; omega) | (have := hds2 D hD; omega)) ?_))) (by (try dsimp only); (repeat' (first | exact pn_nil | exact pn_sameR (fun p hp => (hin p hp).2) | refine pn_cons (by first | (left; omega) | (right; simp; done)) rfl ?_ | refine pn_app ?_ ?_))) (fun wj4 hmj4 hCj4 hjj4 hkj4 => ?_) (fun wj4 hmj4 hCj4 hjj4 hkj4 => ?_)
  ·
   change LM _ _ _ _ _ _ _ _ ((l, Obj.loop (busyOf rc)) :: (D, Obj.deferred (some [])) :: ((yF b3 l0 :: qF c11 r.b :: []) ++ Mp)) _ _ _
   first | refine LM.val (ov_notD rfl) ?_ | refine LM.val (ov_not rfl) ?_
   refine nA [(17, _)] ?_
   refine wpM.condF rfl ?_
   refine wpM.skip <| QM.block_normal ?_
   refine QM.closeJ2 hL hCj4 hjj4 hkj4 (kk_and (kk_top _) hnn1) ((fun (k : Nat) => ((fun ⟨⟩ => (yF b3 l0 :: qF c11 r.b :: []) ++ Mp) : Unit → Mem0)) (k + 1) (⟨⟩)) (SubM.mem (by (try dsimp only); (repeat' (first | exact SubM.nil _ | refine SubM.cons rfl ?_ | refine SubM.app ?_ | exact SubM.all _ | exact SubM.spl)))) (by (try dsimp only); (repeat' (first | exact pn_nil | exact pn_sameR (fun p hp => (hin p hp).2) | refine pn_cons (by first | (left; omega) | (right; simp; done)) rfl ?_ | refine pn_app ?_ ?_))) ?_
   refine QM.next (⟨⟩) (SubM.mem (by (repeat' (first | exact SubM.nil _ | refine SubM.cons rfl ?_ | refine SubM.app ?_ | exact SubM.all _ | exact SubM.spl)))) (fun _ h => h) ?_
   · trivial
  change LM _ _ _ _ _ _ _ _ ((l, Obj.loop (busyOf rc)) :: (D, Obj.deferred (some [])) :: ([])) _ _ _
  first | refine LM.val (ov_notD rfl) ?_ | refine LM.val (ov_not rfl) ?_
  refine nA [(17, _)] ?_
  refine wpM.condT rfl ?_
  refine wpM.ret <| QM.block_ret ?_
  refine QM.closeX2 hL hCj4 hjj4 hkj4 (kk_and (kk_top _) hnn1) ?_
  refine QM.rret (⟨⟩) (SubM.mem (by (repeat' (first | exact SubM.nil _ | refine SubM.cons rfl ?_ | refine SubM.app ?_ | exact SubM.all _ | exact SubM.spl)))) (fun _ h => h) ?_
  · exact ⟨rfl, trivial⟩
 ·
  rintro ⟨⟩ Mp D0 hD0 hT hin -
  refine QM.openJ (n := n0) (fun wj5 hmj5 hCj5 hjj5 hkj5 => ?_)
  refine QM.sub (e' := []) trivial ?_
  refine QM.block_normal ?_
  refine QM.closeJ hL hCj5 hjj5 hkj5 (kk_top _) ([]) (SubM.mem (by (try dsimp only); (repeat' (first | exact SubM.nil _ | refine SubM.cons rfl ?_ | refine SubM.app ?_ | exact SubM.all _ | exact SubM.spl)))) (by (try dsimp only); (repeat' (first | exact pn_nil | exact pn_sameR (fun p hp => (hin p hp).2) | refine pn_cons (by first | (left; omega) | (right; simp; done)) rfl ?_ | refine pn_app ?_ ?_))) ?_
  refine QM.leaveDJ (ds := (D0 :: [])) (.inr rfl) [] Tryz.results173 rfl hn0 (hd_cons hD0 hd_nil) (gl_j hL (Nat.le_refl _) (gl_top _)) ?_
  intro w' hm' hg'
  exact .inl (by rw [show (ofA (qS r.q)).length = (foA r.q).length by rw [ofA_len, foA_len]; exact List.length_map ..]; exact hg'.1)
 ·
  rintro ⟨⟩ D0 hD0 hx
  obtain ⟨-, hx⟩ := hx
  refine QM.openX (n := n0) (fun wj6 hmj6 hCj6 hjj6 hkj6 => ?_)
  refine QM.block_ret ?_
  refine QM.closeX hL hCj6 hjj6 hkj6 (kk_top _) ?_
  refine QM.leaveDJ (ds := (D0 :: [])) (.inl rfl) [] Tryz.results173 rfl hn0 (hd_cons hD0 hd_nil) (gl_x hL (Nat.le_refl _) (gl_top _)) ?_
  intro w' hm' hg'
  exact .inr hg'.1
 rintro id ⟨⟩ D0 hD0 hx
 first | exact hx.elim | cases hx.1 | cases hx
theorem foA0_inv {k : Nat} {av : Array Value} (h : ([] : List (Array Value))[k]? = some av) : False := by simp at h
theorem hgd1 {w : World} {c : Nat × Obj} (hc : w.heap[c.1]? = some c.2) : Mem w [c] := (Mem.nil w).cons hc (fun p hp => by cases hp)
theorem of_seq_none {each most : Int} {nR n cap b bs bh c1 c2 R : Nat} {ad : Option Addr} {F : Int → Option Rw} {mr : Mem0} {key : Int} (hR : RoM each nR n cap ad R F mr) (hF : F key = none) : SeqCP Tryz.prog 173 #[.pointer (some ⟨c1, 0, none⟩),  .pointer (some ⟨c2, 0, none⟩)] ([]) (fun w => Mem w (tF c1 (some ⟨b, 0, none⟩) :: kF c2 key :: tbC b ad n cap most each bs bh :: mr)) (True) := by
 refine SeqCP.enter (lb := [.pointer (some ⟨c1, 0, none⟩),  .pointer (some ⟨c2, 0, none⟩)]) Tryz.func173 rfl Tryz.ntmps173 rfl ?_
 intro l0 n0 J Jx w0 hn0 hfin hJr hL hy
 refine wpM.openJ (n := n0) (fun wj1 hmj1 hCj1 hjj1 hkj1 => ?_)
 refine wR ?_
 refine LM.box rfl rfl (fun b3 hb3 => ?_)
 refine nA [(1, _), (2, _), (3, _)] <| wpM.seq <| wR ?_
 refine LM.rdC (fun w hm hc hg => om_ld (M := tF c1 (some ⟨b, 0, none⟩) :: kF c2 key :: tbC b ad n cap most each bs bh :: mr) Tryz.isAgg66 rfl rfl w ((hL.rd hJr hjj1 hc))) ?_
 refine LM.val (ov_peql kr rfl rfl) ?_
 refine nA [(1, _), (2, _), (3, _), (7, _)] ?_
 refine wpM.condF rfl ?_
 refine wpM.skip <| tR ?_
 refine LM.rdC (fun w hm hc hg => om_ld (M := tF c1 (some ⟨b, 0, none⟩) :: kF c2 key :: tbC b ad n cap most each bs bh :: mr) Tryz.isAgg66 rfl rfl w ((hL.rd hJr hjj1 hc))) ?_
 refine LM.rdC (fun w hm hc hg => om_ld (M := tF c1 (some ⟨b, 0, none⟩) :: kF c2 key :: tbC b ad n cap most each bs bh :: mr) Tryz.isAgg3 rfl rfl w ((hL.rd hJr hjj1 hc))) ?_
 refine cE Tryz.func105 rfl (fun w hm hc hg => rq_none hR hF ((hL.rd hJr hjj1 hc)).tail.tail) ?_
 refine LM.callT (oc_call (enters_fn Tryz.func174 kr rfl) rfl) FoA0.mono (fun w hm hc hg => foall_nil w) ?_
 rintro u11 m11 ⟨c11, rfl, rfl, hc11⟩ -
 refine nA [(3, _), (11, _)] <| wpM.block ?_
 refine wpM.closeJ hL hCj1 hjj1 hkj1 (kk_top _) ((yF b3 l0 :: qF0 c11 :: []) ++ []) (SubM.mem (by (try dsimp only); (repeat' (first | exact SubM.nil _ | refine SubM.cons rfl ?_ | refine SubM.app ?_ | exact SubM.all _ | exact SubM.spl)))) (by (try dsimp only); (repeat' (first | exact pn_nil | exact pn_sameR (fun p hp => (hin p hp).2) | refine pn_cons (by first | (left; omega) | (right; simp; done)) rfl ?_ | refine pn_app ?_ ?_))) ?_
 refine wpM.toRange (α := Unit) (fun k ⟨⟩ => yF b3 l0 :: qF0 c11 :: ([] ++ [])) (⟨⟩) (by (repeat' (first | exact SubM.nil _ | refine SubM.cons rfl ?_ | refine SubM.app ?_ | exact SubM.all _ | exact SubM.spl))) ?_
 refine wpM.rangeS (α := Unit) (β := Unit) (enters_fn Tryz.func178 kr rfl) rfl ((foall_seq0 (c1 := c11)).toS) (fun k ⟨⟩ Mp => yF b3 l0 :: qF0 c11 :: (Mp ++ [])) (by rintro k ⟨⟩ Mp; first | rfl | simp) (fun k ⟨⟩ Mp => (fun w => J (k) ((yF b3 l0 :: qF0 c11 :: []) ++ Mp) w ∧ top w)) (fun k ⟨⟩ => True) (fun ⟨⟩ => []) (fun _ => (fun w => Jx w ∧ top w)) (fun c ⟨⟩ => False) ⟨⟩ rfl (fun _ h => h) trivial kr (by intro k av hav; exact (foA0_inv hav).elim) (fun p hp => by cases hp) (fun _ _ _ => trivial) (.inl trivial) (fun k x Mp w hm hc hg _ => hgd1 (hm.2 _ (by simp))) (by rintro k ⟨⟩ Mp Mp' w w' g hm hm' hc hn hw -; (try dsimp only at g); (try dsimp only at hm); (try dsimp only at hm'); (try dsimp only); exact gu_j (mp := (yF b3 l0 :: qF0 c11 :: [])) hL (kk_top _) (by intro p hp; simp only [List.mem_cons, List.not_mem_nil, or_false] at hp; rcases hp with rfl | rfl <;> rfl) g (hm.pick Mp) (by have h9 := SubM.mem (M' := (yF b3 l0 :: qF0 c11 :: []) ++ (Mp' ++ [])) (by (repeat' (first | exact SubM.nil _ | refine SubM.cons rfl ?_ | refine SubM.app ?_ | exact SubM.all _ | exact SubM.spl))) w' hm'; rw [List.append_nil] at h9; exact h9) hc hn hw) (fun w hg _ _ _ => gl_j hL (hL.le _ _ _ hg.1) (gl_top _)) (fun w hg _ => gl_x hL (hL.le _ _ _ hg.1) (gl_top _)) (fun k x _ => by ((repeat (refine mm_cons rfl ?_)); exact fun p hp => .inl (by first | exact hp | (simp at hp; done) | (simp [hp]; done) | (simp at hp ⊢; first | exact .inl hp | exact hp | (simp [hp]; done))))) (fun c z _ => by ((repeat (refine mm_cons rfl ?_)); exact fun p hp => .inl (by first | exact hp | (simp at hp; done) | (simp [hp]; done) | (simp at hp ⊢; first | exact .inl hp | exact hp | (simp [hp]; done))))) ?_ ?_ ?_ ?_
 ·
  rintro k av ⟨⟩ l D rc n1 W1 Mp hnn hD hll hput hrc hav hT hin -
  have hnn1 : n0 ≤ n1 := (by obtain ⟨w, hg, hw⟩ := hnn; exact Nat.le_trans (hL.le _ _ _ hg.1) hw)
  change wpM _ _ _ _ _ _ _ ((l, Obj.loop rc) :: ([(D, Obj.deferred (some []))] ++ (yF b3 l0 :: qF0 c11 :: (Mp ++ [])))) _ _ _
  exfalso; exact foA0_inv hav
  skip
 ·
  rintro ⟨⟩ Mp D0 hD0 hT hin -
  refine QM.openJ (n := n0) (fun wj2 hmj2 hCj2 hjj2 hkj2 => ?_)
  refine QM.sub (e' := []) trivial ?_
  refine QM.block_normal ?_
  refine QM.closeJ hL hCj2 hjj2 hkj2 (kk_top _) ([]) (SubM.mem (by (try dsimp only); (repeat' (first | exact SubM.nil _ | refine SubM.cons rfl ?_ | refine SubM.app ?_ | exact SubM.all _ | exact SubM.spl)))) (by (try dsimp only); (repeat' (first | exact pn_nil | exact pn_sameR (fun p hp => (hin p hp).2) | refine pn_cons (by first | (left; omega) | (right; simp; done)) rfl ?_ | refine pn_app ?_ ?_))) ?_
  refine QM.leaveDJ (ds := (D0 :: [])) (.inr rfl) [] Tryz.results173 rfl hn0 (hd_cons hD0 hd_nil) (gl_j hL (Nat.le_refl _) (gl_top _)) ?_
  intro w' hm' hg'
  exact .inl hg'.1
 ·
  rintro ⟨⟩ D0 hD0 hx
  exact hx.elim
 rintro id ⟨⟩ D0 hD0 hx
 exact hx.elim
theorem of_seq {most each : Int} {n0 T b c1 c2 : Nat} {L : List Wt} {m : Mem0} (key : Int) (h : TbM most each n0 T L b m) :
    SeqCP Tryz.prog 173 #[.pointer (some ⟨c1, 0, none⟩), .pointer (some ⟨c2, 0, none⟩)] (ofA (LF L key)) (fun w => Mem w (tF c1 (some ⟨b, 0, none⟩) :: kF c2 key :: m)) True := by
  obtain ⟨bh, S, mq, mh, rfl, h1, h2, h3⟩ := h
  obtain ⟨ad, n, cap, bs, es, cl, F, R, sp, mr, rfl, hR, he, hb, hbs, hRT, hQ⟩ := h1
  have hrd : ∀ w, Mem w (tF c1 (some ⟨b, 0, none⟩) :: kF c2 key :: (tbC b ad n cap most each bs bh :: (bs, .map es cl) :: mr ++ mh)) → Mem w (tF c1 (some ⟨b, 0, none⟩) :: kF c2 key :: tbC b ad n cap most each bs bh :: mr) := fun w hm =>
    (show Mem w (tF c1 (some ⟨b, 0, none⟩) :: kF c2 key :: tbC b ad n cap most each bs bh :: (bs, .map es cl) :: (mr ++ mh)) from hm).sub ((((List.sublist_append_left mr mh).cons (bs, .map es cl)).cons_cons (tbC b ad n cap most each bs bh)).cons_cons (kF c2 key) |>.cons_cons (tF c1 (some ⟨b, 0, none⟩)))
  cases hF : F key with
  | some r =>
    have k := (of_seq_some (most := most) (b := b) (bs := bs) (bh := bh) (c1 := c1) (c2 := c2) hR hF).rdm hrd
    rw [(hQ.fs key r hF).2.1] at k; exact k
  | none =>
    have k := (of_seq_none (most := most) (b := b) (bs := bs) (bh := bh) (c1 := c1) (c2 := c2) hR hF).rdm hrd
    rw [hQ.fn key hF]; exact k
def fstW (L : List Wt) (key : Int) : Wt := (LF L key).headD default
theorem tfirst_spec {most each : Int} {n0 T b : Nat} {L : List Wt} {m : Mem0} (key : Int) (w : World) (h : TbM most each n0 T L b m) (hM : Mem w m) : Ret Tryz.prog 140 #[.pointer (some ⟨b, 0, none⟩), .int .i64 key] w (fun u w' => u = .tuple #[.agg (fWt (fstW L key)).toArray, .bool (decide (0 < cntL L key))] ∧ Ext w w') := by
 refine Ret.enterM Tryz.func140 rfl Tryz.ntmps140 rfl (m ++ []) (no) aM ?_
 refine wR ?_
 refine LM.alloc Tryz.zeroValue85 rfl (fun b4 hb4 => ?_)
 refine LM.alloc Tryz.zeroValue4 rfl (fun b5 hb5 => ?_)
 refine nA [(0, _), (1, _), (4, _), (5, _)] <| wpM.seq <| wR <| LM.mv rfl <| LM.mv rfl ?_
 refine LM.callT (oc_call (enters_fn Tryz.func161 kr rfl) rfl) OfT.mono (fun w hm hc hg => of_spec (some ⟨b, 0, none⟩) key w) ?_
 rintro u9 m9 ⟨c1, c2, rfl, rfl, hc1, hc2⟩ -
 refine nA [(4, _), (5, _), (9, _)] <| wpM.block ?_
 refine wpM.toRange (α := Unit) (fun k ⟨⟩ => tF c1 (some ⟨b, 0, none⟩) :: kF c2 key :: (m ++ ((b4, .cells (fWt default).toArray 85 (0, 0)) :: (b5, .cells #[.bool false] 4 (0, 0)) :: []))) (⟨⟩) au1 ?_
 refine wpM.rangeP (α := Unit) (β := Unit) (enters_fn Tryz.func173 kr rfl) rfl (of_seq (c1 := c1) (c2 := c2) key h) (fun k ⟨⟩ Mp => tF c1 (some ⟨b, 0, none⟩) :: kF c2 key :: (m ++ ((b4, .cells (fWt default).toArray 85 (0, 0)) :: (b5, .cells #[.bool false] 4 (0, 0)) :: (Mp ++ [])))) (by rintro k ⟨⟩ Mp; first | rfl | simp) (fun _ _ => top) (fun k ⟨⟩ => k = 0) (fun ⟨⟩ => (b4, .cells (fWt (fstW L key)).toArray 85 (0, 0)) :: (b5, .cells #[.bool true] 4 (0, 0)) :: []) (fun _ => top) (fun c ⟨⟩ => c = .ret ∧ 0 < cntL L key) ⟨⟩ rfl (fun _ h => h) rfl kr (by intro k av hav; obtain ⟨x, hx, rfl⟩ := ofA_inv hav; rfl) (.inl trivial) (fun k a w hm hc hg _ => hm.pick (tF c1 (some ⟨b, 0, none⟩) :: kF c2 key :: m)) (fun _ _ _ _ => gl_top _) (fun _ _ _ => gl_top _) (fun k x _ => mm_cons rfl (mm_cons rfl (mm_app h.wlk (mm_cons rfl (mm_cons rfl mm_nil))))) (fun c z _ => mm_cons rfl (mm_cons rfl mm_nil)) ?_ ?_ ?_ ?_
 ·
  rintro k av ⟨⟩ l D rc n1 W1 Mp hD hll hput hrc hav hk
  change wpM _ _ _ _ _ _ _ ((l, Obj.loop rc) :: ([(D, Obj.deferred (some []))] ++ (tF c1 (some ⟨b, 0, none⟩) :: kF c2 key :: (m ++ ((b4, .cells (fWt default).toArray 85 (0, 0)) :: (b5, .cells #[.bool false] 4 (0, 0)) :: (Mp ++ [])))))) _ _ _
  obtain ⟨x, hx, rfl⟩ := ofA_inv hav; rw [hk] at hx; have hfx : x = fstW L key ∧ 0 < cntL L key := (by unfold fstW cntL; cases hL : LF L key with | nil => rw [hL] at hx; cases hx | cons y l => rw [hL] at hx; exact ⟨(Option.some.inj hx).symm, by simp⟩); obtain ⟨rfl, hpos⟩ := hfx
  refine wpM.region ?_
  refine LM.alloc Tryz.zeroValue85 rfl (fun b6 hb6 => ?_)
  refine LM.stW Tryz.sizeOf85 rfl rfl rfl rfl au7 au8 ?_
  refine nC [(4, _), (5, _), (6, _)] ?_
  refine QM.toBodyF (hput k ⟨⟩) hll ?_
  refine wpM.block <| wR ?_
  refine LM.rd (om_ldW Tryz.isAgg85 Tryz.sizeOf85 rfl rfl) ?_
  refine LM.stW Tryz.sizeOf85 rfl rfl rfl rfl au7 au8 ?_
  refine LM.st Tryz.sizeOf4 rfl rfl rfl au5 rfl au8 ?_
  refine nA [(4, _), (5, _)] <| wpM.ret <| QM.block_ret ?_
  refine QM.rret (⟨⟩) (SubM.mem au1) (fun _ h => h) ?_
  · exact ⟨rfl, hpos⟩
 ·
  rintro ⟨⟩ D0 hD0 hk
  refine QM.sub (e' := [(4, _), (5, _)]) au9 ?_
  refine QM.block_normal <| tR ?_
  refine LM.val (ov_build (cs := #[_, _, _]) rfl (by first | rfl | kernel_rfl)) ?_
  refine LM.stW Tryz.sizeOf85 rfl rfl rfl rfl au7 au8 ?_
  refine LM.st Tryz.sizeOf4 rfl rfl rfl au5 rfl au8 ?_
  refine nA [(4, _), (5, _)] <| wpM.ret ?_
  refine QM.leaveCs (ds := (D0 :: [])) (.inl rfl) [.cell 4 85, .cell 5 4] Tryz.results140 (hd_cons hD0 hd_nil) (rc_w rfl Tryz.isAgg85 Tryz.sizeOf85 rfl (rc_c rfl Tryz.isAgg4 rfl rc_nil)) ?_
  intro w' hm' hc'
  have h0 : LF L key = [] := List.eq_nil_of_length_eq_zero (by rw [← ofA_len]; exact hk); refine ⟨?_, hc'⟩; unfold fstW cntL; rw [h0]; rfl
 ·
  rintro ⟨⟩ D0 hD0 hx
  obtain ⟨-, hx⟩ := hx
  refine QM.block_ret <| QM.then_ret ?_
  refine QM.leaveCs (ds := (D0 :: [])) (.inl rfl) [.cell 4 85, .cell 5 4] Tryz.results140 (hd_cons hD0 hd_nil) (rc_w rfl Tryz.isAgg85 Tryz.sizeOf85 rfl (rc_c rfl Tryz.isAgg4 rfl rc_nil)) ?_
  intro w' hm' hc'
  refine ⟨?_, hc'⟩; rw [decide_eq_true hx]; rfl
 rintro id ⟨⟩ D0 hD0 hx
 first | exact hx.elim | cases hx.1 | cases hx
theorem fstW_mem {L : List Wt} {key : Int} (h : 0 < cntL L key) : fstW L key ∈ L ∧ (fstW L key).key = key := by
  unfold fstW cntL at *
  cases hL : LF L key with
  | nil => rw [hL] at h; cases h
  | cons y l => exact LF_mem.1 (by rw [hL]; exact List.mem_cons_self ..)
theorem cnt_le (L : List Wt) (k : Int) : cntL L k ≤ L.length := List.length_filter_le ..
def wakeF (key n : Int) : Nat → List Int → List Wt → List Int × List Wt
  | 0, o, L => (o, L)
  | f + 1, o, L => if (o.length : Int) < n ∧ 0 < cntL L key then wakeF key n f (o ++ [(fstW L key).who]) (rmW L (fstW L key).who) else (o, L)
theorem wakeF_go {key n : Int} {f : Nat} {o : List Int} {L : List Wt} (h : (o.length : Int) < n ∧ 0 < cntL L key) : wakeF key n (f + 1) o L = wakeF key n f (o ++ [(fstW L key).who]) (rmW L (fstW L key).who) := if_pos h
theorem wakeF_stop {key n : Int} {f : Nat} {o : List Int} {L : List Wt} (h : ¬ ((o.length : Int) < n ∧ 0 < cntL L key)) : wakeF key n f o L = (o, L) := by
  cases f with
  | zero => rfl
  | succ f => exact if_neg h
def WkT (most each : Int) (n0 T b k : Nat) (oL : List Int × List Wt) (u : Value) (m : Mem0) : Prop := ∃ mo mt, Sl fI 3 1 k oL.1 u mo ∧ m = mo ++ mt ∧ TbM most each n0 T oL.2 b mt
theorem wk_leaf {most each : Int} {n0 T b : Nat} {oL : List Int × List Wt} {u : Value} {m mo mt M : Mem0} {w w' : World} (hs : Sl fI 3 1 w.heap.size oL.1 u mo) (ht : TbM most each n0 T oL.2 b mt) (hm : Mem w' M) (hsub : SubM M (mo ++ (mt ++ []))) (hc : Chg (inM m) w w') (hin : inn m w.heap.size mt) : Upd m (WkT most each n0 T b w.heap.size oL) w u w' := by
  rw [List.append_nil] at hsub
  refine ⟨hc, _, ⟨mo, mt, hs, rfl, ht⟩, hsub.mem w' hm, fun p hp => ?_⟩
  rcases List.mem_append.1 hp with hp | hp
  · exact .inl (hs.ge p hp)
  · exact hin p hp
theorem twake_spec {most each : Int} {n0 T b : Nat} {L : List Wt} {m : Mem0} (key n : Int) (w : World) (h : TbM most each n0 T L b m) (hM : Mem w m) : Ret Tryz.prog 107 #[.pointer (some ⟨b, 0, none⟩), .int .i64 key, .int .i64 n] w (Upd m (WkT most each n0 T b w.heap.size (wakeF key n L.length [] L)) w) := by
 refine Ret.enterM Tryz.func107 rfl Tryz.ntmps107 rfl (m ++ []) ((inM m)) aM ?_
 refine wR <| LM.as rfl <| nB [(0, _), (1, _), (2, _)] <| LM.as rfl <| nA [(0, _), (1, _), (2, _), (7, _)] <| wpM.seq <| wpM.block ?_
 refine wpM.loopK0 (α := Nat × List Int × Option Addr × Nat × Nat × Mem0 × List Wt × Mem0) (fun ⟨f, o, ad, no, cap, mo, L', mt⟩ => [(7, .slice ad no cap)]) [(0, _), (1, _), (2, _)] (fun ⟨f, o, ad, no, cap, mo, L', mt⟩ => mo ++ (mt ++ [])) (fun ⟨f, o, ad, no, cap, mo, L', mt⟩ => Sl fI 3 1 w.heap.size o (.slice ad no cap) mo ∧ TbM most each n0 T L' b mt ∧ inn m w.heap.size mt ∧ L'.length ≤ f ∧ o.length + f ≤ 5000 ∧ wakeF key n f o L' = wakeF key n L.length [] L) (fun ⟨f, o, ad, no, cap, mo, L', mt⟩ => f) ((L.length, [], none, 0, 0, [], L, m)) ⟨au2, rfl, rfl, rfl, trivial⟩ au1 ⟨Sl.nil _ _ _ _, h, inn_refl _ _, Nat.le_refl _, by have := h.lim; simp only [List.length_nil]; omega, rfl⟩ ?_
 rintro ⟨f, o, ad, no, cap, mo, L', mt⟩ ⟨hs, ht, hin, hf, hof, hwk⟩
 change wpM _ _ _ _ _ _ _ (mo ++ (mt ++ [])) _ _ _
 have hsl := hs.len.1
 refine wpM.seq <| wR <| LM.mv rfl <| LM.val (ov_len Tryz.underlying24 rfl) <| LM.mv rfl <| LM.val (ov_lss rfl rfl) <| nA [(0, _), (1, _), (2, _), (7, _), (13, _)] ?_
 refine wpM.condD rfl (fun h1 => ?_) (fun h1 => ?_)
 ·
  refine wpM.skip <| QM.then <| wpM.block <| wR <| LM.mv rfl <| LM.mv rfl ?_
  refine cE Tryz.func140 rfl (fun w hm hc hg => tfirst_spec key w ht (hm.pick mt)) ?_
  refine LM.mv rfl <| LM.val (ov_extract rfl rfl) <| LM.val (ov_extract rfl rfl) ?_
  refine LM.alloc Tryz.zeroValue85 rfl (fun b8 hb8 => ?_)
  refine LM.stW Tryz.sizeOf85 rfl rfl rfl rfl au7 au8 ?_
  refine LM.as rfl <| nA [(0, _), (1, _), (2, _), (7, _), (8, _), (9, _)] <| wpM.seq <| wR <| LM.mv rfl ?_
  refine LM.val (ov_notD rfl) ?_
  refine nA [(0, _), (1, _), (2, _), (7, _), (8, _), (21, _)] ?_
  refine wpM.condD rfl (fun h2 => ?_) (fun h2 => ?_)
  ·
   refine wpM.exit <| QM.then_exit <| QM.block_miss rfl <| QM.then_exit <| QM.block_hit <| tR <| LM.mv rfl <| LM.as rfl <| nA [(6, _)] <| wpM.ret ?_
   refine qL Tryz.results107 rfl fun w' hm' hc' hg' => ?_
   have hz : ¬ 0 < cntL L' key := (by first | exact h2 | simpa using h2); rw [wakeF_stop (fun z => hz z.2)] at hwk; rw [← hwk]; exact wk_leaf (oL := (o, L')) hs ht hm' (by (repeat' (first | exact SubM.nil _ | refine SubM.cons (by rfl) ?_ | refine SubM.app ?_))) hc' hin
  have hpos : 0 < cntL L' key := (by first | exact Classical.not_not.1 h2 | exact h2 | simpa using h2); have hfm := fstW_mem hpos; have hf0 : 0 < f := (by have := List.length_pos_of_mem hfm.1; omega)
  refine wpM.skip <| tR <| LM.mv rfl <| LM.val (ovf 3 rfl rfl rfl rfl) ?_
  refine LM.rd (oml rfl rfl rfl) ?_
  refine cU Tryz.func102 rfl (fun w hm hc hg => tcancel_yes (fstW L' key) w ht hfm.1 (hm.pick mt)) ht.wlk (inn_S hin inM_in) ?_
  rintro u25 m25 ⟨rfl, h25⟩ hin25
  refine LM.nil (QM.sub (e' := [(0, _), (1, _), (2, _), (7, _), (8, _)]) au9 (QM.then (wpM.region ?_)))
  refine LM.mv rfl <| LM.val (ovf 3 rfl rfl rfl rfl) ?_
  refine LM.rd (oml rfl rfl rfl) ?_
  refine LM.single Tryz.underlying24 Tryz.sizeOf3 Tryz.zeroValue3 rfl rfl rfl rfl rfl (fun b29 hb29 => ?_)
  refine LM.app (a := (fstW L' key).who) Tryz.underlying24 Tryz.typeInfo3 rfl rfl rfl rfl rfl rfl rfl asm (by rfl) ir (by intro _ u hu; simp [fI] at hu; (repeat (first | (rcases hu with rfl | hu) | subst hu | rfl))) (by first | exact Nat.le_refl _ | omega) au10 (by first | omega | (unfold maxLen; omega)) (by simp only [Tryz.t3]; omega) (fun ad30 n30 cap30 m30 hn30 hs30 hin30 => ?_)
  refine LM.as rfl <| nC [(0, _), (1, _), (2, _), (7, _)] <| QM.block_normal ?_
  refine QM.againK (f - 1, o ++ [(fstW L' key).who], ad30, n30, cap30, m30, rmW L' (fstW L' key).who, m25) ⟨au2, rfl, rfl, rfl, trivial⟩ au1 (fun _ h => h) ?_ ?_
  · exact ⟨hs30, h25, inn_trans hin hin25, by have := rm_len ht.lim.2.2.2 hfm.1; omega, by have := rm_len ht.lim.2.2.2 hfm.1; rw [List.length_append, List.length_singleton]; omega, by rw [← hwk]; obtain ⟨f', rfl⟩ : ∃ f', f = f' + 1 := ⟨f - 1, by have := List.length_pos_of_mem hfm.1; omega⟩; exact (wakeF_go ⟨by omega, hpos⟩).symm⟩
  · first | omega | (dsimp only; omega)
 refine wpM.exit <| QM.then_exit <| QM.then_exit <| QM.block_hit <| tR <| LM.mv rfl <| LM.as rfl <| nA [(6, _)] <| wpM.ret ?_
 refine qL Tryz.results107 rfl fun w' hm' hc' hg' => ?_
 rw [wakeF_stop om] at hwk; rw [← hwk]; exact wk_leaf (oL := (o, L')) hs ht hm' (by (repeat' (first | exact SubM.nil _ | refine SubM.cons (by rfl) ?_ | refine SubM.app ?_))) hc' hin
def nbk (k : Int) : Int := if 1 > k then 1 else if 64 < k then 64 else k
theorem nbk_ok (k : Int) : 1 ≤ nbk k ∧ nbk k ≤ 64 := by unfold nbk; (repeat' split) <;> omega
theorem nbk_eq (k : Int) : (if (64 : Int) < (if 1 > k then 1 else k) then 64 else (if 1 > k then 1 else k)) = nbk k := by unfold nbk; (repeat' split) <;> omega
def TbN (mo ea : Int) (n0 : Nat) (v : Value) (m : Mem0) : Prop := ∃ b, v = .pointer (some ⟨b, 0, none⟩) ∧ TbM (newMost mo) (newMost ea) n0 0 [] b m
theorem TbN.mono {mo ea : Int} : ∀ (n n' : Nat) (v : Value) (m : Mem0), n' ≤ n → TbN mo ea n v m → TbN mo ea n' v m := fun n n' v m hn ⟨b, h1, h⟩ => ⟨b, h1, h.mono hn⟩
theorem newRo {each : Int} {n0 n : Nat} {ad : Option Addr} {cap : Nat} {mo : Mem0} (h0 : 0 < n) (h : n ≤ 64) (ho : Sl fBh 164 1 n0 (List.replicate n (default : Bh)) (.slice ad n cap) mo) : RoM each n0 n cap ad 0 (fun _ => none) (mo ++ []) := by
  refine ⟨List.replicate n default, List.replicate n [], mo, [], rfl, by simp, h0, h, ho, ⟨List.replicate n [], ?_, by simp, by simp, fun j hj => ?_⟩, fun j hj => ?_, fun key => ?_⟩
  · simp
  · rw [List.length_replicate] at hj
    unfold bg
    rw [List.getD_eq_getElem?_getD, List.getD_eq_getElem?_getD, List.getD_eq_getElem?_getD, List.getElem?_replicate, List.getElem?_replicate, List.getElem?_replicate, if_pos hj, if_pos hj, if_pos hj]
    exact ⟨[], [], rfl, .nil _ _ _ _, ⟨[], rfl, rfl, fun i hi => by cases hi⟩, List.nodup_nil⟩
  · rw [List.getD_eq_getElem?_getD, List.getElem?_replicate, if_pos hj]; exact Nat.le_refl 0
  · have := (bk_lt (key := key) h0 h).1
    rw [List.getD_eq_getElem?_getD, List.getElem?_replicate, if_pos this]; rfl
theorem newTbQ {most each : Int} (h1 : 0 ≤ most ∧ most ≤ 4096) (h2 : 0 ≤ each ∧ each ≤ 4096) : TbQ most each 0 [] (fun _ => none) [] :=
  ⟨h1, h2, h1.1, List.Pairwise.nil, fun _ _ => rfl, fun _ _ h => (by cases h), List.nodup_nil, rfl, fun _ _ _ h => (by cases h), fun _ _ => rfl⟩
theorem tb_newleaf {mo ea : Int} {b n cap bs bh : Nat} {ad : Option Addr} {mO mh M : Mem0} {w w' : World} (h0 : 0 < n) (h64 : n ≤ 64) (ho : Sl fBh 164 1 w.heap.size (List.replicate n (default : Bh)) (.slice ad n cap) mO) (hh : HoM (newMost 4096) w.heap.size bh [] mh) (hb : w.heap.size ≤ b) (hbs : w.heap.size ≤ bs) (hm : Mem w' M) (hs : SubM M (tbC b ad n cap (newMost mo) (newMost ea) bs bh :: (bs, .map #[] 0) :: (mO ++ (mh ++ [])))) (hc : Ext w w') :
    Ext w w' ∧ ∃ m, TbN mo ea w.heap.size (.pointer (some ⟨b, 0, none⟩)) m ∧ Mem w' m ∧ ∀ p ∈ m, w.heap.size ≤ p.1 := by
  have h : TbM (newMost mo) (newMost ea) w.heap.size 0 [] b ((tbC b ad n cap (newMost mo) (newMost ea) bs bh :: (bs, .map #[] 0) :: (mO ++ [])) ++ mh) :=
    ⟨bh, [], _, mh, rfl, ⟨ad, n, cap, bs, #[], 0, _, 0, [], mO ++ [], rfl, newRo h0 h64 ho, ensS_nil _, hb, hbs, Nat.le_refl _, newTbQ (newMost_ok mo) (newMost_ok ea)⟩, hh, ⟨fun x hx => (by cases hx), fun x hx => (by cases hx)⟩⟩
  refine ⟨hc, _, ⟨b, rfl, h⟩, ?_, h.ge⟩
  have h2 := hs.mem w' hm
  simpa using h2
theorem tbring_spec (k : Int) (w : World) : Ret Tryz.prog 81 #[.int .i64 k] w (fun u w' => u = .int .i64 (newMost k) ∧ Ext w w') := by
 refine Ret.enterM Tryz.func81 rfl Tryz.ntmps81 rfl ([]) (no) (Mem.nil w) ?_
 refine wR ?_
 try rw [newMost_eq]
 refine LM.as rfl <| nB [(0, _)] <| LM.mv rfl ?_
 refine LM.val (ov_max rfl rfl) ?_
 refine LM.val (ov_min rfl rfl) ?_
 try rw [newMost_eq]
 refine LM.as rfl <| nA [(2, _)] <| wpM.ret ?_
 refine qL Tryz.results81 rfl fun w' hm' hc' hg' => ?_
 exact ⟨rfl, hc'⟩
set_option maxHeartbeats 4000000 in
theorem tnew_spec (bu mo ea : Int) (w : World) : Ret Tryz.prog 34 #[.int .i64 bu, .int .i64 mo, .int .i64 ea] w (fun v w' => Ext w w' ∧ ∃ m, TbN mo ea w.heap.size v m ∧ Mem w' m ∧ ∀ p ∈ m, w.heap.size ≤ p.1) := by
 obtain ⟨nn, hnn⟩ : ∃ nn : Nat, nbk bu = nn := ⟨(nbk bu).toNat, by have := nbk_ok bu; omega⟩; have hnk := nbk_ok bu
 refine Ret.enterM Tryz.func34 rfl Tryz.ntmps34 rfl ([]) (no) (Mem.nil w) ?_
 refine wR <| LM.as rfl <| nB [(0, _), (1, _), (2, _)] <| LM.as rfl <| nA [(0, _), (1, _), (2, _), (7, _)] <| wpM.seq ?_
 refine wpM.keep ([]) (fun _ => True) (.one 0 0 (.one 1 0 (.one 2 0 (.one 4 0 (.one 5 0 (.one 7 0 (.one 8 0 (.tri 3 (.fork 6 (.fork 9 (.fork 10 (.one 11 2 (.one 12 0 (.one 13 2 (.one 14 0 .nil)))) 11 (.one 10 2 (.one 12 0 (.one 13 2 (.one 14 0 .nil))))) 10 (.one 9 2 (.one 11 2 (.one 12 0 (.one 13 2 (.one 14 0 .nil)))))) 10 (.one 6 2 (.one 9 2 (.one 11 2 (.one 12 0 (.one 13 2 (.one 14 0 .nil))))))) 6 (.tri 3 (.fork 9 (.fork 10 (.one 11 2 (.one 12 0 (.one 13 2 (.one 14 0 .nil)))) 11 (.one 10 2 (.one 12 0 (.one 13 2 (.one 14 0 .nil))))) 10 (.one 9 2 (.one 11 2 (.one 12 0 (.one 13 2 (.one 14 0 .nil)))))) 9 (.tri 3 (.fork 10 (.one 11 2 (.one 12 0 (.one 13 2 (.one 14 0 .nil)))) 11 (.one 10 2 (.one 12 0 (.one 13 2 (.one 14 0 .nil))))) 10 (.fork 3 (.one 11 2 (.one 12 0 (.one 13 2 (.one 14 0 .nil)))) 11 (.one 3 2 (.one 12 0 (.one 13 2 (.one 14 0 .nil))))) 11 (.fork 3 (.one 10 2 (.one 12 0 (.one 13 2 (.one 14 0 .nil)))) 10 (.one 3 2 (.one 12 0 (.one 13 2 (.one 14 0 .nil)))))) 10 (.fork 3 (.one 9 2 (.one 11 2 (.one 12 0 (.one 13 2 (.one 14 0 .nil))))) 9 (.fork 3 (.one 11 2 (.one 12 0 (.one 13 2 (.one 14 0 .nil)))) 11 (.one 3 2 (.one 12 0 (.one 13 2 (.one 14 0 .nil))))))) 10 (.fork 3 (.one 6 2 (.one 9 2 (.one 11 2 (.one 12 0 (.one 13 2 (.one 14 0 .nil)))))) 6 (.fork 3 (.one 9 2 (.one 11 2 (.one 12 0 (.one 13 2 (.one 14 0 .nil))))) 9 (.fork 3 (.one 11 2 (.one 12 0 (.one 13 2 (.one 14 0 .nil)))) 11 (.one 3 2 (.one 12 0 (.one 13 2 (.one 14 0 .nil))))))))))))))) kr kr au1 (fun _ _ => trivial) ?_
 refine KD.val rfl rfl (ov_move rfl) ?_
 refine KD.val rfl rfl (ov_max rfl rfl) ?_
 refine KD.val rfl rfl (ov_min rfl rfl) ?_
 refine KD.val rfl rfl (ov_move rfl) <| KD.val rfl rfl (ov_move rfl) <| KD.val rfl rfl (ov_move rfl) <| KD.val rfl rfl (ov_move rfl) ?_
 refine KD.tri rfl rfl rfl ?_ ?_ ?_
 ·
  try rw [nbk_eq, hnn]
  refine LM.makeS (f := fBh) (a0 := (default : Bh)) Tryz.underlying107 Tryz.typeInfo164 rfl rfl rfl rfl ir rfl rfl rfl om (by simp only [Tryz.t164]; omega) om (by unfold maxLen; omega) (fun ad11 n11 m11 hn11 hs11 => ?_)
  refine LM.nil ?_
  refine kq1 ?_
  refine KD.fork rfl rfl ?_ ?_
  ·
   refine LM.callE (oc_callV rfl (enters_fn Tryz.func81 kr rfl) rfl) (fun w hm hc hg => tbring_spec _ w) ?_
   refine LM.nil ?_
   refine kq1 ?_
   refine KD.fork rfl rfl ?_ ?_
   ·
    refine LM.callE (oc_callV rfl (enters_fn Tryz.func81 kr rfl) rfl) (fun w hm hc hg => tbring_spec _ w) ?_
    refine LM.nil ?_
    refine kq1 ?_
    refine KD.fork rfl rfl ?_ ?_
    ·
     refine LM.makeMap rfl (fun b18 hb18 => ?_)
     refine LM.nil ?_
     refine kq1 ?_
     refine KD.one rfl ?_
     refine LM.callT (oc_call (enters_fn Tryz.func82 kr rfl) rfl) HoN.mono (fun w hm hc hg => honew_spec 4096 w) ?_
     rintro u19 m19 ⟨b19, rfl, h19⟩ hge19
     refine LM.nil ?_
     refine kq1 ?_
     refine KD.val rfl rfl (ov_build (cs := #[.slice ad11 n11 n11, .int .i64 (newMost mo), .int .i64 (newMost ea), .map (some b18), .pointer (some ⟨b19, 0, none⟩)]) rfl kr) ?_
     refine KD.one rfl ?_
     refine LM.box rfl rfl (fun b21 hb21 => ?_)
     refine LM.nil ?_
     refine kq1 ?_
     refine KD.val rfl rfl (ov_assign rfl) <| KD.nil ?_
     refine QM.sub (e' := [(6, _)]) ⟨rfl, trivial⟩ (QM.then ?_)
     refine wpM.ret ?_
     refine qL Tryz.results34 rfl fun w' hm' hc' hg' => ?_
     have e11 : n11 = nn := hn11.trans (Int.toNat_natCast nn); exact tb_newleaf (mO := m11) om om hs11 h19 hb21 hb18 hm' (by (repeat' (first | exact SubM.nil _ | refine SubM.cons (by rfl) ?_ | refine SubM.app ?_))) hc'
    refine LM.callT (oc_call (enters_fn Tryz.func82 kr rfl) rfl) HoN.mono (fun w hm hc hg => honew_spec 4096 w) ?_
    rintro u19 m19 ⟨b19, rfl, h19⟩ hge19
    refine LM.nil ?_
    refine kq1 ?_
    refine KD.one rfl ?_
    refine LM.makeMap rfl (fun b18 hb18 => ?_)
    refine LM.nil ?_
    refine kq1 ?_
    refine KD.val rfl rfl (ov_build (cs := #[.slice ad11 n11 n11, .int .i64 (newMost mo), .int .i64 (newMost ea), .map (some b18), .pointer (some ⟨b19, 0, none⟩)]) rfl kr) ?_
    refine KD.one rfl ?_
    refine LM.box rfl rfl (fun b21 hb21 => ?_)
    refine LM.nil ?_
    refine kq1 ?_
    refine KD.val rfl rfl (ov_assign rfl) <| KD.nil ?_
    refine QM.sub (e' := [(6, _)]) ⟨rfl, trivial⟩ (QM.then ?_)
    refine wpM.ret ?_
    refine qL Tryz.results34 rfl fun w' hm' hc' hg' => ?_
    have e11 : n11 = nn := hn11.trans (Int.toNat_natCast nn); exact tb_newleaf (mO := m11) om om hs11 h19 hb21 hb18 hm' (by (repeat' (first | exact SubM.nil _ | refine SubM.cons (by rfl) ?_ | refine SubM.app ?_))) hc'
   refine LM.makeMap rfl (fun b18 hb18 => ?_)
   refine LM.nil ?_
   refine kq1 ?_
   refine KD.one rfl ?_
   refine LM.callE (oc_callV rfl (enters_fn Tryz.func81 kr rfl) rfl) (fun w hm hc hg => tbring_spec _ w) ?_
   refine LM.nil ?_
   refine kq1 ?_
   refine KD.one rfl ?_
   refine LM.callT (oc_call (enters_fn Tryz.func82 kr rfl) rfl) HoN.mono (fun w hm hc hg => honew_spec 4096 w) ?_
   rintro u19 m19 ⟨b19, rfl, h19⟩ hge19
   refine LM.nil ?_
   refine kq1 ?_
   refine KD.val rfl rfl (ov_build (cs := #[.slice ad11 n11 n11, .int .i64 (newMost mo), .int .i64 (newMost ea), .map (some b18), .pointer (some ⟨b19, 0, none⟩)]) rfl kr) ?_
   refine KD.one rfl ?_
   refine LM.box rfl rfl (fun b21 hb21 => ?_)
   refine LM.nil ?_
   refine kq1 ?_
   refine KD.val rfl rfl (ov_assign rfl) <| KD.nil ?_
   refine QM.sub (e' := [(6, _)]) ⟨rfl, trivial⟩ (QM.then ?_)
   refine wpM.ret ?_
   refine qL Tryz.results34 rfl fun w' hm' hc' hg' => ?_
   have e11 : n11 = nn := hn11.trans (Int.toNat_natCast nn); exact tb_newleaf (mO := m11) om om hs11 h19 hb21 hb18 hm' (by (repeat' (first | exact SubM.nil _ | refine SubM.cons (by rfl) ?_ | refine SubM.app ?_))) hc'
  refine LM.makeMap rfl (fun b18 hb18 => ?_)
  refine LM.nil ?_
  refine kq1 ?_
  refine KD.one rfl ?_
  refine LM.callE (oc_callV rfl (enters_fn Tryz.func81 kr rfl) rfl) (fun w hm hc hg => tbring_spec _ w) ?_
  refine LM.nil ?_
  refine kq1 ?_
  refine KD.one rfl ?_
  refine LM.callE (oc_callV rfl (enters_fn Tryz.func81 kr rfl) rfl) (fun w hm hc hg => tbring_spec _ w) ?_
  refine LM.nil ?_
  refine kq1 ?_
  refine KD.one rfl ?_
  refine LM.callT (oc_call (enters_fn Tryz.func82 kr rfl) rfl) HoN.mono (fun w hm hc hg => honew_spec 4096 w) ?_
  rintro u19 m19 ⟨b19, rfl, h19⟩ hge19
  refine LM.nil ?_
  refine kq1 ?_
  refine KD.val rfl rfl (ov_build (cs := #[.slice ad11 n11 n11, .int .i64 (newMost mo), .int .i64 (newMost ea), .map (some b18), .pointer (some ⟨b19, 0, none⟩)]) rfl kr) ?_
  refine KD.one rfl ?_
  refine LM.box rfl rfl (fun b21 hb21 => ?_)
  refine LM.nil ?_
  refine kq1 ?_
  refine KD.val rfl rfl (ov_assign rfl) <| KD.nil ?_
  refine QM.sub (e' := [(6, _)]) ⟨rfl, trivial⟩ (QM.then ?_)
  refine wpM.ret ?_
  refine qL Tryz.results34 rfl fun w' hm' hc' hg' => ?_
  have e11 : n11 = nn := hn11.trans (Int.toNat_natCast nn); exact tb_newleaf (mO := m11) om om hs11 h19 hb21 hb18 hm' (by (repeat' (first | exact SubM.nil _ | refine SubM.cons (by rfl) ?_ | refine SubM.app ?_))) hc'
 ·
  refine LM.callE (oc_callV rfl (enters_fn Tryz.func81 kr rfl) rfl) (fun w hm hc hg => tbring_spec _ w) ?_
  refine LM.nil ?_
  refine kq1 ?_
  refine KD.tri rfl rfl rfl ?_ ?_ ?_
  ·
   try rw [nbk_eq, hnn]
   refine LM.makeS (f := fBh) (a0 := (default : Bh)) Tryz.underlying107 Tryz.typeInfo164 rfl rfl rfl rfl ir rfl rfl rfl om (by simp only [Tryz.t164]; omega) om (by unfold maxLen; omega) (fun ad11 n11 m11 hn11 hs11 => ?_)
   refine LM.nil ?_
   refine kq1 ?_
   refine KD.fork rfl rfl ?_ ?_
   ·
    refine LM.callE (oc_callV rfl (enters_fn Tryz.func81 kr rfl) rfl) (fun w hm hc hg => tbring_spec _ w) ?_
    refine LM.nil ?_
    refine kq1 ?_
    refine KD.fork rfl rfl ?_ ?_
    ·
     refine LM.makeMap rfl (fun b18 hb18 => ?_)
     refine LM.nil ?_
     refine kq1 ?_
     refine KD.one rfl ?_
     refine LM.callT (oc_call (enters_fn Tryz.func82 kr rfl) rfl) HoN.mono (fun w hm hc hg => honew_spec 4096 w) ?_
     rintro u19 m19 ⟨b19, rfl, h19⟩ hge19
     refine LM.nil ?_
     refine kq1 ?_
     refine KD.val rfl rfl (ov_build (cs := #[.slice ad11 n11 n11, .int .i64 (newMost mo), .int .i64 (newMost ea), .map (some b18), .pointer (some ⟨b19, 0, none⟩)]) rfl kr) ?_
     refine KD.one rfl ?_
     refine LM.box rfl rfl (fun b21 hb21 => ?_)
     refine LM.nil ?_
     refine kq1 ?_
     refine KD.val rfl rfl (ov_assign rfl) <| KD.nil ?_
     refine QM.sub (e' := [(6, _)]) ⟨rfl, trivial⟩ (QM.then ?_)
     refine wpM.ret ?_
     refine qL Tryz.results34 rfl fun w' hm' hc' hg' => ?_
     have e11 : n11 = nn := hn11.trans (Int.toNat_natCast nn); exact tb_newleaf (mO := m11) om om hs11 h19 hb21 hb18 hm' (by (repeat' (first | exact SubM.nil _ | refine SubM.cons (by rfl) ?_ | refine SubM.app ?_))) hc'
    refine LM.callT (oc_call (enters_fn Tryz.func82 kr rfl) rfl) HoN.mono (fun w hm hc hg => honew_spec 4096 w) ?_
    rintro u19 m19 ⟨b19, rfl, h19⟩ hge19
    refine LM.nil ?_
    refine kq1 ?_
    refine KD.one rfl ?_
    refine LM.makeMap rfl (fun b18 hb18 => ?_)
    refine LM.nil ?_
    refine kq1 ?_
    refine KD.val rfl rfl (ov_build (cs := #[.slice ad11 n11 n11, .int .i64 (newMost mo), .int .i64 (newMost ea), .map (some b18), .pointer (some ⟨b19, 0, none⟩)]) rfl kr) ?_
    refine KD.one rfl ?_
    refine LM.box rfl rfl (fun b21 hb21 => ?_)
    refine LM.nil ?_
    refine kq1 ?_
    refine KD.val rfl rfl (ov_assign rfl) <| KD.nil ?_
    refine QM.sub (e' := [(6, _)]) ⟨rfl, trivial⟩ (QM.then ?_)
    refine wpM.ret ?_
    refine qL Tryz.results34 rfl fun w' hm' hc' hg' => ?_
    have e11 : n11 = nn := hn11.trans (Int.toNat_natCast nn); exact tb_newleaf (mO := m11) om om hs11 h19 hb21 hb18 hm' (by (repeat' (first | exact SubM.nil _ | refine SubM.cons (by rfl) ?_ | refine SubM.app ?_))) hc'
   refine LM.makeMap rfl (fun b18 hb18 => ?_)
   refine LM.nil ?_
   refine kq1 ?_
   refine KD.one rfl ?_
   refine LM.callE (oc_callV rfl (enters_fn Tryz.func81 kr rfl) rfl) (fun w hm hc hg => tbring_spec _ w) ?_
   refine LM.nil ?_
   refine kq1 ?_
   refine KD.one rfl ?_
   refine LM.callT (oc_call (enters_fn Tryz.func82 kr rfl) rfl) HoN.mono (fun w hm hc hg => honew_spec 4096 w) ?_
   rintro u19 m19 ⟨b19, rfl, h19⟩ hge19
   refine LM.nil ?_
   refine kq1 ?_
   refine KD.val rfl rfl (ov_build (cs := #[.slice ad11 n11 n11, .int .i64 (newMost mo), .int .i64 (newMost ea), .map (some b18), .pointer (some ⟨b19, 0, none⟩)]) rfl kr) ?_
   refine KD.one rfl ?_
   refine LM.box rfl rfl (fun b21 hb21 => ?_)
   refine LM.nil ?_
   refine kq1 ?_
   refine KD.val rfl rfl (ov_assign rfl) <| KD.nil ?_
   refine QM.sub (e' := [(6, _)]) ⟨rfl, trivial⟩ (QM.then ?_)
   refine wpM.ret ?_
   refine qL Tryz.results34 rfl fun w' hm' hc' hg' => ?_
   have e11 : n11 = nn := hn11.trans (Int.toNat_natCast nn); exact tb_newleaf (mO := m11) om om hs11 h19 hb21 hb18 hm' (by (repeat' (first | exact SubM.nil _ | refine SubM.cons (by rfl) ?_ | refine SubM.app ?_))) hc'
  ·
   refine LM.callE (oc_callV rfl (enters_fn Tryz.func81 kr rfl) rfl) (fun w hm hc hg => tbring_spec _ w) ?_
   refine LM.nil ?_
   refine kq1 ?_
   refine KD.tri rfl rfl rfl ?_ ?_ ?_
   ·
    try rw [nbk_eq, hnn]
    refine LM.makeS (f := fBh) (a0 := (default : Bh)) Tryz.underlying107 Tryz.typeInfo164 rfl rfl rfl rfl ir rfl rfl rfl om (by simp only [Tryz.t164]; omega) om (by unfold maxLen; omega) (fun ad11 n11 m11 hn11 hs11 => ?_)
    refine LM.nil ?_
    refine kq1 ?_
    refine KD.fork rfl rfl ?_ ?_
    ·
     refine LM.makeMap rfl (fun b18 hb18 => ?_)
     refine LM.nil ?_
     refine kq1 ?_
     refine KD.one rfl ?_
     refine LM.callT (oc_call (enters_fn Tryz.func82 kr rfl) rfl) HoN.mono (fun w hm hc hg => honew_spec 4096 w) ?_
     rintro u19 m19 ⟨b19, rfl, h19⟩ hge19
     refine LM.nil ?_
     refine kq1 ?_
     refine KD.val rfl rfl (ov_build (cs := #[.slice ad11 n11 n11, .int .i64 (newMost mo), .int .i64 (newMost ea), .map (some b18), .pointer (some ⟨b19, 0, none⟩)]) rfl kr) ?_
     refine KD.one rfl ?_
     refine LM.box rfl rfl (fun b21 hb21 => ?_)
     refine LM.nil ?_
     refine kq1 ?_
     refine KD.val rfl rfl (ov_assign rfl) <| KD.nil ?_
     refine QM.sub (e' := [(6, _)]) ⟨rfl, trivial⟩ (QM.then ?_)
     refine wpM.ret ?_
     refine qL Tryz.results34 rfl fun w' hm' hc' hg' => ?_
     have e11 : n11 = nn := hn11.trans (Int.toNat_natCast nn); exact tb_newleaf (mO := m11) om om hs11 h19 hb21 hb18 hm' (by (repeat' (first | exact SubM.nil _ | refine SubM.cons (by rfl) ?_ | refine SubM.app ?_))) hc'
    refine LM.callT (oc_call (enters_fn Tryz.func82 kr rfl) rfl) HoN.mono (fun w hm hc hg => honew_spec 4096 w) ?_
    rintro u19 m19 ⟨b19, rfl, h19⟩ hge19
    refine LM.nil ?_
    refine kq1 ?_
    refine KD.one rfl ?_
    refine LM.makeMap rfl (fun b18 hb18 => ?_)
    refine LM.nil ?_
    refine kq1 ?_
    refine KD.val rfl rfl (ov_build (cs := #[.slice ad11 n11 n11, .int .i64 (newMost mo), .int .i64 (newMost ea), .map (some b18), .pointer (some ⟨b19, 0, none⟩)]) rfl kr) ?_
    refine KD.one rfl ?_
    refine LM.box rfl rfl (fun b21 hb21 => ?_)
    refine LM.nil ?_
    refine kq1 ?_
    refine KD.val rfl rfl (ov_assign rfl) <| KD.nil ?_
    refine QM.sub (e' := [(6, _)]) ⟨rfl, trivial⟩ (QM.then ?_)
    refine wpM.ret ?_
    refine qL Tryz.results34 rfl fun w' hm' hc' hg' => ?_
    have e11 : n11 = nn := hn11.trans (Int.toNat_natCast nn); exact tb_newleaf (mO := m11) om om hs11 h19 hb21 hb18 hm' (by (repeat' (first | exact SubM.nil _ | refine SubM.cons (by rfl) ?_ | refine SubM.app ?_))) hc'
   ·
    refine LM.makeMap rfl (fun b18 hb18 => ?_)
    refine LM.nil ?_
    refine kq1 ?_
    refine KD.fork rfl rfl ?_ ?_
    ·
     try rw [nbk_eq, hnn]
     refine LM.makeS (f := fBh) (a0 := (default : Bh)) Tryz.underlying107 Tryz.typeInfo164 rfl rfl rfl rfl ir rfl rfl rfl om (by simp only [Tryz.t164]; omega) om (by unfold maxLen; omega) (fun ad11 n11 m11 hn11 hs11 => ?_)
     refine LM.nil ?_
     refine kq1 ?_
     refine KD.one rfl ?_
     refine LM.callT (oc_call (enters_fn Tryz.func82 kr rfl) rfl) HoN.mono (fun w hm hc hg => honew_spec 4096 w) ?_
     rintro u19 m19 ⟨b19, rfl, h19⟩ hge19
     refine LM.nil ?_
     refine kq1 ?_
     refine KD.val rfl rfl (ov_build (cs := #[.slice ad11 n11 n11, .int .i64 (newMost mo), .int .i64 (newMost ea), .map (some b18), .pointer (some ⟨b19, 0, none⟩)]) rfl kr) ?_
     refine KD.one rfl ?_
     refine LM.box rfl rfl (fun b21 hb21 => ?_)
     refine LM.nil ?_
     refine kq1 ?_
     refine KD.val rfl rfl (ov_assign rfl) <| KD.nil ?_
     refine QM.sub (e' := [(6, _)]) ⟨rfl, trivial⟩ (QM.then ?_)
     refine wpM.ret ?_
     refine qL Tryz.results34 rfl fun w' hm' hc' hg' => ?_
     have e11 : n11 = nn := hn11.trans (Int.toNat_natCast nn); exact tb_newleaf (mO := m11) om om hs11 h19 hb21 hb18 hm' (by (repeat' (first | exact SubM.nil _ | refine SubM.cons (by rfl) ?_ | refine SubM.app ?_))) hc'
    refine LM.callT (oc_call (enters_fn Tryz.func82 kr rfl) rfl) HoN.mono (fun w hm hc hg => honew_spec 4096 w) ?_
    rintro u19 m19 ⟨b19, rfl, h19⟩ hge19
    refine LM.nil ?_
    refine kq1 ?_
    refine KD.one rfl ?_
    try rw [nbk_eq, hnn]
    refine LM.makeS (f := fBh) (a0 := (default : Bh)) Tryz.underlying107 Tryz.typeInfo164 rfl rfl rfl rfl ir rfl rfl rfl om (by simp only [Tryz.t164]; omega) om (by unfold maxLen; omega) (fun ad11 n11 m11 hn11 hs11 => ?_)
    refine LM.nil ?_
    refine kq1 ?_
    refine KD.val rfl rfl (ov_build (cs := #[.slice ad11 n11 n11, .int .i64 (newMost mo), .int .i64 (newMost ea), .map (some b18), .pointer (some ⟨b19, 0, none⟩)]) rfl kr) ?_
    refine KD.one rfl ?_
    refine LM.box rfl rfl (fun b21 hb21 => ?_)
    refine LM.nil ?_
    refine kq1 ?_
    refine KD.val rfl rfl (ov_assign rfl) <| KD.nil ?_
    refine QM.sub (e' := [(6, _)]) ⟨rfl, trivial⟩ (QM.then ?_)
    refine wpM.ret ?_
    refine qL Tryz.results34 rfl fun w' hm' hc' hg' => ?_
    have e11 : n11 = nn := hn11.trans (Int.toNat_natCast nn); exact tb_newleaf (mO := m11) om om hs11 h19 hb21 hb18 hm' (by (repeat' (first | exact SubM.nil _ | refine SubM.cons (by rfl) ?_ | refine SubM.app ?_))) hc'
   refine LM.callT (oc_call (enters_fn Tryz.func82 kr rfl) rfl) HoN.mono (fun w hm hc hg => honew_spec 4096 w) ?_
   rintro u19 m19 ⟨b19, rfl, h19⟩ hge19
   refine LM.nil ?_
   refine kq1 ?_
   refine KD.fork rfl rfl ?_ ?_
   ·
    try rw [nbk_eq, hnn]
    refine LM.makeS (f := fBh) (a0 := (default : Bh)) Tryz.underlying107 Tryz.typeInfo164 rfl rfl rfl rfl ir rfl rfl rfl om (by simp only [Tryz.t164]; omega) om (by unfold maxLen; omega) (fun ad11 n11 m11 hn11 hs11 => ?_)
    refine LM.nil ?_
    refine kq1 ?_
    refine KD.one rfl ?_
    refine LM.makeMap rfl (fun b18 hb18 => ?_)
    refine LM.nil ?_
    refine kq1 ?_
    refine KD.val rfl rfl (ov_build (cs := #[.slice ad11 n11 n11, .int .i64 (newMost mo), .int .i64 (newMost ea), .map (some b18), .pointer (some ⟨b19, 0, none⟩)]) rfl kr) ?_
    refine KD.one rfl ?_
    refine LM.box rfl rfl (fun b21 hb21 => ?_)
    refine LM.nil ?_
    refine kq1 ?_
    refine KD.val rfl rfl (ov_assign rfl) <| KD.nil ?_
    refine QM.sub (e' := [(6, _)]) ⟨rfl, trivial⟩ (QM.then ?_)
    refine wpM.ret ?_
    refine qL Tryz.results34 rfl fun w' hm' hc' hg' => ?_
    have e11 : n11 = nn := hn11.trans (Int.toNat_natCast nn); exact tb_newleaf (mO := m11) om om hs11 h19 hb21 hb18 hm' (by (repeat' (first | exact SubM.nil _ | refine SubM.cons (by rfl) ?_ | refine SubM.app ?_))) hc'
   refine LM.makeMap rfl (fun b18 hb18 => ?_)
   refine LM.nil ?_
   refine kq1 ?_
   refine KD.one rfl ?_
   try rw [nbk_eq, hnn]
   refine LM.makeS (f := fBh) (a0 := (default : Bh)) Tryz.underlying107 Tryz.typeInfo164 rfl rfl rfl rfl ir rfl rfl rfl om (by simp only [Tryz.t164]; omega) om (by unfold maxLen; omega) (fun ad11 n11 m11 hn11 hs11 => ?_)
   refine LM.nil ?_
   refine kq1 ?_
   refine KD.val rfl rfl (ov_build (cs := #[.slice ad11 n11 n11, .int .i64 (newMost mo), .int .i64 (newMost ea), .map (some b18), .pointer (some ⟨b19, 0, none⟩)]) rfl kr) ?_
   refine KD.one rfl ?_
   refine LM.box rfl rfl (fun b21 hb21 => ?_)
   refine LM.nil ?_
   refine kq1 ?_
   refine KD.val rfl rfl (ov_assign rfl) <| KD.nil ?_
   refine QM.sub (e' := [(6, _)]) ⟨rfl, trivial⟩ (QM.then ?_)
   refine wpM.ret ?_
   refine qL Tryz.results34 rfl fun w' hm' hc' hg' => ?_
   have e11 : n11 = nn := hn11.trans (Int.toNat_natCast nn); exact tb_newleaf (mO := m11) om om hs11 h19 hb21 hb18 hm' (by (repeat' (first | exact SubM.nil _ | refine SubM.cons (by rfl) ?_ | refine SubM.app ?_))) hc'
  refine LM.makeMap rfl (fun b18 hb18 => ?_)
  refine LM.nil ?_
  refine kq1 ?_
  refine KD.fork rfl rfl ?_ ?_
  ·
   try rw [nbk_eq, hnn]
   refine LM.makeS (f := fBh) (a0 := (default : Bh)) Tryz.underlying107 Tryz.typeInfo164 rfl rfl rfl rfl ir rfl rfl rfl om (by simp only [Tryz.t164]; omega) om (by unfold maxLen; omega) (fun ad11 n11 m11 hn11 hs11 => ?_)
   refine LM.nil ?_
   refine kq1 ?_
   refine KD.one rfl ?_
   refine LM.callE (oc_callV rfl (enters_fn Tryz.func81 kr rfl) rfl) (fun w hm hc hg => tbring_spec _ w) ?_
   refine LM.nil ?_
   refine kq1 ?_
   refine KD.one rfl ?_
   refine LM.callT (oc_call (enters_fn Tryz.func82 kr rfl) rfl) HoN.mono (fun w hm hc hg => honew_spec 4096 w) ?_
   rintro u19 m19 ⟨b19, rfl, h19⟩ hge19
   refine LM.nil ?_
   refine kq1 ?_
   refine KD.val rfl rfl (ov_build (cs := #[.slice ad11 n11 n11, .int .i64 (newMost mo), .int .i64 (newMost ea), .map (some b18), .pointer (some ⟨b19, 0, none⟩)]) rfl kr) ?_
   refine KD.one rfl ?_
   refine LM.box rfl rfl (fun b21 hb21 => ?_)
   refine LM.nil ?_
   refine kq1 ?_
   refine KD.val rfl rfl (ov_assign rfl) <| KD.nil ?_
   refine QM.sub (e' := [(6, _)]) ⟨rfl, trivial⟩ (QM.then ?_)
   refine wpM.ret ?_
   refine qL Tryz.results34 rfl fun w' hm' hc' hg' => ?_
   have e11 : n11 = nn := hn11.trans (Int.toNat_natCast nn); exact tb_newleaf (mO := m11) om om hs11 h19 hb21 hb18 hm' (by (repeat' (first | exact SubM.nil _ | refine SubM.cons (by rfl) ?_ | refine SubM.app ?_))) hc'
  refine LM.callE (oc_callV rfl (enters_fn Tryz.func81 kr rfl) rfl) (fun w hm hc hg => tbring_spec _ w) ?_
  refine LM.nil ?_
  refine kq1 ?_
  refine KD.fork rfl rfl ?_ ?_
  ·
   try rw [nbk_eq, hnn]
   refine LM.makeS (f := fBh) (a0 := (default : Bh)) Tryz.underlying107 Tryz.typeInfo164 rfl rfl rfl rfl ir rfl rfl rfl om (by simp only [Tryz.t164]; omega) om (by unfold maxLen; omega) (fun ad11 n11 m11 hn11 hs11 => ?_)
   refine LM.nil ?_
   refine kq1 ?_
   refine KD.one rfl ?_
   refine LM.callT (oc_call (enters_fn Tryz.func82 kr rfl) rfl) HoN.mono (fun w hm hc hg => honew_spec 4096 w) ?_
   rintro u19 m19 ⟨b19, rfl, h19⟩ hge19
   refine LM.nil ?_
   refine kq1 ?_
   refine KD.val rfl rfl (ov_build (cs := #[.slice ad11 n11 n11, .int .i64 (newMost mo), .int .i64 (newMost ea), .map (some b18), .pointer (some ⟨b19, 0, none⟩)]) rfl kr) ?_
   refine KD.one rfl ?_
   refine LM.box rfl rfl (fun b21 hb21 => ?_)
   refine LM.nil ?_
   refine kq1 ?_
   refine KD.val rfl rfl (ov_assign rfl) <| KD.nil ?_
   refine QM.sub (e' := [(6, _)]) ⟨rfl, trivial⟩ (QM.then ?_)
   refine wpM.ret ?_
   refine qL Tryz.results34 rfl fun w' hm' hc' hg' => ?_
   have e11 : n11 = nn := hn11.trans (Int.toNat_natCast nn); exact tb_newleaf (mO := m11) om om hs11 h19 hb21 hb18 hm' (by (repeat' (first | exact SubM.nil _ | refine SubM.cons (by rfl) ?_ | refine SubM.app ?_))) hc'
  refine LM.callT (oc_call (enters_fn Tryz.func82 kr rfl) rfl) HoN.mono (fun w hm hc hg => honew_spec 4096 w) ?_
  rintro u19 m19 ⟨b19, rfl, h19⟩ hge19
  refine LM.nil ?_
  refine kq1 ?_
  refine KD.one rfl ?_
  try rw [nbk_eq, hnn]
  refine LM.makeS (f := fBh) (a0 := (default : Bh)) Tryz.underlying107 Tryz.typeInfo164 rfl rfl rfl rfl ir rfl rfl rfl om (by simp only [Tryz.t164]; omega) om (by unfold maxLen; omega) (fun ad11 n11 m11 hn11 hs11 => ?_)
  refine LM.nil ?_
  refine kq1 ?_
  refine KD.val rfl rfl (ov_build (cs := #[.slice ad11 n11 n11, .int .i64 (newMost mo), .int .i64 (newMost ea), .map (some b18), .pointer (some ⟨b19, 0, none⟩)]) rfl kr) ?_
  refine KD.one rfl ?_
  refine LM.box rfl rfl (fun b21 hb21 => ?_)
  refine LM.nil ?_
  refine kq1 ?_
  refine KD.val rfl rfl (ov_assign rfl) <| KD.nil ?_
  refine QM.sub (e' := [(6, _)]) ⟨rfl, trivial⟩ (QM.then ?_)
  refine wpM.ret ?_
  refine qL Tryz.results34 rfl fun w' hm' hc' hg' => ?_
  have e11 : n11 = nn := hn11.trans (Int.toNat_natCast nn); exact tb_newleaf (mO := m11) om om hs11 h19 hb21 hb18 hm' (by (repeat' (first | exact SubM.nil _ | refine SubM.cons (by rfl) ?_ | refine SubM.app ?_))) hc'
 refine LM.makeMap rfl (fun b18 hb18 => ?_)
 refine LM.nil ?_
 refine kq1 ?_
 refine KD.fork rfl rfl ?_ ?_
 ·
  try rw [nbk_eq, hnn]
  refine LM.makeS (f := fBh) (a0 := (default : Bh)) Tryz.underlying107 Tryz.typeInfo164 rfl rfl rfl rfl ir rfl rfl rfl om (by simp only [Tryz.t164]; omega) om (by unfold maxLen; omega) (fun ad11 n11 m11 hn11 hs11 => ?_)
  refine LM.nil ?_
  refine kq1 ?_
  refine KD.one rfl ?_
  refine LM.callE (oc_callV rfl (enters_fn Tryz.func81 kr rfl) rfl) (fun w hm hc hg => tbring_spec _ w) ?_
  refine LM.nil ?_
  refine kq1 ?_
  refine KD.one rfl ?_
  refine LM.callE (oc_callV rfl (enters_fn Tryz.func81 kr rfl) rfl) (fun w hm hc hg => tbring_spec _ w) ?_
  refine LM.nil ?_
  refine kq1 ?_
  refine KD.one rfl ?_
  refine LM.callT (oc_call (enters_fn Tryz.func82 kr rfl) rfl) HoN.mono (fun w hm hc hg => honew_spec 4096 w) ?_
  rintro u19 m19 ⟨b19, rfl, h19⟩ hge19
  refine LM.nil ?_
  refine kq1 ?_
  refine KD.val rfl rfl (ov_build (cs := #[.slice ad11 n11 n11, .int .i64 (newMost mo), .int .i64 (newMost ea), .map (some b18), .pointer (some ⟨b19, 0, none⟩)]) rfl kr) ?_
  refine KD.one rfl ?_
  refine LM.box rfl rfl (fun b21 hb21 => ?_)
  refine LM.nil ?_
  refine kq1 ?_
  refine KD.val rfl rfl (ov_assign rfl) <| KD.nil ?_
  refine QM.sub (e' := [(6, _)]) ⟨rfl, trivial⟩ (QM.then ?_)
  refine wpM.ret ?_
  refine qL Tryz.results34 rfl fun w' hm' hc' hg' => ?_
  have e11 : n11 = nn := hn11.trans (Int.toNat_natCast nn); exact tb_newleaf (mO := m11) om om hs11 h19 hb21 hb18 hm' (by (repeat' (first | exact SubM.nil _ | refine SubM.cons (by rfl) ?_ | refine SubM.app ?_))) hc'
 refine LM.callE (oc_callV rfl (enters_fn Tryz.func81 kr rfl) rfl) (fun w hm hc hg => tbring_spec _ w) ?_
 refine LM.nil ?_
 refine kq1 ?_
 refine KD.fork rfl rfl ?_ ?_
 ·
  try rw [nbk_eq, hnn]
  refine LM.makeS (f := fBh) (a0 := (default : Bh)) Tryz.underlying107 Tryz.typeInfo164 rfl rfl rfl rfl ir rfl rfl rfl om (by simp only [Tryz.t164]; omega) om (by unfold maxLen; omega) (fun ad11 n11 m11 hn11 hs11 => ?_)
  refine LM.nil ?_
  refine kq1 ?_
  refine KD.one rfl ?_
  refine LM.callE (oc_callV rfl (enters_fn Tryz.func81 kr rfl) rfl) (fun w hm hc hg => tbring_spec _ w) ?_
  refine LM.nil ?_
  refine kq1 ?_
  refine KD.one rfl ?_
  refine LM.callT (oc_call (enters_fn Tryz.func82 kr rfl) rfl) HoN.mono (fun w hm hc hg => honew_spec 4096 w) ?_
  rintro u19 m19 ⟨b19, rfl, h19⟩ hge19
  refine LM.nil ?_
  refine kq1 ?_
  refine KD.val rfl rfl (ov_build (cs := #[.slice ad11 n11 n11, .int .i64 (newMost mo), .int .i64 (newMost ea), .map (some b18), .pointer (some ⟨b19, 0, none⟩)]) rfl kr) ?_
  refine KD.one rfl ?_
  refine LM.box rfl rfl (fun b21 hb21 => ?_)
  refine LM.nil ?_
  refine kq1 ?_
  refine KD.val rfl rfl (ov_assign rfl) <| KD.nil ?_
  refine QM.sub (e' := [(6, _)]) ⟨rfl, trivial⟩ (QM.then ?_)
  refine wpM.ret ?_
  refine qL Tryz.results34 rfl fun w' hm' hc' hg' => ?_
  have e11 : n11 = nn := hn11.trans (Int.toNat_natCast nn); exact tb_newleaf (mO := m11) om om hs11 h19 hb21 hb18 hm' (by (repeat' (first | exact SubM.nil _ | refine SubM.cons (by rfl) ?_ | refine SubM.app ?_))) hc'
 refine LM.callE (oc_callV rfl (enters_fn Tryz.func81 kr rfl) rfl) (fun w hm hc hg => tbring_spec _ w) ?_
 refine LM.nil ?_
 refine kq1 ?_
 refine KD.fork rfl rfl ?_ ?_
 ·
  try rw [nbk_eq, hnn]
  refine LM.makeS (f := fBh) (a0 := (default : Bh)) Tryz.underlying107 Tryz.typeInfo164 rfl rfl rfl rfl ir rfl rfl rfl om (by simp only [Tryz.t164]; omega) om (by unfold maxLen; omega) (fun ad11 n11 m11 hn11 hs11 => ?_)
  refine LM.nil ?_
  refine kq1 ?_
  refine KD.one rfl ?_
  refine LM.callT (oc_call (enters_fn Tryz.func82 kr rfl) rfl) HoN.mono (fun w hm hc hg => honew_spec 4096 w) ?_
  rintro u19 m19 ⟨b19, rfl, h19⟩ hge19
  refine LM.nil ?_
  refine kq1 ?_
  refine KD.val rfl rfl (ov_build (cs := #[.slice ad11 n11 n11, .int .i64 (newMost mo), .int .i64 (newMost ea), .map (some b18), .pointer (some ⟨b19, 0, none⟩)]) rfl kr) ?_
  refine KD.one rfl ?_
  refine LM.box rfl rfl (fun b21 hb21 => ?_)
  refine LM.nil ?_
  refine kq1 ?_
  refine KD.val rfl rfl (ov_assign rfl) <| KD.nil ?_
  refine QM.sub (e' := [(6, _)]) ⟨rfl, trivial⟩ (QM.then ?_)
  refine wpM.ret ?_
  refine qL Tryz.results34 rfl fun w' hm' hc' hg' => ?_
  have e11 : n11 = nn := hn11.trans (Int.toNat_natCast nn); exact tb_newleaf (mO := m11) om om hs11 h19 hb21 hb18 hm' (by (repeat' (first | exact SubM.nil _ | refine SubM.cons (by rfl) ?_ | refine SubM.app ?_))) hc'
 refine LM.callT (oc_call (enters_fn Tryz.func82 kr rfl) rfl) HoN.mono (fun w hm hc hg => honew_spec 4096 w) ?_
 rintro u19 m19 ⟨b19, rfl, h19⟩ hge19
 refine LM.nil ?_
 refine kq1 ?_
 refine KD.one rfl ?_
 try rw [nbk_eq, hnn]
 refine LM.makeS (f := fBh) (a0 := (default : Bh)) Tryz.underlying107 Tryz.typeInfo164 rfl rfl rfl rfl ir rfl rfl rfl om (by simp only [Tryz.t164]; omega) om (by unfold maxLen; omega) (fun ad11 n11 m11 hn11 hs11 => ?_)
 refine LM.nil ?_
 refine kq1 ?_
 refine KD.val rfl rfl (ov_build (cs := #[.slice ad11 n11 n11, .int .i64 (newMost mo), .int .i64 (newMost ea), .map (some b18), .pointer (some ⟨b19, 0, none⟩)]) rfl kr) ?_
 refine KD.one rfl ?_
 refine LM.box rfl rfl (fun b21 hb21 => ?_)
 refine LM.nil ?_
 refine kq1 ?_
 refine KD.val rfl rfl (ov_assign rfl) <| KD.nil ?_
 refine QM.sub (e' := [(6, _)]) ⟨rfl, trivial⟩ (QM.then ?_)
 refine wpM.ret ?_
 refine qL Tryz.results34 rfl fun w' hm' hc' hg' => ?_
 have e11 : n11 = nn := hn11.trans (Int.toNat_natCast nn); exact tb_newleaf (mO := m11) om om hs11 h19 hb21 hb18 hm' (by (repeat' (first | exact SubM.nil _ | refine SubM.cons (by rfl) ?_ | refine SubM.app ?_))) hc'
abbrev uBx (b : Nat) (x : BitVec 64) : Nat × Obj := (b, .cells #[U x] 51 (0, 0))
theorem bit_spec (i : Int) (w : World) : Ret Tryz.prog 124 #[.int .i64 i] w (fun v w' => v = U (bitU i) ∧ Ext w w') := by
 refine Ret.enterM Tryz.func124 rfl Tryz.ntmps124 rfl ([]) (no) (Mem.nil w) ?_
 refine wR <| LM.as rfl <| nA [(0, _)] <| wpM.seq <| wR <| LM.mv rfl <| LM.val (ov_lss rfl rfl) <| LM.mv rfl ?_
 refine LM.splitD (t := 5) rfl (fun h1 => ?_) (fun h1 => ?_)
 ·
  refine LM.dr 5 rfl rfl rfl <| LM.dr 5 rfl rfl rfl <| LM.val (ov_pickT rfl rfl) <| nA [(0, _), (8, _)] ?_
  refine wpM.condT rfl ?_
  refine wR <| LM.as rfl <| nA [(2, _)] <| wpM.ret <| QM.then_ret ?_
  refine qL Tryz.results124 rfl fun w' hm' hc' hg' => ?_
  refine ⟨?_, hc'⟩; simp only [resV, bitU]; first | (rw [if_pos om]; done) | (rw [if_neg om]; done) | (rw [if_pos om]; rfl)
 refine LM.sp 5 rfl rfl rfl <| LM.mv rfl <| LM.sp 5 rfl rfl rfl <| LM.val (ov_gtr rfl rfl) <| LM.val (ov_pickF rfl rfl) <| nA [(0, _), (8, _)] ?_
 refine wpM.condD rfl (fun h2 => ?_) (fun h2 => ?_)
 ·
  refine wR <| LM.as rfl <| nA [(2, _)] <| wpM.ret <| QM.then_ret ?_
  refine qL Tryz.results124 rfl fun w' hm' hc' hg' => ?_
  refine ⟨?_, hc'⟩; simp only [resV, bitU]; first | (rw [if_pos om]; done) | (rw [if_neg om]; done) | (rw [if_pos om]; rfl)
 refine wpM.skip <| tR <| LM.mv rfl ?_
 refine LM.val (ov_ushl (a := 1#64) rfl rfl om) ?_
 refine LM.as rfl <| nA [(2, _)] <| wpM.ret ?_
 refine qL Tryz.results124 rfl fun w' hm' hc' hg' => ?_
 refine ⟨?_, hc'⟩; simp only [resV, bitU]; first | (rw [if_pos om]; done) | (rw [if_neg om]; done) | (rw [if_pos om]; rfl)
theorem ihas_spec (s : BitVec 64) (i : Int) (w : World) : Ret Tryz.prog 133 #[U s, .int .i64 i] w (fun v w' => v = .bool (sHas s i) ∧ Ext w w') := by
 refine Ret.enterM Tryz.func133 rfl Tryz.ntmps133 rfl ([]) (no) (Mem.nil w) ?_
 refine wR <| LM.as rfl <| nB [(0, _), (1, _)] <| LM.mv rfl <| LM.mv rfl ?_
 refine cE Tryz.func124 rfl (fun w hm hc hg => bit_spec _ w) ?_
 refine LM.val (ov_uand rfl rfl) ?_
 refine LM.val (ov_uneq (b := 0#64) rfl rfl) ?_
 refine LM.as rfl <| nA [(4, _)] <| wpM.ret ?_
 refine qL Tryz.results133 rfl fun w' hm' hc' hg' => ?_
 exact ⟨by simp only [resV]; rw [has_bit], hc'⟩
theorem with_spec (s : BitVec 64) (i : Int) (w : World) : Ret Tryz.prog 89 #[U s, .int .i64 i] w (fun v w' => v = U (withS s i) ∧ Ext w w') := by
 refine Ret.enterM Tryz.func89 rfl Tryz.ntmps89 rfl ([]) (no) (Mem.nil w) ?_
 refine wR <| LM.as rfl <| nB [(0, _), (1, _)] <| LM.mv rfl <| LM.mv rfl ?_
 refine cE Tryz.func124 rfl (fun w hm hc hg => bit_spec _ w) ?_
 refine LM.val (ov_uor rfl rfl) ?_
 refine LM.as rfl <| nA [(4, _)] <| wpM.ret ?_
 refine qL Tryz.results89 rfl fun w' hm' hc' hg' => ?_
 exact ⟨rfl, hc'⟩
theorem trail_spec (x : BitVec 64) (w : World) (hT : Tab w) : Ret Tryz.prog 151 #[U x] w (fun v w' => v = .int .i64 (lsb x : Nat) ∧ Ext w w') := by
 refine Ret.enterM Tryz.func151 rfl Tryz.ntmps151 rfl ([]) (no) (Mem.nil w) ?_
 refine wR <| LM.as rfl <| nA [(0, _)] <| wpM.seq <| wR <| LM.mv rfl ?_
 refine LM.val (ov_ueql (b := 0#64) rfl rfl) ?_
 refine nA [(0, _), (4, _)] ?_
 refine wpM.condD rfl (fun h1 => ?_) (fun h1 => ?_)
 ·
  refine wR <| LM.as rfl <| nA [(2, _)] <| wpM.ret <| QM.then_ret ?_
  refine qL Tryz.results151 rfl fun w' hm' hc' hg' => ?_
  exact ⟨by simp only [resV]; rw [h1, lsb_zero]; rfl, hc'⟩
 refine wpM.skip <| tR <| LM.mv rfl <| LM.mv rfl ?_
 refine LM.val (ov_uneg rfl) ?_
 refine LM.val (ov_uand rfl rfl) ?_
 refine LM.val (ov_umul (b := 285870213051353865#64) rfl rfl) ?_
 refine LM.val (ov_ushr rfl rfl om) ?_
 have hb : (((x &&& -x) * 285870213051353865#64) >>> (58 : Int).toNat).toNat < 64 := (by rw [and_neg h1]; exact (deb_at _ (lsb_spec h1).1).2); have hd : debT.getD (((x &&& -x) * 285870213051353865#64) >>> (58 : Int).toNat).toNat 0 = (lsb x : Nat) := (by rw [and_neg h1]; exact (deb_at _ (lsb_spec h1).1).1); have hlb := (lsb_spec h1).1
 refine LM.val (ov_idxAN Tryz.underlying201 Tryz.sizeOf5 rfl rfl om) ?_
 refine LM.rdC (v := .int .u8 (lsb x : Nat)) (fun w _ hc _ => hd ▸ om_tab (hT.ext hc) Tryz.isAgg5 rfl om hb) ?_
 refine LM.val (ov_to64 Tryz.underlying5 Tryz.underlying3 rfl om) ?_
 refine LM.as rfl <| nA [(2, _)] <| wpM.ret ?_
 refine qL Tryz.results151 rfl fun w' hm' hc' hg' => ?_
 exact ⟨rfl, hc'⟩
def AllT (s : BitVec 64) (n0 : Nat) (v : Value) (m : Mem0) : Prop := ∃ b1, v = .func (.func 150) #[] #[.pointer (some ⟨b1, 0, none⟩)] ∧ m = [uBx b1 s] ∧ n0 ≤ b1
theorem AllT.mono {s : BitVec 64} : ∀ (k k' : Nat) u m, k' ≤ k → AllT s k u m → AllT s k' u m := fun k k' u m h ⟨b1, h1, h2, h3⟩ => ⟨b1, h1, h2, by omega⟩
def allA (s : BitVec 64) : List (Array Value) := (allL s).map (fun i => #[.int .i64 (i : Nat)])
theorem allA_len (s : BitVec 64) : (allA s).length = (allL s).length := by simp [allA]
theorem allA_get {s x : BitVec 64} {k : Nat} (h : allL x = (allL s).drop k) (hx : x ≠ 0#64) : (allA s)[k]? = some #[.int .i64 (lsb x : Nat)] := by
  rw [allL_cons hx] at h
  have : (allL s)[k]? = some (lsb x) := by
    have h2 := congrArg (fun l => l[0]?) h
    simp only [List.getElem?_cons_zero, List.getElem?_drop, Nat.add_zero] at h2
    exact h2.symm
  unfold allA; rw [List.getElem?_map, this]; rfl
theorem allA_inv {s : BitVec 64} {k : Nat} {a : Array Value} (h : (allA s)[k]? = some a) : ∃ i, (allL s)[k]? = some i ∧ a = #[.int .i64 (i : Nat)] := by
  unfold allA at h; rw [List.getElem?_map, Option.map_eq_some_iff] at h
  obtain ⟨i, h1, rfl⟩ := h; exact ⟨i, h1, rfl⟩
theorem allL_len (s : BitVec 64) : (allL s).length ≤ 64 := by unfold allL; refine Nat.le_trans (List.length_filter_le _ _) ?_; simp
theorem all_spec (s : BitVec 64) (w : World) : Ret Tryz.prog 125 #[U s] w (fun v w' => Ext w w' ∧ ∃ m, AllT s w.heap.size v m ∧ Mem w' m ∧ ∀ p ∈ m, w.heap.size ≤ p.1) := by
 refine Ret.enterM Tryz.func125 rfl Tryz.ntmps125 rfl ([]) (no) (Mem.nil w) ?_
 refine wR ?_
 refine LM.box rfl rfl (fun b1 hb1 => ?_)
 refine LM.as rfl <| nB [(1, _)] ?_
 refine LM.val (ov_makeFunc rfl) ?_
 refine LM.as rfl <| nA [(2, _)] <| wpM.ret ?_
 refine qL Tryz.results125 rfl fun w' hm' hc' hg' => ?_
 exact ⟨hc', _, ⟨b1, rfl, rfl, hb1⟩, SubM.mem au1 _ hm', fun p hp => by simp only [List.mem_cons, List.not_mem_nil, or_false] at hp; subst hp; assumption⟩
theorem all_seq {s : BitVec 64} {b1 : Nat} : SeqC Tryz.prog 150 #[.pointer (some ⟨b1, 0, none⟩)] (allA s) (fun w => Mem w [uBx b1 s] ∧ Tab w) (True) := by
 refine SeqC.enter (lb := [.pointer (some ⟨b1, 0, none⟩)]) Tryz.func150 rfl Tryz.ntmps150 rfl ?_
 intro l n0 J Jx w0 hfin hJr gJ gJx hy
 refine wR ?_
 refine LM.rdC (fun w _ _ hg => om_load 0 Tryz.isAgg51 rfl rfl rfl w (hJr _ w hg).1) ?_
 refine LM.as rfl <| nA [(0, _), (3, _)] <| wpM.block ?_
 refine wpM.loopK (α := Nat × BitVec 64) (fun ⟨k, x⟩ => [(3, U x)]) [(0, _)] (fun ⟨k, x⟩ => []) (fun ⟨k, x⟩ => J k) (fun ⟨k, x⟩ => allL x = (allL s).drop k ∧ k ≤ (allL s).length) (fun ⟨k, x⟩ => (allL s).length - k) ((0, s)) ⟨au2, rfl, trivial⟩ au1 (fun _ h => h) ⟨rfl, Nat.zero_le _⟩ ?_
 rintro ⟨k, x⟩ ⟨hx, hk⟩
 change wpM _ _ _ _ _ _ _ ([]) _ _ _
 refine wpM.seq <| wR <| LM.mv rfl ?_
 refine LM.val (ov_uneq (b := 0#64) rfl rfl) ?_
 refine nA [(0, _), (3, _), (6, _)] ?_
 refine wpM.condD rfl (fun h1 => ?_) (fun h1 => ?_)
 ·
  refine wpM.skip <| QM.then <| wpM.seq <| wpM.block <| wR <| LM.mv rfl <| LM.mv rfl ?_
  refine cE Tryz.func151 rfl (fun w hm hc hg => trail_spec _ w (hJr _ w hg).2) ?_
  refine LM.mem (M' := []) (fun w _ => Mem.nil w) ?_
  refine LM.yield (n := n0) (G1 := J (k + 1)) (G2 := Jx) rfl rfl (fun w hj => hy (k) _ w (allA_get hx h1) hj) (fun _ => trivial) ?_ ?_
  ·
   first | refine LM.val (ov_notD rfl) ?_ | refine LM.val (ov_not rfl) ?_
   refine nA [(0, _), (3, _), (15, _)] ?_
   refine wpM.condF rfl ?_
   refine wpM.skip <| QM.block_normal ?_
   refine QM.then (wpM.region ?_)
   refine LM.mv rfl <| LM.mv rfl ?_
   refine LM.val (ov_usub (b := 1#64) rfl rfl) ?_
   refine LM.val (ov_uand rfl rfl) ?_
   refine LM.as rfl <| nC [(0, _), (3, _)] ?_
   have hlt : k < (allL s).length := (by have h2 := congrArg List.length hx; rw [allL_cons h1, List.length_cons, List.length_drop] at h2; omega)
   refine QM.againK (k + 1, x &&& (x - 1#64)) ⟨au2, rfl, trivial⟩ au1 (fun _ h => h) ?_ ?_
   · refine ⟨?_, by omega⟩; rw [allL_cons h1] at hx; have h2 := congrArg List.tail hx; rw [List.tail_cons, List.tail_drop] at h2; exact h2
   · first | omega | (dsimp only; omega)
  first | refine LM.val (ov_notD rfl) ?_ | refine LM.val (ov_not rfl) ?_
  refine nA [(0, _), (3, _), (15, _)] ?_
  refine wpM.condT rfl ?_
  refine wpM.ret <| QM.block_ret <| QM.then_ret <| QM.then_ret <| QM.block_ret ?_
  refine QM.leave (.inl rfl) [] Tryz.results150 rfl ?_
  intro w' hm' hc' hg'
  exact .inr hg'
 refine wpM.exit <| QM.then_exit <| QM.then_exit <| QM.block_hit ?_
 refine QM.leave (.inr rfl) [] Tryz.results150 rfl ?_
 intro w' hm' hc' hg'
 have h0 : x = 0#64 := (by simpa using h1); subst h0; rw [allL_zero] at hx; have h2 := congrArg List.length hx; rw [List.length_nil, List.length_drop] at h2; exact .inl (by rw [allA_len, show (allL s).length = k by omega]; exact hg')
end Go.Eng
namespace Go.Eng
open Go Go.RowKit
structure COp where
  k : Int
  a : Int
  b : Int
structure CLk where
  sh : Bool
  sl : Int
  cr : Int
  rd : Int
  wr : Int
instance : Inhabited COp := ⟨⟨0, 0, 0⟩⟩
instance : Inhabited CLk := ⟨⟨false, 0, 0, 0, 0⟩⟩
/-! the first that is such -/
def fixI {α : Type} (p : α → Bool) (xs : List α) : Int := if xs.any p then (xs.findIdx p : Nat) else -1
theorem any_snoc {α : Type} {p : α → Bool} {xs : List α} {i : Nat} (d : α) (h : i < xs.length) : (xs.take (i + 1)).any p = ((xs.take i).any p || p (xs.getD i d)) := by
  rw [take_snoc d h, List.any_append]; simp
theorem fix_hit {α : Type} {p : α → Bool} {xs : List α} {i : Nat} (d : α) (h0 : (xs.take i).any p = false) (h : i < xs.length) (hp : p (xs.getD i d) = true) : fixI p xs = (i : Nat) := by
  have e := getq d h
  have h1 : xs.any p = true := List.any_eq_true.2 ⟨_, List.mem_of_getElem? e, hp⟩
  have h2 : xs.findIdx p = i := by
    rw [List.findIdx_eq h]
    refine ⟨by rw [List.getElem?_eq_getElem h] at e; rw [Option.some.inj e]; exact hp, fun j hj => ?_⟩
    have h3 := List.any_eq_false.1 h0 xs[j] (by rw [List.mem_take_iff_getElem]; exact ⟨j, by omega, rfl⟩)
    simpa using h3
  unfold fixI; rw [if_pos h1, h2]
theorem fix_miss {α : Type} {p : α → Bool} {xs : List α} (h : xs.any p = false) : fixI p xs = -1 := by
  unfold fixI; rw [h]; rfl
/-! ops -/
/-! names -/
/-! sections: the steps to the end, and the ticks -/
def smallO (xs : List COp) : Prop := xs.length ≤ 20 ∧ ∀ o ∈ xs, -1125899906842624 ≤ o.a ∧ o.a ≤ 1125899906842624
theorem smallO.at {xs : List COp} (h : smallO xs) (i : Nat) : -1125899906842624 ≤ (xs.getD i default).a ∧ (xs.getD i default).a ≤ 1125899906842624 := by
  by_cases hi : i < xs.length
  · exact h.2 _ (List.mem_of_getElem? (getq default hi))
  · rw [List.getD_eq_getElem?_getD, List.getElem?_eq_none om]; decide
/-! which ops fit -/
/-! more ticks, more locks, more programs -/
/-! ### What is gone over -/
structure Hd where
  t : Int
  p : Int
  d : Bool
deriving Inhabited
structure Lkm where
  sh : Bool
  sl : Int
  ho : List Hd
  wt : List Wt
  tr : Trn
  ld : Ldm
  di : Bool
def hix (l : List Hd) (t : Int) : Nat := l.findIdx (fun h => decide (h.t = t))
def hatO (l : List Hd) (t : Int) : Int := fixI (fun h => decide (h.t = t)) l
def holdsO (x : Lkm) (t : Int) : Bool := x.ho.any (fun h => decide (h.t = t))
theorem hat_holds (x : Lkm) (t : Int) : decide (0 ≤ hatO x.ho t) = holdsO x t := by
  unfold hatO holdsO fixI
  cases x.ho.any (fun h => decide (h.t = t))
  · rfl
  · simp
theorem hat_in {x : Lkm} {t : Int} (h : holdsO x t = true) : hatO x.ho t = (hix x.ho t : Nat) ∧ hix x.ho t < x.ho.length ∧ (x.ho.getD (hix x.ho t) default).t = t := by
  have h1 : hix x.ho t < x.ho.length := List.findIdx_lt_length.2 (by unfold holdsO at h; rw [List.any_eq_true] at h; exact h)
  refine ⟨if_pos h, h1, ?_⟩
  have := List.findIdx_getElem (w := h1)
  rw [List.getD_eq_getElem?_getD, List.getElem?_eq_getElem h1]
  exact of_decide_eq_true this
def waitsO (x : Lkm) (t : Int) : Bool := x.wt.any (fun w => decide (w.who = t))
def readO (x : Lkm) : Bool := x.sh && (decide (0 < x.ho.length) && decide ((x.ho.getD 0 default).p = 0))
def freeO (x : Lkm) (p : Int) : Bool := isO x.ld p && (decide (x.ho.length = 0) || (decide (p = 0) && (readO x && (decide (cntL x.wt 1 = 0) || mayT x.tr x.sl 0))))
def keyS (l : List Int) : BitVec 64 := l.foldl withS 0#64
def waitS (x : Lkm) : BitVec 64 := keyS (x.wt.map (·.key))
def actS (x : Lkm) : BitVec 64 := keyS (x.wt.map (·.key) ++ x.ho.map (·.p))
def settleX (x : Lkm) : Lkm := { x with ld := ldSet x.ld (actS x) }
def holdX (x : Lkm) (t p : Int) : Lkm := { x with ho := x.ho ++ [⟨t, p, x.di⟩], di := false }
def rmA (L : List Wt) (os : List Int) : List Wt := os.foldl rmW L
def admL (x : Lkm) (p : Int) (n : Nat) : List Int := ((LF x.wt p).take n).map (·.who)
def admX (x : Lkm) (p : Int) (n : Nat) : Lkm := (admL x p n).foldl (fun x t => holdX x t p) { x with wt := rmA x.wt (admL x p n) }
def turnX (x : Lkm) : Lkm := { x with tr := nextT x.tr x.sl (waitS x) (leastN x.ld.l (waitS x) x.ld.l.length) }
def passN (x : Lkm) : Nat := if x.sh = true ∧ (turnX x).tr.p = 0 then 8 else 1
def passL (x : Lkm) : List Int := if x.wt.length = 0 then [] else admL x (turnX x).tr.p (passN x)
def passX (x : Lkm) : Lkm := if x.wt.length = 0 then x else admX (turnX x) (turnX x).tr.p (passN x)
def comesE (x : Lkm) (t p : Int) : Int := if isO x.ld p = false ∨ t < 0 then 1 else if holdsO x t = true then 9 else if waitsO x t = true then 12 else 0
def takeE (x : Lkm) (t p : Int) : Int := if comesE x t p ≠ 0 then comesE x t p else if freeO x p = true then 0 else 8
def firstX (x : Lkm) (p : Int) : Lkm := if x.ho.length = 0 ∧ mayT x.tr x.sl p = false then { x with tr := ⟨p, 0⟩ } else x
def takeX (x : Lkm) (t p : Int) : Lkm := if takeE x t p ≠ 0 then x else settleX (holdX (firstX x p) t p)
def waitE (x : Lkm) (t p : Int) : Int := if comesE x t p ≠ 0 then comesE x t p else if freeO x p = true then 4 else if 8 ≤ x.wt.length then 3 else 0
def waitX (x : Lkm) (t p : Int) : Lkm := if waitE x t p ≠ 0 then x else settleX { x with wt := x.wt ++ [⟨t, p, 0#64⟩] }
def outX (x : Lkm) (t : Int) : Lkm := { x with ho := x.ho.eraseIdx (hix x.ho t) }
def unlE (x : Lkm) (t : Int) : Int := if holdsO x t = true then 0 else 7
def unlL (x : Lkm) (t : Int) : List Int := if holdsO x t = true ∧ (outX x t).ho.length = 0 then passL (outX x t) else []
def unlX (x : Lkm) (t : Int) : Lkm := if holdsO x t = true then settleX (if (outX x t).ho.length = 0 then passX (outX x t) else outX x t) else x
def goneX (x : Lkm) (t : Int) : Lkm := { x with wt := rmW x.wt t }
def lvL (x : Lkm) (t : Int) : List Int := if waitsO x t = true ∧ readO x = true ∧ cntL (goneX x t).wt 1 = 0 then admL (goneX x t) 0 8 else []
def lvX (x : Lkm) (t : Int) : Lkm := if waitsO x t = true then settleX (if readO x = true ∧ cntL (goneX x t).wt 1 = 0 then admX (goneX x t) 0 8 else goneX x t) else x
def diB (x : Lkm) (t : Int) : Bool := waitsO x t || holdsO x t
def diL (x : Lkm) (t : Int) : List Int := if waitsO x t = true then lvL x t else unlL { x with di := true } t
def diX (x : Lkm) (t : Int) : Lkm := if waitsO x t = true then lvX x t else if holdsO x t = true then unlX { x with di := true } t else x
def chgX (x : Lkm) (t : Int) : Lkm := if holdsO x t = true then settleX { x with ld := ldChg x.ld (x.ho.getD (hix x.ho t) default).p.toNat, tr := spendT x.tr } else x
def weiB (x : Lkm) (g : Int) : Bool := !x.sh && isO x.ld g
def weiX (x : Lkm) (g wt : Int) : Lkm := if weiB x g = true then settleX { x with ld := ldWei x.ld g.toNat wt, tr := if x.tr.p = g ∧ (gP (ldWei x.ld g.toNat wt).l g.toNat).w ≠ (gP x.ld.l g.toNat).w then endT x.tr x.sl else x.tr } else x
def fW (L : List Wt) (who : Int) : Wt := (L.find? (fun w => decide (w.who = who))).getD default
theorem fW_yes {L : List Wt} (h : Wd1 L) {y : Wt} (hy : y ∈ L) : fW L y.who = y := by
  unfold fW
  cases hf : L.find? (fun w => decide (w.who = y.who)) with
  | none =>
    rw [List.find?_eq_none] at hf
    exact absurd (decide_eq_true rfl) (hf y hy)
  | some z =>
    have h1 := List.mem_of_find?_eq_some hf
    have h2 := List.find?_some hf
    exact wd_eq h h1 hy (of_decide_eq_true h2)
theorem fW_no {L : List Wt} {who : Int} (h : ∀ y ∈ L, y.who ≠ who) : fW L who = default := by
  unfold fW
  rw [List.find?_eq_none.2 (fun y hy => by simpa using h y hy)]; rfl
def hasW (L : List Wt) (who : Int) : Bool := L.any (fun w => decide (w.who = who))
theorem hasW_yes {L : List Wt} {who : Int} (h : hasW L who = true) : ∃ y ∈ L, y.who = who := by
  unfold hasW at h; rw [List.any_eq_true] at h
  obtain ⟨y, hy, e⟩ := h; exact ⟨y, hy, of_decide_eq_true e⟩
theorem hasW_no {L : List Wt} {who : Int} (h : hasW L who = false) : ∀ y ∈ L, y.who ≠ who := fun y hy e => by
  unfold hasW at h; rw [List.any_eq_false] at h
  exact h y hy (decide_eq_true e)
/-! the first of a key, taken one after another -/
theorem rm_head {x : Wt} {l : List Wt} (h : Wd1 (x :: l)) : rmW (x :: l) x.who = l := by
  show List.filter _ _ = _
  rw [List.filter_cons_of_neg (by simp)]
  exact rm_no (fun y hy e => (List.pairwise_cons.1 h).1 y hy e.symm)
theorem wakeF_eq {key n : Int} (hn : 0 ≤ n) : ∀ (f : Nat) (o : List Int) (L : List Wt), Wd1 L → cntL L key ≤ f → wakeF key n f o L = (o ++ ((LF L key).take (n.toNat - o.length)).map (·.who), rmA L (((LF L key).take (n.toNat - o.length)).map (·.who)))
  | 0, o, L, h, hc => by
    have : LF L key = [] := List.eq_nil_of_length_eq_zero (by unfold cntL at hc; omega)
    rw [this, List.take_nil]; simp [wakeF, rmA]
  | f + 1, o, L, h, hc => by
    by_cases c : (o.length : Int) < n ∧ 0 < cntL L key
    · rw [wakeF_go c]
      obtain ⟨y, l, hL⟩ : ∃ y l, LF L key = y :: l := by
        cases e : LF L key with
        | nil => unfold cntL at c; rw [e] at c; exact absurd c.2 (by decide)
        | cons y l => exact ⟨y, l, rfl⟩
      have hy : fstW L key = y := by unfold fstW; rw [hL]; rfl
      have hw := wd_lf h key
      rw [hL] at hw
      have hl : LF (rmW L y.who) key = l := by rw [LF_rm, hL]; exact rm_head hw
      rw [hy, wakeF_eq hn f _ _ (wd_rm h _) (by unfold cntL; rw [hl]; unfold cntL at hc; rw [hL] at hc; simp at hc; omega), hl, hL]
      have e1 : n.toNat - o.length = (n.toNat - (o ++ [y.who]).length) + 1 := by rw [List.length_append]; simp; omega
      rw [e1, List.take_succ_cons, List.map_cons]
      simp [rmA]
    · rw [wakeF_stop c]
      have : (LF L key).take (n.toNat - o.length) = [] := by
        by_cases c2 : (o.length : Int) < n
        · have : LF L key = [] := List.eq_nil_of_length_eq_zero (by unfold cntL at c; omega)
          rw [this, List.take_nil]
        · rw [show n.toNat - o.length = 0 by omega, List.take_zero]
      rw [this]; simp [rmA]
end Go.Eng
namespace Go.Eng
open Go Go.Proofs Go.RowKit
theorem ov_callX {P : Program} {e : Env} {f : FuncId} {l : List Operand} {vs : List Value} {ats : Array TypeId} {ty : TypeId} {v : Value} (h : evs e l = some vs) (hx : ∀ w, (callFunc f vs.toArray).run P w = .ok (.value v) w) : OpP P (.call { callee := .value (.func f), args := l.toArray, argTypes := ats }) ty e v := fun w ρ hρ _ _ _ _ => by
  simp [execOp, resolve, hρ (.func f) _ rfl, Deferred.ofValue, invoke, evs_map hρ h]
  exact hx w
theorem add64_run (a b : BitVec 64) (w : World) : (callFunc 141 #[U a, U b, U 0#64]).run Tryz.prog w = .ok (.value (.tuple #[U (a + b), U (if a.toNat + b.toNat < 18446744073709551616 then 0#64 else 1#64)])) w := by
  have h := run_callFunc_extern (P := Tryz.prog) (e := add64Entry) (f := 141) Tryz.func141 kr kr kr kr #[U a, U b, U 0#64] w
  rw [h, show (#[U a, U b, U 0#64] : Array Value) = #[.int .u64 (a.toNat : Int), .int .u64 (b.toNat : Int), .int .u64 0] from rfl, run_add64 a.toNat b.toNat 0 om om om om]
  have e1 : ((a.toNat : Int) + b.toNat + 0) % 18446744073709551616 = ((a + b).toNat : Int) := by rw [BitVec.toNat_add]; omega
  have ha := a.isLt
  have hb := b.isLt
  have e2 : ((a.toNat : Int) + b.toNat + 0) / 18446744073709551616 = ((if a.toNat + b.toNat < 18446744073709551616 then 0#64 else 1#64 : BitVec 64).toNat : Int) := by
    split
    · show _ = (0 : Int); omega
    · show _ = (1 : Int); omega
  simp only [Result.andThen]
  rw [e1, e2]
theorem fadd_spec (a b : BitVec 64) (w : World) : Ret Tryz.prog 109 #[U a, U b] w (fun v w' => v = .tuple #[U (addO a b), .int .i64 (if a.toNat + b.toNat < 18446744073709551616 then 0 else 2)] ∧ Ext w w') := by
 refine Ret.enterM Tryz.func109 rfl Tryz.ntmps109 rfl ([]) (no) (Mem.nil w) ?_
 refine wR <| LM.as rfl <| LM.as rfl <| nB [(0, _), (1, _)] <| LM.mv rfl <| LM.mv rfl ?_
 refine LM.val (ov_callX rfl (add64_run a b)) ?_
 refine LM.mv rfl <| LM.val (ov_extract rfl rfl) <| LM.val (ov_extract rfl rfl) <| LM.as rfl <| LM.as rfl <| nA [(6, _), (7, _)] <| wpM.seq <| wR <| LM.mv rfl ?_
 refine LM.val (ov_uneq (b := 0#64) rfl rfl) ?_
 refine nA [(6, _), (15, _)] ?_
 refine wpM.condD rfl (fun h1 => ?_) (fun h1 => ?_)
 ·
  refine wR <| LM.as rfl <| LM.as rfl <| nA [(4, _), (5, _)] <| wpM.ret <| QM.then_ret ?_
  refine QM.leave (.inl rfl) [.tmp 4, .tmp 5] Tryz.results109 rfl ?_
  intro w' hm' hc' hg'
  have hlt : ¬ a.toNat + b.toNat < 18446744073709551616 := (by intro q; rw [if_pos q] at h1; exact h1 rfl); refine ⟨?_, hc'⟩; unfold addO; rw [if_neg hlt, if_neg hlt]; rfl
 refine wpM.skip <| tR <| LM.mv rfl <| LM.as rfl <| LM.as rfl <| nA [(4, _), (5, _)] <| wpM.ret ?_
 refine QM.leave (.inl rfl) [.tmp 4, .tmp 5] Tryz.results109 rfl ?_
 intro w' hm' hc' hg'
 have hlt : a.toNat + b.toNat < 18446744073709551616 := (by rcases Nat.lt_or_ge (a.toNat + b.toNat) 18446744073709551616 with q | q; exact q; rw [if_neg om] at h1; exact absurd (fun z => by cases z) h1); refine ⟨?_, hc'⟩; rw [show addO a b = a + b from if_pos hlt]; simp only [if_pos hlt]; rfl
theorem bring_eq {n lo hi : Int} (h : lo ≤ hi) : (if hi < (if lo > n then lo else n) then hi else (if lo > n then lo else n)) = bringO n lo hi := by
  unfold bringO; (repeat' split) <;> omega
theorem ubring_spec (n lo hi : Int) (w : World) (h : lo ≤ hi) : Ret Tryz.prog 122 #[.int .i64 n, .int .i64 lo, .int .i64 hi] w (fun v w' => v = U (BitVec.ofInt 64 (bringO n lo hi)) ∧ Ext w w') := by
 refine Ret.enterM Tryz.func122 rfl Tryz.ntmps122 rfl ([]) (no) (Mem.nil w) ?_
 refine wR <| LM.as rfl <| nB [(0, _), (1, _), (2, _)] <| LM.mv rfl <| LM.mv rfl ?_
 refine LM.val (ov_max rfl rfl) ?_
 refine LM.mv rfl ?_
 refine LM.val (ov_min rfl rfl) ?_
 refine LM.val (ov_toU Tryz.underlying3 Tryz.underlying51 rfl) ?_
 refine LM.as rfl <| nA [(6, _)] <| wpM.ret ?_
 refine qL Tryz.results122 rfl fun w' hm' hc' hg' => ?_
 refine ⟨?_, hc'⟩; show U (BitVec.ofInt 64 _) = _; rw [bring_eq h]
theorem bring_nz {n hi : Int} (h : 1 ≤ hi) (hh : hi ≤ 100000) : BitVec.ofInt 64 (bringO n 1 hi) ≠ 0#64 := by
  have := bring_in (n := n) h
  intro e
  have e2 := congrArg BitVec.toNat e
  rw [BitVec.toNat_ofInt] at e2
  simp at e2
  omega
theorem clamp_eq (v fl r : BitVec 64) : (if (addO fl r).toNat < (if v.toNat < fl.toNat then fl else v).toNat then addO fl r else (if v.toNat < fl.toNat then fl else v)) = clampO v fl r := by
  have ha : fl.toNat ≤ (addO fl r).toNat := by
    unfold addO; split
    · rw [BitVec.toNat_add]; rw [Nat.mod_eq_of_lt om]; omega
    · have := fl.isLt; show _ ≤ 18446744073709551615; omega
  unfold clampO
  by_cases h : v.toNat < fl.toNat
  · rw [if_pos h, if_pos h, if_neg om]
  · rw [if_neg h, if_neg h]
theorem uclamp_spec (v fl r : BitVec 64) (w : World) : Ret Tryz.prog 114 #[U v, U fl, U r] w (fun u w' => u = U (clampO v fl r) ∧ Ext w w') := by
 refine Ret.enterM Tryz.func114 rfl Tryz.ntmps114 rfl ([]) (no) (Mem.nil w) ?_
 refine wR <| LM.as rfl <| nB [(0, _), (1, _), (2, _)] <| LM.mv rfl <| LM.mv rfl ?_
 refine cE Tryz.func109 rfl (fun w hm hc hg => fadd_spec _ _ w) ?_
 refine LM.mv rfl <| LM.val (ov_extract rfl rfl) <| LM.val (ov_extract rfl rfl) <| LM.as rfl <| LM.as rfl <| nB [(0, _), (1, _), (7, _)] <| LM.mv rfl <| LM.mv rfl ?_
 refine LM.val (ov_umax rfl rfl) ?_
 refine LM.mv rfl ?_
 refine LM.val (ov_umin rfl rfl) ?_
 refine LM.as rfl <| nA [(6, _)] <| wpM.ret ?_
 refine qL Tryz.results114 rfl fun w' hm' hc' hg' => ?_
 refine ⟨?_, hc'⟩; rw [← clamp_eq]; rfl
theorem ulock_spec (n : Int) (w : World) : Ret Tryz.prog 110 #[.int .i64 n] w (fun v w' => v = U (lockO n) ∧ Ext w w') := by
 have hz := bring_nz (n := n) (hi := 16) (by decide) (by decide)
 refine Ret.enterM Tryz.func110 rfl Tryz.ntmps110 rfl ([]) (no) (Mem.nil w) ?_
 refine wR <| LM.as rfl <| nB [(0, _)] <| LM.mv rfl ?_
 refine cE Tryz.func122 rfl (fun w hm hc hg => ubring_spec _ 1 16 w (by decide)) ?_
 refine LM.val (ov_uquo (a := 720720#64) rfl rfl (by first | decide | assumption)) ?_
 refine LM.as rfl <| nA [(2, _)] <| wpM.ret ?_
 refine qL Tryz.results110 rfl fun w' hm' hc' hg' => ?_
 exact ⟨rfl, hc'⟩
theorem uslack_spec (n s c : Int) (w : World) : Ret Tryz.prog 126 #[.int .i64 n, .int .i64 s, .int .i64 c] w (fun v w' => v = U (slackO n s c) ∧ Ext w w') := by
 refine Ret.enterM Tryz.func126 rfl Tryz.ntmps126 rfl ([]) (no) (Mem.nil w) ?_
 refine wR <| LM.as rfl <| nB [(0, _), (1, _), (2, _)] <| LM.mv rfl ?_
 refine cE Tryz.func110 rfl (fun w hm hc hg => ulock_spec _ w) ?_
 refine LM.mv rfl ?_
 refine cE Tryz.func122 rfl (fun w hm hc hg => ubring_spec _ 1 32 w (by decide)) ?_
 refine LM.mv rfl ?_
 refine cE Tryz.func122 rfl (fun w hm hc hg => ubring_spec _ 1 32 w (by decide)) ?_
 refine LM.val (ov_uadd rfl rfl) ?_
 refine LM.val (ov_umul rfl rfl) ?_
 refine LM.as rfl <| nA [(6, _)] <| wpM.ret ?_
 refine qL Tryz.results126 rfl fun w' hm' hc' hg' => ?_
 exact ⟨rfl, hc'⟩
end Go.Eng
namespace Go.Eng
open Go Go.RowKit
end Go.Eng
