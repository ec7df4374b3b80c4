/- The law of the events of a task. No condition. -/
import Derived.Test.YtfpkahcfkkhmcaaDoorM2
import Derived.Test.YtfpkahcfkkhmcaaDoorM1
import Derived.Shelf.Vars
set_option linter.unusedVariables false
set_option linter.unusedSimpArgs false
namespace Go.Eng
open Go Go.Proofs Go.RowKit
abbrev evS (b : Nat) (ad : Option Addr) (n cap : Nat) : Nat × Obj := (b, .cells #[.slice ad n cap] 23 (0, 0))
abbrev evI (b : Nat) (i : Int) : Nat × Obj := (b, .cells #[.int .i64 i] 3 (0, 0))
def tskT (xs : List Evt) (task : Int) (i : Nat) : Bool := decide ((xs.getD i default).t = task)
def evA (xs : List Evt) (task : Int) : List (Array Value) := (filP (tskT xs task) xs.length).map (fun i => #[.int .i64 (i : Nat), .agg (fE (xs.getD i default)).toArray])
theorem evA_get {xs : List Evt} {task : Int} {i : Nat} (h : i < xs.length) (ht : tskT xs task i = true) : (evA xs task)[filN (tskT xs task) i]? = some #[.int .i64 (i : Nat), .agg (fE (xs.getD i default)).toArray] := by
  unfold evA; rw [List.getElem?_map, fil_get h ht]; rfl
theorem evA_inv {xs : List Evt} {task : Int} {k : Nat} {a : Array Value} (h : (evA xs task)[k]? = some a) : ∃ p, p < xs.length ∧ tskT xs task p = true ∧ filN (tskT xs task) p = k ∧ a = #[.int .i64 (p : Nat), .agg (fE (xs.getD p default)).toArray] := by
  unfold evA at h; rw [List.getElem?_map, Option.map_eq_some_iff] at h
  obtain ⟨p, h1, rfl⟩ := h
  obtain ⟨a, b, c⟩ := fil_inv h1
  exact ⟨p, a, b, c, rfl⟩
theorem evA_len (xs : List Evt) (task : Int) : (evA xs task).length = filN (tskT xs task) xs.length := by unfold evA; rw [List.length_map]; rfl
theorem filN_mono (T : Nat → Bool) {i j : Nat} (h : i ≤ j) : filN T i ≤ filN T j := by
  induction j with
  | zero => rw [show i = 0 by omega]; exact Nat.le_refl _
  | succ j ih =>
    by_cases e : i = j + 1
    · rw [e]; exact Nat.le_refl _
    · rw [filN_succ]; have := ih (by omega); omega
theorem filN_le {T : Nat → Bool} {i j : Nat} (hi : T i = true) (h : filN T j = filN T i) : j ≤ i := by
  apply Classical.byContradiction; intro hn
  have h1 := filN_mono T (show i + 1 ≤ j by omega)
  rw [filN_succ, if_pos hi] at h1; omega
theorem filN_hit {T : Nat → Bool} {i j : Nat} (hi : T i = true) (hj : T j = true) (h : filN T j = filN T i) : j = i := Nat.le_antisymm (filN_le hi h) (filN_le hj h.symm)
theorem veq_selfE (e : Evt) : veqs (fE e) (fE e) = true := by simp [veqs, fE, veq]
theorem filN_bd (T : Nat → Bool) (i : Nat) : filN T i ≤ i := by
  unfold filN; refine Nat.le_trans (List.length_filter_le _ _) ?_; rw [List.length_range]; exact Nat.le_refl _
def OfT (ad : Option Addr) (n cap : Nat) (task : Int) (n0 : Nat) (v : Value) (m : Mem0) : Prop := ∃ c2 c3, v = .func (.func 34) #[] #[.pointer (some ⟨c2, 0, none⟩), .pointer (some ⟨c3, 0, none⟩)] ∧ m = [evI c3 task, evS c2 ad n cap] ∧ n0 ≤ c2 ∧ n0 ≤ c3
theorem OfT.mono {ad : Option Addr} {n cap : Nat} {task : Int} : ∀ (k k' : Nat) u m, k' ≤ k → OfT ad n cap task k u m → OfT ad n cap task k' u m := fun k k' u m h ⟨b1, b2, h1, h2, h3, h4⟩ => ⟨b1, b2, h1, h2, by omega, by omega⟩
set_option maxRecDepth 100000 in
theorem of24_spec (ad : Option Addr) (n cap : Nat) (task : Int) (w : World) : Ret Tryd.prog 12 #[.slice ad n cap, .int .i64 task] w (fun v w' => Ext w w' ∧ ∃ m, OfT ad n cap task w.heap.size v m ∧ Mem w' m ∧ ∀ p ∈ m, w.heap.size ≤ p.1) := by
 refine Ret.enterM (l := [.slice ad n cap, .int .i64 task]) Tryd.func12 rfl Tryd.ntmps12 rfl ([]) (no) (Mem.nil w) ?_
 refine wpM.seq (wpM.region ?_)
 refine LM.box rfl rfl (fun b2 hb2 => ?_)
 refine LM.box rfl rfl (fun b3 hb3 => ?_)
 refine LM.as rfl ?_
 refine LM.nil (QM.sub (e' := [(2, _), (3, _)]) au9 (QM.then (wpM.seq (wpM.region ?_))))
 refine LM.val (ov_makeFunc rfl) ?_
 refine LM.as rfl ?_
 refine LM.nil (QM.sub (e' := [(4, _)]) ⟨rfl, trivial⟩ (QM.then ?_))
 refine wpM.ret ?_
 refine QM.leave (.inl rfl) [.tmp 4] Tryd.results12 rfl ?_
 intro w' hm' hc' hg'
 exact ⟨hc', _, ⟨b2, b3, rfl, rfl, hb2, hb3⟩, SubM.mem au1 _ hm', fun p hp => by simp only [List.mem_cons, List.not_mem_nil, or_false] at hp; rcases hp with rfl | rfl <;> assumption⟩
set_option maxRecDepth 100000 in
set_option maxHeartbeats 1000000 in
theorem of24_seq {xs : List Evt} {ad : Option Addr} {n cap : Nat} {c2 c3 : Nat} {task : Int} (hn : n = xs.length) (hx2 : xs.length ≤ 1000000000000) : SeqC Tryd.prog 34 #[.pointer (some ⟨c2, 0, none⟩),  .pointer (some ⟨c3, 0, none⟩)] (evA xs task) (fun w => Mem w [evI c3 task, evS c2 ad n cap] ∧ Sr fE 5 xs (.slice ad n cap) w) (True) := by
 refine SeqC.enter (lb := [.pointer (some ⟨c2, 0, none⟩),  .pointer (some ⟨c3, 0, none⟩)]) Tryd.func34 rfl Tryd.ntmps34 rfl ?_
 intro l n0 J Jx w0 hfin hJr gJ gJx hy
 refine wpM.seq (wpM.region ?_)
 refine LM.rdC (fun w _ _ hg => om_load 1 Tryd.isAgg23 rfl rfl rfl w (hJr _ w hg).1) ?_
 refine LM.val (ov_len Tryd.underlying23 rfl) ?_
 refine LM.mv rfl ?_
 refine LM.nil (QM.sub (e' := [(0, _), (2, _), (6, _), (7, _), (8, _)]) au9 (QM.then ?_))
 refine wpM.block ?_
 refine wpM.loopK (α := Nat) (fun i => [(8, .int .i64 (i : Nat))]) [(0, _), (2, _), (6, _), (7, _)] (fun i => []) (fun i => J (filN (tskT xs task) i)) (fun i => i ≤ xs.length) (fun i => xs.length - i) (0) ⟨au2, rfl, rfl, rfl, rfl, trivial⟩ au1 (fun _ h => h) (Nat.zero_le _) ?_
 rintro i hi
 change wpM _ _ _ _ _ _ _ ([]) _ _ _
 refine wpM.seq (wpM.region ?_)
 refine LM.val (ov_lss rfl rfl) ?_
 refine LM.nil (QM.sub (e' := [(0, _), (2, _), (6, _), (7, _), (8, _), (9, _)]) au9 (QM.then ?_))
 refine wpM.seq ?_
 refine wpM.condD rfl (fun h1 => ?_) (fun h1 => ?_)
 ·
  refine wpM.skip ?_
  refine QM.then ?_
  refine wpM.seq ?_
  refine wpM.block ?_
  refine wpM.seq (wpM.region ?_)
  refine LM.mv rfl ?_
  refine LM.know (fun w _ _ hg => (hJr _ w hg).2.spt) (fun hsp => ?_); refine LM.val (ov_idxSN hsp Tryd.underlying23 Tryd.sizeOf39 rfl rfl (by omega)) ?_
  refine LM.rdC (fun w hm hc hg => ow_srEA (hJr _ w hg).2 (by intro _; rfl) Tryd.isAgg39 Tryd.sizeOf39 rfl (getq default (by omega))) ?_
  refine LM.allocF Tryd.zeroValue39 rfl (fun b5 hb5 => ?_)
  refine LM.as rfl ?_
  refine LM.stWF Tryd.sizeOf39 rfl rfl rfl rfl au7 au8 (by omega) ?_
  refine LM.unF ?_
  refine LM.nil (QM.sub (e' := [(0, _), (2, _), (4, _), (5, _), (6, _), (7, _), (8, _)]) au9 (QM.then (wpM.seq (wpM.region ?_))))
  refine LM.val (ov_field Tryd.underlying39 rfl Tryd.sizeOf3 rfl (k := 2) rfl rfl) ?_
  refine LM.rd (om_ld Tryd.isAgg3 rfl rfl) ?_
  refine LM.rdC (fun w _ _ hg => om_load 0 Tryd.isAgg3 rfl rfl rfl w (hJr _ w hg).1) ?_
  refine LM.val (ov_eql rfl rfl) ?_
  refine LM.mv rfl ?_
  refine LM.splitD (t := 17) rfl (fun h2 => ?_) (fun h2 => ?_)
  ·
   refine LM.sp 17 rfl rfl rfl (LM.mv rfl (LM.sp 17 rfl rfl rfl (LM.mv rfl (LM.sp 17 rfl rfl rfl ?_))))
   refine LM.rd (om_ldW Tryd.isAgg39 Tryd.sizeOf39 rfl rfl) ?_
   refine LM.sp 17 rfl rfl rfl ?_
   refine LM.mem (M' := []) (fun w _ => Mem.nil w) ?_
   refine LM.yield (n := n0) (G1 := J ((filN (tskT xs task) i) + 1)) (G2 := Jx) rfl rfl (fun w hj => hy ((filN (tskT xs task) i)) _ w (evA_get (by omega) (decide_eq_true h2)) hj) (fun _ => trivial) ?_ ?_
   ·
    refine LM.sp 17 rfl rfl rfl ?_
    first | refine LM.val (ov_notD rfl) ?_ | refine LM.val (ov_not rfl) ?_
    refine LM.val (ov_pickT rfl rfl) ?_
    refine LM.nil (QM.sub (e' := [(0, _), (2, _), (6, _), (7, _), (8, _), (23, _)]) au9 (QM.then ?_))
    refine wpM.condF rfl ?_
    refine wpM.skip ?_
    refine QM.block_normal ?_
    refine QM.then (wpM.region ?_)
    refine LM.val (ov_add64 rfl rfl (by omega)) ?_
    refine LM.mv rfl ?_
    refine LM.nil (QM.sub (e' := [(0, _), (2, _), (6, _), (7, _), (8, _)]) au9 ?_)
    refine QM.againK (i + 1) ⟨au2, rfl, rfl, rfl, rfl, trivial⟩ au1 (fun w h => by rw [filN_succ, show tskT xs task i = true from decide_eq_true h2, if_pos rfl]; exact h) ?_ ?_
    · omega
    · omega
   refine LM.sp 17 rfl rfl rfl ?_
   first | refine LM.val (ov_notD rfl) ?_ | refine LM.val (ov_not rfl) ?_
   refine LM.val (ov_pickT rfl rfl) ?_
   refine LM.nil (QM.sub (e' := [(0, _), (2, _), (6, _), (7, _), (8, _), (23, _)]) au9 (QM.then ?_))
   refine wpM.condT rfl ?_
   refine wpM.ret ?_
   refine QM.block_ret ?_
   refine QM.then_ret ?_
   refine QM.then_ret ?_
   refine QM.block_ret ?_
   refine QM.leave (.inl rfl) [] Tryd.results34 rfl ?_
   intro w' hm' hc' hg'
   exact .inr hg'
  refine LM.dr 17 rfl rfl rfl (LM.dr 17 rfl rfl rfl (LM.dr 17 rfl rfl rfl (LM.dr 17 rfl rfl rfl (LM.dr 17 rfl rfl rfl ?_))))
  refine LM.val (ov_pickF rfl rfl) ?_
  refine LM.nil (QM.sub (e' := [(0, _), (2, _), (6, _), (7, _), (8, _), (23, _)]) au9 (QM.then ?_))
  refine wpM.condF rfl ?_
  refine wpM.skip ?_
  refine QM.block_normal ?_
  refine QM.then (wpM.region ?_)
  refine LM.val (ov_add64 rfl rfl (by omega)) ?_
  refine LM.mv rfl ?_
  refine LM.nil (QM.sub (e' := [(0, _), (2, _), (6, _), (7, _), (8, _)]) au9 ?_)
  refine QM.againK (i + 1) ⟨au2, rfl, rfl, rfl, rfl, trivial⟩ au1 (fun w h => by rw [filN_succ, if_neg (by show ¬ tskT xs task i = true; unfold tskT; rw [decide_eq_false h2]; decide), Nat.add_zero]; exact h) ?_ ?_
  · omega
  · omega
 refine wpM.exit ?_
 refine QM.then_exit ?_
 refine QM.then_exit ?_
 refine QM.block_hit ?_
 refine QM.leave (.inr rfl) [] Tryd.results34 rfl ?_
 intro w' hm' hc' hg'
 first | exact .inr hg' | (have hil : i = xs.length := (by omega); subst hil; exact .inl (by rw [evA_len]; exact hg'))
set_option maxRecDepth 100000 in
set_option maxHeartbeats 4000000 in
theorem eventOf {xs : List Evt} {ad : Option Addr} {n cap : Nat} (task more : Int) (w : World) (hT : Tb w) (hX : MaxI w) (hn : n = xs.length) (hl : Sr fE 5 xs (.slice ad n cap) w) (hmo : 0 ≤ more ∧ more ≤ 255) : Ret Tryd.prog 4 #[.slice ad n cap, .int .i64 task, .int .u8 more] w (fun v w' => v = .bool true ∧ Ext w w') := by
 refine Ret.enterM (l := [.slice ad n cap, .int .i64 task, .int .u8 more]) Tryd.func4 rfl Tryd.ntmps4 rfl ([]) (no) (Mem.nil w) ?_
 refine wpM.seq (wpM.region ?_)
 refine LM.box rfl rfl (fun b3 hb3 => ?_)
 refine LM.box rfl rfl (fun b4 hb4 => ?_)
 refine LM.box rfl rfl (fun b5 hb5 => ?_)
 refine LM.alloc Tryd.zeroValue4 rfl (fun b6 hb6 => ?_)
 refine LM.nil (QM.sub (e' := [(3, _), (4, _), (5, _), (6, _)]) au9 (QM.then ?_))
 refine wpM.seq ?_
 refine wpM.seq (wpM.region ?_)
 refine LM.callE (oc_call (enters_fn Tryd.func7 (by kernel_rfl) rfl) rfl) (fun w hm hc hg => awake24_spec w (hT.ext hc) (hX.ext hc)) ?_
 first | refine LM.val (ov_notD rfl) ?_ | refine LM.val (ov_not rfl) ?_
 refine LM.nil (QM.sub (e' := [(3, _), (4, _), (5, _), (6, _), (12, _)]) au9 (QM.then ?_))
 first | refine wpM.condD rfl (fun h1 => ?_) (fun h1 => ?_) | refine wpM.condB rfl (fun h1 => ?_) (fun h1 => ?_)
 ·
  refine wpM.seq (wpM.region ?_)
  refine LM.st Tryd.sizeOf4 rfl rfl rfl au5 rfl au8 ?_
  refine LM.nil (QM.sub (e' := [(6, _)]) ⟨rfl, trivial⟩ (QM.then ?_))
  refine wpM.ret ?_
  refine QM.then_ret ?_
  refine QM.leaveCF Tryd.results4 rfl Tryd.isAgg4 rfl ?_
  intro w' hm' hc' hg'
  first | exact ⟨rfl, hc'⟩ | (exfalso; first | omega | (simp at *; done) | (simp_all; done))
 refine wpM.skip ?_
 refine QM.then ?_
 refine wpM.seq ?_
 refine wpM.seq (wpM.region ?_)
 refine LM.rd (om_ld Tryd.isAgg23 rfl rfl) ?_
 refine LM.val (ov_len Tryd.underlying23 rfl) ?_
 refine LM.val (ov_gtr rfl rfl) ?_
 refine LM.nil (QM.sub (e' := [(3, _), (4, _), (5, _), (6, _), (15, _)]) au9 (QM.then ?_))
 refine wpM.condD rfl (fun h2 => ?_) (fun h2 => ?_)
 ·
  refine wpM.seq (wpM.region ?_)
  refine LM.st Tryd.sizeOf4 rfl rfl rfl au5 rfl au8 ?_
  refine LM.nil (QM.sub (e' := [(6, _)]) ⟨rfl, trivial⟩ (QM.then ?_))
  refine wpM.ret ?_
  refine QM.then_ret ?_
  refine QM.leaveCF Tryd.results4 rfl Tryd.isAgg4 rfl ?_
  intro w' hm' hc' hg'
  exact ⟨rfl, hc'⟩
 refine wpM.skip ?_
 refine QM.then (wpM.seq (wpM.region ?_))
 refine LM.alloc Tryd.zeroValue3 rfl (fun b7 hb7 => ?_)
 refine LM.alloc Tryd.zeroValue3 rfl (fun b8 hb8 => ?_)
 refine LM.st Tryd.sizeOf3 rfl rfl rfl au5 rfl au8 ?_
 refine LM.st Tryd.sizeOf3 rfl rfl rfl au5 rfl au8 ?_
 refine LM.nil (QM.sub (e' := [(3, _), (4, _), (5, _), (6, _), (7, _), (8, _)]) au9 (QM.then ?_))
 refine wpM.seq ?_
 refine wpM.seq (wpM.region ?_)
 refine LM.rd (om_ld Tryd.isAgg23 rfl rfl) ?_
 refine LM.rd (om_ld Tryd.isAgg3 rfl rfl) ?_
 refine LM.callT (oc_call (enters_fn Tryd.func12 (by kernel_rfl) rfl) rfl) OfT.mono (fun w hm hc hg => of24_spec ad n cap task w) ?_
 rintro u18 m18 ⟨c2, c3, rfl, rfl, hc2, hc3⟩ -
 refine LM.nil (QM.sub (e' := [(3, _), (4, _), (5, _), (6, _), (7, _), (8, _), (18, _)]) au9 (QM.then ?_))
 refine wpM.block ?_
 refine wpM.toRange (α := Nat) (fun k kk => evI c3 task :: evS c2 ad n cap :: evI b7 (kk : Nat) :: evI b8 (k : Nat) :: (b6, .cells #[.bool false] 4 (0, 0)) :: (b5, .cells #[.int .u8 more] 5 (0, 0)) :: evI b4 task :: evS b3 ad n cap :: []) (0) au1 ?_
 refine wpM.range (α := Nat) (β := Unit) (enters_fn Tryd.func34 (by kernel_rfl) rfl) rfl (of24_seq (task := task) hn (by omega)) (fun k kk => evI c3 task :: evS c2 ad n cap :: evI b7 (kk : Nat) :: evI b8 (k : Nat) :: (b6, .cells #[.bool false] 4 (0, 0)) :: (b5, .cells #[.int .u8 more] 5 (0, 0)) :: evI b4 task :: evS b3 ad n cap :: []) (fun _ _ => top) (fun k kk => kk ≤ xs.length ∧ filN (tskT xs task) kk = k) (fun ⟨⟩ => (b6, .cells #[.bool true] 4 (0, 0)) :: []) (fun _ => top) (fun c ⟨⟩ => c = .ret ∧ True) 0 rfl (fun _ h => h) ⟨Nat.zero_le _, rfl⟩ (by kernel_rfl) (by intro k av hav; obtain ⟨p, hp, hpt, hpk, rfl⟩ := evA_inv hav; rfl) (.inl trivial) (fun k a w hm hc _ _ => ⟨SubM.mem au1 w hm, hl.ext hc⟩) (fun _ _ _ _ => gl_top _) (fun _ _ _ => gl_top _) (fun k x _ => by ((repeat (refine mm_cons rfl ?_)); exact fun p hp => .inl (by first | exact hp | (simp at hp; done) | (simp [hp]; done) | (simp at hp ⊢; first | exact .inl hp | exact hp | (simp [hp]; done))))) (fun c z _ => by ((repeat (refine mm_cons rfl ?_)); exact fun p hp => .inl (by first | exact hp | (simp at hp; done) | (simp [hp]; done) | (simp at hp ⊢; first | exact .inl hp | exact hp | (simp [hp]; done))))) ?_ ?_ ?_ ?_
 ·
  rintro k av kk l D rc n1 W1 hD hll hput hrc hav ⟨hkk, hkn⟩
  change wpM _ _ _ _ _ _ _ ((l, Obj.loop rc) :: ([(D, Obj.deferred (some []))] ++ (evI c3 task :: evS c2 ad n cap :: evI b7 (kk : Nat) :: evI b8 (k : Nat) :: (b6, .cells #[.bool false] 4 (0, 0)) :: (b5, .cells #[.int .u8 more] 5 (0, 0)) :: evI b4 task :: evS b3 ad n cap :: []))) _ _ _
  obtain ⟨p, hp, hpt, hpk, rfl⟩ := evA_inv hav
  refine wpM.seq (wpM.region ?_)
  refine LM.as rfl ?_
  refine LM.nil (QM.sub (e' := [(3, _), (4, _), (5, _), (6, _), (7, _), (8, _), (9, _), (20, _)]) au9 (QM.then (wpM.region ?_)))
  refine LM.alloc Tryd.zeroValue39 rfl (fun b10 hb10 => ?_)
  refine LM.stW Tryd.sizeOf39 rfl rfl rfl rfl au7 au8 ?_
  refine LM.nil (QM.sub (e' := [(3, _), (4, _), (5, _), (6, _), (7, _), (8, _), (9, _), (10, _)]) au9 ?_)
  refine QM.toBodyF (hput k kk) hll ?_
  refine wpM.block ?_
  refine wpM.seq ?_
  refine wpM.block ?_
  refine wpM.loopK0 (α := Nat) (fun j => []) [(3, _), (4, _), (5, _), (6, _), (7, _), (8, _), (9, _), (10, _)] (fun j => (l, Obj.loop (busyOf rc)) :: (D, Obj.deferred (some [])) :: (b10, .cells (fE (xs.getD p default)).toArray 39 (0, 0)) :: evI c3 task :: evS c2 ad n cap :: evI b7 (j : Nat) :: evI b8 (k : Nat) :: (b6, .cells #[.bool false] 4 (0, 0)) :: (b5, .cells #[.int .u8 more] 5 (0, 0)) :: evI b4 task :: evS b3 ad n cap :: []) (fun j => j ≤ xs.length ∧ filN (tskT xs task) j = k) (fun j => xs.length - j) (kk) ⟨rfl, rfl, rfl, rfl, rfl, rfl, rfl, rfl, trivial⟩ au1 ⟨hkk, hkn⟩ ?_
  rintro j ⟨hj, hjn⟩
  change wpM _ _ _ _ _ _ _ ((l, Obj.loop (busyOf rc)) :: (D, Obj.deferred (some [])) :: (b10, .cells (fE (xs.getD p default)).toArray 39 (0, 0)) :: evI c3 task :: evS c2 ad n cap :: evI b7 (j : Nat) :: evI b8 (k : Nat) :: (b6, .cells #[.bool false] 4 (0, 0)) :: (b5, .cells #[.int .u8 more] 5 (0, 0)) :: evI b4 task :: evS b3 ad n cap :: []) _ _ _
  refine wpM.seq ?_
  refine wpM.seq ?_
  refine wpM.draw [(0, 1), (1, 1), (2, 0), (3, 0), (4, 0), (5, 1), (6, 1), (7, 0), (8, 0), (9, 1), (10, 1), (11, 0), (12, 0)] (by kernel_rfl) (by kernel_rfl) ?_
  refine LD.rd rfl rfl (om_ld Tryd.isAgg3 rfl rfl) ?_
  refine LD.rd rfl rfl (om_ld Tryd.isAgg23 rfl rfl) ?_
  refine LD.val rfl rfl (ov_len Tryd.underlying23 rfl) ?_
  refine LD.val rfl rfl (ov_lss rfl rfl) ?_
  refine LD.val rfl rfl (ov_move rfl) ?_
  refine LD.splitD (t := 25) rfl (fun h3 => ?_) (fun h3 => ?_)
  ·
   refine LD.rd rfl ⟨25, _, rfl, rfl, rfl⟩ (om_ld Tryd.isAgg23 rfl rfl) ?_
   refine LD.rd rfl ⟨25, _, rfl, rfl, rfl⟩ (om_ld Tryd.isAgg3 rfl rfl) ?_
   refine LD.val rfl ⟨25, _, rfl, rfl, rfl⟩ (ov_idxSN au6 Tryd.underlying23 Tryd.sizeOf39 rfl rfl (by omega)) ?_
   refine LD.val rfl ⟨25, _, rfl, rfl, rfl⟩ (ov_field Tryd.underlying39 rfl Tryd.sizeOf3 rfl (k := 2) rfl rfl) ?_
   first | refine LD.rd rfl ⟨25, _, rfl, rfl, rfl⟩ (om_slE (j := 2) (by assumption) (by intro _; rfl) Tryd.isAgg3 rfl rfl au3 rfl (by rfl)) ?_ | refine LD.rdC rfl ⟨25, _, rfl, rfl, rfl⟩ (om_srE (j := 2) (by assumption) Tryd.isAgg3 rfl rfl au3 (by rfl) (by rfl) id) ?_ | refine LD.rd rfl ⟨25, _, rfl, rfl, rfl⟩ (om_ld Tryd.isAgg3 rfl rfl) ?_
   refine LD.rd rfl ⟨25, _, rfl, rfl, rfl⟩ (om_ld Tryd.isAgg3 rfl rfl) ?_
   refine LD.val rfl ⟨25, _, rfl, rfl, rfl⟩ (ov_neq rfl rfl) ?_
   refine LD.val rfl rfl (ov_pickT rfl rfl) ?_
   refine LD.nil ?_
   refine QM.sub (e' := [(3, _), (4, _), (5, _), (6, _), (7, _), (8, _), (9, _), (10, _), (33, _)]) au9 (QM.then ?_)
   refine wpM.condD rfl (fun h4 => ?_) (fun h4 => ?_)
   ·
    refine wpM.skip ?_
    refine QM.then ?_
    refine wpM.block ?_
    refine wpM.region ?_
    refine LM.rd (om_ld Tryd.isAgg3 rfl rfl) ?_
    refine LM.val (ov_add64 rfl rfl (by omega)) ?_
    refine LM.st Tryd.sizeOf3 rfl rfl rfl au5 rfl au8 ?_
    refine LM.nil (QM.sub (e' := [(3, _), (4, _), (5, _), (6, _), (7, _), (8, _), (9, _), (10, _)]) au9 ?_)
    refine QM.block_normal ?_
    refine QM.againK (j + 1) ⟨rfl, rfl, rfl, rfl, rfl, rfl, rfl, rfl, trivial⟩ au1 (fun _ h => h) ?_ ?_
    · exact ⟨by omega, by rw [filN_succ, if_neg (by simpa [tskT] using h4), Nat.add_zero]; exact hjn⟩
    · omega
   have hjp : p = j := (filN_hit (show tskT xs task j = true by simpa [tskT] using h4) hpt (hpk.trans hjn.symm)); subst hjp; have hbd := filN_bd (tskT xs task) p
   refine wpM.exit ?_
   refine QM.then_exit ?_
   refine QM.then_exit ?_
   refine QM.block_hit ?_
   refine QM.then ?_
   refine wpM.seq ?_
   refine wpM.seq ?_
   refine wpM.draw [(0, 1), (1, 0), (2, 0), (3, 0), (4, 1), (5, 1), (6, 0), (7, 0), (8, 0), (9, 0), (10, 1), (11, 1), (12, 0), (13, 1), (14, 1), (15, 0), (16, 0)] (by kernel_rfl) (by kernel_rfl) ?_
   refine LD.rd rfl rfl (om_ld Tryd.isAgg3 rfl rfl) ?_
   refine LD.val rfl rfl (ov_move rfl) ?_
   refine LD.val rfl rfl (ov_neq rfl rfl) ?_
   refine LD.val rfl rfl (ov_move rfl) ?_
   refine LD.splitD (t := 39) rfl (fun h5 => ?_) (fun h5 => ?_)
   ·
    exact absurd rfl h5
   refine LD.rd rfl ⟨39, _, rfl, rfl, rfl⟩ (om_ld Tryd.isAgg3 rfl rfl) ?_
   refine LD.rd rfl ⟨39, _, rfl, rfl, rfl⟩ (om_ld Tryd.isAgg23 rfl rfl) ?_
   refine LD.val rfl ⟨39, _, rfl, rfl, rfl⟩ (ov_len Tryd.underlying23 rfl) ?_
   refine LD.val rfl ⟨39, _, rfl, rfl, rfl⟩ (ov_geq rfl rfl) ?_
   refine LD.val rfl rfl (ov_pickF rfl rfl) ?_
   refine LD.val rfl rfl (ov_move rfl) ?_
   refine LD.splitD (t := 45) rfl (fun h6 => ?_) (fun h6 => ?_)
   ·
    exfalso; omega
   refine LD.rd rfl ⟨45, _, rfl, rfl, rfl⟩ (om_ld Tryd.isAgg23 rfl rfl) ?_
   refine LD.rd rfl ⟨45, _, rfl, rfl, rfl⟩ (om_ld Tryd.isAgg3 rfl rfl) ?_
   refine LD.val rfl ⟨45, _, rfl, rfl, rfl⟩ (ov_idxSN au6 Tryd.underlying23 Tryd.sizeOf39 rfl rfl (by omega)) ?_
   first | refine LD.rd rfl ⟨45, _, rfl, rfl, rfl⟩ (om_slA (by assumption) (by intro _; rfl) Tryd.isAgg39 Tryd.sizeOf39 rfl au3) ?_ | refine LD.rdC rfl ⟨45, _, rfl, rfl, rfl⟩ (om_srEA (by assumption) (by intro _; rfl) Tryd.isAgg39 Tryd.sizeOf39 rfl au3 id) ?_ | refine LD.rd rfl ⟨45, _, rfl, rfl, rfl⟩ (om_ldW Tryd.isAgg39 Tryd.sizeOf39 rfl rfl) ?_ | refine LD.rd rfl ⟨45, _, rfl, rfl, rfl⟩ (om_ldA Tryd.isAgg39 Tryd.sizeOf39 rfl (vs := [_, _, _, _, _]) rfl ⟨rfl, rfl, rfl, rfl, rfl, trivial⟩) ?_
   refine LD.rd rfl ⟨45, _, rfl, rfl, rfl⟩ (om_ldW Tryd.isAgg39 Tryd.sizeOf39 rfl rfl) ?_
   refine LD.val rfl ⟨45, _, rfl, rfl, rfl⟩ (ov_aneq Tryd.underlying39 (by kernel_rfl) (by kernel_rfl) (by decide) rfl rfl (by rfl) ⟨(by first | rfl | trivial), (by first | rfl | trivial), (by first | rfl | trivial), (by first | rfl | trivial), (by first | rfl | trivial), trivial⟩) ?_
   refine LD.val rfl rfl (ov_pickF rfl rfl) ?_
   refine LD.nil ?_
   refine QM.sub (e' := [(5, _), (6, _), (7, _), (8, _), (52, _)]) au9 (QM.then ?_)
   first | refine wpM.condD rfl (fun h7 => ?_) (fun h7 => ?_) | refine wpM.condB rfl (fun h7 => ?_) (fun h7 => ?_)
   ·
    rw [veq_selfE] at h7; cases h7
   refine wpM.skip ?_
   refine QM.then (wpM.seq (wpM.region ?_))
   refine LM.rd (om_ld Tryd.isAgg3 rfl rfl) ?_
   refine LM.val (ov_add64 rfl rfl (by omega)) ?_
   refine LM.st Tryd.sizeOf3 rfl rfl rfl au5 rfl au8 ?_
   refine LM.nil (QM.sub (e' := [(5, _), (6, _), (8, _)]) au9 (QM.then (wpM.seq (wpM.region ?_))))
   refine LM.rd (om_ld Tryd.isAgg3 rfl rfl) ?_
   refine LM.val (ov_add64 rfl rfl (by omega)) ?_
   refine LM.st Tryd.sizeOf3 rfl rfl rfl au5 rfl au8 ?_
   refine LM.nil (QM.sub (e' := [(5, _), (6, _), (8, _)]) au9 (QM.then (wpM.seq (wpM.region ?_))))
   refine LM.rd (om_ld Tryd.isAgg3 rfl rfl) ?_
   refine LM.rd (om_ld Tryd.isAgg5 rfl rfl) ?_
   refine LM.val (ov_to64 Tryd.underlying5 Tryd.underlying3 rfl (by omega)) ?_
   refine LM.val (ov_gtr rfl rfl) ?_
   refine LM.nil (QM.sub (e' := [(6, _), (60, _)]) au9 (QM.then ?_))
   refine wpM.condD rfl (fun h8 => ?_) (fun h8 => ?_)
   ·
    refine wpM.seq (wpM.region ?_)
    refine LM.st Tryd.sizeOf4 rfl rfl rfl au5 rfl au8 ?_
    refine LM.nil (QM.sub (e' := [(6, _)]) ⟨rfl, trivial⟩ (QM.then ?_))
    refine wpM.ret ?_
    refine QM.block_ret ?_
    refine QM.rret (⟨⟩) (SubM.mem au1) (fun _ h => h) ?_
    · exact ⟨rfl, trivial⟩
   refine wpM.skip ?_
   refine QM.block_normal ?_
   refine QM.next (p + 1) (SubM.mem au1) (fun _ h => h) ?_
   · exact ⟨by omega, by rw [filN_succ, if_pos hpt, hpk]⟩
  exfalso; have := filN_le hpt (hjn.trans hpk.symm); omega
 ·
  rintro kk D0 hD0 ⟨hkk, hkn⟩
  refine QM.sub (e' := [(3, _), (4, _), (6, _), (7, _)]) au9 ?_
  refine QM.block_normal ?_
  refine QM.then ?_
  refine wpM.seq ?_
  refine wpM.block ?_
  refine wpM.loopK0 (α := Nat) (fun j => []) [(3, _), (4, _), (6, _), (7, _)] (fun j => (D0, Obj.deferred (some [])) :: evI b7 (j : Nat) :: evI b8 ((evA xs task).length : Nat) :: (b6, .cells #[.bool false] 4 (0, 0)) :: (b5, .cells #[.int .u8 more] 5 (0, 0)) :: evI b4 task :: evS b3 ad n cap :: []) (fun j => j ≤ xs.length ∧ filN (tskT xs task) j = (evA xs task).length) (fun j => xs.length - j) (kk) ⟨rfl, rfl, rfl, rfl, trivial⟩ au1 ⟨hkk, hkn⟩ ?_
  rintro j ⟨hj, hjn⟩
  change wpM _ _ _ _ _ _ _ ((D0, Obj.deferred (some [])) :: evI b7 (j : Nat) :: evI b8 ((evA xs task).length : Nat) :: (b6, .cells #[.bool false] 4 (0, 0)) :: (b5, .cells #[.int .u8 more] 5 (0, 0)) :: evI b4 task :: evS b3 ad n cap :: []) _ _ _
  refine wpM.seq ?_
  refine wpM.seq ?_
  refine wpM.draw [(0, 1), (1, 1), (2, 0), (3, 0), (4, 0), (5, 1), (6, 1), (7, 0), (8, 0), (9, 1), (10, 1), (11, 0), (12, 0)] (by kernel_rfl) (by kernel_rfl) ?_
  refine LD.rd rfl rfl (om_ld Tryd.isAgg3 rfl rfl) ?_
  refine LD.rd rfl rfl (om_ld Tryd.isAgg23 rfl rfl) ?_
  refine LD.val rfl rfl (ov_len Tryd.underlying23 rfl) ?_
  refine LD.val rfl rfl (ov_lss rfl rfl) ?_
  refine LD.val rfl rfl (ov_move rfl) ?_
  refine LD.splitD (t := 65) rfl (fun h9 => ?_) (fun h9 => ?_)
  ·
   refine LD.rd rfl ⟨65, _, rfl, rfl, rfl⟩ (om_ld Tryd.isAgg23 rfl rfl) ?_
   refine LD.rd rfl ⟨65, _, rfl, rfl, rfl⟩ (om_ld Tryd.isAgg3 rfl rfl) ?_
   refine LD.val rfl ⟨65, _, rfl, rfl, rfl⟩ (ov_idxSN au6 Tryd.underlying23 Tryd.sizeOf39 rfl rfl (by omega)) ?_
   refine LD.val rfl ⟨65, _, rfl, rfl, rfl⟩ (ov_field Tryd.underlying39 rfl Tryd.sizeOf3 rfl (k := 2) rfl rfl) ?_
   first | refine LD.rd rfl ⟨65, _, rfl, rfl, rfl⟩ (om_slE (j := 2) (by assumption) (by intro _; rfl) Tryd.isAgg3 rfl rfl au3 rfl (by rfl)) ?_ | refine LD.rdC rfl ⟨65, _, rfl, rfl, rfl⟩ (om_srE (j := 2) (by assumption) Tryd.isAgg3 rfl rfl au3 (by rfl) (by rfl) id) ?_ | refine LD.rd rfl ⟨65, _, rfl, rfl, rfl⟩ (om_ld Tryd.isAgg3 rfl rfl) ?_
   refine LD.rd rfl ⟨65, _, rfl, rfl, rfl⟩ (om_ld Tryd.isAgg3 rfl rfl) ?_
   refine LD.val rfl ⟨65, _, rfl, rfl, rfl⟩ (ov_neq rfl rfl) ?_
   refine LD.val rfl rfl (ov_pickT rfl rfl) ?_
   refine LD.nil ?_
   refine QM.sub (e' := [(3, _), (4, _), (6, _), (7, _), (73, _)]) au9 (QM.then ?_)
   refine wpM.condD rfl (fun h10 => ?_) (fun h10 => ?_)
   ·
    refine wpM.skip ?_
    refine QM.then ?_
    refine wpM.block ?_
    refine wpM.region ?_
    refine LM.rd (om_ld Tryd.isAgg3 rfl rfl) ?_
    refine LM.val (ov_add64 rfl rfl (by omega)) ?_
    refine LM.st Tryd.sizeOf3 rfl rfl rfl au5 rfl au8 ?_
    refine LM.nil (QM.sub (e' := [(3, _), (4, _), (6, _), (7, _)]) au9 ?_)
    refine QM.block_normal ?_
    refine QM.againK (j + 1) ⟨rfl, rfl, rfl, rfl, trivial⟩ au1 (fun _ h => h) ?_ ?_
    · exact ⟨by omega, by rw [filN_succ, if_neg (by simpa [tskT] using h10), Nat.add_zero]; exact hjn⟩
    · omega
   exfalso; have hq := filN_mono (tskT xs task) (show j + 1 ≤ xs.length by omega); rw [filN_succ, if_pos (show tskT xs task j = true by simpa [tskT] using h10), hjn, evA_len] at hq; omega
  refine LD.drop rfl rfl ⟨65, _, rfl, rfl, rfl⟩ ?_
  refine LD.drop rfl rfl ⟨65, _, rfl, rfl, rfl⟩ ?_
  refine LD.drop rfl rfl ⟨65, _, rfl, rfl, rfl⟩ ?_
  refine LD.drop rfl rfl ⟨65, _, rfl, rfl, rfl⟩ ?_
  refine LD.drop rfl rfl ⟨65, _, rfl, rfl, rfl⟩ ?_
  refine LD.drop rfl rfl ⟨65, _, rfl, rfl, rfl⟩ ?_
  refine LD.drop rfl rfl ⟨65, _, rfl, rfl, rfl⟩ ?_
  refine LD.val rfl rfl (ov_pickF rfl rfl) ?_
  refine LD.nil ?_
  refine QM.sub (e' := [(3, _), (4, _), (6, _), (7, _), (73, _)]) au9 (QM.then ?_)
  refine wpM.condF rfl ?_
  refine wpM.exit ?_
  refine QM.then_exit ?_
  refine QM.then_exit ?_
  refine QM.block_hit ?_
  refine QM.then (wpM.seq (wpM.region ?_))
  refine LM.rd (om_ld Tryd.isAgg3 rfl rfl) ?_
  refine LM.rd (om_ld Tryd.isAgg23 rfl rfl) ?_
  refine LM.val (ov_len Tryd.underlying23 rfl) ?_
  refine LM.val (ov_geq rfl rfl) ?_
  refine LM.st Tryd.sizeOf4 rfl rfl rfl au5 rfl au8 ?_
  refine LM.nil (QM.sub (e' := [(6, _)]) ⟨rfl, trivial⟩ (QM.then ?_))
  refine wpM.ret ?_
  refine QM.leaveCDF (ds := [D0]) Tryd.results4 rfl (fun D h => by simp only [List.mem_cons, List.not_mem_nil, or_false] at h; omega) Tryd.isAgg4 rfl ?_
  intro w' hm' hc'
  first | exact ⟨rfl, hc'⟩ | (refine ⟨?_, hc'⟩; show Value.bool (decide ((n : Int) ≤ (j : Int))) = _; rw [decide_eq_true (by omega)])
 ·
  rintro ⟨⟩ D0 hD0 hx
  obtain ⟨-, hx⟩ := hx
  refine QM.block_ret ?_
  refine QM.then_ret ?_
  refine QM.leaveCDF (ds := [D0]) Tryd.results4 rfl (fun D h => by simp only [List.mem_cons, List.not_mem_nil, or_false] at h; omega) Tryd.isAgg4 rfl ?_
  intro w' hm' hc'
  exact ⟨rfl, hc'⟩
 rintro id ⟨⟩ D0 hD0 hx
 first | exact hx.elim | cases hx.1 | cases hx
end Go.Eng
namespace Go.Eng
open Go Go.Proofs Go.RowKit Go.ChangeShapes Go.WideShapes
set_option maxRecDepth 100000 in
theorem rdb_api_Event : Rdb Tryd.prog 39 fE (fun a => (-9223372036854775808 ≤ a.k ∧ a.k ≤ 9223372036854775807) ∧ (-9223372036854775808 ≤ a.t ∧ a.t ≤ 9223372036854775807) ∧ (-9223372036854775808 ≤ a.l ∧ a.l ≤ 9223372036854775807) ∧ (-9223372036854775808 ≤ a.n ∧ a.n ≤ 9223372036854775807)) := fun {H enc w base sp held fuel cs x} h => by
  obtain ⟨h1, h2⟩ := trod_fields Tryd.underlying39 h
  rw [show Tryd.prog.cellsOf 39 = 5 by kernel_rfl] at h1
  have c3 : Tryd.prog.cellsOf 3 = 1 := by kernel_rfl
  have c37 : Tryd.prog.cellsOf 37 = 1 := by kernel_rfl
  match cs, h1 with
  | [a0, a1, a2, a3, a4], _ =>
    simp only [List.forall_mem_cons, c3, c37, List.drop_succ_cons, List.drop_zero, List.take_succ_cons, List.take_zero] at h2
    obtain ⟨⟨_, _, f0⟩, ⟨_, _, f1⟩, ⟨_, _, f2⟩, ⟨_, _, f3⟩, ⟨_, _, f4⟩, _⟩ := h2
    obtain ⟨m0, e0, _, w0⟩ := DataW.trod_int Tryd.underlying37 f0
    obtain ⟨m1, e1, _, w1⟩ := DataW.trod_int Tryd.underlying3 f1
    obtain ⟨m2, e2, _, w2⟩ := DataW.trod_int Tryd.underlying3 f2
    obtain ⟨m3, e3, _, w3⟩ := DataW.trod_int Tryd.underlying3 f3
    obtain ⟨m4, e4, _, w4⟩ := DataW.trod_int Tryd.underlying3 f4
    obtain ⟨x0, rfl⟩ := bv_of (bounds_u64 w0)
    simp only [List.cons.injEq, and_true] at e0 e1 e2 e3 e4
    subst e0
    subst e1
    subst e2
    subst e3
    subst e4
    exact ⟨⟨x0, m1, m2, m3, m4⟩, rfl, ⟨bounds_i64 w1, bounds_i64 w2, bounds_i64 w3, bounds_i64 w4⟩⟩
set_option maxRecDepth 100000 in
theorem maxI_of {W : World} (h : W.ShapedOpen Tryd.prog) : MaxI W :=
  cell_of_shapedOpen_int (zero := #[.int .i64 0]) (t := 3) h (of_decide_eq_true (by kernel_rfl)) (by kernel_rfl) (by kernel_rfl) (by kernel_rfl) (by kernel_rfl) Tryd.underlying3
end Go.Eng
