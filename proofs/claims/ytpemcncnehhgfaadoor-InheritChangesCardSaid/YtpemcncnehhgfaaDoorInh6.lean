/- The walk of the law of changes. No condition. -/
import Derived.Test.YtpemcncnehhgfaaDoorInh5
set_option linter.unusedVariables false
set_option linter.unusedSimpArgs false
namespace Go.Eng
open Go Go.Proofs Go.RowKit

abbrev fB7 (b : Nat) : Nat × Obj := (b, .cells #[.func (.func 38) #[] #[]] 56 (0, 0))
abbrev uB8 (b : Nat) (n : Int) : Nat × Obj := (b, .cells #[.int .u8 n] 5 (0, 0))
/-- between two numbers nothing is changed if as many are below the one as below the other -/
theorem ch_same {a b : List Int} {k i : Nat} (h : k < i) (he : chN a b k = chN a b i) : a.getD k 0 = b.getD k 0 := by
  apply Classical.byContradiction; intro hn
  have h1 := chN_yes (a := a) (b := b) (n := k) hn
  have h2 := chN_mono a b (show k + 1 ≤ i by omega)
  omega
theorem ch_le {a b : List Int} {k i : Nat} (hd : a.getD i 0 ≠ b.getD i 0) (he : chN a b k = chN a b i) : k ≤ i := by
  apply Classical.byContradiction; intro hn
  have h1 := chN_yes (a := a) (b := b) (n := i) hd
  have h2 := chN_mono a b (show i + 1 ≤ k by omega)
  omega
set_option maxRecDepth 100000 in
theorem inheritChanges {a b : List Int} {ad : Option Addr} {n cap : Nat} {ad2 : Option Addr} {n2 cap2 : Nat} (x : Int) (w : World) (hT : Tab w) (hn : n = a.length) (hl : Sr fI 1 a (.slice ad n cap) w) (hn2 : n2 = b.length) (hl2 : Sr fI 1 b (.slice ad2 n2 cap2) w) (hx : 0 ≤ x ∧ x ≤ 255) : Ret Tryd.prog 8 #[.slice ad n cap, .slice ad2 n2 cap2, .int .u8 x] w (fun v w' => v = .bool true ∧ Ext w w') := by
  have hpos := hT.pos
  refine Ret.enterM (l := [.slice ad n cap, .slice ad2 n2 cap2, .int .u8 x]) Tryd.func8 rfl Tryd.ntmps8 rfl ([]) (no) (Mem.nil w) ?_
  refine wpM.seq ?_
  refine wpM.region ?_
  refine LM.box rfl rfl (fun b3 hb3 => ?_)
  refine LM.box rfl rfl (fun b4 hb4 => ?_)
  refine LM.box rfl rfl (fun b5 hb5 => ?_)
  refine LM.alloc Tryd.zeroValue4 rfl (fun b6 hb6 => ?_)
  refine LM.nil ?_
  refine QM.sub (e' := [(3, _), (4, _), (5, _), (6, _)]) ⟨rfl, rfl, rfl, rfl, trivial⟩ ?_
  refine QM.then ?_
  refine wpM.seq ?_
  refine wpM.seq ?_
  refine wpM.region ?_
  refine LM.callE (oc_call (enters_fn Tryd.func33 (by kernel_rfl) rfl) rfl) (fun w hm hc hg => awake23 w (hT.ext hc)) ?_
  first | refine LM.val (ov_notD rfl) ?_ | refine LM.val (ov_not rfl) ?_
  refine LM.nil ?_
  refine QM.sub (e' := [(3, _), (4, _), (5, _), (6, _), (13, _)]) ⟨rfl, rfl, rfl, rfl, rfl, trivial⟩ ?_
  refine QM.then ?_
  first | refine wpM.condD rfl (fun h1 => ?_) (fun h1 => ?_) | refine wpM.condB rfl (fun h1 => ?_) (fun h1 => ?_)
  ·
    refine wpM.seq ?_
    refine wpM.region ?_
    refine LM.st Tryd.sizeOf4 rfl rfl rfl (by first | decide | exact Nat.le_of_ble_eq_true rfl | (simp; done) | (simp; omega)) rfl (fun hlt => absurd hlt (by omega)) ?_
    refine LM.nil ?_
    refine QM.sub (e' := [(6, _)]) ⟨rfl, trivial⟩ ?_
    refine QM.then ?_
    refine wpM.ret ?_
    refine QM.then_ret ?_
    refine QM.leaveCF Tryd.results8 rfl Tryd.isAgg4 rfl ?_
    intro w' hm' hc' hg'
    -- leaf 1: h1+
    first | exact ⟨rfl, hc'⟩ | (exfalso; first | omega | (simp at *; done) | (simp_all; done))
  ·
    refine wpM.skip ?_
    refine QM.then ?_
    refine wpM.seq ?_
    refine wpM.seq ?_
    refine wpM.region ?_
    first | refine LM.rd (om_ld Tryd.isAgg22 rfl rfl) ?_
    refine LM.val (ov_len Tryd.underlying22 rfl) ?_
    refine LM.val (ov_gtr rfl rfl) ?_
    refine LM.val (ov_move rfl) ?_
    first | refine LM.splitD (t := 17) rfl (fun h2 => ?_) (fun h2 => ?_) | refine LM.splitB (t := 17) rfl (fun h2 => ?_) (fun h2 => ?_)
    ·
      refine LM.drop (t := 17) rfl rfl rfl ?_
      refine LM.drop (t := 17) rfl rfl rfl ?_
      refine LM.drop (t := 17) rfl rfl rfl ?_
      refine LM.val (ov_pickT rfl rfl) ?_
      refine LM.nil ?_
      refine QM.sub (e' := [(3, _), (4, _), (5, _), (6, _), (21, _)]) ⟨rfl, rfl, rfl, rfl, rfl, trivial⟩ ?_
      refine QM.then ?_
      refine wpM.condT rfl ?_
      refine wpM.seq ?_
      refine wpM.region ?_
      refine LM.st Tryd.sizeOf4 rfl rfl rfl (by first | decide | exact Nat.le_of_ble_eq_true rfl | (simp; done) | (simp; omega)) rfl (fun hlt => absurd hlt (by omega)) ?_
      refine LM.nil ?_
      refine QM.sub (e' := [(6, _)]) ⟨rfl, trivial⟩ ?_
      refine QM.then ?_
      refine wpM.ret ?_
      refine QM.then_ret ?_
      refine QM.leaveCF Tryd.results8 rfl Tryd.isAgg4 rfl ?_
      intro w' hm' hc' hg'
      -- leaf 2: h1- h2+
      first | exact ⟨rfl, hc'⟩ | (exfalso; first | omega | (simp at *; done) | (simp_all; done))
    ·
      refine LM.strip (t := 17) rfl rfl rfl ?_
      first | refine LM.rd (om_ld Tryd.isAgg22 rfl rfl) ?_
      refine LM.strip (t := 17) rfl rfl rfl ?_
      refine LM.val (ov_len Tryd.underlying22 rfl) ?_
      refine LM.strip (t := 17) rfl rfl rfl ?_
      refine LM.val (ov_gtr rfl rfl) ?_
      refine LM.val (ov_pickF rfl rfl) ?_
      refine LM.nil ?_
      refine QM.sub (e' := [(3, _), (4, _), (5, _), (6, _), (21, _)]) ⟨rfl, rfl, rfl, rfl, rfl, trivial⟩ ?_
      refine QM.then ?_
      first | refine wpM.condD rfl (fun h3 => ?_) (fun h3 => ?_) | refine wpM.condB rfl (fun h3 => ?_) (fun h3 => ?_)
      ·
        refine wpM.seq ?_
        refine wpM.region ?_
        refine LM.st Tryd.sizeOf4 rfl rfl rfl (by first | decide | exact Nat.le_of_ble_eq_true rfl | (simp; done) | (simp; omega)) rfl (fun hlt => absurd hlt (by omega)) ?_
        refine LM.nil ?_
        refine QM.sub (e' := [(6, _)]) ⟨rfl, trivial⟩ ?_
        refine QM.then ?_
        refine wpM.ret ?_
        refine QM.then_ret ?_
        refine QM.leaveCF Tryd.results8 rfl Tryd.isAgg4 rfl ?_
        intro w' hm' hc' hg'
        -- leaf 3: h1- h2- h3+
        first | exact ⟨rfl, hc'⟩ | (exfalso; first | omega | (simp at *; done) | (simp_all; done))
      ·
        refine wpM.skip ?_
        refine QM.then ?_
        refine wpM.seq ?_
        refine wpM.region ?_
        refine LM.alloc Tryd.zeroValue56 rfl (fun b7 hb7 => ?_)
        refine LM.st Tryd.sizeOf56 rfl rfl rfl (by first | decide | exact Nat.le_of_ble_eq_true rfl | (simp; done) | (simp; omega)) rfl (fun hlt => absurd hlt (by omega)) ?_
        refine LM.nil ?_
        refine QM.sub (e' := [(3, _), (4, _), (5, _), (6, _), (7, _)]) ⟨rfl, rfl, rfl, rfl, rfl, trivial⟩ ?_
        refine QM.then ?_
        refine wpM.seq ?_
        refine wpM.region ?_
        refine LM.alloc Tryd.zeroValue3 rfl (fun b8 hb8 => ?_)
        refine LM.alloc Tryd.zeroValue3 rfl (fun b9 hb9 => ?_)
        refine LM.st Tryd.sizeOf3 rfl rfl rfl (by first | decide | exact Nat.le_of_ble_eq_true rfl | (simp; done) | (simp; omega)) rfl (fun hlt => absurd hlt (by omega)) ?_
        refine LM.st Tryd.sizeOf3 rfl rfl rfl (by first | decide | exact Nat.le_of_ble_eq_true rfl | (simp; done) | (simp; omega)) rfl (fun hlt => absurd hlt (by omega)) ?_
        refine LM.nil ?_
        refine QM.sub (e' := [(3, _), (4, _), (5, _), (6, _), (7, _), (8, _), (9, _)]) ⟨rfl, rfl, rfl, rfl, rfl, rfl, rfl, trivial⟩ ?_
        refine QM.then ?_
        refine wpM.seq ?_
        refine wpM.seq ?_
        refine wpM.region ?_
        first | refine LM.rd (om_ld Tryd.isAgg22 rfl rfl) ?_
        first | refine LM.rd (om_ld Tryd.isAgg22 rfl rfl) ?_
        refine LM.callT (oc_call (enters_fn Tryd.func39 (by kernel_rfl) rfl) rfl) ChgT.mono (fun w hm hc hg => changes_spec _ _ _ _ _ _ w) ?_
        rintro u24 m24 ⟨c1, c2, rfl, rfl, hc1, hc2⟩ -
        refine LM.nil ?_
        refine QM.sub (e' := [(3, _), (4, _), (5, _), (6, _), (7, _), (8, _), (9, _), (24, _)]) ⟨rfl, rfl, rfl, rfl, rfl, rfl, rfl, rfl, trivial⟩ ?_
        refine QM.then ?_
        refine wpM.block ?_
        refine wpM.toRange (α := Nat) (fun k kv => slI c1 ad n cap :: slI c2 ad2 n2 cap2 :: iB b9 (k : Nat) :: iB b8 (kv : Nat) :: fB7 b7 :: tB b6 false :: uB8 b5 x :: slI b4 ad2 n2 cap2 :: slI b3 ad n cap :: []) (0) (by (repeat' (first | exact SubM.nil _ | refine SubM.cons rfl ?_ | refine SubM.app ?_))) ?_
        refine wpM.range (α := Nat) (β := Unit) (enters_fn Tryd.func61 (by kernel_rfl) rfl) rfl (changes_seq (a := a) (b := b) hn hn2 (by omega) (by omega)) (fun k kv => slI c1 ad n cap :: slI c2 ad2 n2 cap2 :: iB b9 (k : Nat) :: iB b8 (kv : Nat) :: fB7 b7 :: tB b6 false :: uB8 b5 x :: slI b4 ad2 n2 cap2 :: slI b3 ad n cap :: []) (fun _ _ => top) (fun k kv => kv ≤ max a.length b.length ∧ chN a b kv = k) (fun ⟨⟩ => tB b6 true :: []) (fun _ => top) (fun c ⟨⟩ => c = .ret ∧ True) 0 rfl (fun _ h => h) ⟨Nat.zero_le _, rfl⟩ (by kernel_rfl) (by intro k av hav; obtain ⟨i, hi, hd, hik, rfl⟩ := chA_inv hav; rfl) (.inl trivial) (fun k a w hm hc hg _ => ⟨SubM.mem (by (repeat' (first | exact SubM.nil _ | refine SubM.cons rfl ?_ | refine SubM.app ?_))) w hm, hl.ext hc, hl2.ext hc⟩) (fun _ _ _ _ => gl_top _) (fun _ _ _ => gl_top _) (fun k x _ => mm_cons rfl (mm_cons rfl (mm_cons rfl (mm_cons rfl (mm_cons rfl (mm_cons rfl (mm_cons rfl (mm_cons rfl (mm_cons rfl mm_nil))))))))) (fun c z _ => mm_cons rfl mm_nil) ?_ ?_ ?_ ?_
        ·
          rintro k av kv l D rc n1 W1 hD hll hput hrc hav ⟨hkm, hkv⟩
          change wpM _ _ _ _ _ _ _ ((l, Obj.loop rc) :: ([(D, Obj.deferred (some []))] ++ (slI c1 ad n cap :: slI c2 ad2 n2 cap2 :: iB b9 (k : Nat) :: iB b8 (kv : Nat) :: fB7 b7 :: tB b6 false :: uB8 b5 x :: slI b4 ad2 n2 cap2 :: slI b3 ad n cap :: []))) _ _ _
          obtain ⟨i, hi, hd, hik, rfl⟩ := chA_inv hav
          refine wpM.seq ?_
          refine wpM.region ?_
          refine LM.val (ov_assign rfl) ?_
          refine LM.nil ?_
          refine QM.sub (e' := [(3, _), (4, _), (5, _), (6, _), (7, _), (8, _), (9, _), (10, _), (26, _)]) ⟨rfl, rfl, rfl, rfl, rfl, rfl, rfl, rfl, rfl, trivial⟩ ?_
          refine QM.then ?_
          refine wpM.region ?_
          refine LM.val (ov_assign rfl) ?_
          refine LM.nil ?_
          refine QM.sub (e' := [(3, _), (4, _), (5, _), (6, _), (7, _), (8, _), (9, _), (10, _), (11, _)]) ⟨rfl, rfl, rfl, rfl, rfl, rfl, rfl, rfl, rfl, trivial⟩ ?_
          refine QM.toBodyF (hput k kv) hll ?_
          refine wpM.block ?_
          refine wpM.seq ?_
          refine wpM.block ?_
          refine wpM.loopK0 (α := Nat) (fun j => []) [(3, _), (4, _), (5, _), (6, _), (7, _), (8, _), (9, _), (10, _), (11, _)] (fun j => (l, Obj.loop (busyOf rc)) :: (D, Obj.deferred (some [])) :: slI c1 ad n cap :: slI c2 ad2 n2 cap2 :: iB b9 (k : Nat) :: iB b8 (j : Nat) :: fB7 b7 :: tB b6 false :: uB8 b5 x :: slI b4 ad2 n2 cap2 :: slI b3 ad n cap :: []) (fun j => j ≤ i ∧ chN a b j = k) (fun j => i - j) (kv) ⟨rfl, rfl, rfl, rfl, rfl, rfl, rfl, rfl, rfl, trivial⟩ (by (repeat' (first | exact SubM.nil _ | refine SubM.cons rfl ?_ | refine SubM.app ?_))) ⟨ch_le hd (by omega), hkv⟩ ?_
          rintro j ⟨hj, hjk⟩
          change wpM _ _ _ _ _ _ _ ((l, Obj.loop (busyOf rc)) :: (D, Obj.deferred (some [])) :: slI c1 ad n cap :: slI c2 ad2 n2 cap2 :: iB b9 (k : Nat) :: iB b8 (j : Nat) :: fB7 b7 :: tB b6 false :: uB8 b5 x :: slI b4 ad2 n2 cap2 :: slI b3 ad n cap :: []) _ _ _
          refine wpM.seq ?_
          refine wpM.seq ?_
          refine wpM.draw [(0, 1), (1, 0), (2, 0), (3, 0), (4, 1), (5, 1), (6, 1), (8, 1), (9, 1), (10, 1), (7, 2), (11, 2), (12, 0), (13, 0)] (by kernel_rfl) (by kernel_rfl) ?_
          first | refine LD.rd rfl rfl (om_ld Tryd.isAgg3 rfl rfl) ?_
          refine LD.val rfl rfl (ov_move rfl) ?_
          refine LD.val rfl rfl (ov_lss rfl rfl) ?_
          refine LD.val rfl rfl (ov_move rfl) ?_
          first | refine LD.splitD (t := 30) rfl (fun h4 => ?_) (fun h4 => ?_) | refine LD.splitB (t := 30) rfl (fun h4 => ?_) (fun h4 => ?_)
          ·
            first | refine LD.rd rfl ⟨30, _, rfl, rfl, rfl⟩ (om_ld Tryd.isAgg56 rfl rfl) ?_
            first | refine LD.rd rfl ⟨30, _, rfl, rfl, rfl⟩ (om_ld Tryd.isAgg22 rfl rfl) ?_
            first | refine LD.rd rfl ⟨30, _, rfl, rfl, rfl⟩ (om_ld Tryd.isAgg3 rfl rfl) ?_
            first | refine LD.rd rfl ⟨30, _, rfl, rfl, rfl⟩ (om_ld Tryd.isAgg56 rfl rfl) ?_
            first | refine LD.rd rfl ⟨30, _, rfl, rfl, rfl⟩ (om_ld Tryd.isAgg22 rfl rfl) ?_
            first | refine LD.rd rfl ⟨30, _, rfl, rfl, rfl⟩ (om_ld Tryd.isAgg3 rfl rfl) ?_
            refine LD.callE rfl ⟨30, _, rfl, rfl, rfl⟩ (oc_callV rfl (enters_fn Tryd.func38 (by kernel_rfl) rfl) rfl) (fun w hm hc hg => at23_spec _ w hn (hl.ext hc)) ?_
            refine LD.callE rfl ⟨30, _, rfl, rfl, rfl⟩ (oc_callV rfl (enters_fn Tryd.func38 (by kernel_rfl) rfl) rfl) (fun w hm hc hg => at23_spec _ w hn2 (hl2.ext hc)) ?_
            refine LD.val rfl ⟨30, _, rfl, rfl, rfl⟩ (ov_eql rfl rfl) ?_
            refine LD.val rfl rfl (ov_pickT rfl rfl) ?_
            refine LD.nil ?_
            refine QM.sub (e' := [(3, _), (4, _), (5, _), (6, _), (7, _), (8, _), (9, _), (10, _), (11, _), (40, _)]) ⟨rfl, rfl, rfl, rfl, rfl, rfl, rfl, rfl, rfl, rfl, trivial⟩ ?_
            refine QM.then ?_
            first | refine wpM.condD rfl (fun h5 => ?_) (fun h5 => ?_) | refine wpM.condB rfl (fun h5 => ?_) (fun h5 => ?_)
            ·
              refine wpM.skip ?_
              refine QM.then ?_
              refine wpM.block ?_
              refine wpM.region ?_
              first | refine LM.rd (om_ld Tryd.isAgg3 rfl rfl) ?_
              refine LM.val (ov_add64 rfl rfl (by omega)) ?_
              refine LM.st Tryd.sizeOf3 rfl rfl rfl (by first | decide | exact Nat.le_of_ble_eq_true rfl | (simp; done) | (simp; omega)) rfl (fun hlt => absurd hlt (by omega)) ?_
              refine LM.nil ?_
              refine QM.sub (e' := [(3, _), (4, _), (5, _), (6, _), (7, _), (8, _), (9, _), (10, _), (11, _)]) ⟨rfl, rfl, rfl, rfl, rfl, rfl, rfl, rfl, rfl, trivial⟩ ?_
              refine QM.block_normal ?_
              -- again1: h1- h2- h3- h4+ h5+
              refine QM.againK (j + 1) ⟨rfl, rfl, rfl, rfl, rfl, rfl, rfl, rfl, rfl, trivial⟩ (by (repeat' (first | exact SubM.nil _ | refine SubM.cons rfl ?_ | refine SubM.app ?_))) (fun _ h => h) ?_ ?_
              · exact ⟨by omega, by rw [chN_no (fun h => h h5)]; exact hjk⟩
              · first | omega | (dsimp only; omega)
            ·
              exact absurd (ch_same (show j < i by omega) (show chN a b j = chN a b i by omega)) h5
          ·
            obtain rfl : j = i := (by omega); have hcl := chN_le a b j
            refine LD.drop rfl rfl ⟨30, _, rfl, rfl, rfl⟩ ?_
            refine LD.drop rfl rfl ⟨30, _, rfl, rfl, rfl⟩ ?_
            refine LD.drop rfl rfl ⟨30, _, rfl, rfl, rfl⟩ ?_
            refine LD.drop rfl rfl ⟨30, _, rfl, rfl, rfl⟩ ?_
            refine LD.drop rfl rfl ⟨30, _, rfl, rfl, rfl⟩ ?_
            refine LD.drop rfl rfl ⟨30, _, rfl, rfl, rfl⟩ ?_
            refine LD.drop rfl rfl ⟨30, _, rfl, rfl, rfl⟩ ?_
            refine LD.drop rfl rfl ⟨30, _, rfl, rfl, rfl⟩ ?_
            refine LD.drop rfl rfl ⟨30, _, rfl, rfl, rfl⟩ ?_
            refine LD.val rfl rfl (ov_pickF rfl rfl) ?_
            refine LD.nil ?_
            refine QM.sub (e' := [(3, _), (4, _), (5, _), (6, _), (7, _), (8, _), (9, _), (10, _), (11, _), (40, _)]) ⟨rfl, rfl, rfl, rfl, rfl, rfl, rfl, rfl, rfl, rfl, trivial⟩ ?_
            refine QM.then ?_
            refine wpM.condF rfl ?_
            refine wpM.exit ?_
            refine QM.then_exit ?_
            refine QM.then_exit ?_
            refine QM.block_hit ?_
            refine QM.then ?_
            refine wpM.seq ?_
            refine wpM.seq ?_
            refine wpM.draw [(0, 1), (1, 0), (2, 0), (3, 0), (4, 1), (5, 1), (6, 0), (8, 1), (9, 1), (10, 0), (7, 2), (11, 2), (12, 0), (13, 0), (14, 0), (15, 0), (16, 1), (17, 1), (18, 0), (19, 2), (20, 0), (21, 0)] (by kernel_rfl) (by kernel_rfl) ?_
            first | refine LD.rd rfl rfl (om_ld Tryd.isAgg3 rfl rfl) ?_
            refine LD.val rfl rfl (ov_move rfl) ?_
            refine LD.val rfl rfl (ov_neq rfl rfl) ?_
            refine LD.val rfl rfl (ov_move rfl) ?_
            first | refine LD.splitD (t := 46) rfl (fun h6 => ?_) (fun h6 => ?_) | refine LD.splitB (t := 46) rfl (fun h6 => ?_) (fun h6 => ?_)
            ·
              exfalso; omega
            ·
              first | refine LD.rd rfl ⟨46, _, rfl, rfl, rfl⟩ (om_ld Tryd.isAgg56 rfl rfl) ?_
              first | refine LD.rd rfl ⟨46, _, rfl, rfl, rfl⟩ (om_ld Tryd.isAgg22 rfl rfl) ?_
              refine LD.val rfl ⟨46, _, rfl, rfl, rfl⟩ (ov_move rfl) ?_
              first | refine LD.rd rfl ⟨46, _, rfl, rfl, rfl⟩ (om_ld Tryd.isAgg56 rfl rfl) ?_
              first | refine LD.rd rfl ⟨46, _, rfl, rfl, rfl⟩ (om_ld Tryd.isAgg22 rfl rfl) ?_
              refine LD.val rfl ⟨46, _, rfl, rfl, rfl⟩ (ov_move rfl) ?_
              refine LD.callE rfl ⟨46, _, rfl, rfl, rfl⟩ (oc_callV rfl (enters_fn Tryd.func38 (by kernel_rfl) rfl) rfl) (fun w hm hc hg => at23_spec _ w hn (hl.ext hc)) ?_
              refine LD.callE rfl ⟨46, _, rfl, rfl, rfl⟩ (oc_callV rfl (enters_fn Tryd.func38 (by kernel_rfl) rfl) rfl) (fun w hm hc hg => at23_spec _ w hn2 (hl2.ext hc)) ?_
              refine LD.val rfl ⟨46, _, rfl, rfl, rfl⟩ (ov_eql rfl rfl) ?_
              refine LD.val rfl rfl (ov_pickF rfl rfl) ?_
              refine LD.val rfl rfl (ov_move rfl) ?_
              first | refine LD.splitD (t := 57) rfl (fun h7 => ?_) (fun h7 => ?_) | refine LD.splitB (t := 57) rfl (fun h7 => ?_) (fun h7 => ?_)
              ·
                exact absurd h7 hd
              ·
                refine LD.val rfl ⟨57, _, rfl, rfl, rfl⟩ (ov_move rfl) ?_
                first | refine LD.rd rfl ⟨57, _, rfl, rfl, rfl⟩ (om_ld Tryd.isAgg56 rfl rfl) ?_
                first | refine LD.rd rfl ⟨57, _, rfl, rfl, rfl⟩ (om_ld Tryd.isAgg22 rfl rfl) ?_
                refine LD.val rfl ⟨57, _, rfl, rfl, rfl⟩ (ov_move rfl) ?_
                refine LD.callE rfl ⟨57, _, rfl, rfl, rfl⟩ (oc_callV rfl (enters_fn Tryd.func38 (by kernel_rfl) rfl) rfl) (fun w hm hc hg => at23_spec _ w hn2 (hl2.ext hc)) ?_
                refine LD.val rfl ⟨57, _, rfl, rfl, rfl⟩ (ov_neq rfl rfl) ?_
                refine LD.val rfl rfl (ov_pickF rfl rfl) ?_
                refine LD.nil ?_
                refine QM.sub (e' := [(5, _), (6, _), (8, _), (9, _), (64, _)]) ⟨rfl, rfl, rfl, rfl, rfl, trivial⟩ ?_
                refine QM.then ?_
                first | refine wpM.condD rfl (fun h8 => ?_) (fun h8 => ?_) | refine wpM.condB rfl (fun h8 => ?_) (fun h8 => ?_)
                ·
                  exact absurd rfl h8
                ·
                  refine wpM.skip ?_
                  refine QM.then ?_
                  refine wpM.seq ?_
                  refine wpM.region ?_
                  first | refine LM.rd (om_ld Tryd.isAgg3 rfl rfl) ?_
                  refine LM.val (ov_add64 rfl rfl (by omega)) ?_
                  refine LM.st Tryd.sizeOf3 rfl rfl rfl (by first | decide | exact Nat.le_of_ble_eq_true rfl | (simp; done) | (simp; omega)) rfl (fun hlt => absurd hlt (by omega)) ?_
                  refine LM.nil ?_
                  refine QM.sub (e' := [(5, _), (6, _), (9, _)]) ⟨rfl, rfl, rfl, trivial⟩ ?_
                  refine QM.then ?_
                  refine wpM.seq ?_
                  refine wpM.region ?_
                  first | refine LM.rd (om_ld Tryd.isAgg3 rfl rfl) ?_
                  refine LM.val (ov_add64 rfl rfl (by omega)) ?_
                  refine LM.st Tryd.sizeOf3 rfl rfl rfl (by first | decide | exact Nat.le_of_ble_eq_true rfl | (simp; done) | (simp; omega)) rfl (fun hlt => absurd hlt (by omega)) ?_
                  refine LM.nil ?_
                  refine QM.sub (e' := [(5, _), (6, _), (9, _)]) ⟨rfl, rfl, rfl, trivial⟩ ?_
                  refine QM.then ?_
                  refine wpM.seq ?_
                  refine wpM.region ?_
                  first | refine LM.rd (om_ld Tryd.isAgg3 rfl rfl) ?_
                  first | refine LM.rd (om_ld Tryd.isAgg5 rfl rfl) ?_
                  refine LM.val (ov_to64 Tryd.underlying5 Tryd.underlying3 rfl (by omega)) ?_
                  refine LM.val (ov_gtr rfl rfl) ?_
                  refine LM.nil ?_
                  refine QM.sub (e' := [(6, _), (72, _)]) ⟨rfl, rfl, trivial⟩ ?_
                  refine QM.then ?_
                  first | refine wpM.condD rfl (fun h9 => ?_) (fun h9 => ?_) | refine wpM.condB rfl (fun h9 => ?_) (fun h9 => ?_)
                  ·
                    refine wpM.seq ?_
                    refine wpM.region ?_
                    refine LM.st Tryd.sizeOf4 rfl rfl rfl (by first | decide | exact Nat.le_of_ble_eq_true rfl | (simp; done) | (simp; omega)) rfl (fun hlt => absurd hlt (by omega)) ?_
                    refine LM.nil ?_
                    refine QM.sub (e' := [(6, _)]) ⟨rfl, trivial⟩ ?_
                    refine QM.then ?_
                    refine wpM.ret ?_
                    refine QM.block_ret ?_
                    -- ret1: h1- h2- h3- h4- h6- h7- h8- h9+
                    refine QM.rret (⟨⟩) (SubM.mem (by (repeat' (first | exact SubM.nil _ | refine SubM.cons rfl ?_ | refine SubM.app ?_)))) (fun _ h => h) ?_
                    · exact ⟨rfl, trivial⟩
                  ·
                    refine wpM.skip ?_
                    refine QM.block_normal ?_
                    -- next1: h1- h2- h3- h4- h6- h7- h8- h9-
                    refine QM.next (j + 1) (SubM.mem (by (repeat' (first | exact SubM.nil _ | refine SubM.cons rfl ?_ | refine SubM.app ?_)))) (fun _ h => h) ?_
                    · exact ⟨by omega, by rw [chN_yes hd, hjk]⟩
        ·
          rintro kv D0 hD0 ⟨hkm, hkv⟩
          refine QM.sub (e' := [(3, _), (4, _), (6, _), (7, _), (8, _)]) ⟨rfl, rfl, rfl, rfl, rfl, trivial⟩ ?_
          refine QM.block_normal ?_
          refine QM.then ?_
          refine wpM.seq ?_
          refine wpM.block ?_
          refine wpM.loopK0 (α := Nat) (fun j => []) [(3, _), (4, _), (6, _), (7, _), (8, _)] (fun j => (D0, Obj.deferred (some [])) :: iB b8 (j : Nat) :: fB7 b7 :: tB b6 false :: slI b4 ad2 n2 cap2 :: slI b3 ad n cap :: []) (fun j => j ≤ max a.length b.length ∧ chN a b j = chN a b (max a.length b.length)) (fun j => max a.length b.length - j) (kv) ⟨rfl, rfl, rfl, rfl, rfl, trivial⟩ (by (repeat' (first | exact SubM.nil _ | refine SubM.cons rfl ?_ | refine SubM.app ?_))) ⟨hkm, by rw [chA_len] at hkv; exact hkv⟩ ?_
          rintro j ⟨hj, hjk⟩
          change wpM _ _ _ _ _ _ _ ((D0, Obj.deferred (some [])) :: iB b8 (j : Nat) :: fB7 b7 :: tB b6 false :: slI b4 ad2 n2 cap2 :: slI b3 ad n cap :: []) _ _ _
          refine wpM.seq ?_
          refine wpM.seq ?_
          refine wpM.draw [(0, 1), (1, 1), (2, 0), (3, 1), (4, 0), (5, 0), (6, 0), (7, 0), (8, 1), (9, 1), (10, 1), (12, 1), (13, 1), (14, 1), (11, 2), (15, 2), (16, 0), (17, 0)] (by kernel_rfl) (by kernel_rfl) ?_
          first | refine LD.rd rfl rfl (om_ld Tryd.isAgg3 rfl rfl) ?_
          first | refine LD.rd rfl rfl (om_ld Tryd.isAgg22 rfl rfl) ?_
          refine LD.val rfl rfl (ov_len Tryd.underlying22 rfl) ?_
          first | refine LD.rd rfl rfl (om_ld Tryd.isAgg22 rfl rfl) ?_
          refine LD.val rfl rfl (ov_len Tryd.underlying22 rfl) ?_
          refine LD.val rfl rfl (ov_max rfl rfl) ?_
          refine LD.val rfl rfl (ov_lss rfl rfl) ?_
          refine LD.val rfl rfl (ov_move rfl) ?_
          first | refine LD.splitD (t := 80) rfl (fun h10 => ?_) (fun h10 => ?_) | refine LD.splitB (t := 80) rfl (fun h10 => ?_) (fun h10 => ?_)
          ·
            first | refine LD.rd rfl ⟨80, _, rfl, rfl, rfl⟩ (om_ld Tryd.isAgg56 rfl rfl) ?_
            first | refine LD.rd rfl ⟨80, _, rfl, rfl, rfl⟩ (om_ld Tryd.isAgg22 rfl rfl) ?_
            first | refine LD.rd rfl ⟨80, _, rfl, rfl, rfl⟩ (om_ld Tryd.isAgg3 rfl rfl) ?_
            first | refine LD.rd rfl ⟨80, _, rfl, rfl, rfl⟩ (om_ld Tryd.isAgg56 rfl rfl) ?_
            first | refine LD.rd rfl ⟨80, _, rfl, rfl, rfl⟩ (om_ld Tryd.isAgg22 rfl rfl) ?_
            first | refine LD.rd rfl ⟨80, _, rfl, rfl, rfl⟩ (om_ld Tryd.isAgg3 rfl rfl) ?_
            refine LD.callE rfl ⟨80, _, rfl, rfl, rfl⟩ (oc_callV rfl (enters_fn Tryd.func38 (by kernel_rfl) rfl) rfl) (fun w hm hc hg => at23_spec _ w hn (hl.ext hc)) ?_
            refine LD.callE rfl ⟨80, _, rfl, rfl, rfl⟩ (oc_callV rfl (enters_fn Tryd.func38 (by kernel_rfl) rfl) rfl) (fun w hm hc hg => at23_spec _ w hn2 (hl2.ext hc)) ?_
            refine LD.val rfl ⟨80, _, rfl, rfl, rfl⟩ (ov_eql rfl rfl) ?_
            refine LD.val rfl rfl (ov_pickT rfl rfl) ?_
            refine LD.nil ?_
            refine QM.sub (e' := [(3, _), (4, _), (6, _), (7, _), (8, _), (90, _)]) ⟨rfl, rfl, rfl, rfl, rfl, rfl, trivial⟩ ?_
            refine QM.then ?_
            first | refine wpM.condD rfl (fun h11 => ?_) (fun h11 => ?_) | refine wpM.condB rfl (fun h11 => ?_) (fun h11 => ?_)
            ·
              refine wpM.skip ?_
              refine QM.then ?_
              refine wpM.block ?_
              refine wpM.region ?_
              first | refine LM.rd (om_ld Tryd.isAgg3 rfl rfl) ?_
              refine LM.val (ov_add64 rfl rfl (by omega)) ?_
              refine LM.st Tryd.sizeOf3 rfl rfl rfl (by first | decide | exact Nat.le_of_ble_eq_true rfl | (simp; done) | (simp; omega)) rfl (fun hlt => absurd hlt (by omega)) ?_
              refine LM.nil ?_
              refine QM.sub (e' := [(3, _), (4, _), (6, _), (7, _), (8, _)]) ⟨rfl, rfl, rfl, rfl, rfl, trivial⟩ ?_
              refine QM.block_normal ?_
              -- again1: h1- h2- h3- h10+ h11+
              refine QM.againK (j + 1) ⟨rfl, rfl, rfl, rfl, rfl, trivial⟩ (by (repeat' (first | exact SubM.nil _ | refine SubM.cons rfl ?_ | refine SubM.app ?_))) (fun _ h => h) ?_ ?_
              · exact ⟨by omega, by rw [chN_no (fun h => h h11)]; exact hjk⟩
              · first | omega | (dsimp only; omega)
            ·
              exact absurd (ch_same (show j < max a.length b.length by omega) hjk) h11
          ·
            refine LD.drop rfl rfl ⟨80, _, rfl, rfl, rfl⟩ ?_
            refine LD.drop rfl rfl ⟨80, _, rfl, rfl, rfl⟩ ?_
            refine LD.drop rfl rfl ⟨80, _, rfl, rfl, rfl⟩ ?_
            refine LD.drop rfl rfl ⟨80, _, rfl, rfl, rfl⟩ ?_
            refine LD.drop rfl rfl ⟨80, _, rfl, rfl, rfl⟩ ?_
            refine LD.drop rfl rfl ⟨80, _, rfl, rfl, rfl⟩ ?_
            refine LD.drop rfl rfl ⟨80, _, rfl, rfl, rfl⟩ ?_
            refine LD.drop rfl rfl ⟨80, _, rfl, rfl, rfl⟩ ?_
            refine LD.drop rfl rfl ⟨80, _, rfl, rfl, rfl⟩ ?_
            refine LD.val rfl rfl (ov_pickF rfl rfl) ?_
            refine LD.nil ?_
            refine QM.sub (e' := [(3, _), (4, _), (6, _), (7, _), (8, _), (90, _)]) ⟨rfl, rfl, rfl, rfl, rfl, rfl, trivial⟩ ?_
            refine QM.then ?_
            refine wpM.condF rfl ?_
            refine wpM.exit ?_
            refine QM.then_exit ?_
            refine QM.then_exit ?_
            refine QM.block_hit ?_
            refine QM.then ?_
            refine wpM.seq ?_
            refine wpM.region ?_
            first | refine LM.rd (om_ld Tryd.isAgg3 rfl rfl) ?_
            first | refine LM.rd (om_ld Tryd.isAgg22 rfl rfl) ?_
            refine LM.val (ov_len Tryd.underlying22 rfl) ?_
            first | refine LM.rd (om_ld Tryd.isAgg22 rfl rfl) ?_
            refine LM.val (ov_len Tryd.underlying22 rfl) ?_
            refine LM.val (ov_max rfl rfl) ?_
            refine LM.val (ov_geq rfl rfl) ?_
            refine LM.st Tryd.sizeOf4 rfl rfl rfl (by first | decide | exact Nat.le_of_ble_eq_true rfl | (simp; done) | (simp; omega)) rfl (fun hlt => absurd hlt (by omega)) ?_
            refine LM.nil ?_
            refine QM.sub (e' := [(6, _)]) ⟨rfl, trivial⟩ ?_
            refine QM.then ?_
            refine wpM.ret ?_
            refine QM.leaveCDF (ds := [D0]) Tryd.results8 rfl (fun D h => by simp only [List.mem_cons, List.not_mem_nil, or_false] at h; omega) Tryd.isAgg4 rfl ?_
            intro w' hm' hc'
            -- leaf 4: h1- h2- h3- h10-
            first | exact ⟨rfl, hc'⟩ | (refine ⟨?_, hc'⟩; show Value.bool (decide ((if (n2 : Int) > n then (n2 : Int) else n) ≤ (j : Int))) = _; rw [decide_eq_true (by omega)])
        ·
          rintro ⟨⟩ D0 hD0 hx
          obtain ⟨-, hx⟩ := hx
          refine QM.block_ret ?_
          refine QM.then_ret ?_
          refine QM.leaveCDF (ds := [D0]) Tryd.results8 rfl (fun D h => by simp only [List.mem_cons, List.not_mem_nil, or_false] at h; omega) Tryd.isAgg4 rfl ?_
          intro w' hm' hc'
          -- leaf 5: h1- h2- h3- h10-
          first | exact ⟨rfl, hc'⟩ | (refine ⟨?_, hc'⟩; show Value.bool (decide ((if (n2 : Int) > n then (n2 : Int) else n) ≤ (j : Int))) = _; rw [decide_eq_true (by omega)])
        ·
          rintro id ⟨⟩ D0 hD0 hx
          first | exact hx.elim | cases hx.1 | cases hx

end Go.Eng

