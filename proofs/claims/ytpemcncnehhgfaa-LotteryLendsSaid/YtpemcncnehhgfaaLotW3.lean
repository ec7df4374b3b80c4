/- The walk of a lottery's third law. No condition. -/
import Derived.Test.YtpemcncnehhgfaaLotW
import Derived.Test.YtpemcncnehhgfaaLendLaw
set_option linter.unusedVariables false
set_option linter.unusedSimpArgs false
namespace Go.Eng
open Go Go.Proofs Go.RowKit

def fW (n : Int) : List Value := [.int .u16 n]
def tk (xs : List Int) : List Int := xs.map (· % 1001)
theorem tk_len (xs : List Int) : (tk xs).length = xs.length := by simp [tk]
theorem tk_rng {xs : List Int} (h : ∀ x ∈ xs, 0 ≤ x ∧ x ≤ 65535) : ∀ x ∈ tk xs, 0 ≤ x ∧ x ≤ 1000 := by
  intro x hx
  obtain ⟨a, ha, rfl⟩ := List.mem_map.1 hx
  have := h a ha; show 0 ≤ a % 1001 ∧ a % 1001 ≤ 1000; omega
theorem tk_take {xs : List Int} {i : Nat} (h : i < xs.length) : (tk xs).take i ++ [xs.getD i 0 % 1001] = (tk xs).take (i + 1) := by
  rw [take_succ_getD (by rw [tk_len]; exact h)]
  congr 2
  rw [List.getD_eq_getElem?_getD, List.getD_eq_getElem?_getD, tk, List.getElem?_map, List.getElem?_eq_getElem h]; rfl
set_option maxRecDepth 100000 in
theorem lotteryLends {xs : List Int} {ad : Option Addr} {cap : Nat} (n0 n1 : Int) (draw : BitVec 64) (w : World) (hl : Sr fW 1 xs (.slice ad xs.length cap) w) (hb : ∀ x ∈ xs, 0 ≤ x ∧ x ≤ 65535) (hn0 : 0 ≤ n0 ∧ n0 ≤ 65535) (hn1 : 0 ≤ n1 ∧ n1 ≤ 65535) : Ret Try.prog 8 #[.slice ad xs.length cap, .agg #[.int .u16 n0, .int .u16 n1], U draw] w (fun v w' => v = .bool true ∧ Ext w w') := by
  obtain ⟨-, hcl, hne⟩ := hl.open; have htl := tk_len xs
  refine Ret.enterM (l := [.slice ad xs.length cap, .agg #[.int .u16 n0, .int .u16 n1], U draw]) Try.func8 rfl Try.ntmps8 rfl ([]) (no) (Mem.nil w) ?_
  refine wpM.seq ?_
  refine wpM.region ?_
  refine LM.box rfl rfl (fun b4 hb4 => ?_)
  refine LM.val (ov_assign rfl) ?_
  refine LM.nil ?_
  refine QM.sub (e' := [(0, _), (2, _), (4, _)]) ⟨rfl, rfl, rfl, trivial⟩ ?_
  refine QM.then ?_
  refine wpM.seq ?_
  refine wpM.seq ?_
  refine wpM.region ?_
  refine LM.callE (oc_call (enters_fn Try.func28 (by kernel_rfl) rfl) rfl) (fun w hm hc hg => awake45 w) ?_
  first | refine LM.val (ov_notD rfl) ?_ | refine LM.val (ov_not rfl) ?_
  refine LM.nil ?_
  refine QM.sub (e' := [(0, _), (2, _), (4, _), (18, _)]) ⟨rfl, rfl, rfl, rfl, trivial⟩ ?_
  refine QM.then ?_
  first | refine wpM.condD rfl (fun h1 => ?_) (fun h1 => ?_) | refine wpM.condB rfl (fun h1 => ?_) (fun h1 => ?_)
  ·
    refine wpM.seq ?_
    refine wpM.region ?_
    refine LM.val (ov_assign rfl) ?_
    refine LM.nil ?_
    refine QM.sub (e' := [(6, _)]) ⟨rfl, trivial⟩ ?_
    refine QM.then ?_
    refine wpM.ret ?_
    refine QM.then_ret ?_
    refine QM.leave (.inl rfl) [.tmp 6] Try.results8 rfl ?_
    intro w' hm' hc' hg'
    -- leaf 1: h1+
    first | exact ⟨rfl, hc'⟩ | (refine ⟨?_, hc'⟩; simp only [resV]; rw [decide_eq_true (by omega)]; done) | (exfalso; first | omega | contradiction | (simp at *; done))
  ·
    refine wpM.skip ?_
    refine QM.then ?_
    refine wpM.seq ?_
    refine wpM.seq ?_
    refine wpM.region ?_
    refine LM.val (ov_move rfl) ?_
    refine LM.val (ov_len Try.underlying56 rfl) ?_
    refine LM.val (ov_gtr rfl rfl) ?_
    refine LM.val (ov_move rfl) ?_
    first | refine LM.splitD (t := 22) rfl (fun h2 => ?_) (fun h2 => ?_) | refine LM.splitB (t := 22) rfl (fun h2 => ?_) (fun h2 => ?_)
    ·
      refine LM.drop (t := 22) rfl rfl rfl ?_
      refine LM.drop (t := 22) rfl rfl rfl ?_
      refine LM.drop (t := 22) rfl rfl rfl ?_
      refine LM.val (ov_pickT rfl rfl) ?_
      refine LM.nil ?_
      refine QM.sub (e' := [(0, _), (2, _), (4, _), (26, _)]) ⟨rfl, rfl, rfl, rfl, trivial⟩ ?_
      refine QM.then ?_
      refine wpM.condT rfl ?_
      refine wpM.seq ?_
      refine wpM.region ?_
      refine LM.val (ov_assign rfl) ?_
      refine LM.nil ?_
      refine QM.sub (e' := [(6, _)]) ⟨rfl, trivial⟩ ?_
      refine QM.then ?_
      refine wpM.ret ?_
      refine QM.then_ret ?_
      refine QM.leave (.inl rfl) [.tmp 6] Try.results8 rfl ?_
      intro w' hm' hc' hg'
      -- leaf 2: h1- h2+
      first | exact ⟨rfl, hc'⟩ | (refine ⟨?_, hc'⟩; simp only [resV]; rw [decide_eq_true (by omega)]; done) | (exfalso; first | omega | contradiction | (simp at *; done))
    ·
      refine LM.strip (t := 22) rfl rfl rfl ?_
      refine LM.val (ov_move rfl) ?_
      refine LM.strip (t := 22) rfl rfl rfl ?_
      refine LM.val (ov_len Try.underlying56 rfl) ?_
      refine LM.strip (t := 22) rfl rfl rfl ?_
      refine LM.val (ov_lss rfl rfl) ?_
      refine LM.val (ov_pickF rfl rfl) ?_
      refine LM.nil ?_
      refine QM.sub (e' := [(0, _), (2, _), (4, _), (26, _)]) ⟨rfl, rfl, rfl, rfl, trivial⟩ ?_
      refine QM.then ?_
      first | refine wpM.condD rfl (fun h3 => ?_) (fun h3 => ?_) | refine wpM.condB rfl (fun h3 => ?_) (fun h3 => ?_)
      ·
        refine wpM.seq ?_
        refine wpM.region ?_
        refine LM.val (ov_assign rfl) ?_
        refine LM.nil ?_
        refine QM.sub (e' := [(6, _)]) ⟨rfl, trivial⟩ ?_
        refine QM.then ?_
        refine wpM.ret ?_
        refine QM.then_ret ?_
        refine QM.leave (.inl rfl) [.tmp 6] Try.results8 rfl ?_
        intro w' hm' hc' hg'
        -- leaf 3: h1- h2- h3+
        first | exact ⟨rfl, hc'⟩ | (refine ⟨?_, hc'⟩; simp only [resV]; rw [decide_eq_true (by omega)]; done) | (exfalso; first | omega | contradiction | (simp at *; done))
      ·
        refine wpM.skip ?_
        refine QM.then ?_
        refine wpM.seq ?_
        refine wpM.region ?_
        refine LM.val (ov_assign rfl) ?_
        refine LM.nil ?_
        refine QM.sub (e' := [(0, _), (2, _), (4, _), (7, _)]) ⟨rfl, rfl, rfl, rfl, trivial⟩ ?_
        refine QM.then ?_
        refine wpM.seq ?_
        refine wpM.seq ?_
        refine wpM.region ?_
        refine LM.val (ov_move rfl) ?_
        refine LM.val (ov_len Try.underlying56 rfl) ?_
        refine LM.val (ov_move rfl) ?_
        refine LM.nil ?_
        refine QM.sub (e' := [(2, _), (4, _), (7, _), (27, _), (28, _), (29, _)]) ⟨rfl, rfl, rfl, rfl, rfl, rfl, trivial⟩ ?_
        refine QM.then ?_
        refine wpM.block ?_
        refine wpM.loop (α := Nat × Value × Mem0) (fun ⟨i, v, m⟩ => [(2, U draw), (4, .pointer (some ⟨b4, 0, none⟩)), (7, v), (27, .slice ad xs.length cap), (28, .int .i64 (xs.length : Nat)), (29, .int .i64 i)]) (fun ⟨i, v, m⟩ => m ++ [(b4, .cells #[.int .u16 n0, .int .u16 n1] 57 (0, 0))]) (fun ⟨i, v, m⟩ => i ≤ xs.length ∧ Sl fI 3 1 w.heap.size ((tk xs).take i) v m) (fun ⟨i, v, m⟩ => xs.length - i) (0, .slice none 0 0, []) ⟨rfl, rfl, rfl, rfl, rfl, rfl, trivial⟩ (fun _ hm => hm) ⟨Nat.zero_le _, .nil _ _ _ _⟩ ?_
        rintro ⟨i, v, m⟩ ⟨hi, hsl⟩
        have hil : ((tk xs).take i).length = i := (by rw [List.length_take]; omega)
        refine wpM.seq ?_
        refine wpM.region ?_
        refine LM.val (ov_lss rfl rfl) ?_
        refine LM.nil ?_
        refine QM.sub (e' := [(2, _), (4, _), (7, _), (27, _), (28, _), (29, _), (30, _)]) ⟨rfl, rfl, rfl, rfl, rfl, rfl, rfl, trivial⟩ ?_
        refine QM.then ?_
        refine wpM.seq ?_
        first | refine wpM.condD rfl (fun h4 => ?_) (fun h4 => ?_) | refine wpM.condB rfl (fun h4 => ?_) (fun h4 => ?_)
        ·
          refine wpM.skip ?_
          refine QM.then ?_
          refine wpM.seq ?_
          refine wpM.block ?_
          refine wpM.seq ?_
          refine wpM.region ?_
          obtain ⟨b, off, cs, E, fz, had, hb1, hr⟩ := hne (by omega); have hxi : xs[i]? = some (xs.getD i 0) := (by rw [List.getD_eq_getElem?_getD, List.getElem?_eq_getElem (by omega)]; rfl); have hxb := hb _ (List.mem_of_getElem? hxi)
          refine LM.val (ov_idx1E had Try.underlying56 Try.sizeOf29 rfl rfl (by omega)) ?_
          refine LM.rdC (om_sr (f := fW) (s := 1) (i := i) (j := 0) Try.isAgg29 rfl hb1 hr hxi (by omega) (by rw [Int.toNat_natCast]; omega) rfl id) ?_
          refine LM.val (ov_assign rfl) ?_
          refine LM.nil ?_
          refine QM.sub (e' := [(2, _), (4, _), (7, _), (9, _), (27, _), (28, _), (29, _)]) ⟨rfl, rfl, rfl, rfl, rfl, rfl, rfl, trivial⟩ ?_
          refine QM.then ?_
          refine wpM.region ?_
          refine LM.val (ov_move rfl) ?_
          refine LM.val (ov_move rfl) ?_
          refine LM.val (ov_remK rfl rfl (by omega) (by omega)) ?_
          refine LM.val (ov_to64 Try.underlying29 Try.underlying3 rfl (by omega)) ?_
          refine LM.single Try.underlying26 Try.sizeOf3 Try.zeroValue3 rfl rfl rfl rfl rfl (fun b37 hb37 => ?_)
          refine LM.append (m := m) (M2 := [(b4, _)]) (f := fI) Try.underlying26 Try.typeInfo3 rfl rfl rfl rfl rfl rfl rfl hsl ⟨_, _, rfl⟩ fI_len fI_one (by unfold maxLen; omega) (by simp only [Try.t3]; omega) (fun v' m' hsl' => ?_)
          refine LM.val (ov_assign rfl) ?_
          refine LM.nil ?_
          refine QM.sub (e' := [(2, _), (4, _), (7, _), (27, _), (28, _), (29, _)]) ⟨rfl, rfl, rfl, rfl, rfl, rfl, trivial⟩ ?_
          refine QM.block_normal ?_
          refine QM.then ?_
          refine wpM.region ?_
          refine LM.val (ov_add64 rfl rfl (by omega)) ?_
          refine LM.val (ov_move rfl) ?_
          refine LM.nil ?_
          refine QM.sub (e' := [(2, _), (4, _), (7, _), (27, _), (28, _), (29, _)]) ⟨rfl, rfl, rfl, rfl, rfl, rfl, trivial⟩ ?_
          exact QM.again (i + 1, v', m') ⟨rfl, rfl, rfl, rfl, rfl, rfl, trivial⟩ (fun _ hm => hm) ⟨by omega, by rw [← tk_take (by omega)]; exact hsl'⟩ (by show xs.length - (i + 1) < xs.length - i; omega)
        ·
          refine wpM.exit ?_
          refine QM.then_exit ?_
          refine QM.then_exit ?_
          refine QM.block_hit ?_
          refine QM.then ?_
          refine wpM.seq ?_
          refine wpM.region ?_
          have hix : i = xs.length := (by omega); subst hix; rw [← htl, List.take_length] at hsl; obtain ⟨ad2, cap2, rfl⟩ := hsl.form; have hbid := bringL_id (l := tk xs) (fun x hx => by have := tk_rng hb x hx; omega) (by omega); refine LM.mem (M' := (b4, _) :: m) (fun w hm => hm.perm (List.perm_append_singleton _ _)) ?_; obtain ⟨q, hq⟩ : ∃ q : Nat, n0 % (((tk xs).length : Int) - 1) = q := ⟨(n0 % (((tk xs).length : Int) - 1)).toNat, by have := Int.emod_nonneg n0 (show ((tk xs).length : Int) - 1 ≠ 0 by omega); omega⟩; have hql : (q : Int) < ((tk xs).length : Int) - 1 := (by rw [← hq]; exact Int.emod_lt_of_pos _ (by omega))
          first | refine LM.val (ov_idxA10 Try.underlying57 Try.sizeOf29 rfl rfl (by omega)) ?_ | refine LM.val (ov_idxA1 Try.underlying57 Try.sizeOf29 rfl rfl (by omega)) ?_
          first | refine LM.rd (om_load 0 Try.isAgg29 rfl rfl rfl) ?_ | refine LM.rd (om_load 1 Try.isAgg29 rfl rfl rfl) ?_ | refine LM.rd (om_load 2 Try.isAgg29 rfl rfl rfl) ?_ | refine LM.rd (om_load 3 Try.isAgg29 rfl rfl rfl) ?_ | refine LM.rd (om_load 4 Try.isAgg29 rfl rfl rfl) ?_ | refine LM.rd (om_load 5 Try.isAgg29 rfl rfl rfl) ?_ | refine LM.rd (om_load 6 Try.isAgg29 rfl rfl rfl) ?_ | refine LM.rd (om_load 7 Try.isAgg29 rfl rfl rfl) ?_ | refine LM.rd (om_load 8 Try.isAgg29 rfl rfl rfl) ?_
          refine LM.val (ov_to64 Try.underlying29 Try.underlying3 rfl (by omega)) ?_
          refine LM.val (ov_move rfl) ?_
          refine LM.val (ov_len Try.underlying26 rfl) ?_
          refine LM.val (ov_sub64 rfl rfl (by omega)) ?_
          refine LM.val (ov_rem64 rfl rfl (by omega) (by omega)) ?_
          refine LM.val (ov_assign rfl) ?_
          refine LM.nil ?_
          refine QM.sub (e' := [(2, _), (4, _), (7, _), (10, _)]) ⟨rfl, rfl, rfl, rfl, trivial⟩ ?_
          refine QM.then ?_
          refine wpM.seq ?_
          refine wpM.region ?_
          rw [hq]
          refine LM.val (ov_move rfl) ?_
          refine LM.val (ov_move rfl) ?_
          refine LM.val (ov_move rfl) ?_
          refine LM.val (ov_add64 rfl rfl (by omega)) ?_
          first | refine LM.val (ov_idxA10 Try.underlying57 Try.sizeOf29 rfl rfl (by omega)) ?_ | refine LM.val (ov_idxA1 Try.underlying57 Try.sizeOf29 rfl rfl (by omega)) ?_
          first | refine LM.rd (om_load 0 Try.isAgg29 rfl rfl rfl) ?_ | refine LM.rd (om_load 1 Try.isAgg29 rfl rfl rfl) ?_ | refine LM.rd (om_load 2 Try.isAgg29 rfl rfl rfl) ?_ | refine LM.rd (om_load 3 Try.isAgg29 rfl rfl rfl) ?_ | refine LM.rd (om_load 4 Try.isAgg29 rfl rfl rfl) ?_ | refine LM.rd (om_load 5 Try.isAgg29 rfl rfl rfl) ?_ | refine LM.rd (om_load 6 Try.isAgg29 rfl rfl rfl) ?_ | refine LM.rd (om_load 7 Try.isAgg29 rfl rfl rfl) ?_ | refine LM.rd (om_load 8 Try.isAgg29 rfl rfl rfl) ?_
          refine LM.val (ov_to64 Try.underlying29 Try.underlying3 rfl (by omega)) ?_
          refine LM.callT (oc_call (enters_fn Try.func31 (by kernel_rfl) rfl) rfl) LendT.mono (fun w hm hc hg => lend_spec (xs := tk xs) _ _ _ w (hsl.sr fI_len (fun p hp => hm.2 p (by simp [hp]))) (by omega) (by omega)) ?_
          rintro u55 m55 ⟨v55, rfl, hs55⟩ -; rw [hbid] at *; obtain ⟨ad55, cap55, rfl⟩ := hs55.form; refine LM.mem (M' := (b4, _) :: (m55 ++ m)) (fun w hm => hm.perm List.perm_middle) ?_
          refine LM.val (ov_move rfl) ?_
          refine LM.val (ov_extract rfl rfl) ?_
          refine LM.val (ov_extract rfl rfl) ?_
          refine LM.val (ov_assign rfl) ?_
          refine LM.val (ov_assign rfl) ?_
          refine LM.nil ?_
          refine QM.sub (e' := [(2, _), (4, _), (7, _), (10, _), (11, _), (12, _)]) ⟨rfl, rfl, rfl, rfl, rfl, rfl, trivial⟩ ?_
          refine QM.then ?_
          refine wpM.seq ?_
          refine wpM.seq ?_
          refine wpM.region ?_
          refine LM.val (ov_move rfl) ?_
          refine LM.val (ov_neq rfl rfl) ?_
          refine LM.nil ?_
          refine QM.sub (e' := [(2, _), (4, _), (7, _), (10, _), (11, _), (59, _)]) ⟨rfl, rfl, rfl, rfl, rfl, rfl, trivial⟩ ?_
          refine QM.then ?_
          first | refine wpM.condD rfl (fun h5 => ?_) (fun h5 => ?_) | refine wpM.condB rfl (fun h5 => ?_) (fun h5 => ?_)
          ·
            have hgt : (tk xs).getD q 0 < n1 := (by apply Classical.byContradiction; intro h; exact h5 (lends_law (l := tk xs) (i := q) (n := n1) (d := draw) (tk_rng hb) (by omega) (by omega) (by omega) (by omega)).2.2.1); have hqn : (tk xs).getD (q : Int).toNat 0 = (tk xs).getD q 0 := (by rw [Int.toNat_natCast])
            refine wpM.seq ?_
            refine wpM.draw [(0, 0), (1, 1), (2, 0), (3, 0), (4, 0), (5, 0), (6, 1), (7, 0), (8, 0)] (by kernel_rfl) (by kernel_rfl) ?_
            first | refine LD.val rfl rfl (ov_idxA10 Try.underlying57 Try.sizeOf29 rfl rfl (by omega)) ?_ | refine LD.val rfl rfl (ov_idxA1 Try.underlying57 Try.sizeOf29 rfl rfl (by omega)) ?_
            first | refine LD.rd rfl rfl (om_load 0 Try.isAgg29 rfl rfl rfl) ?_ | refine LD.rd rfl rfl (om_load 1 Try.isAgg29 rfl rfl rfl) ?_ | refine LD.rd rfl rfl (om_load 2 Try.isAgg29 rfl rfl rfl) ?_ | refine LD.rd rfl rfl (om_load 3 Try.isAgg29 rfl rfl rfl) ?_ | refine LD.rd rfl rfl (om_load 4 Try.isAgg29 rfl rfl rfl) ?_ | refine LD.rd rfl rfl (om_load 5 Try.isAgg29 rfl rfl rfl) ?_ | refine LD.rd rfl rfl (om_load 6 Try.isAgg29 rfl rfl rfl) ?_ | refine LD.rd rfl rfl (om_load 7 Try.isAgg29 rfl rfl rfl) ?_ | refine LD.rd rfl rfl (om_load 8 Try.isAgg29 rfl rfl rfl) ?_
            refine LD.val rfl rfl (ov_to64 Try.underlying29 Try.underlying3 rfl (by omega)) ?_
            refine LD.val rfl rfl (ov_move rfl) ?_
            refine LD.val rfl rfl (ov_move rfl) ?_
            obtain ⟨bb, capb, junkb, hbb, he, rfl, hcapb, hmxb, hszb⟩ := hsl.ne (by omega); simp only [Value.slice.injEq] at he; obtain ⟨rfl, -, rfl⟩ := he
            first | refine LD.val rfl rfl (ov_idx10 Try.underlying26 Try.sizeOf3 rfl rfl (by omega)) ?_ | refine LD.val rfl rfl (ov_idx1 Try.underlying26 Try.sizeOf3 rfl rfl (by omega)) ?_
            refine LD.rdC rfl rfl (fun w hm _ _ => om_load (M := [(bb, .cells (arr fI (tk xs) junkb) 3 (0, 0))]) 0 Try.isAgg3 rfl rfl (arr_getI (by omega)) w (hm.sub (.cons _ (List.sublist_append_right _ _)))) ?_
            refine LD.val rfl rfl (ov_gtr rfl rfl) ?_
            refine LD.val rfl rfl (ov_assign rfl) ?_
            refine LD.nil ?_
            refine QM.sub (e' := [(6, _)]) ⟨rfl, trivial⟩ ?_
            refine QM.then ?_
            refine wpM.ret ?_
            refine QM.then_ret ?_
            refine QM.leave (.inl rfl) [.tmp 6] Try.results8 rfl ?_
            intro w' hm' hc' hg'
            -- leaf 4: h1- h2- h3- h4- h5+
            first | exact ⟨rfl, hc'⟩ | (refine ⟨?_, hc'⟩; simp only [resV]; rw [decide_eq_true (by omega)]; done) | (exfalso; first | omega | contradiction | (simp at *; done))
          ·
            have hle : n1 ≤ (tk xs).getD q 0 := (by apply Classical.byContradiction; intro h; have := lendErr4 (l := tk xs) (i := q) (j := (q : Int) + 1) (n := n1) (by omega) (by rw [Int.toNat_natCast]; omega); omega); obtain ⟨-, -, -, hwin, hiff⟩ := lends_law (l := tk xs) (i := q) (n := n1) (d := draw) (tk_rng hb) (by omega) (by omega) (by omega) hle
            refine wpM.skip ?_
            refine QM.then ?_
            refine wpM.seq ?_
            refine wpM.region ?_
            refine LM.val (ov_move rfl) ?_
            refine LM.val (ov_move rfl) ?_
            refine LM.callE (oc_call (enters_fn Try.func29 (by kernel_rfl) rfl) rfl) (fun w hm hc hg => winner_spec (xs := tk xs) draw w (hsl.sr fI_len (fun p hp => hm.2 p (by simp [hp])))) ?_
            refine LM.val (ov_move rfl) ?_
            refine LM.val (ov_extract rfl rfl) ?_
            refine LM.val (ov_extract rfl rfl) ?_
            refine LM.val (ov_assign rfl) ?_
            refine LM.val (ov_assign rfl) ?_
            refine LM.nil ?_
            refine QM.sub (e' := [(2, _), (10, _), (11, _), (13, _), (14, _)]) ⟨rfl, rfl, rfl, rfl, rfl, trivial⟩ ?_
            refine QM.then ?_
            refine wpM.seq ?_
            refine wpM.region ?_
            refine LM.val (ov_move rfl) ?_
            refine LM.val (ov_move rfl) ?_
            refine LM.callE (oc_call (enters_fn Try.func29 (by kernel_rfl) rfl) rfl) (fun w hm hc hg => winner_spec (xs := lendL (tk xs) q ((q : Int) + 1) n1) draw w (hs55.sr fI_len (fun p hp => hm.2 p (by simp [hp])))) ?_
            refine LM.val (ov_move rfl) ?_
            refine LM.val (ov_extract rfl rfl) ?_
            refine LM.val (ov_extract rfl rfl) ?_
            refine LM.val (ov_assign rfl) ?_
            refine LM.val (ov_assign rfl) ?_
            refine LM.nil ?_
            refine QM.sub (e' := [(10, _), (13, _), (14, _), (15, _), (16, _)]) ⟨rfl, rfl, rfl, rfl, rfl, trivial⟩ ?_
            refine QM.then ?_
            refine wpM.seq ?_
            refine wpM.seq ?_
            refine wpM.region ?_
            refine LM.val (ov_move rfl) ?_
            refine LM.val (ov_move rfl) ?_
            refine LM.val (ov_bneq Try.underlying4 rfl rfl) ?_
            refine LM.nil ?_
            refine QM.sub (e' := [(10, _), (13, _), (15, _), (82, _)]) ⟨rfl, rfl, rfl, rfl, trivial⟩ ?_
            refine QM.then ?_
            first | refine wpM.condD rfl (fun h6 => ?_) (fun h6 => ?_) | refine wpM.condB rfl (fun h6 => ?_) (fun h6 => ?_)
            ·
              rw [show decide (0 ≤ winI (tk xs) draw) = decide (0 ≤ winI (lendL (tk xs) q ((q : Int) + 1) n1) draw) from decide_eq_decide.2 hiff.symm] at h6; simp at h6
            ·
              refine wpM.skip ?_
              refine QM.then ?_
              refine wpM.seq ?_
              refine wpM.region ?_
              refine LM.val (ov_move rfl) ?_
              refine LM.val (ov_move rfl) ?_
              refine LM.val (ov_eql rfl rfl) ?_
              refine LM.val (ov_move rfl) ?_
              first | refine LM.splitD (t := 86) rfl (fun h7 => ?_) (fun h7 => ?_) | refine LM.splitB (t := 86) rfl (fun h7 => ?_) (fun h7 => ?_)
              ·
                refine LM.drop (t := 86) rfl rfl rfl ?_
                refine LM.drop (t := 86) rfl rfl rfl ?_
                refine LM.drop (t := 86) rfl rfl rfl ?_
                refine LM.dropU (t := 86) rfl rfl rfl ?_
                refine LM.dropX (t := 90) rfl rfl ?_
                refine LM.dropX (t := 90) rfl rfl ?_
                refine LM.dropX (t := 90) rfl rfl ?_
                refine LM.dropX (t := 90) rfl rfl ?_
                refine LM.drop (t := 86) rfl rfl rfl ?_
                refine LM.val (ov_pickT rfl rfl) ?_
                refine LM.val (ov_assign rfl) ?_
                refine LM.nil ?_
                refine QM.sub (e' := [(6, _)]) ⟨rfl, trivial⟩ ?_
                refine QM.then ?_
                refine wpM.ret ?_
                refine QM.leave (.inl rfl) [.tmp 6] Try.results8 rfl ?_
                intro w' hm' hc' hg'
                -- leaf 5: h1- h2- h3- h4- h5- h6- h7+
                first | exact ⟨rfl, hc'⟩ | (refine ⟨?_, hc'⟩; simp only [resV]; rw [decide_eq_true (by omega)]; done) | (exfalso; first | omega | contradiction | (simp at *; done))
              ·
                refine LM.strip (t := 86) rfl rfl rfl ?_
                refine LM.val (ov_move rfl) ?_
                refine LM.strip (t := 86) rfl rfl rfl ?_
                refine LM.val (ov_move rfl) ?_
                refine LM.strip (t := 86) rfl rfl rfl ?_
                refine LM.val (ov_eql rfl rfl) ?_
                refine LM.strip (t := 86) rfl rfl rfl ?_
                refine LM.val (ov_move rfl) ?_
                first | refine LM.splitD (t := 90) rfl (fun h8 => ?_) (fun h8 => ?_) | refine LM.splitB (t := 90) rfl (fun h8 => ?_) (fun h8 => ?_)
                ·
                  refine LM.strip (t := 90) rfl rfl rfl ?_
                  refine LM.val (ov_move rfl) ?_
                  refine LM.strip (t := 90) rfl rfl rfl ?_
                  refine LM.val (ov_move rfl) ?_
                  refine LM.strip (t := 90) rfl rfl rfl ?_
                  refine LM.val (ov_add64 rfl rfl (by omega)) ?_
                  refine LM.strip (t := 90) rfl rfl rfl ?_
                  refine LM.val (ov_eql rfl rfl) ?_
                  refine LM.strip (t := 86) rfl rfl rfl ?_
                  refine LM.val (ov_pickT rfl rfl) ?_
                  refine LM.val (ov_pickF rfl rfl) ?_
                  refine LM.val (ov_assign rfl) ?_
                  refine LM.nil ?_
                  refine QM.sub (e' := [(6, _)]) ⟨rfl, trivial⟩ ?_
                  refine QM.then ?_
                  refine wpM.ret ?_
                  refine QM.leave (.inl rfl) [.tmp 6] Try.results8 rfl ?_
                  intro w' hm' hc' hg'
                  -- leaf 6: h1- h2- h3- h4- h5- h6- h7- h8+
                  first | exact ⟨rfl, hc'⟩ | (refine ⟨?_, hc'⟩; simp only [resV]; rw [decide_eq_true (by omega)]; done) | (exfalso; first | omega | contradiction | (simp at *; done))
                ·
                  refine LM.drop (t := 90) rfl rfl rfl ?_
                  refine LM.drop (t := 90) rfl rfl rfl ?_
                  refine LM.drop (t := 90) rfl rfl rfl ?_
                  refine LM.drop (t := 90) rfl rfl rfl ?_
                  refine LM.strip (t := 86) rfl rfl rfl ?_
                  refine LM.val (ov_pickF rfl rfl) ?_
                  refine LM.val (ov_pickF rfl rfl) ?_
                  refine LM.val (ov_assign rfl) ?_
                  refine LM.nil ?_
                  refine QM.sub (e' := [(6, _)]) ⟨rfl, trivial⟩ ?_
                  refine QM.then ?_
                  refine wpM.ret ?_
                  refine QM.leave (.inl rfl) [.tmp 6] Try.results8 rfl ?_
                  intro w' hm' hc' hg'
                  -- leaf 7: h1- h2- h3- h4- h5- h6- h7- h8-
                  first | exact ⟨rfl, hc'⟩ | (refine ⟨?_, hc'⟩; simp only [resV]; rw [decide_eq_true (by omega)]; done) | (exfalso; first | omega | contradiction | (simp at *; done))

end Go.Eng

