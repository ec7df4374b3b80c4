/- The walks of a ring's law. No condition. -/
import Derived.Test.YtpemcncnehhgfaaRingIt
set_option linter.unusedVariables false
set_option linter.unusedSimpArgs false
namespace Go.Eng
open Go Go.Proofs Go.RowKit

abbrev iR (n0 most : Nat) (xs : List Int) (v : Value) (m : Mem0) : Prop := RingM fI 86 3 n0 most xs v m
theorem iput_call {n0 most : Nat} {xs : List Int} {v : Value} {m : Mem0} {w : World} (a : Int) (hR : iR n0 most xs v m) (hm : Mem w m) (hx : xs.length ≤ 1000) (hmo : 0 < most ∧ most ≤ 4096) (hn0 : n0 ≤ w.heap.size) :
    Ret Try.prog 21 #[v, .int .i64 a] w (Upd m (fun u m' => u = .int .i64 (xs.length : Int) ∧ iR n0 most (xs ++ [a]) v m') w) := by
  obtain ⟨br, sv, ms, ss, hbr, rfl, rfl, hsl, hri⟩ := hR
  exact iput_spec a hm hsl hri hx hmo hbr hn0
theorem ifirst_call {n0 most : Nat} {xs : List Int} {v : Value} {m : Mem0} {w : World} (hR : iR n0 most xs v m) (hm : Mem w m) (hx : xs.length ≤ 1000) :
    Ret Try.prog 23 #[v] w (fun u w' => u = .int .i64 ((xs.length - min xs.length most : Nat) : Int) ∧ Ext w w') := by
  obtain ⟨br, sv, ms, ss, hbr, rfl, rfl, hsl, hri⟩ := hR
  exact ifirst_spec hm hsl hri hx
theorem inext_call {n0 most : Nat} {xs : List Int} {v : Value} {m : Mem0} {w : World} (hR : iR n0 most xs v m) (hm : Mem w m) :
    Ret Try.prog 20 #[v] w (fun u w' => u = .int .i64 (xs.length : Int) ∧ Ext w w') := by
  obtain ⟨br, sv, ms, ss, hbr, rfl, rfl, hsl, hri⟩ := hR
  exact inext_spec hm
theorem iget_call {n0 most : Nat} {xs : List Int} {v : Value} {m : Mem0} {w : World} (n : Int) (hR : iR n0 most xs v m) (hm : Mem w m) (hx : xs.length ≤ 1000) (hmo : 0 < most) :
    Ret Try.prog 25 #[v, .int .i64 n] w (fun u w' => u = .tuple #[.int .i64 (if ((xs.length - min xs.length most : Nat) : Int) ≤ n ∧ n < xs.length then xs.getD n.toNat 0 else 0), .bool (decide (((xs.length - min xs.length most : Nat) : Int) ≤ n ∧ n < xs.length))] ∧ Ext w w') := by
  obtain ⟨br, sv, ms, ss, hbr, rfl, rfl, hsl, hri⟩ := hR
  exact iget_spec n hm hsl hri hx hmo
theorem ilost_call {n0 most : Nat} {xs : List Int} {v : Value} {m : Mem0} {w : World} (n : Int) (hn : -9223372036854775808 ≤ n ∧ n ≤ 9223372036854775807) (hR : iR n0 most xs v m) (hm : Mem w m) (hx : xs.length ≤ 1000) :
    Ret Try.prog 26 #[v, .int .i64 n] w (fun u w' => u = .int .i64 (max (((xs.length - min xs.length most : Nat) : Int) - max n 0) 0) ∧ Ext w w') := by
  obtain ⟨br, sv, ms, ss, hbr, rfl, rfl, hsl, hri⟩ := hR
  exact ilost_spec n hn hm hsl hri hx
abbrev sR (n0 most : Nat) (xs : List ByteArray) (v : Value) (m : Mem0) : Prop := RingM fS 105 9 n0 most xs v m
theorem sput_call {n0 most : Nat} {xs : List ByteArray} {v : Value} {m : Mem0} {w : World} (a : ByteArray) (hR : sR n0 most xs v m) (hm : Mem w m) (hx : xs.length ≤ 1000) (hmo : 0 < most ∧ most ≤ 4096) (hn0 : n0 ≤ w.heap.size) :
    Ret Try.prog 50 #[v, .string a] w (Upd m (fun u m' => u = .int .i64 (xs.length : Int) ∧ sR n0 most (xs ++ [a]) v m') w) := by
  obtain ⟨br, sv, ms, ss, hbr, rfl, rfl, hsl, hri⟩ := hR
  exact sput_spec a hm hsl hri hx hmo hbr hn0
theorem sfirst_call {n0 most : Nat} {xs : List ByteArray} {v : Value} {m : Mem0} {w : World} (hR : sR n0 most xs v m) (hm : Mem w m) (hx : xs.length ≤ 1000) :
    Ret Try.prog 52 #[v] w (fun u w' => u = .int .i64 ((xs.length - min xs.length most : Nat) : Int) ∧ Ext w w') := by
  obtain ⟨br, sv, ms, ss, hbr, rfl, rfl, hsl, hri⟩ := hR
  exact sfirst_spec hm hsl hri hx
theorem snext_call {n0 most : Nat} {xs : List ByteArray} {v : Value} {m : Mem0} {w : World} (hR : sR n0 most xs v m) (hm : Mem w m) :
    Ret Try.prog 53 #[v] w (fun u w' => u = .int .i64 (xs.length : Int) ∧ Ext w w') := by
  obtain ⟨br, sv, ms, ss, hbr, rfl, rfl, hsl, hri⟩ := hR
  exact snext_spec hm
theorem sget_call {n0 most : Nat} {xs : List ByteArray} {v : Value} {m : Mem0} {w : World} (n : Int) (hR : sR n0 most xs v m) (hm : Mem w m) (hx : xs.length ≤ 1000) (hmo : 0 < most) :
    Ret Try.prog 51 #[v, .int .i64 n] w (fun u w' => u = .tuple #[.string (if ((xs.length - min xs.length most : Nat) : Int) ≤ n ∧ n < xs.length then xs.getD n.toNat ⟨#[]⟩ else ⟨#[]⟩), .bool (decide (((xs.length - min xs.length most : Nat) : Int) ≤ n ∧ n < xs.length))] ∧ Ext w w') := by
  obtain ⟨br, sv, ms, ss, hbr, rfl, rfl, hsl, hri⟩ := hR
  exact sget_spec n hm hsl hri hx hmo
theorem slost_call {n0 most : Nat} {xs : List ByteArray} {v : Value} {m : Mem0} {w : World} (n : Int) (hn : -9223372036854775808 ≤ n ∧ n ≤ 9223372036854775807) (hR : sR n0 most xs v m) (hm : Mem w m) (hx : xs.length ≤ 1000) :
    Ret Try.prog 54 #[v, .int .i64 n] w (fun u w' => u = .int .i64 (max (((xs.length - min xs.length most : Nat) : Int) - max n 0) 0) ∧ Ext w w') := by
  obtain ⟨br, sv, ms, ss, hbr, rfl, rfl, hsl, hri⟩ := hR
  exact slost_spec n hn hm hsl hri hx
theorem kept_call {n0 most : Nat} {xs : List Int} {v : Value} {m : Mem0} {w : World} {ad : Option Addr} {cap : Nat} (s n : Int) (hR : iR n0 most xs v m) (hm : Mem w m) (hx : xs.length ≤ 1000) (hmo : 0 < most) (hl : Sr fI 1 xs (.slice ad xs.length cap) w) (hs : ((xs.length - min xs.length most : Nat) : Int) ≤ s ∧ s ≤ xs.length) (hn : -9223372036854775808 ≤ n ∧ n ≤ 9223372036854775807) :
    Ret Try.prog 24 #[v, .slice ad xs.length cap, .int .i64 s, .int .i64 n] w (fun u w' => u = .bool true ∧ Ext w w') := by
  obtain ⟨br, sv, ms, ss, hbr, rfl, rfl, hsl, hri⟩ := hR
  exact kept_spec s n hm hsl hri hx hmo hl hs hn
theorem back_call {n0 most : Nat} {xs : List Int} {v : Value} {m : Mem0} {w : World} {ad : Option Addr} {cap : Nat} (hR : iR n0 most xs v m) (hm : Mem w m) (hx : xs.length ≤ 1000) (hmo : 0 < most) (hl : Sr fI 1 xs (.slice ad xs.length cap) w) :
    Ret Try.prog 27 #[v, .slice ad xs.length cap, .int .i64 ((xs.length - min xs.length most : Nat) : Int)] w (fun u w' => u = .bool true ∧ Ext w w') := by
  obtain ⟨br, sv, ms, ss, hbr, rfl, rfl, hsl, hri⟩ := hR
  exact back_spec hm hsl hri hx hmo hl

set_option maxRecDepth 100000 in
theorem awake40 (w : World) : Ret Try.prog 18 #[] w (fun v w' => v = .bool true ∧ Ext w w') := by
  refine Ret.enterM (l := []) Try.func18 rfl Try.ntmps18 rfl ([]) (no) (Mem.nil w) ?_
  refine wpM.seq ?_
  refine wpM.region ?_
  refine LM.val (ov_assign rfl) ?_
  refine LM.nil ?_
  refine QM.sub (e' := []) trivial ?_
  refine QM.then ?_
  refine wpM.seq ?_
  refine wpM.region ?_
  refine LM.callT (oc_call (enters_fn Try.func49 (by kernel_rfl) rfl) rfl) (T := fun n u m => sR n (bringN 2) [] u m) (fun _ _ _ _ h k => RingM.mono k h) (fun w hm hc hg => snew_spec 2 w) ?_
  rintro u9 m9 hR -
  refine LM.val (ov_assign rfl) ?_
  refine LM.nil ?_
  refine QM.sub (e' := [(1, _)]) ⟨rfl, trivial⟩ ?_
  refine QM.then ?_
  refine wpM.seq ?_
  refine wpM.region ?_
  refine LM.val (ov_move rfl) ?_
  refine LM.callU (m := m9) (M2 := []) (fun w hm => hm) hR.wlk (fun p hp h => absurd h (Nat.not_lt_of_le (hR.ge p hp))) (oc_call (enters_fn Try.func50 (by kernel_rfl) rfl) rfl) (fun w hm hc hg => sput_call _ hR (hm.sub (List.sublist_append_left _ _)) (by decide) (by decide) hc.size) ?_; clear hR; rintro u m ⟨rfl, hR⟩ -
  refine LM.val (ov_move rfl) ?_
  refine LM.callU (m := m) (M2 := []) (fun w hm => hm) hR.wlk (fun p hp h => absurd h (Nat.not_lt_of_le (hR.ge p hp))) (oc_call (enters_fn Try.func50 (by kernel_rfl) rfl) rfl) (fun w hm hc hg => sput_call _ hR (hm.sub (List.sublist_append_left _ _)) (by decide) (by decide) hc.size) ?_; clear hR; rintro u m ⟨rfl, hR⟩ -
  refine LM.val (ov_move rfl) ?_
  refine LM.callU (m := m) (M2 := []) (fun w hm => hm) hR.wlk (fun p hp h => absurd h (Nat.not_lt_of_le (hR.ge p hp))) (oc_call (enters_fn Try.func50 (by kernel_rfl) rfl) rfl) (fun w hm hc hg => sput_call _ hR (hm.sub (List.sublist_append_left _ _)) (by decide) (by decide) hc.size) ?_; clear hR; rintro u m ⟨rfl, hR⟩ -
  refine LM.val (ov_assign rfl) ?_
  refine LM.val (ov_assign rfl) ?_
  refine LM.val (ov_assign rfl) ?_
  refine LM.nil ?_
  refine QM.sub (e' := [(1, _), (2, _), (3, _), (4, _)]) ⟨rfl, rfl, rfl, rfl, trivial⟩ ?_
  refine QM.then ?_
  refine wpM.seq ?_
  refine wpM.region ?_
  refine LM.val (ov_move rfl) ?_
  refine LM.callE (oc_call (enters_fn Try.func51 (by kernel_rfl) rfl) rfl) (fun w hm hc hg => sget_call _ hR (hm.sub (List.sublist_append_left _ _)) (by decide) (by decide)) ?_
  refine LM.val (ov_move rfl) ?_
  refine LM.val (ov_extract rfl rfl) ?_
  refine LM.val (ov_extract rfl rfl) ?_
  refine LM.val (ov_assign rfl) ?_
  refine LM.val (ov_assign rfl) ?_
  refine LM.nil ?_
  refine QM.sub (e' := [(1, _), (2, _), (3, _), (4, _), (5, _), (6, _)]) ⟨rfl, rfl, rfl, rfl, rfl, rfl, trivial⟩ ?_
  refine QM.then ?_
  refine wpM.seq ?_
  refine wpM.region ?_
  refine LM.val (ov_move rfl) ?_
  refine LM.callE (oc_call (enters_fn Try.func51 (by kernel_rfl) rfl) rfl) (fun w hm hc hg => sget_call _ hR (hm.sub (List.sublist_append_left _ _)) (by decide) (by decide)) ?_
  refine LM.val (ov_move rfl) ?_
  refine LM.val (ov_extract rfl rfl) ?_
  refine LM.val (ov_extract rfl rfl) ?_
  refine LM.val (ov_assign rfl) ?_
  refine LM.val (ov_assign rfl) ?_
  refine LM.nil ?_
  refine QM.sub (e' := [(1, _), (2, _), (3, _), (4, _), (5, _), (6, _), (8, _)]) ⟨rfl, rfl, rfl, rfl, rfl, rfl, rfl, trivial⟩ ?_
  refine QM.then ?_
  refine wpM.seq ?_
  refine wpM.region ?_
  refine LM.val (ov_move rfl) ?_
  refine LM.val (ov_eql rfl rfl) ?_
  refine LM.val (ov_move rfl) ?_
  first | refine LM.splitD (t := 28) rfl (fun h1 => ?_) (fun h1 => ?_) | refine LM.splitB (t := 28) rfl (fun h1 => ?_) (fun h1 => ?_)
  ·
    refine LM.strip (t := 28) rfl rfl rfl ?_
    refine LM.val (ov_move rfl) ?_
    refine LM.strip (t := 28) rfl rfl rfl ?_
    refine LM.val (ov_eql rfl rfl) ?_
    refine LM.val (ov_pickT rfl rfl) ?_
    refine LM.val (ov_move rfl) ?_
    first | refine LM.splitD (t := 32) rfl (fun h2 => ?_) (fun h2 => ?_) | refine LM.splitB (t := 32) rfl (fun h2 => ?_) (fun h2 => ?_)
    ·
      refine LM.strip (t := 32) rfl rfl rfl ?_
      refine LM.val (ov_move rfl) ?_
      refine LM.strip (t := 32) rfl rfl rfl ?_
      refine LM.val (ov_eql rfl rfl) ?_
      refine LM.val (ov_pickT rfl rfl) ?_
      refine LM.val (ov_move rfl) ?_
      first | refine LM.splitD (t := 36) rfl (fun h3 => ?_) (fun h3 => ?_) | refine LM.splitB (t := 36) rfl (fun h3 => ?_) (fun h3 => ?_)
      ·
        refine LM.strip (t := 36) rfl rfl rfl ?_
        refine LM.val (ov_move rfl) ?_
        refine LM.strip (t := 36) rfl rfl rfl ?_
        refine LM.val (ov_seql rfl rfl) ?_
        refine LM.val (ov_pickT rfl rfl) ?_
        refine LM.val (ov_move rfl) ?_
        first | refine LM.splitD (t := 40) rfl (fun h4 => ?_) (fun h4 => ?_) | refine LM.splitB (t := 40) rfl (fun h4 => ?_) (fun h4 => ?_)
        ·
          refine LM.strip (t := 40) rfl rfl rfl ?_
          refine LM.val (ov_move rfl) ?_
          refine LM.val (ov_pickT rfl rfl) ?_
          refine LM.val (ov_move rfl) ?_
          first | refine LM.splitD (t := 43) rfl (fun h5 => ?_) (fun h5 => ?_) | refine LM.splitB (t := 43) rfl (fun h5 => ?_) (fun h5 => ?_)
          ·
            refine LM.strip (t := 43) rfl rfl rfl ?_
            refine LM.val (ov_move rfl) ?_
            refine LM.strip (t := 43) rfl rfl rfl ?_
            first | refine LM.val (ov_notD rfl) ?_ | refine LM.val (ov_not rfl) ?_
            refine LM.val (ov_pickT rfl rfl) ?_
            refine LM.val (ov_move rfl) ?_
            first | refine LM.splitD (t := 47) rfl (fun h6 => ?_) (fun h6 => ?_) | refine LM.splitB (t := 47) rfl (fun h6 => ?_) (fun h6 => ?_)
            ·
              refine LM.strip (t := 47) rfl rfl rfl ?_
              refine LM.val (ov_move rfl) ?_
              refine LM.strip (t := 47) rfl rfl rfl ?_
              refine LM.callE (oc_call (enters_fn Try.func52 (by kernel_rfl) rfl) rfl) (fun w hm hc hg => sfirst_call hR (hm.sub (List.sublist_append_left _ _)) (by decide)) ?_
              refine LM.strip (t := 47) rfl rfl rfl ?_
              refine LM.val (ov_eql rfl rfl) ?_
              refine LM.val (ov_pickT rfl rfl) ?_
              refine LM.val (ov_move rfl) ?_
              first | refine LM.splitD (t := 52) rfl (fun h7 => ?_) (fun h7 => ?_) | refine LM.splitB (t := 52) rfl (fun h7 => ?_) (fun h7 => ?_)
              ·
                refine LM.strip (t := 52) rfl rfl rfl ?_
                refine LM.val (ov_move rfl) ?_
                refine LM.strip (t := 52) rfl rfl rfl ?_
                refine LM.callE (oc_call (enters_fn Try.func53 (by kernel_rfl) rfl) rfl) (fun w hm hc hg => snext_call hR (hm.sub (List.sublist_append_left _ _))) ?_
                refine LM.strip (t := 52) rfl rfl rfl ?_
                refine LM.val (ov_eql rfl rfl) ?_
                refine LM.val (ov_pickT rfl rfl) ?_
                refine LM.val (ov_move rfl) ?_
                first | refine LM.splitD (t := 57) rfl (fun h8 => ?_) (fun h8 => ?_) | refine LM.splitB (t := 57) rfl (fun h8 => ?_) (fun h8 => ?_)
                ·
                  refine LM.strip (t := 57) rfl rfl rfl ?_
                  refine LM.val (ov_move rfl) ?_
                  refine LM.strip (t := 57) rfl rfl rfl ?_
                  refine LM.callE (oc_call (enters_fn Try.func54 (by kernel_rfl) rfl) rfl) (fun w hm hc hg => slost_call _ (by decide) hR (hm.sub (List.sublist_append_left _ _)) (by decide)) ?_
                  refine LM.strip (t := 57) rfl rfl rfl ?_
                  refine LM.val (ov_eql rfl rfl) ?_
                  refine LM.val (ov_pickT rfl rfl) ?_
                  refine LM.val (ov_assign rfl) ?_
                  refine LM.nil ?_
                  refine QM.sub (e' := [(0, _)]) ⟨rfl, trivial⟩ ?_
                  refine QM.then ?_
                  refine wpM.ret ?_
                  refine QM.leave (.inl rfl) [.tmp 0] Try.results18 rfl ?_
                  intro w' hm' hc' hg'
                  -- leaf 1: h1+ h2+ h3+ h4+ h5+ h6+ h7+ h8+
                  first | exact ⟨rfl, hc'⟩ | (exfalso; first | (exact absurd h1 (by decide)) | (exact absurd h2 (by decide)) | (exact absurd h3 (by decide)) | (exact absurd h4 (by decide)) | (exact absurd h5 (by decide)) | (exact absurd h6 (by decide)) | (exact absurd h7 (by decide)) | (exact absurd h8 (by decide)) | skip)
                ·
                  refine LM.drop (t := 57) rfl rfl rfl ?_
                  refine LM.drop (t := 57) rfl rfl rfl ?_
                  refine LM.drop (t := 57) rfl rfl rfl ?_
                  refine LM.val (ov_pickF rfl rfl) ?_
                  refine LM.val (ov_assign rfl) ?_
                  refine LM.nil ?_
                  refine QM.sub (e' := [(0, _)]) ⟨rfl, trivial⟩ ?_
                  refine QM.then ?_
                  refine wpM.ret ?_
                  refine QM.leave (.inl rfl) [.tmp 0] Try.results18 rfl ?_
                  intro w' hm' hc' hg'
                  -- leaf 2: h1+ h2+ h3+ h4+ h5+ h6+ h7+ h8-
                  first | exact ⟨rfl, hc'⟩ | (exfalso; first | (exact absurd h1 (by decide)) | (exact absurd h2 (by decide)) | (exact absurd h3 (by decide)) | (exact absurd h4 (by decide)) | (exact absurd h5 (by decide)) | (exact absurd h6 (by decide)) | (exact absurd h7 (by decide)) | (exact absurd h8 (by decide)) | skip)
              ·
                refine LM.drop (t := 52) rfl rfl rfl ?_
                refine LM.drop (t := 52) rfl rfl rfl ?_
                refine LM.drop (t := 52) rfl rfl rfl ?_
                refine LM.val (ov_pickF rfl rfl) ?_
                refine LM.val (ov_move rfl) ?_
                refine LM.drop (t := 57) rfl rfl rfl ?_
                refine LM.drop (t := 57) rfl rfl rfl ?_
                refine LM.drop (t := 57) rfl rfl rfl ?_
                refine LM.val (ov_pickF rfl rfl) ?_
                refine LM.val (ov_assign rfl) ?_
                refine LM.nil ?_
                refine QM.sub (e' := [(0, _)]) ⟨rfl, trivial⟩ ?_
                refine QM.then ?_
                refine wpM.ret ?_
                refine QM.leave (.inl rfl) [.tmp 0] Try.results18 rfl ?_
                intro w' hm' hc' hg'
                -- leaf 3: h1+ h2+ h3+ h4+ h5+ h6+ h7-
                first | exact ⟨rfl, hc'⟩ | (exfalso; first | (exact absurd h1 (by decide)) | (exact absurd h2 (by decide)) | (exact absurd h3 (by decide)) | (exact absurd h4 (by decide)) | (exact absurd h5 (by decide)) | (exact absurd h6 (by decide)) | (exact absurd h7 (by decide)) | (exact absurd h8 (by decide)) | skip)
            ·
              refine LM.drop (t := 47) rfl rfl rfl ?_
              refine LM.drop (t := 47) rfl rfl rfl ?_
              refine LM.drop (t := 47) rfl rfl rfl ?_
              refine LM.val (ov_pickF rfl rfl) ?_
              refine LM.val (ov_move rfl) ?_
              refine LM.drop (t := 52) rfl rfl rfl ?_
              refine LM.drop (t := 52) rfl rfl rfl ?_
              refine LM.drop (t := 52) rfl rfl rfl ?_
              refine LM.val (ov_pickF rfl rfl) ?_
              refine LM.val (ov_move rfl) ?_
              refine LM.drop (t := 57) rfl rfl rfl ?_
              refine LM.drop (t := 57) rfl rfl rfl ?_
              refine LM.drop (t := 57) rfl rfl rfl ?_
              refine LM.val (ov_pickF rfl rfl) ?_
              refine LM.val (ov_assign rfl) ?_
              refine LM.nil ?_
              refine QM.sub (e' := [(0, _)]) ⟨rfl, trivial⟩ ?_
              refine QM.then ?_
              refine wpM.ret ?_
              refine QM.leave (.inl rfl) [.tmp 0] Try.results18 rfl ?_
              intro w' hm' hc' hg'
              -- leaf 4: h1+ h2+ h3+ h4+ h5+ h6-
              first | exact ⟨rfl, hc'⟩ | (exfalso; first | (exact absurd h1 (by decide)) | (exact absurd h2 (by decide)) | (exact absurd h3 (by decide)) | (exact absurd h4 (by decide)) | (exact absurd h5 (by decide)) | (exact absurd h6 (by decide)) | (exact absurd h7 (by decide)) | (exact absurd h8 (by decide)) | skip)
          ·
            refine LM.drop (t := 43) rfl rfl rfl ?_
            refine LM.drop (t := 43) rfl rfl rfl ?_
            refine LM.val (ov_pickF rfl rfl) ?_
            refine LM.val (ov_move rfl) ?_
            refine LM.drop (t := 47) rfl rfl rfl ?_
            refine LM.drop (t := 47) rfl rfl rfl ?_
            refine LM.drop (t := 47) rfl rfl rfl ?_
            refine LM.val (ov_pickF rfl rfl) ?_
            refine LM.val (ov_move rfl) ?_
            refine LM.drop (t := 52) rfl rfl rfl ?_
            refine LM.drop (t := 52) rfl rfl rfl ?_
            refine LM.drop (t := 52) rfl rfl rfl ?_
            refine LM.val (ov_pickF rfl rfl) ?_
            refine LM.val (ov_move rfl) ?_
            refine LM.drop (t := 57) rfl rfl rfl ?_
            refine LM.drop (t := 57) rfl rfl rfl ?_
            refine LM.drop (t := 57) rfl rfl rfl ?_
            refine LM.val (ov_pickF rfl rfl) ?_
            refine LM.val (ov_assign rfl) ?_
            refine LM.nil ?_
            refine QM.sub (e' := [(0, _)]) ⟨rfl, trivial⟩ ?_
            refine QM.then ?_
            refine wpM.ret ?_
            refine QM.leave (.inl rfl) [.tmp 0] Try.results18 rfl ?_
            intro w' hm' hc' hg'
            -- leaf 5: h1+ h2+ h3+ h4+ h5-
            first | exact ⟨rfl, hc'⟩ | (exfalso; first | (exact absurd h1 (by decide)) | (exact absurd h2 (by decide)) | (exact absurd h3 (by decide)) | (exact absurd h4 (by decide)) | (exact absurd h5 (by decide)) | (exact absurd h6 (by decide)) | (exact absurd h7 (by decide)) | (exact absurd h8 (by decide)) | skip)
        ·
          have e4 : (([] : List ByteArray) ++ [(⟨#[97]⟩ : ByteArray)] ++ [(⟨#[98]⟩ : ByteArray)] ++ [(⟨#[99]⟩ : ByteArray)]).getD (Int.toNat 1) (⟨#[]⟩ : ByteArray) = (⟨#[98]⟩ : ByteArray) := rfl; rw [if_pos (by decide), e4] at h4; simp at h4
      ·
        refine LM.drop (t := 36) rfl rfl rfl ?_
        refine LM.drop (t := 36) rfl rfl rfl ?_
        refine LM.val (ov_pickF rfl rfl) ?_
        refine LM.val (ov_move rfl) ?_
        refine LM.drop (t := 40) rfl rfl rfl ?_
        refine LM.val (ov_pickF rfl rfl) ?_
        refine LM.val (ov_move rfl) ?_
        refine LM.drop (t := 43) rfl rfl rfl ?_
        refine LM.drop (t := 43) rfl rfl rfl ?_
        refine LM.val (ov_pickF rfl rfl) ?_
        refine LM.val (ov_move rfl) ?_
        refine LM.drop (t := 47) rfl rfl rfl ?_
        refine LM.drop (t := 47) rfl rfl rfl ?_
        refine LM.drop (t := 47) rfl rfl rfl ?_
        refine LM.val (ov_pickF rfl rfl) ?_
        refine LM.val (ov_move rfl) ?_
        refine LM.drop (t := 52) rfl rfl rfl ?_
        refine LM.drop (t := 52) rfl rfl rfl ?_
        refine LM.drop (t := 52) rfl rfl rfl ?_
        refine LM.val (ov_pickF rfl rfl) ?_
        refine LM.val (ov_move rfl) ?_
        refine LM.drop (t := 57) rfl rfl rfl ?_
        refine LM.drop (t := 57) rfl rfl rfl ?_
        refine LM.drop (t := 57) rfl rfl rfl ?_
        refine LM.val (ov_pickF rfl rfl) ?_
        refine LM.val (ov_assign rfl) ?_
        refine LM.nil ?_
        refine QM.sub (e' := [(0, _)]) ⟨rfl, trivial⟩ ?_
        refine QM.then ?_
        refine wpM.ret ?_
        refine QM.leave (.inl rfl) [.tmp 0] Try.results18 rfl ?_
        intro w' hm' hc' hg'
        -- leaf 6: h1+ h2+ h3-
        first | exact ⟨rfl, hc'⟩ | (exfalso; first | (exact absurd h1 (by decide)) | (exact absurd h2 (by decide)) | (exact absurd h3 (by decide)) | (exact absurd h4 (by decide)) | (exact absurd h5 (by decide)) | (exact absurd h6 (by decide)) | (exact absurd h7 (by decide)) | (exact absurd h8 (by decide)) | skip)
    ·
      refine LM.drop (t := 32) rfl rfl rfl ?_
      refine LM.drop (t := 32) rfl rfl rfl ?_
      refine LM.val (ov_pickF rfl rfl) ?_
      refine LM.val (ov_move rfl) ?_
      refine LM.drop (t := 36) rfl rfl rfl ?_
      refine LM.drop (t := 36) rfl rfl rfl ?_
      refine LM.val (ov_pickF rfl rfl) ?_
      refine LM.val (ov_move rfl) ?_
      refine LM.drop (t := 40) rfl rfl rfl ?_
      refine LM.val (ov_pickF rfl rfl) ?_
      refine LM.val (ov_move rfl) ?_
      refine LM.drop (t := 43) rfl rfl rfl ?_
      refine LM.drop (t := 43) rfl rfl rfl ?_
      refine LM.val (ov_pickF rfl rfl) ?_
      refine LM.val (ov_move rfl) ?_
      refine LM.drop (t := 47) rfl rfl rfl ?_
      refine LM.drop (t := 47) rfl rfl rfl ?_
      refine LM.drop (t := 47) rfl rfl rfl ?_
      refine LM.val (ov_pickF rfl rfl) ?_
      refine LM.val (ov_move rfl) ?_
      refine LM.drop (t := 52) rfl rfl rfl ?_
      refine LM.drop (t := 52) rfl rfl rfl ?_
      refine LM.drop (t := 52) rfl rfl rfl ?_
      refine LM.val (ov_pickF rfl rfl) ?_
      refine LM.val (ov_move rfl) ?_
      refine LM.drop (t := 57) rfl rfl rfl ?_
      refine LM.drop (t := 57) rfl rfl rfl ?_
      refine LM.drop (t := 57) rfl rfl rfl ?_
      refine LM.val (ov_pickF rfl rfl) ?_
      refine LM.val (ov_assign rfl) ?_
      refine LM.nil ?_
      refine QM.sub (e' := [(0, _)]) ⟨rfl, trivial⟩ ?_
      refine QM.then ?_
      refine wpM.ret ?_
      refine QM.leave (.inl rfl) [.tmp 0] Try.results18 rfl ?_
      intro w' hm' hc' hg'
      -- leaf 7: h1+ h2-
      first | exact ⟨rfl, hc'⟩ | (exfalso; first | (exact absurd h1 (by decide)) | (exact absurd h2 (by decide)) | (exact absurd h3 (by decide)) | (exact absurd h4 (by decide)) | (exact absurd h5 (by decide)) | (exact absurd h6 (by decide)) | (exact absurd h7 (by decide)) | (exact absurd h8 (by decide)) | skip)
  ·
    refine LM.drop (t := 28) rfl rfl rfl ?_
    refine LM.drop (t := 28) rfl rfl rfl ?_
    refine LM.val (ov_pickF rfl rfl) ?_
    refine LM.val (ov_move rfl) ?_
    refine LM.drop (t := 32) rfl rfl rfl ?_
    refine LM.drop (t := 32) rfl rfl rfl ?_
    refine LM.val (ov_pickF rfl rfl) ?_
    refine LM.val (ov_move rfl) ?_
    refine LM.drop (t := 36) rfl rfl rfl ?_
    refine LM.drop (t := 36) rfl rfl rfl ?_
    refine LM.val (ov_pickF rfl rfl) ?_
    refine LM.val (ov_move rfl) ?_
    refine LM.drop (t := 40) rfl rfl rfl ?_
    refine LM.val (ov_pickF rfl rfl) ?_
    refine LM.val (ov_move rfl) ?_
    refine LM.drop (t := 43) rfl rfl rfl ?_
    refine LM.drop (t := 43) rfl rfl rfl ?_
    refine LM.val (ov_pickF rfl rfl) ?_
    refine LM.val (ov_move rfl) ?_
    refine LM.drop (t := 47) rfl rfl rfl ?_
    refine LM.drop (t := 47) rfl rfl rfl ?_
    refine LM.drop (t := 47) rfl rfl rfl ?_
    refine LM.val (ov_pickF rfl rfl) ?_
    refine LM.val (ov_move rfl) ?_
    refine LM.drop (t := 52) rfl rfl rfl ?_
    refine LM.drop (t := 52) rfl rfl rfl ?_
    refine LM.drop (t := 52) rfl rfl rfl ?_
    refine LM.val (ov_pickF rfl rfl) ?_
    refine LM.val (ov_move rfl) ?_
    refine LM.drop (t := 57) rfl rfl rfl ?_
    refine LM.drop (t := 57) rfl rfl rfl ?_
    refine LM.drop (t := 57) rfl rfl rfl ?_
    refine LM.val (ov_pickF rfl rfl) ?_
    refine LM.val (ov_assign rfl) ?_
    refine LM.nil ?_
    refine QM.sub (e' := [(0, _)]) ⟨rfl, trivial⟩ ?_
    refine QM.then ?_
    refine wpM.ret ?_
    refine QM.leave (.inl rfl) [.tmp 0] Try.results18 rfl ?_
    intro w' hm' hc' hg'
    -- leaf 8: h1-
    first | exact ⟨rfl, hc'⟩ | (exfalso; first | (exact absurd h1 (by decide)) | (exact absurd h2 (by decide)) | (exact absurd h3 (by decide)) | (exact absurd h4 (by decide)) | (exact absurd h5 (by decide)) | (exact absurd h6 (by decide)) | (exact absurd h7 (by decide)) | (exact absurd h8 (by decide)) | skip)

set_option maxRecDepth 100000 in
theorem ringRuns (most : Int) {xs : List Int} {ad : Option Addr} {cap : Nat} (n0 n1 : Int) (w : World) (hl : Sr fI 1 xs (.slice ad xs.length cap) w) (hn0 : -9223372036854775808 ≤ n0 ∧ n0 ≤ 9223372036854775807) (hn1 : -9223372036854775808 ≤ n1 ∧ n1 ≤ 9223372036854775807) : Ret Try.prog 5 #[.int .i64 most, .slice ad xs.length cap, .agg #[.int .i64 n0, .int .i64 n1]] w (fun v w' => v = .bool true ∧ Ext w w') := by
  obtain ⟨-, hcl, hne⟩ := hl.open; have hbr := bringN_pos most
  refine Ret.enterM (l := [.int .i64 most, .slice ad xs.length cap, .agg #[.int .i64 n0, .int .i64 n1]]) Try.func5 rfl Try.ntmps5 rfl ([]) (no) (Mem.nil w) ?_
  refine wpM.seq ?_
  refine wpM.region ?_
  refine LM.box rfl rfl (fun b5 hb5 => ?_)
  refine LM.val (ov_assign rfl) ?_
  refine LM.nil ?_
  refine QM.sub (e' := [(0, _), (1, _), (5, _)]) ⟨rfl, rfl, rfl, trivial⟩ ?_
  refine QM.then ?_
  refine wpM.seq ?_
  refine wpM.seq ?_
  refine wpM.region ?_
  refine LM.callE (oc_call (enters_fn Try.func18 (by kernel_rfl) rfl) rfl) (fun w hm hc hg => awake40 w) ?_
  first | refine LM.val (ov_notD rfl) ?_ | refine LM.val (ov_not rfl) ?_
  refine LM.nil ?_
  refine QM.sub (e' := [(0, _), (1, _), (5, _), (19, _)]) ⟨rfl, rfl, rfl, rfl, trivial⟩ ?_
  refine QM.then ?_
  first | refine wpM.condD rfl (fun h1 => ?_) (fun h1 => ?_) | refine wpM.condB rfl (fun h1 => ?_) (fun h1 => ?_)
  ·
    refine wpM.seq ?_
    refine wpM.region ?_
    refine LM.val (ov_assign rfl) ?_
    refine LM.nil ?_
    refine QM.sub (e' := [(6, _)]) ⟨rfl, trivial⟩ ?_
    refine QM.then ?_
    refine wpM.ret ?_
    refine QM.then_ret ?_
    refine QM.leave (.inl rfl) [.tmp 6] Try.results5 rfl ?_
    intro w' hm' hc' hg'
    -- leaf 1: h1+
    first | exact ⟨rfl, hc'⟩ | (exfalso; first | omega | contradiction | (simp at *; omega))
  ·
    refine wpM.skip ?_
    refine QM.then ?_
    refine wpM.seq ?_
    refine wpM.seq ?_
    refine wpM.region ?_
    refine LM.val (ov_move rfl) ?_
    refine LM.val (ov_len Try.underlying26 rfl) ?_
    refine LM.val (ov_gtr rfl rfl) ?_
    refine LM.nil ?_
    refine QM.sub (e' := [(0, _), (1, _), (5, _), (22, _)]) ⟨rfl, rfl, rfl, rfl, trivial⟩ ?_
    refine QM.then ?_
    first | refine wpM.condD rfl (fun h2 => ?_) (fun h2 => ?_) | refine wpM.condB rfl (fun h2 => ?_) (fun h2 => ?_)
    ·
      refine wpM.seq ?_
      refine wpM.region ?_
      refine LM.val (ov_assign rfl) ?_
      refine LM.nil ?_
      refine QM.sub (e' := [(6, _)]) ⟨rfl, trivial⟩ ?_
      refine QM.then ?_
      refine wpM.ret ?_
      refine QM.then_ret ?_
      refine QM.leave (.inl rfl) [.tmp 6] Try.results5 rfl ?_
      intro w' hm' hc' hg'
      -- leaf 2: h1- h2+
      first | exact ⟨rfl, hc'⟩ | (exfalso; first | omega | contradiction | (simp at *; omega))
    ·
      refine wpM.skip ?_
      refine QM.then ?_
      refine wpM.seq ?_
      refine wpM.region ?_
      refine LM.val (ov_move rfl) ?_
      refine LM.callT (oc_call (enters_fn Try.func19 (by kernel_rfl) rfl) rfl) (T := fun n u m => iR n (bringN most) [] u m) (fun _ _ _ _ h k => RingM.mono k h) (fun w hm hc hg => inew_spec most w) ?_
      rintro u24 m24 hR -
      refine LM.val (ov_assign rfl) ?_
      refine LM.nil ?_
      refine QM.sub (e' := [(0, _), (1, _), (5, _), (7, _)]) ⟨rfl, rfl, rfl, rfl, trivial⟩ ?_
      refine QM.then ?_
      refine wpM.seq ?_
      refine wpM.seq ?_
      refine wpM.region ?_
      refine LM.val (ov_move rfl) ?_
      refine LM.val (ov_len Try.underlying26 rfl) ?_
      refine LM.val (ov_move rfl) ?_
      refine LM.nil ?_
      refine QM.sub (e' := [(0, _), (1, _), (5, _), (7, _), (25, _), (26, _), (27, _)]) ⟨rfl, rfl, rfl, rfl, rfl, rfl, rfl, trivial⟩ ?_
      refine QM.then ?_
      refine wpM.block ?_
      refine wpM.loop (α := Nat × Mem0) (fun ⟨k, m⟩ => [(0, .int .i64 most), (1, .slice ad xs.length cap), (5, .pointer (some ⟨b5, 0, none⟩)), (7, u24), (25, .slice ad xs.length cap), (26, .int .i64 (xs.length : Nat)), (27, .int .i64 k)]) (fun ⟨k, m⟩ => (b5, .cells #[.int .i64 n0, .int .i64 n1] 31 (0, 0)) :: m) (fun ⟨k, m⟩ => k ≤ xs.length ∧ iR w.heap.size (bringN most) (xs.take k) u24 m) (fun ⟨k, m⟩ => xs.length - k) (0, m24) ⟨rfl, rfl, rfl, rfl, rfl, rfl, rfl, trivial⟩ (fun w hm => hm.perm (List.perm_append_singleton _ _)) ⟨Nat.zero_le _, hR⟩ ?_
      rintro ⟨k, m⟩ ⟨hk, hR⟩
      have hkl : (xs.take k).length = k := (by rw [List.length_take]; omega)
      refine wpM.seq ?_
      refine wpM.region ?_
      refine LM.val (ov_lss rfl rfl) ?_
      refine LM.nil ?_
      refine QM.sub (e' := [(0, _), (1, _), (5, _), (7, _), (25, _), (26, _), (27, _), (28, _)]) ⟨rfl, rfl, rfl, rfl, rfl, rfl, rfl, rfl, trivial⟩ ?_
      refine QM.then ?_
      refine wpM.seq ?_
      first | refine wpM.condD rfl (fun h3 => ?_) (fun h3 => ?_) | refine wpM.condB rfl (fun h3 => ?_) (fun h3 => ?_)
      ·
        refine wpM.skip ?_
        refine QM.then ?_
        refine wpM.seq ?_
        refine wpM.block ?_
        refine wpM.seq ?_
        refine wpM.region ?_
        refine LM.val (ov_move rfl) ?_
        have hk1 : k + 1 ≤ xs.length := (by omega); have hkl3 : (xs.take (k + 1)).length = k + 1 := (by rw [List.length_take]; omega); have hkl2 : (xs.take (k + 1)).length = ((k : Int) + 1).toNat := (by rw [List.length_take]; omega); have htake : xs.take k ++ [xs.getD (k : Int).toNat 0] = xs.take (k + 1) := (by rw [Int.toNat_natCast, List.take_add_one, List.getD_eq_getElem?_getD, List.getElem?_eq_getElem (by omega)]; rfl); obtain ⟨b, off, cs, E, fz, rfl, hb, hr⟩ := hne (by omega)
        first | refine LM.val (ov_idx10 Try.underlying26 Try.sizeOf3 rfl rfl (by omega)) ?_ | refine LM.val (ov_idx1 Try.underlying26 Try.sizeOf3 rfl rfl (by omega)) ?_
        refine LM.rdC (om_srI Try.isAgg3 rfl hb hr (by omega) id) ?_
        refine LM.val (ov_assign rfl) ?_
        refine LM.val (ov_assign rfl) ?_
        refine LM.nil ?_
        refine QM.sub (e' := [(0, _), (1, _), (5, _), (7, _), (8, _), (9, _), (25, _), (26, _), (27, _)]) ⟨rfl, rfl, rfl, rfl, rfl, rfl, rfl, rfl, rfl, trivial⟩ ?_
        refine QM.then ?_
        refine wpM.seq ?_
        refine wpM.seq ?_
        refine wpM.region ?_
        refine LM.val (ov_move rfl) ?_
        refine LM.callE (oc_call (enters_fn Try.func20 (by kernel_rfl) rfl) rfl) (fun w hm hc hg => inext_call hR hm.tail) ?_
        refine LM.val (ov_move rfl) ?_
        refine LM.val (ov_neq rfl rfl) ?_
        refine LM.val (ov_move rfl) ?_
        first | refine LM.splitD (t := 36) rfl (fun h4 => ?_) (fun h4 => ?_) | refine LM.splitB (t := 36) rfl (fun h4 => ?_) (fun h4 => ?_)
        ·
          refine LM.drop (t := 36) rfl rfl rfl ?_
          refine LM.drop (t := 36) rfl rfl rfl ?_
          refine LM.drop (t := 36) rfl rfl rfl ?_
          refine LM.drop (t := 36) rfl rfl rfl ?_
          refine LM.drop (t := 36) rfl rfl rfl ?_
          refine LM.val (ov_pickT rfl rfl) ?_
          refine LM.nil ?_
          refine QM.sub (e' := [(0, _), (1, _), (5, _), (7, _), (8, _), (25, _), (26, _), (27, _), (42, _)]) ⟨rfl, rfl, rfl, rfl, rfl, rfl, rfl, rfl, rfl, trivial⟩ ?_
          refine QM.then ?_
          refine wpM.condT rfl ?_
          refine wpM.seq ?_
          refine wpM.region ?_
          refine LM.val (ov_assign rfl) ?_
          refine LM.nil ?_
          refine QM.sub (e' := [(6, _)]) ⟨rfl, trivial⟩ ?_
          refine QM.then ?_
          refine wpM.ret ?_
          refine QM.then_ret ?_
          refine QM.block_ret ?_
          refine QM.then_ret ?_
          refine QM.then_ret ?_
          refine QM.block_ret ?_
          refine QM.then_ret ?_
          refine QM.leave (.inl rfl) [.tmp 6] Try.results5 rfl ?_
          intro w' hm' hc' hg'
          -- leaf 3: h1- h2- h3+ h4+
          first | exact ⟨rfl, hc'⟩ | (exfalso; first | omega | contradiction | (simp at *; omega))
        ·
          refine LM.strip (t := 36) rfl rfl rfl ?_
          refine LM.val (ov_move rfl) ?_
          refine LM.strip (t := 36) rfl rfl rfl ?_
          refine LM.val (ov_move rfl) ?_
          refine LM.strip (t := 36) rfl rfl rfl ?_
          refine LM.callU (m := m) (M2 := [(b5, _)]) (fun w hm => hm.perm (List.perm_append_singleton _ _).symm) hR.wlk (fun p hp h => absurd h (Nat.not_lt_of_le (hR.ge p hp))) (oc_call (enters_fn Try.func21 (by kernel_rfl) rfl) rfl) (fun w hm hc hg => iput_call _ hR (hm.sub (List.sublist_append_left _ _)) (by omega) hbr hc.size) ?_; rintro u m' ⟨rfl, hR2⟩ -; rw [htake] at hR2; refine LM.mem (M' := (b5, _) :: m') (fun w hm => hm.perm (List.perm_append_singleton _ _)) ?_
          refine LM.strip (t := 36) rfl rfl rfl ?_
          refine LM.val (ov_move rfl) ?_
          refine LM.strip (t := 36) rfl rfl rfl ?_
          refine LM.val (ov_neq rfl rfl) ?_
          refine LM.val (ov_pickF rfl rfl) ?_
          refine LM.nil ?_
          refine QM.sub (e' := [(0, _), (1, _), (5, _), (7, _), (8, _), (25, _), (26, _), (27, _), (42, _)]) ⟨rfl, rfl, rfl, rfl, rfl, rfl, rfl, rfl, rfl, trivial⟩ ?_
          refine QM.then ?_
          first | refine wpM.condD rfl (fun h5 => ?_) (fun h5 => ?_) | refine wpM.condB rfl (fun h5 => ?_) (fun h5 => ?_)
          ·
            refine wpM.seq ?_
            refine wpM.region ?_
            refine LM.val (ov_assign rfl) ?_
            refine LM.nil ?_
            refine QM.sub (e' := [(6, _)]) ⟨rfl, trivial⟩ ?_
            refine QM.then ?_
            refine wpM.ret ?_
            refine QM.then_ret ?_
            refine QM.block_ret ?_
            refine QM.then_ret ?_
            refine QM.then_ret ?_
            refine QM.block_ret ?_
            refine QM.then_ret ?_
            refine QM.leave (.inl rfl) [.tmp 6] Try.results5 rfl ?_
            intro w' hm' hc' hg'
            -- leaf 4: h1- h2- h3+ h4- h5+
            first | exact ⟨rfl, hc'⟩ | (exfalso; first | omega | contradiction | (simp at *; omega))
          ·
            refine wpM.skip ?_
            refine QM.then ?_
            refine wpM.seq ?_
            refine wpM.region ?_
            refine LM.val (ov_move rfl) ?_
            refine LM.val (ov_add64 rfl rfl (by omega)) ?_
            refine LM.val (ov_move rfl) ?_
            refine LM.callE (oc_call (enters_fn Try.func22 (by kernel_rfl) rfl) rfl) (fun w hm hc hg => rfirst_spec _ _ _ (by omega)) ?_
            refine LM.val (ov_assign rfl) ?_
            refine LM.nil ?_
            refine QM.sub (e' := [(0, _), (1, _), (5, _), (7, _), (8, _), (10, _), (25, _), (26, _), (27, _)]) ⟨rfl, rfl, rfl, rfl, rfl, rfl, rfl, rfl, rfl, trivial⟩ ?_
            refine QM.then ?_
            refine wpM.seq ?_
            refine wpM.region ?_
            refine LM.val (ov_move rfl) ?_
            refine LM.callE (oc_call (enters_fn Try.func23 (by kernel_rfl) rfl) rfl) (fun w hm hc hg => ifirst_call hR2 hm.tail (by omega)) ?_
            refine LM.val (ov_move rfl) ?_
            refine LM.val (ov_neq rfl rfl) ?_
            refine LM.val (ov_move rfl) ?_
            first | refine LM.splitD (t := 51) rfl (fun h6 => ?_) (fun h6 => ?_) | refine LM.splitB (t := 51) rfl (fun h6 => ?_) (fun h6 => ?_)
            ·
              refine LM.drop (t := 51) rfl rfl rfl ?_
              refine LM.drop (t := 51) rfl rfl rfl ?_
              refine LM.drop (t := 51) rfl rfl rfl ?_
              refine LM.drop (t := 51) rfl rfl rfl ?_
              refine LM.drop (t := 51) rfl rfl rfl ?_
              refine LM.drop (t := 51) rfl rfl rfl ?_
              refine LM.drop (t := 51) rfl rfl rfl ?_
              refine LM.drop (t := 51) rfl rfl rfl ?_
              refine LM.val (ov_pickT rfl rfl) ?_
              refine LM.nil ?_
              refine QM.sub (e' := [(0, _), (1, _), (5, _), (7, _), (25, _), (26, _), (27, _), (60, _)]) ⟨rfl, rfl, rfl, rfl, rfl, rfl, rfl, rfl, trivial⟩ ?_
              refine QM.then ?_
              refine wpM.condT rfl ?_
              refine wpM.seq ?_
              refine wpM.region ?_
              refine LM.val (ov_assign rfl) ?_
              refine LM.nil ?_
              refine QM.sub (e' := [(6, _)]) ⟨rfl, trivial⟩ ?_
              refine QM.then ?_
              refine wpM.ret ?_
              refine QM.block_ret ?_
              refine QM.then_ret ?_
              refine QM.then_ret ?_
              refine QM.block_ret ?_
              refine QM.then_ret ?_
              refine QM.leave (.inl rfl) [.tmp 6] Try.results5 rfl ?_
              intro w' hm' hc' hg'
              -- leaf 5: h1- h2- h3+ h4- h5- h6+
              first | exact ⟨rfl, hc'⟩ | (exfalso; first | omega | contradiction | (simp at *; omega))
            ·
              refine LM.strip (t := 51) rfl rfl rfl ?_
              refine LM.val (ov_move rfl) ?_
              refine LM.strip (t := 51) rfl rfl rfl ?_
              refine LM.val (ov_move rfl) ?_
              refine LM.strip (t := 51) rfl rfl rfl ?_
              refine LM.val (ov_move rfl) ?_
              refine LM.strip (t := 51) rfl rfl rfl ?_
              refine LM.val (ov_add64 rfl rfl (by omega)) ?_
              refine LM.strip (t := 51) rfl rfl rfl ?_
              refine LM.val (ov_subHi Try.underlying26 Try.sizeOf3 rfl rfl (by omega) (by omega)) ?_
              refine LM.strip (t := 51) rfl rfl rfl ?_
              refine LM.val (ov_move rfl) ?_
              refine LM.strip (t := 51) rfl rfl rfl ?_
              refine LM.callE (oc_call (enters_fn Try.func24 (by kernel_rfl) rfl) rfl) (fun w hm hc hg => (by have h := kept_call (((((k : Int) + 1).toNat - min ((k : Int) + 1).toNat (bringN most) : Nat) : Int)) 500 hR2 hm.tail (by omega) hbr.1 (by rw [hkl3]; exact (hl.take hk1).ext hc) (by omega) (by decide); rw [hkl2] at h; exact h)) ?_
              refine LM.strip (t := 51) rfl rfl rfl ?_
              first | refine LM.val (ov_notD rfl) ?_ | refine LM.val (ov_not rfl) ?_
              refine LM.val (ov_pickF rfl rfl) ?_
              refine LM.nil ?_
              refine QM.sub (e' := [(0, _), (1, _), (5, _), (7, _), (25, _), (26, _), (27, _), (60, _)]) ⟨rfl, rfl, rfl, rfl, rfl, rfl, rfl, rfl, trivial⟩ ?_
              refine QM.then ?_
              first | refine wpM.condD rfl (fun h7 => ?_) (fun h7 => ?_) | refine wpM.condB rfl (fun h7 => ?_) (fun h7 => ?_)
              ·
                refine wpM.seq ?_
                refine wpM.region ?_
                refine LM.val (ov_assign rfl) ?_
                refine LM.nil ?_
                refine QM.sub (e' := [(6, _)]) ⟨rfl, trivial⟩ ?_
                refine QM.then ?_
                refine wpM.ret ?_
                refine QM.block_ret ?_
                refine QM.then_ret ?_
                refine QM.then_ret ?_
                refine QM.block_ret ?_
                refine QM.then_ret ?_
                refine QM.leave (.inl rfl) [.tmp 6] Try.results5 rfl ?_
                intro w' hm' hc' hg'
                -- leaf 6: h1- h2- h3+ h4- h5- h6- h7+
                first | exact ⟨rfl, hc'⟩ | (exfalso; first | omega | contradiction | (simp at *; omega))
              ·
                refine wpM.skip ?_
                refine QM.block_normal ?_
                refine QM.then ?_
                refine wpM.region ?_
                refine LM.val (ov_add64 rfl rfl (by omega)) ?_
                refine LM.val (ov_move rfl) ?_
                refine LM.nil ?_
                refine QM.sub (e' := [(0, _), (1, _), (5, _), (7, _), (25, _), (26, _), (27, _)]) ⟨rfl, rfl, rfl, rfl, rfl, rfl, rfl, trivial⟩ ?_
                exact QM.again (k + 1, m') ⟨rfl, rfl, rfl, rfl, rfl, rfl, rfl, trivial⟩ (fun _ hm => hm) ⟨hk1, hR2⟩ (by show xs.length - (k + 1) < xs.length - k; omega)
      ·
        refine wpM.exit ?_
        refine QM.then_exit ?_
        refine QM.then_exit ?_
        refine QM.block_hit ?_
        refine QM.then ?_
        refine wpM.seq ?_
        refine wpM.region ?_
        have hkx : k = xs.length := (by omega); subst hkx; rw [List.take_length] at hR
        refine LM.val (ov_move rfl) ?_
        refine LM.val (ov_len Try.underlying26 rfl) ?_
        refine LM.val (ov_move rfl) ?_
        refine LM.callE (oc_call (enters_fn Try.func22 (by kernel_rfl) rfl) rfl) (fun w hm hc hg => rfirst_spec _ _ _ (by omega)) ?_
        refine LM.val (ov_assign rfl) ?_
        refine LM.nil ?_
        refine QM.sub (e' := [(1, _), (5, _), (7, _), (11, _)]) ⟨rfl, rfl, rfl, rfl, trivial⟩ ?_
        refine QM.then ?_
        refine wpM.seq ?_
        refine wpM.region ?_
        refine LM.val (ov_move rfl) ?_
        first | refine LM.val (ov_idxA10 Try.underlying31 Try.sizeOf3 rfl rfl (by omega)) ?_ | refine LM.val (ov_idxA1 Try.underlying31 Try.sizeOf3 rfl rfl (by omega)) ?_
        first | refine LM.rd (om_load 0 Try.isAgg3 rfl rfl rfl) ?_ | refine LM.rd (om_load 1 Try.isAgg3 rfl rfl rfl) ?_ | refine LM.rd (om_load 2 Try.isAgg3 rfl rfl rfl) ?_ | refine LM.rd (om_load 3 Try.isAgg3 rfl rfl rfl) ?_ | refine LM.rd (om_load 4 Try.isAgg3 rfl rfl rfl) ?_ | refine LM.rd (om_load 5 Try.isAgg3 rfl rfl rfl) ?_ | refine LM.rd (om_load 6 Try.isAgg3 rfl rfl rfl) ?_ | refine LM.rd (om_load 7 Try.isAgg3 rfl rfl rfl) ?_ | refine LM.rd (om_load 8 Try.isAgg3 rfl rfl rfl) ?_
        refine LM.callE (oc_call (enters_fn Try.func25 (by kernel_rfl) rfl) rfl) (fun w hm hc hg => iget_call _ hR hm.tail (by omega) hbr.1) ?_
        refine LM.val (ov_move rfl) ?_
        refine LM.val (ov_extract rfl rfl) ?_
        refine LM.val (ov_extract rfl rfl) ?_
        refine LM.val (ov_assign rfl) ?_
        refine LM.val (ov_assign rfl) ?_
        refine LM.nil ?_
        refine QM.sub (e' := [(1, _), (5, _), (7, _), (11, _), (12, _), (13, _)]) ⟨rfl, rfl, rfl, rfl, rfl, rfl, trivial⟩ ?_
        refine QM.then ?_
        refine wpM.seq ?_
        refine wpM.region ?_
        first | refine LM.val (ov_idxA10 Try.underlying31 Try.sizeOf3 rfl rfl (by omega)) ?_ | refine LM.val (ov_idxA1 Try.underlying31 Try.sizeOf3 rfl rfl (by omega)) ?_
        first | refine LM.rd (om_load 0 Try.isAgg3 rfl rfl rfl) ?_ | refine LM.rd (om_load 1 Try.isAgg3 rfl rfl rfl) ?_ | refine LM.rd (om_load 2 Try.isAgg3 rfl rfl rfl) ?_ | refine LM.rd (om_load 3 Try.isAgg3 rfl rfl rfl) ?_ | refine LM.rd (om_load 4 Try.isAgg3 rfl rfl rfl) ?_ | refine LM.rd (om_load 5 Try.isAgg3 rfl rfl rfl) ?_ | refine LM.rd (om_load 6 Try.isAgg3 rfl rfl rfl) ?_ | refine LM.rd (om_load 7 Try.isAgg3 rfl rfl rfl) ?_ | refine LM.rd (om_load 8 Try.isAgg3 rfl rfl rfl) ?_
        refine LM.val (ov_move rfl) ?_
        refine LM.val (ov_geq rfl rfl) ?_
        refine LM.val (ov_move rfl) ?_
        first | refine LM.splitD (t := 77) rfl (fun h8 => ?_) (fun h8 => ?_) | refine LM.splitB (t := 77) rfl (fun h8 => ?_) (fun h8 => ?_)
        ·
          refine LM.strip (t := 77) rfl rfl rfl ?_
          first | refine LM.val (ov_idxA10 Try.underlying31 Try.sizeOf3 rfl rfl (by omega)) ?_ | refine LM.val (ov_idxA1 Try.underlying31 Try.sizeOf3 rfl rfl (by omega)) ?_
          refine LM.strip (t := 77) rfl rfl rfl ?_
          first | refine LM.rd (om_load 0 Try.isAgg3 rfl rfl rfl) ?_ | refine LM.rd (om_load 1 Try.isAgg3 rfl rfl rfl) ?_ | refine LM.rd (om_load 2 Try.isAgg3 rfl rfl rfl) ?_ | refine LM.rd (om_load 3 Try.isAgg3 rfl rfl rfl) ?_ | refine LM.rd (om_load 4 Try.isAgg3 rfl rfl rfl) ?_ | refine LM.rd (om_load 5 Try.isAgg3 rfl rfl rfl) ?_ | refine LM.rd (om_load 6 Try.isAgg3 rfl rfl rfl) ?_ | refine LM.rd (om_load 7 Try.isAgg3 rfl rfl rfl) ?_ | refine LM.rd (om_load 8 Try.isAgg3 rfl rfl rfl) ?_
          refine LM.strip (t := 77) rfl rfl rfl ?_
          refine LM.val (ov_move rfl) ?_
          refine LM.strip (t := 77) rfl rfl rfl ?_
          refine LM.val (ov_len Try.underlying26 rfl) ?_
          refine LM.strip (t := 77) rfl rfl rfl ?_
          refine LM.val (ov_lss rfl rfl) ?_
          refine LM.val (ov_pickT rfl rfl) ?_
          refine LM.val (ov_assign rfl) ?_
          refine LM.nil ?_
          refine QM.sub (e' := [(1, _), (5, _), (7, _), (11, _), (12, _), (13, _), (14, _)]) ⟨rfl, rfl, rfl, rfl, rfl, rfl, rfl, trivial⟩ ?_
          refine QM.then ?_
          refine wpM.seq ?_
          refine wpM.seq ?_
          refine wpM.join (α := Unit) (fun ⟨⟩ => [(1, .slice ad xs.length cap), (5, .pointer (some ⟨b5, 0, none⟩)), (7, u24), (11, .int .i64 ((xs.length - min xs.length (bringN most) : Nat) : Int)), (106, .bool false)]) (fun ⟨⟩ => (b5, .cells #[.int .i64 n0, .int .i64 n1] 31 (0, 0)) :: m) (fun ⟨⟩ => True) ?_ ?_
          ·
            refine wpM.region ?_
            refine LM.val (ov_move rfl) ?_
            refine LM.val (ov_move rfl) ?_
            refine LM.val (ov_bneq Try.underlying4 rfl rfl) ?_
            refine LM.val (ov_move rfl) ?_
            first | refine LM.splitD (t := 87) rfl (fun h9 => ?_) (fun h9 => ?_) | refine LM.splitB (t := 87) rfl (fun h9 => ?_) (fun h9 => ?_)
            ·
              refine LM.drop (t := 87) rfl rfl rfl ?_
              refine LM.dropU (t := 87) rfl rfl rfl ?_
              refine LM.dropX (t := 89) rfl rfl ?_
              refine LM.dropX (t := 89) rfl rfl ?_
              refine LM.dropX (t := 89) rfl rfl ?_
              refine LM.dropX (t := 89) rfl rfl ?_
              refine LM.dropX (t := 89) rfl rfl ?_
              refine LM.dropX (t := 89) rfl rfl ?_
              refine LM.dropX (t := 89) rfl rfl ?_
              refine LM.drop (t := 87) rfl rfl rfl ?_
              refine LM.val (ov_pickT rfl rfl) ?_
              refine LM.val (ov_move rfl) ?_
              refine LM.drop (t := 99) rfl rfl rfl ?_
              refine LM.drop (t := 99) rfl rfl rfl ?_
              refine LM.dropU (t := 99) rfl rfl rfl ?_
              refine LM.dropX (t := 102) rfl rfl ?_
              refine LM.dropX (t := 102) rfl rfl ?_
              refine LM.drop (t := 99) rfl rfl rfl ?_
              refine LM.val (ov_pickT rfl rfl) ?_
              refine LM.nil ?_
              refine QM.sub (e' := [(1, _), (5, _), (7, _), (11, _), (106, _)]) ⟨rfl, rfl, rfl, rfl, rfl, trivial⟩ ?_
              first | exact QM.meet ⟨⟩ ⟨rfl, rfl, rfl, rfl, rfl, trivial⟩ (fun _ hm => hm) trivial | exact QM.meet ⟨⟩ ⟨rfl, rfl, rfl, rfl, lk rfl (by rw [if_neg (by omega)]; rfl), trivial⟩ (fun _ hm => hm) trivial | (exfalso; first | omega | contradiction | (simp only [if_neg (show ¬ (((xs.length - min xs.length (bringN most) : Nat) : Int) ≤ n0 ∧ n0 < xs.length) by omega), ne_eq, not_true_eq_false] at *; done) | (simp at *; omega))
            ·
              refine LM.strip (t := 87) rfl rfl rfl ?_
              refine LM.val (ov_move rfl) ?_
              refine LM.strip (t := 87) rfl rfl rfl ?_
              refine LM.val (ov_move rfl) ?_
              first | refine LM.splitD (t := 89) rfl (fun h10 => ?_) (fun h10 => ?_) | refine LM.splitB (t := 89) rfl (fun h10 => ?_) (fun h10 => ?_)
              ·
                refine LM.strip (t := 89) rfl rfl rfl ?_
                refine LM.val (ov_move rfl) ?_
                refine LM.strip (t := 89) rfl rfl rfl ?_
                refine LM.val (ov_move rfl) ?_
                refine LM.strip (t := 89) rfl rfl rfl ?_
                first | refine LM.val (ov_idxA10 Try.underlying31 Try.sizeOf3 rfl rfl (by omega)) ?_ | refine LM.val (ov_idxA1 Try.underlying31 Try.sizeOf3 rfl rfl (by omega)) ?_
                refine LM.strip (t := 89) rfl rfl rfl ?_
                first | refine LM.rd (om_load 0 Try.isAgg3 rfl rfl rfl) ?_ | refine LM.rd (om_load 1 Try.isAgg3 rfl rfl rfl) ?_ | refine LM.rd (om_load 2 Try.isAgg3 rfl rfl rfl) ?_ | refine LM.rd (om_load 3 Try.isAgg3 rfl rfl rfl) ?_ | refine LM.rd (om_load 4 Try.isAgg3 rfl rfl rfl) ?_ | refine LM.rd (om_load 5 Try.isAgg3 rfl rfl rfl) ?_ | refine LM.rd (om_load 6 Try.isAgg3 rfl rfl rfl) ?_ | refine LM.rd (om_load 7 Try.isAgg3 rfl rfl rfl) ?_ | refine LM.rd (om_load 8 Try.isAgg3 rfl rfl rfl) ?_
                refine LM.strip (t := 89) rfl rfl rfl ?_
                obtain ⟨b, off, cs, E, fz, had, hb, hr⟩ := hne (by omega)
                refine LM.val (ov_idx1E had Try.underlying26 Try.sizeOf3 rfl rfl (by omega)) ?_
                refine LM.strip (t := 89) rfl rfl rfl ?_
                refine LM.rdC (om_srI Try.isAgg3 rfl hb hr (by omega) id) ?_
                refine LM.strip (t := 89) rfl rfl rfl ?_
                refine LM.val (ov_neq rfl rfl) ?_
                refine LM.strip (t := 87) rfl rfl rfl ?_
                refine LM.val (ov_pickT rfl rfl) ?_
                refine LM.val (ov_pickF rfl rfl) ?_
                refine LM.val (ov_move rfl) ?_
                first | refine LM.splitD (t := 99) rfl (fun h11 => ?_) (fun h11 => ?_) | refine LM.splitB (t := 99) rfl (fun h11 => ?_) (fun h11 => ?_)
                ·
                  refine LM.drop (t := 99) rfl rfl rfl ?_
                  refine LM.drop (t := 99) rfl rfl rfl ?_
                  refine LM.dropU (t := 99) rfl rfl rfl ?_
                  refine LM.dropX (t := 102) rfl rfl ?_
                  refine LM.dropX (t := 102) rfl rfl ?_
                  refine LM.drop (t := 99) rfl rfl rfl ?_
                  refine LM.val (ov_pickT rfl rfl) ?_
                  refine LM.nil ?_
                  refine QM.sub (e' := [(1, _), (5, _), (7, _), (11, _), (106, _)]) ⟨rfl, rfl, rfl, rfl, rfl, trivial⟩ ?_
                  first | exact QM.meet ⟨⟩ ⟨rfl, rfl, rfl, rfl, rfl, trivial⟩ (fun _ hm => hm) trivial | exact QM.meet ⟨⟩ ⟨rfl, rfl, rfl, rfl, lk rfl (by rw [if_neg (by omega)]; rfl), trivial⟩ (fun _ hm => hm) trivial | (exfalso; first | omega | contradiction | (simp only [if_neg (show ¬ (((xs.length - min xs.length (bringN most) : Nat) : Int) ≤ n0 ∧ n0 < xs.length) by omega), ne_eq, not_true_eq_false] at *; done) | (simp at *; omega))
                ·
                  refine LM.strip (t := 99) rfl rfl rfl ?_
                  refine LM.val (ov_move rfl) ?_
                  refine LM.strip (t := 99) rfl rfl rfl ?_
                  first | refine LM.val (ov_notD rfl) ?_ | refine LM.val (ov_not rfl) ?_
                  refine LM.strip (t := 99) rfl rfl rfl ?_
                  refine LM.val (ov_move rfl) ?_
                  first | refine LM.splitD (t := 102) rfl (fun h12 => ?_) (fun h12 => ?_) | refine LM.splitB (t := 102) rfl (fun h12 => ?_) (fun h12 => ?_)
                  ·
                    refine LM.strip (t := 102) rfl rfl rfl ?_
                    refine LM.val (ov_move rfl) ?_
                    refine LM.strip (t := 102) rfl rfl rfl ?_
                    refine LM.val (ov_neq rfl rfl) ?_
                    refine LM.strip (t := 99) rfl rfl rfl ?_
                    refine LM.val (ov_pickT rfl rfl) ?_
                    refine LM.val (ov_pickF rfl rfl) ?_
                    refine LM.nil ?_
                    refine QM.sub (e' := [(1, _), (5, _), (7, _), (11, _), (106, _)]) ⟨rfl, rfl, rfl, rfl, rfl, trivial⟩ ?_
                    first | exact QM.meet ⟨⟩ ⟨rfl, rfl, rfl, rfl, rfl, trivial⟩ (fun _ hm => hm) trivial | exact QM.meet ⟨⟩ ⟨rfl, rfl, rfl, rfl, lk rfl (by rw [if_neg (by omega)]; rfl), trivial⟩ (fun _ hm => hm) trivial | (exfalso; first | omega | contradiction | (simp only [if_neg (show ¬ (((xs.length - min xs.length (bringN most) : Nat) : Int) ≤ n0 ∧ n0 < xs.length) by omega), ne_eq, not_true_eq_false] at *; done) | (simp at *; omega))
                  ·
                    refine LM.drop (t := 102) rfl rfl rfl ?_
                    refine LM.drop (t := 102) rfl rfl rfl ?_
                    refine LM.strip (t := 99) rfl rfl rfl ?_
                    refine LM.val (ov_pickF rfl rfl) ?_
                    refine LM.val (ov_pickF rfl rfl) ?_
                    refine LM.nil ?_
                    refine QM.sub (e' := [(1, _), (5, _), (7, _), (11, _), (106, _)]) ⟨rfl, rfl, rfl, rfl, rfl, trivial⟩ ?_
                    first | exact QM.meet ⟨⟩ ⟨rfl, rfl, rfl, rfl, rfl, trivial⟩ (fun _ hm => hm) trivial | exact QM.meet ⟨⟩ ⟨rfl, rfl, rfl, rfl, lk rfl (by rw [if_neg (by omega)]; rfl), trivial⟩ (fun _ hm => hm) trivial | (exfalso; first | omega | contradiction | (simp only [if_neg (show ¬ (((xs.length - min xs.length (bringN most) : Nat) : Int) ≤ n0 ∧ n0 < xs.length) by omega), ne_eq, not_true_eq_false] at *; done) | (simp at *; omega))
              ·
                refine LM.drop (t := 89) rfl rfl rfl ?_
                refine LM.drop (t := 89) rfl rfl rfl ?_
                refine LM.drop (t := 89) rfl rfl rfl ?_
                refine LM.drop (t := 89) rfl rfl rfl ?_
                refine LM.drop (t := 89) rfl rfl rfl ?_
                refine LM.drop (t := 89) rfl rfl rfl ?_
                refine LM.drop (t := 89) rfl rfl rfl ?_
                refine LM.strip (t := 87) rfl rfl rfl ?_
                refine LM.val (ov_pickF rfl rfl) ?_
                refine LM.val (ov_pickF rfl rfl) ?_
                refine LM.val (ov_move rfl) ?_
                refine LM.strip (t := 99) rfl rfl rfl ?_
                refine LM.val (ov_move rfl) ?_
                refine LM.strip (t := 99) rfl rfl rfl ?_
                first | refine LM.val (ov_notD rfl) ?_ | refine LM.val (ov_not rfl) ?_
                refine LM.strip (t := 99) rfl rfl rfl ?_
                refine LM.val (ov_move rfl) ?_
                first | refine LM.splitD (t := 102) rfl (fun h13 => ?_) (fun h13 => ?_) | refine LM.splitB (t := 102) rfl (fun h13 => ?_) (fun h13 => ?_)
                ·
                  refine LM.strip (t := 102) rfl rfl rfl ?_
                  refine LM.val (ov_move rfl) ?_
                  refine LM.strip (t := 102) rfl rfl rfl ?_
                  refine LM.val (ov_neq rfl rfl) ?_
                  refine LM.strip (t := 99) rfl rfl rfl ?_
                  refine LM.val (ov_pickT rfl rfl) ?_
                  refine LM.val (ov_pickF rfl rfl) ?_
                  refine LM.nil ?_
                  refine QM.sub (e' := [(1, _), (5, _), (7, _), (11, _), (106, _)]) ⟨rfl, rfl, rfl, rfl, rfl, trivial⟩ ?_
                  first | exact QM.meet ⟨⟩ ⟨rfl, rfl, rfl, rfl, rfl, trivial⟩ (fun _ hm => hm) trivial | exact QM.meet ⟨⟩ ⟨rfl, rfl, rfl, rfl, lk rfl (by rw [if_neg (by omega)]; rfl), trivial⟩ (fun _ hm => hm) trivial | (exfalso; first | omega | contradiction | (simp only [if_neg (show ¬ (((xs.length - min xs.length (bringN most) : Nat) : Int) ≤ n0 ∧ n0 < xs.length) by omega), ne_eq, not_true_eq_false] at *; done) | (simp at *; omega))
                ·
                  refine LM.drop (t := 102) rfl rfl rfl ?_
                  refine LM.drop (t := 102) rfl rfl rfl ?_
                  refine LM.strip (t := 99) rfl rfl rfl ?_
                  refine LM.val (ov_pickF rfl rfl) ?_
                  refine LM.val (ov_pickF rfl rfl) ?_
                  refine LM.nil ?_
                  refine QM.sub (e' := [(1, _), (5, _), (7, _), (11, _), (106, _)]) ⟨rfl, rfl, rfl, rfl, rfl, trivial⟩ ?_
                  first | exact QM.meet ⟨⟩ ⟨rfl, rfl, rfl, rfl, rfl, trivial⟩ (fun _ hm => hm) trivial | exact QM.meet ⟨⟩ ⟨rfl, rfl, rfl, rfl, lk rfl (by rw [if_neg (by omega)]; rfl), trivial⟩ (fun _ hm => hm) trivial | (exfalso; first | omega | contradiction | (simp only [if_neg (show ¬ (((xs.length - min xs.length (bringN most) : Nat) : Int) ≤ n0 ∧ n0 < xs.length) by omega), ne_eq, not_true_eq_false] at *; done) | (simp at *; omega))
          ·
            rintro ⟨⟩ -
            refine QM.then ?_
            refine wpM.condF rfl ?_
            refine wpM.skip ?_
            refine QM.then ?_
            refine wpM.seq ?_
            refine wpM.region ?_
            refine LM.val (ov_assign rfl) ?_
            refine LM.nil ?_
            refine QM.sub (e' := [(1, _), (5, _), (7, _), (11, _), (15, _)]) ⟨rfl, rfl, rfl, rfl, rfl, trivial⟩ ?_
            refine QM.then ?_
            refine wpM.seq ?_
            refine wpM.seq ?_
            refine wpM.region ?_
            first | refine LM.val (ov_idxA10 Try.underlying31 Try.sizeOf3 rfl rfl (by omega)) ?_ | refine LM.val (ov_idxA1 Try.underlying31 Try.sizeOf3 rfl rfl (by omega)) ?_
            first | refine LM.rd (om_load 0 Try.isAgg3 rfl rfl rfl) ?_ | refine LM.rd (om_load 1 Try.isAgg3 rfl rfl rfl) ?_ | refine LM.rd (om_load 2 Try.isAgg3 rfl rfl rfl) ?_ | refine LM.rd (om_load 3 Try.isAgg3 rfl rfl rfl) ?_ | refine LM.rd (om_load 4 Try.isAgg3 rfl rfl rfl) ?_ | refine LM.rd (om_load 5 Try.isAgg3 rfl rfl rfl) ?_ | refine LM.rd (om_load 6 Try.isAgg3 rfl rfl rfl) ?_ | refine LM.rd (om_load 7 Try.isAgg3 rfl rfl rfl) ?_ | refine LM.rd (om_load 8 Try.isAgg3 rfl rfl rfl) ?_
            refine LM.val (ov_move rfl) ?_
            refine LM.val (ov_len Try.underlying26 rfl) ?_
            refine LM.val (ov_min rfl rfl) ?_
            refine LM.val (ov_max rfl rfl) ?_
            refine LM.val (ov_assign rfl) ?_
            refine LM.nil ?_
            refine QM.sub (e' := [(1, _), (5, _), (7, _), (11, _), (15, _), (16, _)]) ⟨rfl, rfl, rfl, rfl, rfl, rfl, trivial⟩ ?_
            refine QM.then ?_
            refine wpM.block ?_
            refine wpM.loop (α := Int) (fun j => [(1, .slice ad xs.length cap), (5, .pointer (some ⟨b5, 0, none⟩)), (7, u24), (11, .int .i64 ((xs.length - min xs.length (bringN most) : Nat) : Int)), (15, .int .i64 (j - max (min n0 xs.length) 0)), (16, .int .i64 j)]) (fun j => (b5, .cells #[.int .i64 n0, .int .i64 n1] 31 (0, 0)) :: m) (fun j => max (min n0 xs.length) 0 ≤ j ∧ (j ≤ ((xs.length - min xs.length (bringN most) : Nat) : Int) ∨ j = max (min n0 xs.length) 0)) (fun j => (((xs.length - min xs.length (bringN most) : Nat) : Int) - j).toNat) (max (min n0 xs.length) 0) ⟨rfl, rfl, rfl, rfl, lk rfl (by congr 1; omega), lk rfl (by congr 1; omega), trivial⟩ (fun _ hm => hm) ⟨by omega, .inr rfl⟩ ?_
            rintro j ⟨hj0, hj1⟩
            refine wpM.seq ?_
            refine wpM.seq ?_
            refine wpM.region ?_
            refine LM.val (ov_move rfl) ?_
            refine LM.val (ov_move rfl) ?_
            refine LM.val (ov_lss rfl rfl) ?_
            refine LM.nil ?_
            refine QM.sub (e' := [(1, _), (5, _), (7, _), (11, _), (15, _), (16, _), (115, _)]) ⟨rfl, rfl, rfl, rfl, rfl, rfl, rfl, trivial⟩ ?_
            refine QM.then ?_
            first | refine wpM.condD rfl (fun h14 => ?_) (fun h14 => ?_) | refine wpM.condB rfl (fun h14 => ?_) (fun h14 => ?_)
            ·
              refine wpM.skip ?_
              refine QM.then ?_
              refine wpM.seq ?_
              refine wpM.block ?_
              refine wpM.region ?_
              refine LM.val (ov_move rfl) ?_
              refine LM.val (ov_add64 rfl rfl (by omega)) ?_
              refine LM.val (ov_assign rfl) ?_
              refine LM.nil ?_
              refine QM.sub (e' := [(1, _), (5, _), (7, _), (11, _), (15, _), (16, _)]) ⟨rfl, rfl, rfl, rfl, rfl, rfl, trivial⟩ ?_
              refine QM.block_normal ?_
              refine QM.then ?_
              refine wpM.region ?_
              refine LM.val (ov_move rfl) ?_
              refine LM.val (ov_add64 rfl rfl (by omega)) ?_
              refine LM.val (ov_assign rfl) ?_
              refine LM.nil ?_
              refine QM.sub (e' := [(1, _), (5, _), (7, _), (11, _), (15, _), (16, _)]) ⟨rfl, rfl, rfl, rfl, rfl, rfl, trivial⟩ ?_
              exact QM.again (j + 1) ⟨rfl, rfl, rfl, rfl, lk rfl (by congr 1; show _ = j + 1 - max (min n0 (xs.length : Int)) 0; omega), rfl, trivial⟩ (fun _ hm => hm) ⟨by omega, by omega⟩ (by omega)
            ·
              refine wpM.exit ?_
              refine QM.then_exit ?_
              refine QM.then_exit ?_
              refine QM.block_hit ?_
              refine QM.then ?_
              refine wpM.seq ?_
              refine wpM.region ?_
              first | refine LM.val (ov_idxA10 Try.underlying31 Try.sizeOf3 rfl rfl (by omega)) ?_ | refine LM.val (ov_idxA1 Try.underlying31 Try.sizeOf3 rfl rfl (by omega)) ?_
              first | refine LM.rd (om_load 0 Try.isAgg3 rfl rfl rfl) ?_ | refine LM.rd (om_load 1 Try.isAgg3 rfl rfl rfl) ?_ | refine LM.rd (om_load 2 Try.isAgg3 rfl rfl rfl) ?_ | refine LM.rd (om_load 3 Try.isAgg3 rfl rfl rfl) ?_ | refine LM.rd (om_load 4 Try.isAgg3 rfl rfl rfl) ?_ | refine LM.rd (om_load 5 Try.isAgg3 rfl rfl rfl) ?_ | refine LM.rd (om_load 6 Try.isAgg3 rfl rfl rfl) ?_ | refine LM.rd (om_load 7 Try.isAgg3 rfl rfl rfl) ?_ | refine LM.rd (om_load 8 Try.isAgg3 rfl rfl rfl) ?_
              refine LM.val (ov_move rfl) ?_
              refine LM.val (ov_max rfl rfl) ?_
              refine LM.val (ov_move rfl) ?_
              refine LM.val (ov_len Try.underlying26 rfl) ?_
              refine LM.val (ov_min rfl rfl) ?_
              refine LM.val (ov_assign rfl) ?_
              refine LM.nil ?_
              refine QM.sub (e' := [(1, _), (5, _), (7, _), (11, _), (15, _), (17, _)]) ⟨rfl, rfl, rfl, rfl, rfl, rfl, trivial⟩ ?_
              refine QM.then ?_
              refine wpM.seq ?_
              refine wpM.region ?_
              refine LM.val (ov_move rfl) ?_
              first | refine LM.val (ov_idxA10 Try.underlying31 Try.sizeOf3 rfl rfl (by omega)) ?_ | refine LM.val (ov_idxA1 Try.underlying31 Try.sizeOf3 rfl rfl (by omega)) ?_
              first | refine LM.rd (om_load 0 Try.isAgg3 rfl rfl rfl) ?_ | refine LM.rd (om_load 1 Try.isAgg3 rfl rfl rfl) ?_ | refine LM.rd (om_load 2 Try.isAgg3 rfl rfl rfl) ?_ | refine LM.rd (om_load 3 Try.isAgg3 rfl rfl rfl) ?_ | refine LM.rd (om_load 4 Try.isAgg3 rfl rfl rfl) ?_ | refine LM.rd (om_load 5 Try.isAgg3 rfl rfl rfl) ?_ | refine LM.rd (om_load 6 Try.isAgg3 rfl rfl rfl) ?_ | refine LM.rd (om_load 7 Try.isAgg3 rfl rfl rfl) ?_ | refine LM.rd (om_load 8 Try.isAgg3 rfl rfl rfl) ?_
              refine LM.callE (oc_call (enters_fn Try.func26 (by kernel_rfl) rfl) rfl) (fun w hm hc hg => ilost_call _ hn0 hR hm.tail (by omega)) ?_
              refine LM.val (ov_move rfl) ?_
              refine LM.val (ov_eql rfl rfl) ?_
              refine LM.val (ov_move rfl) ?_
              first | refine LM.splitD (t := 133) rfl (fun h15 => ?_) (fun h15 => ?_) | refine LM.splitB (t := 133) rfl (fun h15 => ?_) (fun h15 => ?_)
              ·
                refine LM.strip (t := 133) rfl rfl rfl ?_
                refine LM.val (ov_move rfl) ?_
                refine LM.strip (t := 133) rfl rfl rfl ?_
                refine LM.val (ov_move rfl) ?_
                refine LM.strip (t := 133) rfl rfl rfl ?_
                refine LM.val (ov_move rfl) ?_
                refine LM.strip (t := 133) rfl rfl rfl ?_
                refine LM.callE (oc_call (enters_fn Try.func24 (by kernel_rfl) rfl) rfl) (fun w hm hc hg => kept_call _ _ hR hm.tail (by omega) hbr.1 (hl.ext hc) (by omega) (by omega)) ?_
                refine LM.val (ov_pickT rfl rfl) ?_
                refine LM.val (ov_move rfl) ?_
                first | refine LM.splitD (t := 139) rfl (fun h16 => ?_) (fun h16 => ?_) | refine LM.splitB (t := 139) rfl (fun h16 => ?_) (fun h16 => ?_)
                ·
                  refine LM.strip (t := 139) rfl rfl rfl ?_
                  refine LM.val (ov_move rfl) ?_
                  refine LM.strip (t := 139) rfl rfl rfl ?_
                  refine LM.val (ov_move rfl) ?_
                  refine LM.strip (t := 139) rfl rfl rfl ?_
                  refine LM.val (ov_move rfl) ?_
                  refine LM.strip (t := 139) rfl rfl rfl ?_
                  refine LM.val (ov_move rfl) ?_
                  refine LM.strip (t := 139) rfl rfl rfl ?_
                  refine LM.val (ov_add64 rfl rfl (by omega)) ?_
                  refine LM.strip (t := 139) rfl rfl rfl ?_
                  refine LM.callE (oc_call (enters_fn Try.func24 (by kernel_rfl) rfl) rfl) (fun w hm hc hg => kept_call _ _ hR hm.tail (by omega) hbr.1 (hl.ext hc) (by omega) (by omega)) ?_
                  refine LM.val (ov_pickT rfl rfl) ?_
                  refine LM.val (ov_move rfl) ?_
                  first | refine LM.splitD (t := 147) rfl (fun h17 => ?_) (fun h17 => ?_) | refine LM.splitB (t := 147) rfl (fun h17 => ?_) (fun h17 => ?_)
                  ·
                    refine LM.strip (t := 147) rfl rfl rfl ?_
                    refine LM.val (ov_move rfl) ?_
                    refine LM.strip (t := 147) rfl rfl rfl ?_
                    refine LM.val (ov_move rfl) ?_
                    refine LM.strip (t := 147) rfl rfl rfl ?_
                    refine LM.val (ov_move rfl) ?_
                    refine LM.strip (t := 147) rfl rfl rfl ?_
                    refine LM.callE (oc_call (enters_fn Try.func27 (by kernel_rfl) rfl) rfl) (fun w hm hc hg => back_call hR hm.tail (by omega) hbr.1 (hl.ext hc)) ?_
                    refine LM.val (ov_pickT rfl rfl) ?_
                    refine LM.val (ov_assign rfl) ?_
                    refine LM.nil ?_
                    refine QM.sub (e' := [(6, _)]) ⟨rfl, trivial⟩ ?_
                    refine QM.then ?_
                    refine wpM.ret ?_
                    refine QM.leave (.inl rfl) [.tmp 6] Try.results5 rfl ?_
                    intro w' hm' hc' hg'
                    -- leaf 7: h1- h2- h3- h8+ h9- h10- h13- h14- h15+ h16+ h17+
                    first | exact ⟨rfl, hc'⟩ | (exfalso; first | omega | contradiction | (simp at *; omega))
                  ·
                    refine LM.drop (t := 147) rfl rfl rfl ?_
                    refine LM.drop (t := 147) rfl rfl rfl ?_
                    refine LM.drop (t := 147) rfl rfl rfl ?_
                    refine LM.drop (t := 147) rfl rfl rfl ?_
                    refine LM.val (ov_pickF rfl rfl) ?_
                    refine LM.val (ov_assign rfl) ?_
                    refine LM.nil ?_
                    refine QM.sub (e' := [(6, _)]) ⟨rfl, trivial⟩ ?_
                    refine QM.then ?_
                    refine wpM.ret ?_
                    refine QM.leave (.inl rfl) [.tmp 6] Try.results5 rfl ?_
                    intro w' hm' hc' hg'
                    -- leaf 8: h1- h2- h3- h8+ h9- h10- h13- h14- h15+ h16+ h17-
                    first | exact ⟨rfl, hc'⟩ | (exfalso; first | omega | contradiction | (simp at *; omega))
                ·
                  refine LM.drop (t := 139) rfl rfl rfl ?_
                  refine LM.drop (t := 139) rfl rfl rfl ?_
                  refine LM.drop (t := 139) rfl rfl rfl ?_
                  refine LM.drop (t := 139) rfl rfl rfl ?_
                  refine LM.drop (t := 139) rfl rfl rfl ?_
                  refine LM.drop (t := 139) rfl rfl rfl ?_
                  refine LM.val (ov_pickF rfl rfl) ?_
                  refine LM.val (ov_move rfl) ?_
                  refine LM.drop (t := 147) rfl rfl rfl ?_
                  refine LM.drop (t := 147) rfl rfl rfl ?_
                  refine LM.drop (t := 147) rfl rfl rfl ?_
                  refine LM.drop (t := 147) rfl rfl rfl ?_
                  refine LM.val (ov_pickF rfl rfl) ?_
                  refine LM.val (ov_assign rfl) ?_
                  refine LM.nil ?_
                  refine QM.sub (e' := [(6, _)]) ⟨rfl, trivial⟩ ?_
                  refine QM.then ?_
                  refine wpM.ret ?_
                  refine QM.leave (.inl rfl) [.tmp 6] Try.results5 rfl ?_
                  intro w' hm' hc' hg'
                  -- leaf 9: h1- h2- h3- h8+ h9- h10- h13- h14- h15+ h16-
                  first | exact ⟨rfl, hc'⟩ | (exfalso; first | omega | contradiction | (simp at *; omega))
              ·
                refine LM.drop (t := 133) rfl rfl rfl ?_
                refine LM.drop (t := 133) rfl rfl rfl ?_
                refine LM.drop (t := 133) rfl rfl rfl ?_
                refine LM.drop (t := 133) rfl rfl rfl ?_
                refine LM.val (ov_pickF rfl rfl) ?_
                refine LM.val (ov_move rfl) ?_
                refine LM.drop (t := 139) rfl rfl rfl ?_
                refine LM.drop (t := 139) rfl rfl rfl ?_
                refine LM.drop (t := 139) rfl rfl rfl ?_
                refine LM.drop (t := 139) rfl rfl rfl ?_
                refine LM.drop (t := 139) rfl rfl rfl ?_
                refine LM.drop (t := 139) rfl rfl rfl ?_
                refine LM.val (ov_pickF rfl rfl) ?_
                refine LM.val (ov_move rfl) ?_
                refine LM.drop (t := 147) rfl rfl rfl ?_
                refine LM.drop (t := 147) rfl rfl rfl ?_
                refine LM.drop (t := 147) rfl rfl rfl ?_
                refine LM.drop (t := 147) rfl rfl rfl ?_
                refine LM.val (ov_pickF rfl rfl) ?_
                refine LM.val (ov_assign rfl) ?_
                refine LM.nil ?_
                refine QM.sub (e' := [(6, _)]) ⟨rfl, trivial⟩ ?_
                refine QM.then ?_
                refine wpM.ret ?_
                refine QM.leave (.inl rfl) [.tmp 6] Try.results5 rfl ?_
                intro w' hm' hc' hg'
                -- leaf 10: h1- h2- h3- h8+ h9- h10- h13- h14- h15-
                first | exact ⟨rfl, hc'⟩ | (exfalso; first | omega | contradiction | (simp at *; omega))
        ·
          refine LM.drop (t := 77) rfl rfl rfl ?_
          refine LM.drop (t := 77) rfl rfl rfl ?_
          refine LM.drop (t := 77) rfl rfl rfl ?_
          refine LM.drop (t := 77) rfl rfl rfl ?_
          refine LM.drop (t := 77) rfl rfl rfl ?_
          refine LM.val (ov_pickF rfl rfl) ?_
          refine LM.val (ov_assign rfl) ?_
          refine LM.nil ?_
          refine QM.sub (e' := [(1, _), (5, _), (7, _), (11, _), (12, _), (13, _), (14, _)]) ⟨rfl, rfl, rfl, rfl, rfl, rfl, rfl, trivial⟩ ?_
          refine QM.then ?_
          refine wpM.seq ?_
          refine wpM.seq ?_
          refine wpM.join (α := Unit) (fun ⟨⟩ => [(1, .slice ad xs.length cap), (5, .pointer (some ⟨b5, 0, none⟩)), (7, u24), (11, .int .i64 ((xs.length - min xs.length (bringN most) : Nat) : Int)), (106, .bool false)]) (fun ⟨⟩ => (b5, .cells #[.int .i64 n0, .int .i64 n1] 31 (0, 0)) :: m) (fun ⟨⟩ => True) ?_ ?_
          ·
            refine wpM.region ?_
            refine LM.val (ov_move rfl) ?_
            refine LM.val (ov_move rfl) ?_
            refine LM.val (ov_bneq Try.underlying4 rfl rfl) ?_
            refine LM.val (ov_move rfl) ?_
            first | refine LM.splitD (t := 87) rfl (fun h18 => ?_) (fun h18 => ?_) | refine LM.splitB (t := 87) rfl (fun h18 => ?_) (fun h18 => ?_)
            ·
              refine LM.drop (t := 87) rfl rfl rfl ?_
              refine LM.dropU (t := 87) rfl rfl rfl ?_
              refine LM.dropX (t := 89) rfl rfl ?_
              refine LM.dropX (t := 89) rfl rfl ?_
              refine LM.dropX (t := 89) rfl rfl ?_
              refine LM.dropX (t := 89) rfl rfl ?_
              refine LM.dropX (t := 89) rfl rfl ?_
              refine LM.dropX (t := 89) rfl rfl ?_
              refine LM.dropX (t := 89) rfl rfl ?_
              refine LM.drop (t := 87) rfl rfl rfl ?_
              refine LM.val (ov_pickT rfl rfl) ?_
              refine LM.val (ov_move rfl) ?_
              refine LM.drop (t := 99) rfl rfl rfl ?_
              refine LM.drop (t := 99) rfl rfl rfl ?_
              refine LM.dropU (t := 99) rfl rfl rfl ?_
              refine LM.dropX (t := 102) rfl rfl ?_
              refine LM.dropX (t := 102) rfl rfl ?_
              refine LM.drop (t := 99) rfl rfl rfl ?_
              refine LM.val (ov_pickT rfl rfl) ?_
              refine LM.nil ?_
              refine QM.sub (e' := [(1, _), (5, _), (7, _), (11, _), (106, _)]) ⟨rfl, rfl, rfl, rfl, rfl, trivial⟩ ?_
              first | exact QM.meet ⟨⟩ ⟨rfl, rfl, rfl, rfl, rfl, trivial⟩ (fun _ hm => hm) trivial | exact QM.meet ⟨⟩ ⟨rfl, rfl, rfl, rfl, lk rfl (by rw [if_neg (by omega)]; rfl), trivial⟩ (fun _ hm => hm) trivial | (exfalso; first | omega | contradiction | (simp only [if_neg (show ¬ (((xs.length - min xs.length (bringN most) : Nat) : Int) ≤ n0 ∧ n0 < xs.length) by omega), ne_eq, not_true_eq_false] at *; done) | (simp at *; omega))
            ·
              refine LM.strip (t := 87) rfl rfl rfl ?_
              refine LM.val (ov_move rfl) ?_
              refine LM.strip (t := 87) rfl rfl rfl ?_
              refine LM.val (ov_move rfl) ?_
              refine LM.drop (t := 89) rfl rfl rfl ?_
              refine LM.drop (t := 89) rfl rfl rfl ?_
              refine LM.drop (t := 89) rfl rfl rfl ?_
              refine LM.drop (t := 89) rfl rfl rfl ?_
              refine LM.drop (t := 89) rfl rfl rfl ?_
              refine LM.drop (t := 89) rfl rfl rfl ?_
              refine LM.drop (t := 89) rfl rfl rfl ?_
              refine LM.strip (t := 87) rfl rfl rfl ?_
              refine LM.val (ov_pickF rfl rfl) ?_
              refine LM.val (ov_pickF rfl rfl) ?_
              refine LM.val (ov_move rfl) ?_
              refine LM.strip (t := 99) rfl rfl rfl ?_
              refine LM.val (ov_move rfl) ?_
              refine LM.strip (t := 99) rfl rfl rfl ?_
              first | refine LM.val (ov_notD rfl) ?_ | refine LM.val (ov_not rfl) ?_
              refine LM.strip (t := 99) rfl rfl rfl ?_
              refine LM.val (ov_move rfl) ?_
              refine LM.strip (t := 102) rfl rfl rfl ?_
              refine LM.val (ov_move rfl) ?_
              refine LM.strip (t := 102) rfl rfl rfl ?_
              refine LM.val (ov_neq rfl rfl) ?_
              refine LM.strip (t := 99) rfl rfl rfl ?_
              refine LM.val (ov_pickT rfl rfl) ?_
              refine LM.val (ov_pickF rfl rfl) ?_
              refine LM.nil ?_
              refine QM.sub (e' := [(1, _), (5, _), (7, _), (11, _), (106, _)]) ⟨rfl, rfl, rfl, rfl, rfl, trivial⟩ ?_
              first | exact QM.meet ⟨⟩ ⟨rfl, rfl, rfl, rfl, rfl, trivial⟩ (fun _ hm => hm) trivial | exact QM.meet ⟨⟩ ⟨rfl, rfl, rfl, rfl, lk rfl (by rw [if_neg (by omega)]; rfl), trivial⟩ (fun _ hm => hm) trivial | (exfalso; first | omega | contradiction | (simp only [if_neg (show ¬ (((xs.length - min xs.length (bringN most) : Nat) : Int) ≤ n0 ∧ n0 < xs.length) by omega), ne_eq, not_true_eq_false] at *; done) | (simp at *; omega))
          ·
            rintro ⟨⟩ -
            refine QM.then ?_
            refine wpM.condF rfl ?_
            refine wpM.skip ?_
            refine QM.then ?_
            refine wpM.seq ?_
            refine wpM.region ?_
            refine LM.val (ov_assign rfl) ?_
            refine LM.nil ?_
            refine QM.sub (e' := [(1, _), (5, _), (7, _), (11, _), (15, _)]) ⟨rfl, rfl, rfl, rfl, rfl, trivial⟩ ?_
            refine QM.then ?_
            refine wpM.seq ?_
            refine wpM.seq ?_
            refine wpM.region ?_
            first | refine LM.val (ov_idxA10 Try.underlying31 Try.sizeOf3 rfl rfl (by omega)) ?_ | refine LM.val (ov_idxA1 Try.underlying31 Try.sizeOf3 rfl rfl (by omega)) ?_
            first | refine LM.rd (om_load 0 Try.isAgg3 rfl rfl rfl) ?_ | refine LM.rd (om_load 1 Try.isAgg3 rfl rfl rfl) ?_ | refine LM.rd (om_load 2 Try.isAgg3 rfl rfl rfl) ?_ | refine LM.rd (om_load 3 Try.isAgg3 rfl rfl rfl) ?_ | refine LM.rd (om_load 4 Try.isAgg3 rfl rfl rfl) ?_ | refine LM.rd (om_load 5 Try.isAgg3 rfl rfl rfl) ?_ | refine LM.rd (om_load 6 Try.isAgg3 rfl rfl rfl) ?_ | refine LM.rd (om_load 7 Try.isAgg3 rfl rfl rfl) ?_ | refine LM.rd (om_load 8 Try.isAgg3 rfl rfl rfl) ?_
            refine LM.val (ov_move rfl) ?_
            refine LM.val (ov_len Try.underlying26 rfl) ?_
            refine LM.val (ov_min rfl rfl) ?_
            refine LM.val (ov_max rfl rfl) ?_
            refine LM.val (ov_assign rfl) ?_
            refine LM.nil ?_
            refine QM.sub (e' := [(1, _), (5, _), (7, _), (11, _), (15, _), (16, _)]) ⟨rfl, rfl, rfl, rfl, rfl, rfl, trivial⟩ ?_
            refine QM.then ?_
            refine wpM.block ?_
            refine wpM.loop (α := Int) (fun j => [(1, .slice ad xs.length cap), (5, .pointer (some ⟨b5, 0, none⟩)), (7, u24), (11, .int .i64 ((xs.length - min xs.length (bringN most) : Nat) : Int)), (15, .int .i64 (j - max (min n0 xs.length) 0)), (16, .int .i64 j)]) (fun j => (b5, .cells #[.int .i64 n0, .int .i64 n1] 31 (0, 0)) :: m) (fun j => max (min n0 xs.length) 0 ≤ j ∧ (j ≤ ((xs.length - min xs.length (bringN most) : Nat) : Int) ∨ j = max (min n0 xs.length) 0)) (fun j => (((xs.length - min xs.length (bringN most) : Nat) : Int) - j).toNat) (max (min n0 xs.length) 0) ⟨rfl, rfl, rfl, rfl, lk rfl (by congr 1; omega), lk rfl (by congr 1; omega), trivial⟩ (fun _ hm => hm) ⟨by omega, .inr rfl⟩ ?_
            rintro j ⟨hj0, hj1⟩
            refine wpM.seq ?_
            refine wpM.seq ?_
            refine wpM.region ?_
            refine LM.val (ov_move rfl) ?_
            refine LM.val (ov_move rfl) ?_
            refine LM.val (ov_lss rfl rfl) ?_
            refine LM.nil ?_
            refine QM.sub (e' := [(1, _), (5, _), (7, _), (11, _), (15, _), (16, _), (115, _)]) ⟨rfl, rfl, rfl, rfl, rfl, rfl, rfl, trivial⟩ ?_
            refine QM.then ?_
            first | refine wpM.condD rfl (fun h19 => ?_) (fun h19 => ?_) | refine wpM.condB rfl (fun h19 => ?_) (fun h19 => ?_)
            ·
              refine wpM.skip ?_
              refine QM.then ?_
              refine wpM.seq ?_
              refine wpM.block ?_
              refine wpM.region ?_
              refine LM.val (ov_move rfl) ?_
              refine LM.val (ov_add64 rfl rfl (by omega)) ?_
              refine LM.val (ov_assign rfl) ?_
              refine LM.nil ?_
              refine QM.sub (e' := [(1, _), (5, _), (7, _), (11, _), (15, _), (16, _)]) ⟨rfl, rfl, rfl, rfl, rfl, rfl, trivial⟩ ?_
              refine QM.block_normal ?_
              refine QM.then ?_
              refine wpM.region ?_
              refine LM.val (ov_move rfl) ?_
              refine LM.val (ov_add64 rfl rfl (by omega)) ?_
              refine LM.val (ov_assign rfl) ?_
              refine LM.nil ?_
              refine QM.sub (e' := [(1, _), (5, _), (7, _), (11, _), (15, _), (16, _)]) ⟨rfl, rfl, rfl, rfl, rfl, rfl, trivial⟩ ?_
              exact QM.again (j + 1) ⟨rfl, rfl, rfl, rfl, lk rfl (by congr 1; show _ = j + 1 - max (min n0 (xs.length : Int)) 0; omega), rfl, trivial⟩ (fun _ hm => hm) ⟨by omega, by omega⟩ (by omega)
            ·
              refine wpM.exit ?_
              refine QM.then_exit ?_
              refine QM.then_exit ?_
              refine QM.block_hit ?_
              refine QM.then ?_
              refine wpM.seq ?_
              refine wpM.region ?_
              first | refine LM.val (ov_idxA10 Try.underlying31 Try.sizeOf3 rfl rfl (by omega)) ?_ | refine LM.val (ov_idxA1 Try.underlying31 Try.sizeOf3 rfl rfl (by omega)) ?_
              first | refine LM.rd (om_load 0 Try.isAgg3 rfl rfl rfl) ?_ | refine LM.rd (om_load 1 Try.isAgg3 rfl rfl rfl) ?_ | refine LM.rd (om_load 2 Try.isAgg3 rfl rfl rfl) ?_ | refine LM.rd (om_load 3 Try.isAgg3 rfl rfl rfl) ?_ | refine LM.rd (om_load 4 Try.isAgg3 rfl rfl rfl) ?_ | refine LM.rd (om_load 5 Try.isAgg3 rfl rfl rfl) ?_ | refine LM.rd (om_load 6 Try.isAgg3 rfl rfl rfl) ?_ | refine LM.rd (om_load 7 Try.isAgg3 rfl rfl rfl) ?_ | refine LM.rd (om_load 8 Try.isAgg3 rfl rfl rfl) ?_
              refine LM.val (ov_move rfl) ?_
              refine LM.val (ov_max rfl rfl) ?_
              refine LM.val (ov_move rfl) ?_
              refine LM.val (ov_len Try.underlying26 rfl) ?_
              refine LM.val (ov_min rfl rfl) ?_
              refine LM.val (ov_assign rfl) ?_
              refine LM.nil ?_
              refine QM.sub (e' := [(1, _), (5, _), (7, _), (11, _), (15, _), (17, _)]) ⟨rfl, rfl, rfl, rfl, rfl, rfl, trivial⟩ ?_
              refine QM.then ?_
              refine wpM.seq ?_
              refine wpM.region ?_
              refine LM.val (ov_move rfl) ?_
              first | refine LM.val (ov_idxA10 Try.underlying31 Try.sizeOf3 rfl rfl (by omega)) ?_ | refine LM.val (ov_idxA1 Try.underlying31 Try.sizeOf3 rfl rfl (by omega)) ?_
              first | refine LM.rd (om_load 0 Try.isAgg3 rfl rfl rfl) ?_ | refine LM.rd (om_load 1 Try.isAgg3 rfl rfl rfl) ?_ | refine LM.rd (om_load 2 Try.isAgg3 rfl rfl rfl) ?_ | refine LM.rd (om_load 3 Try.isAgg3 rfl rfl rfl) ?_ | refine LM.rd (om_load 4 Try.isAgg3 rfl rfl rfl) ?_ | refine LM.rd (om_load 5 Try.isAgg3 rfl rfl rfl) ?_ | refine LM.rd (om_load 6 Try.isAgg3 rfl rfl rfl) ?_ | refine LM.rd (om_load 7 Try.isAgg3 rfl rfl rfl) ?_ | refine LM.rd (om_load 8 Try.isAgg3 rfl rfl rfl) ?_
              refine LM.callE (oc_call (enters_fn Try.func26 (by kernel_rfl) rfl) rfl) (fun w hm hc hg => ilost_call _ hn0 hR hm.tail (by omega)) ?_
              refine LM.val (ov_move rfl) ?_
              refine LM.val (ov_eql rfl rfl) ?_
              refine LM.val (ov_move rfl) ?_
              first | refine LM.splitD (t := 133) rfl (fun h20 => ?_) (fun h20 => ?_) | refine LM.splitB (t := 133) rfl (fun h20 => ?_) (fun h20 => ?_)
              ·
                refine LM.strip (t := 133) rfl rfl rfl ?_
                refine LM.val (ov_move rfl) ?_
                refine LM.strip (t := 133) rfl rfl rfl ?_
                refine LM.val (ov_move rfl) ?_
                refine LM.strip (t := 133) rfl rfl rfl ?_
                refine LM.val (ov_move rfl) ?_
                refine LM.strip (t := 133) rfl rfl rfl ?_
                refine LM.callE (oc_call (enters_fn Try.func24 (by kernel_rfl) rfl) rfl) (fun w hm hc hg => kept_call _ _ hR hm.tail (by omega) hbr.1 (hl.ext hc) (by omega) (by omega)) ?_
                refine LM.val (ov_pickT rfl rfl) ?_
                refine LM.val (ov_move rfl) ?_
                first | refine LM.splitD (t := 139) rfl (fun h21 => ?_) (fun h21 => ?_) | refine LM.splitB (t := 139) rfl (fun h21 => ?_) (fun h21 => ?_)
                ·
                  refine LM.strip (t := 139) rfl rfl rfl ?_
                  refine LM.val (ov_move rfl) ?_
                  refine LM.strip (t := 139) rfl rfl rfl ?_
                  refine LM.val (ov_move rfl) ?_
                  refine LM.strip (t := 139) rfl rfl rfl ?_
                  refine LM.val (ov_move rfl) ?_
                  refine LM.strip (t := 139) rfl rfl rfl ?_
                  refine LM.val (ov_move rfl) ?_
                  refine LM.strip (t := 139) rfl rfl rfl ?_
                  refine LM.val (ov_add64 rfl rfl (by omega)) ?_
                  refine LM.strip (t := 139) rfl rfl rfl ?_
                  refine LM.callE (oc_call (enters_fn Try.func24 (by kernel_rfl) rfl) rfl) (fun w hm hc hg => kept_call _ _ hR hm.tail (by omega) hbr.1 (hl.ext hc) (by omega) (by omega)) ?_
                  refine LM.val (ov_pickT rfl rfl) ?_
                  refine LM.val (ov_move rfl) ?_
                  first | refine LM.splitD (t := 147) rfl (fun h22 => ?_) (fun h22 => ?_) | refine LM.splitB (t := 147) rfl (fun h22 => ?_) (fun h22 => ?_)
                  ·
                    refine LM.strip (t := 147) rfl rfl rfl ?_
                    refine LM.val (ov_move rfl) ?_
                    refine LM.strip (t := 147) rfl rfl rfl ?_
                    refine LM.val (ov_move rfl) ?_
                    refine LM.strip (t := 147) rfl rfl rfl ?_
                    refine LM.val (ov_move rfl) ?_
                    refine LM.strip (t := 147) rfl rfl rfl ?_
                    refine LM.callE (oc_call (enters_fn Try.func27 (by kernel_rfl) rfl) rfl) (fun w hm hc hg => back_call hR hm.tail (by omega) hbr.1 (hl.ext hc)) ?_
                    refine LM.val (ov_pickT rfl rfl) ?_
                    refine LM.val (ov_assign rfl) ?_
                    refine LM.nil ?_
                    refine QM.sub (e' := [(6, _)]) ⟨rfl, trivial⟩ ?_
                    refine QM.then ?_
                    refine wpM.ret ?_
                    refine QM.leave (.inl rfl) [.tmp 6] Try.results5 rfl ?_
                    intro w' hm' hc' hg'
                    -- leaf 11: h1- h2- h3- h8- h18- h19- h20+ h21+ h22+
                    first | exact ⟨rfl, hc'⟩ | (exfalso; first | omega | contradiction | (simp at *; omega))
                  ·
                    refine LM.drop (t := 147) rfl rfl rfl ?_
                    refine LM.drop (t := 147) rfl rfl rfl ?_
                    refine LM.drop (t := 147) rfl rfl rfl ?_
                    refine LM.drop (t := 147) rfl rfl rfl ?_
                    refine LM.val (ov_pickF rfl rfl) ?_
                    refine LM.val (ov_assign rfl) ?_
                    refine LM.nil ?_
                    refine QM.sub (e' := [(6, _)]) ⟨rfl, trivial⟩ ?_
                    refine QM.then ?_
                    refine wpM.ret ?_
                    refine QM.leave (.inl rfl) [.tmp 6] Try.results5 rfl ?_
                    intro w' hm' hc' hg'
                    -- leaf 12: h1- h2- h3- h8- h18- h19- h20+ h21+ h22-
                    first | exact ⟨rfl, hc'⟩ | (exfalso; first | omega | contradiction | (simp at *; omega))
                ·
                  refine LM.drop (t := 139) rfl rfl rfl ?_
                  refine LM.drop (t := 139) rfl rfl rfl ?_
                  refine LM.drop (t := 139) rfl rfl rfl ?_
                  refine LM.drop (t := 139) rfl rfl rfl ?_
                  refine LM.drop (t := 139) rfl rfl rfl ?_
                  refine LM.drop (t := 139) rfl rfl rfl ?_
                  refine LM.val (ov_pickF rfl rfl) ?_
                  refine LM.val (ov_move rfl) ?_
                  refine LM.drop (t := 147) rfl rfl rfl ?_
                  refine LM.drop (t := 147) rfl rfl rfl ?_
                  refine LM.drop (t := 147) rfl rfl rfl ?_
                  refine LM.drop (t := 147) rfl rfl rfl ?_
                  refine LM.val (ov_pickF rfl rfl) ?_
                  refine LM.val (ov_assign rfl) ?_
                  refine LM.nil ?_
                  refine QM.sub (e' := [(6, _)]) ⟨rfl, trivial⟩ ?_
                  refine QM.then ?_
                  refine wpM.ret ?_
                  refine QM.leave (.inl rfl) [.tmp 6] Try.results5 rfl ?_
                  intro w' hm' hc' hg'
                  -- leaf 13: h1- h2- h3- h8- h18- h19- h20+ h21-
                  first | exact ⟨rfl, hc'⟩ | (exfalso; first | omega | contradiction | (simp at *; omega))
              ·
                refine LM.drop (t := 133) rfl rfl rfl ?_
                refine LM.drop (t := 133) rfl rfl rfl ?_
                refine LM.drop (t := 133) rfl rfl rfl ?_
                refine LM.drop (t := 133) rfl rfl rfl ?_
                refine LM.val (ov_pickF rfl rfl) ?_
                refine LM.val (ov_move rfl) ?_
                refine LM.drop (t := 139) rfl rfl rfl ?_
                refine LM.drop (t := 139) rfl rfl rfl ?_
                refine LM.drop (t := 139) rfl rfl rfl ?_
                refine LM.drop (t := 139) rfl rfl rfl ?_
                refine LM.drop (t := 139) rfl rfl rfl ?_
                refine LM.drop (t := 139) rfl rfl rfl ?_
                refine LM.val (ov_pickF rfl rfl) ?_
                refine LM.val (ov_move rfl) ?_
                refine LM.drop (t := 147) rfl rfl rfl ?_
                refine LM.drop (t := 147) rfl rfl rfl ?_
                refine LM.drop (t := 147) rfl rfl rfl ?_
                refine LM.drop (t := 147) rfl rfl rfl ?_
                refine LM.val (ov_pickF rfl rfl) ?_
                refine LM.val (ov_assign rfl) ?_
                refine LM.nil ?_
                refine QM.sub (e' := [(6, _)]) ⟨rfl, trivial⟩ ?_
                refine QM.then ?_
                refine wpM.ret ?_
                refine QM.leave (.inl rfl) [.tmp 6] Try.results5 rfl ?_
                intro w' hm' hc' hg'
                -- leaf 14: h1- h2- h3- h8- h18- h19- h20-
                first | exact ⟨rfl, hc'⟩ | (exfalso; first | omega | contradiction | (simp at *; omega))

end Go.Eng

