/-
A part of the proof of a law: sb p, sb s, sb u, sb m, sb n, sb b.
-/
import Derived.Test.YtdlijnfdkeimlaaDoorAmSgrBetweenRow4
set_option linter.all false
namespace Go.Proofs.YtdlijnfdkeimlaaDoor.Am.Esc
open Go.Proofs.YtdlijnfdkeimlaaDoor.Am.T
noncomputable def slices_Repeat_31 (x : List Int) (n : Int) : Option (List Int) := match x with
 | [r] => if 0 ≤ n ∧ n ≤ 3 then some (List.replicate n.toNat r) else none
 | _ => none
theorem slices_Repeat_31_ok {x : List Int} {n : Int} {r : List Int} (h : slices_Repeat_31 x n = some r) : CallT true (RF ET) 105 [.sl false 1 (List.map ei32 x), .int .i64 n] [] (.sl true 1 (List.map ei32 r)) [] := by
 unfold slices_Repeat_31 at h
 split at h
 ·rename_i c
  split at h
  ·rename_i hc
   cases h
   refine CallT.pure fun ρ m a ha => ?_
   obtain ⟨y, _, rfl, hy, ha⟩ := pw_cons ha
   obtain ⟨z, _, rfl, hz, ha⟩ := pw_cons ha
   rw [pw_nil ha, hz.int_inv]
   rcases den_sl hy with ⟨rfl, e⟩ | ⟨ys, rfl, hp⟩
   ·simp at e
   ·have hp : Pw (Pw Den0) [[.int .i32 c]] ys := hp
    cases hp with
    | cons h1 h2 =>
     cases h2
     cases h1 with
     | cons h3 h4 =>
      cases h4
      cases h3
      refine ⟨.slice true 1 (List.replicate n.toNat [.int .i32 c]), RF_ext rfl ?_, .base (.sl _ _ ?_)⟩
      ·exact if_pos hc
      ·rw [List.map_replicate]
       exact Pw.replicate (.cons (.int _ _) .nil) _
  ·cases h
 ·cases h
def digL (i : Int) : List Int := (Lib.decDigits i.toNat).map fun b => (b.toNat : Int)
noncomputable def strconv_AppendUint (dst : List Int) (i base : Int) : Option (List Int) := if base = 10 ∧ (0 ≤ i ∧ i < 18446744073709551616) ∧ dst.length + 20 ≤ most then some (dst ++ digL i) else none
theorem pw_digs (i : Int) : Pw (Pw Den0) ((digL i).map by8) (digs i) := by
 unfold digL digs
 rw [List.map_map]
 induction Lib.decDigits i.toNat with
 | nil => exact .nil
 | cons a l ih => exact .cons (.cons (.int _ _) .nil) ih
theorem strconv_AppendUint_ok {dst : List Int} {i base : Int} {r : List Int} (h : strconv_AppendUint dst i base = some r) : CallT true (RF ET) 129 [.sl true 1 (List.map by8 dst), .int .u64 i, .int .i64 base] [] (.sl true 1 (List.map by8 r)) [] := by
 unfold strconv_AppendUint at h
 split at h
 ·rename_i hc
  obtain ⟨rfl, h0, hl⟩ := hc
  cases h
  refine CallT.pure fun ρ m a ha => ?_
  obtain ⟨y, _, rfl, hy, ha⟩ := pw_cons ha
  obtain ⟨z, _, rfl, hz, ha⟩ := pw_cons ha
  obtain ⟨z2, _, rfl, hz2, ha⟩ := pw_cons ha
  rw [pw_nil ha, hz.int_inv, hz2.int_inv]
  rcases den_sl hy with ⟨rfl, e⟩ | ⟨ys, rfl, hp⟩
  ·have e2 : dst = [] := by simpa using e
   subst e2
   exact ⟨.slice true 1 (digs i), RF_ext rfl (if_pos h0), .base (.sl _ _ (pw_digs i))⟩
  ·have hp : Pw (Pw Den0) (dst.map by8) ys := hp
   have hlen : dst.length = ys.length := by simpa using hp.length
   refine ⟨.slice true 1 (ys ++ digs i), RF_ext rfl (if_pos ⟨h0, by omega⟩), .base (.sl _ _ ?_)⟩
   rw [List.map_append]
   exact hp.append (pw_digs i)
 ·cases h
def casementlaw05_alive : Option Bool := some true
theorem casementlaw05_alive_ok {r : Bool} (h : casementlaw05_alive = some r) : CallT true (RF ET) 9 [] [] (.bool r) [] := by
 cases h
 exact CallT.alive fun m => RF_ext rfl rfl
noncomputable def sgr_colour (n : Int) : Option Bool :=
 letB (decide (n ≥ 0)) fun c1 =>
 (bif c1 then (
  letB (decide (n ≤ 256)) fun c3 =>
  some (c3)) else some false).bind fun g2 =>
 (bif g2 then some true else (
  letB (decide (n ≥ 16777216)) fun c6 =>
  (bif c6 then (
   letB (decide (n < 33554432)) fun c8 =>
   some (c8)) else some false).bind fun g7 =>
  some (g7))).bind fun g5 =>
 some g5
set_option maxRecDepth 20000 in
theorem sgr_colour_ok {n : Int} {r : Bool} (h : sgr_colour n = some r) : CallT true (RF ET) 78 [.int .i64 n] [] (.bool r) [] := by
 refine CallT.quiet (con_low (af := a78) rfl rfl ?_) rfl
 unfold sgr_colour at h
 refine WP_seq ?_
 refine WP_reg [0] [] ?_
 refine WPO_f ?_
 refine WP_seq ?_
 refine WP_reg [2] [] ?_
 refine WPO_then 3 ?_
 refine WPO_f ?_
 refine fun c1 hc1 => ?_
 replace h := letB_inv hc1 h
 obtain ⟨g2, hg2, h⟩ := bind_inv h
 refine WPO_grp 3 8 [0, 8] g2 ?_ ?_
 ·clear h
  replace h := hg2
  clear hg2
  cases hb4 : c1 with
  | true =>
   replace h := bif_t hb4 h
   refine WPO_f ?_
   refine fun c3 hc3 => ?_
   replace h := letB_inv hc3 h
   cases h
   exact ⟨rfl, rfl, rfl⟩
  | false =>
   replace h := bif_f hb4 h
   cases h
   refine WPO_f ?_
   exact ⟨rfl, rfl, rfl⟩
 refine WPO_then 1 ?_
 refine WPO_f ?_
 obtain ⟨g5, hg5, h⟩ := bind_inv h
 refine WPO_grp 7 16 [16] g5 ?_ ?_
 ·clear h
  replace h := hg5
  clear hg5
  cases hb10 : g2 with
  | false =>
   replace h := bif_f hb10 h
   refine WPO_then 3 ?_
   refine WPO_f ?_
   refine fun c6 hc6 => ?_
   replace h := letB_inv hc6 h
   obtain ⟨g7, hg7, h⟩ := bind_inv h
   refine WPO_grp 3 15 [9, 15] g7 ?_ ?_
   ·clear h
    replace h := hg7
    clear hg7
    cases hb9 : c6 with
    | true =>
     replace h := bif_t hb9 h
     refine WPO_f ?_
     refine fun c8 hc8 => ?_
     replace h := letB_inv hc8 h
     cases h
     exact ⟨rfl, rfl, rfl⟩
    | false =>
     replace h := bif_f hb9 h
     cases h
     refine WPO_f ?_
     exact ⟨rfl, rfl, rfl⟩
   refine WPO_f ?_
   cases h
   exact ⟨rfl, rfl, rfl⟩
  | true =>
   replace h := bif_t hb10 h
   cases h
   refine WPO_f ?_
   exact ⟨rfl, rfl, rfl⟩
 refine WPO_f ?_
 refine WP_ret ?_
 cases h
 exact ⟨rfl, rfl, rfl, rfl, rfl⟩
structure Style where
 Fg : Int
 Bg : Int
 Attr : Int
def Style.c (x : Style) : List TV := [.int .i64 x.Fg, .int .i64 x.Bg, .int .i64 x.Attr]
noncomputable def sgr_Right (s_ : Style) : Option Bool :=
 (sgr_colour s_.Fg).bind fun y1 =>
 (bif y1 then (
  (sgr_colour s_.Bg).bind fun y3 =>
  some (y3)) else some false).bind fun g2 =>
 (bif g2 then (
  letB (decide ((iAndNot .i64 s_.Attr 31) = 0)) fun c6 =>
  some (c6)) else some false).bind fun g5 =>
 some g5
set_option maxRecDepth 20000 in
theorem sgr_Right_ok {s_ : Style} {r : Bool} (h : sgr_Right s_ = some r) : CallT true (RF ET) 37 [.agg (Style.c s_)] [] (.bool r) [] := by
 refine CallT.quiet (con_low (af := a37) rfl rfl ?_) rfl
 unfold sgr_Right at h
 refine WP_seq ?_
 refine WP_reg [1] [0] ?_
 refine WPO_f ?_
 refine WP_seq ?_
 refine WP_reg [2] [0] ?_
 refine WPO_then 4 ?_
 refine WPO_f ?_
 obtain ⟨y1, hy1, h⟩ := bind_inv h
 refine ⟨_, _, CallT.any (sgr_colour_ok hy1) rfl _ rfl, ?_⟩
 obtain ⟨g2, hg2, h⟩ := bind_inv h
 refine WPO_grp 4 10 [1, 10] g2 ?_ ?_
 ·clear h
  replace h := hg2
  clear hg2
  cases hb4 : y1 with
  | true =>
   replace h := bif_t hb4 h
   refine WPO_f ?_
   obtain ⟨y3, hy3, h⟩ := bind_inv h
   refine ⟨_, _, CallT.any (sgr_colour_ok hy3) rfl _ rfl, ?_⟩
   cases h
   exact ⟨rfl, rfl, rfl⟩
  | false =>
   replace h := bif_f hb4 h
   cases h
   refine WPO_f ?_
   exact ⟨rfl, rfl, rfl⟩
 refine WPO_then 1 ?_
 refine WPO_f ?_
 obtain ⟨g5, hg5, h⟩ := bind_inv h
 refine WPO_grp 5 16 [16] g5 ?_ ?_
 ·clear h
  replace h := hg5
  clear hg5
  cases hb7 : g2 with
  | true =>
   replace h := bif_t hb7 h
   refine WPO_f ?_
   refine fun c6 hc6 => ?_
   replace h := letB_inv hc6 h
   cases h
   exact ⟨rfl, rfl, rfl⟩
  | false =>
   replace h := bif_f hb7 h
   cases h
   refine WPO_f ?_
   exact ⟨rfl, rfl, rfl⟩
 refine WPO_f ?_
 refine WP_ret ?_
 cases h
 exact ⟨rfl, rfl, rfl, rfl, rfl⟩
noncomputable def sgr_clean (s_ : Style) : Option Style :=
 (sgr_Right s_).bind fun y1 =>
 bif (!y1) then (
  some (Style.mk 0 0 0))
 else (
  some s_)
set_option maxRecDepth 20000 in
theorem sgr_clean_ok {s_ : Style} {r : Style} (h : sgr_clean s_ = some r) : CallT true (RF ET) 38 [.agg (Style.c s_)] [] (.agg (Style.c r)) [] := by
 refine CallT.quiet (con_low (af := a38) rfl rfl ?_) rfl
 unfold sgr_clean at h
 refine WP_seq ?_
 refine WP_reg [1, 2] [0, 1] ?_
 refine WPO_f ?_
 refine WP_seq ?_
 refine WP_seq ?_
 refine WP_reg [1, 2, 5] [0, 1] ?_
 refine WPO_f ?_
 obtain ⟨y1, hy1, h⟩ := bind_inv h
 refine ⟨_, _, CallT.any (sgr_Right_ok hy1) rfl _ rfl, ?_⟩
 refine WP_cond (b := (!y1)) rfl (fun hb2 => ?_) (fun hb2 => ?_)
 ·replace h := bif_t hb2 h
  refine WP_seq ?_
  refine WP_reg [2] [0, 1] ?_
  refine WPO_f ?_
  refine WP_ret ?_
  cases h
  exact ⟨rfl, rfl, rfl, rfl, rfl⟩
 ·replace h := bif_f hb2 h
  refine WP_skip ?_
  refine WP_seq ?_
  refine WP_reg [2] [0, 1] ?_
  refine WPO_f ?_
  refine WP_ret ?_
  cases h
  exact ⟨rfl, rfl, rfl, rfl, rfl⟩
noncomputable def sgr_mark (n : Int) : Option Int :=
 letB (decide (n = 1)) fun c1 =>
 bif c1 then (
  some 1)
 else (
  letB (decide (n = 2)) fun c3 =>
  bif c3 then (
   some 2)
  else (
   letB (decide (n = 3)) fun c5 =>
   bif c5 then (
    some 4)
   else (
    letB (decide (n = 4)) fun c7 =>
    bif c7 then (
     some 8)
    else (
     letB (decide (n = 7)) fun c9 =>
     bif c9 then (
      some 16)
     else (
      some 0)))))
set_option maxRecDepth 20000 in
theorem sgr_mark_ok {n : Int} {r : Int} (h : sgr_mark n = some r) : CallT true (RF ET) 76 [.int .i64 n] [] (.int .i64 r) [] := by
 refine CallT.quiet (con_low (af := a76) rfl rfl ?_) rfl
 unfold sgr_mark at h
 refine WP_seq ?_
 refine WP_reg [0] [] ?_
 refine WPO_f ?_
 refine WP_seq ?_
 refine WP_seq ?_
 refine WP_reg [3] [] ?_
 refine WPO_f ?_
 refine WP_block ?_
 refine WP_seq ?_
 refine WP_reg [3, 4] [] ?_
 refine WPO_f ?_
 refine fun c1 hc1 => ?_
 replace h := letB_inv hc1 h
 refine WP_cond (b := c1) rfl (fun hb2 => ?_) (fun hb2 => ?_)
 ·replace h := bif_t hb2 h
  refine WP_seq ?_
  refine WP_reg [2] [] ?_
  refine WPO_f ?_
  refine WP_ret ?_
  cases h
  exact ⟨rfl, rfl, rfl, rfl, rfl⟩
 ·replace h := bif_f hb2 h
  refine WP_seq ?_
  refine WP_reg [3, 6] [] ?_
  refine WPO_f ?_
  refine fun c3 hc3 => ?_
  replace h := letB_inv hc3 h
  refine WP_cond (b := c3) rfl (fun hb4 => ?_) (fun hb4 => ?_)
  ·replace h := bif_t hb4 h
   refine WP_seq ?_
   refine WP_reg [2] [] ?_
   refine WPO_f ?_
   refine WP_ret ?_
   cases h
   exact ⟨rfl, rfl, rfl, rfl, rfl⟩
  ·replace h := bif_f hb4 h
   refine WP_seq ?_
   refine WP_reg [3, 8] [] ?_
   refine WPO_f ?_
   refine fun c5 hc5 => ?_
   replace h := letB_inv hc5 h
   refine WP_cond (b := c5) rfl (fun hb6 => ?_) (fun hb6 => ?_)
   ·replace h := bif_t hb6 h
    refine WP_seq ?_
    refine WP_reg [2] [] ?_
    refine WPO_f ?_
    refine WP_ret ?_
    cases h
    exact ⟨rfl, rfl, rfl, rfl, rfl⟩
   ·replace h := bif_f hb6 h
    refine WP_seq ?_
    refine WP_reg [3, 10] [] ?_
    refine WPO_f ?_
    refine fun c7 hc7 => ?_
    replace h := letB_inv hc7 h
    refine WP_cond (b := c7) rfl (fun hb8 => ?_) (fun hb8 => ?_)
    ·replace h := bif_t hb8 h
     refine WP_seq ?_
     refine WP_reg [2] [] ?_
     refine WPO_f ?_
     refine WP_ret ?_
     cases h
     exact ⟨rfl, rfl, rfl, rfl, rfl⟩
    ·replace h := bif_f hb8 h
     refine WP_seq ?_
     refine WP_reg [12] [] ?_
     refine WPO_f ?_
     refine fun c9 hc9 => ?_
     replace h := letB_inv hc9 h
     refine WP_cond (b := c9) rfl (fun hb10 => ?_) (fun hb10 => ?_)
     ·replace h := bif_t hb10 h
      refine WP_seq ?_
      refine WP_reg [2] [] ?_
      refine WPO_f ?_
      refine WP_ret ?_
      cases h
      exact ⟨rfl, rfl, rfl, rfl, rfl⟩
     ·replace h := bif_f hb10 h
      refine WP_skip ?_
      refine WP_seq ?_
      refine WP_reg [2] [] ?_
      refine WPO_f ?_
      refine WP_ret ?_
      cases h
      exact ⟨rfl, rfl, rfl, rfl, rfl⟩
noncomputable def sgr_numbers (n : Int) (short : Int) (long : Int) : Option (List Int) :=
 letB (decide (n = 0)) fun c1 =>
 bif c1 then (
  some [])
 else (
  letB (decide (n ≤ 8)) fun c3 =>
  bif c3 then (
   some [w64 ((w64 (short + n)) - 1)])
  else (
   letB (decide (n ≤ 256)) fun c5 =>
   bif c5 then (
    some [long, 5, w64 (n - 1)])
   else (
    some [long, 2, iAnd .i64 (iShr .i64 n 16) 255, iAnd .i64 (iShr .i64 n 8) 255, iAnd .i64 n 255])))
set_option maxRecDepth 20000 in
theorem sgr_numbers_ok {n : Int} {short : Int} {long : Int} {r : List Int} (h : sgr_numbers n short long = some r) : CallT true (RF ET) 77 [.int .i64 n, .int .i64 short, .int .i64 long] [] (.sl true 1 (List.map ei64 r)) [] := by
 refine CallT.quiet (con_low (af := a77) rfl rfl ?_) rfl
 unfold sgr_numbers at h
 refine WP_seq ?_
 refine WP_reg [0, 1, 2] [] ?_
 refine WPO_f ?_
 refine ⟨.sl true 1 [], .sl _ _, ?_⟩
 refine WP_seq ?_
 refine WP_block ?_
 refine WP_seq ?_
 refine WP_reg [0, 1, 2, 7] [] ?_
 refine WPO_f ?_
 refine fun c1 hc1 => ?_
 replace h := letB_inv hc1 h
 refine WP_cond (b := c1) rfl (fun hb2 => ?_) (fun hb2 => ?_)
 ·replace h := bif_t hb2 h
  refine WP_seq ?_
  refine WP_reg [6] [] ?_
  refine WPO_f ?_
  refine ⟨.sl true 1 [], .sl _ _, ?_⟩
  refine WP_ret ?_
  cases h
  exact ⟨rfl, rfl, rfl, rfl, rfl⟩
 ·replace h := bif_f hb2 h
  refine WP_seq ?_
  refine WP_reg [0, 1, 2, 10] [] ?_
  refine WPO_f ?_
  refine fun c3 hc3 => ?_
  replace h := letB_inv hc3 h
  refine WP_cond (b := c3) rfl (fun hb4 => ?_) (fun hb4 => ?_)
  ·replace h := bif_t hb4 h
   refine WP_seq ?_
   refine WP_reg [6] [] ?_
   refine WPO_f ?_
   refine ⟨List.map ei64 ([w64 ((w64 (short + n)) - 1)] : List Int), rfl, ?_⟩
   refine WP_ret ?_
   cases h
   exact ⟨rfl, rfl, rfl, rfl, rfl⟩
  ·replace h := bif_f hb4 h
   refine WP_seq ?_
   refine WP_reg [0, 2, 18] [] ?_
   refine WPO_f ?_
   refine fun c5 hc5 => ?_
   replace h := letB_inv hc5 h
   refine WP_cond (b := c5) rfl (fun hb6 => ?_) (fun hb6 => ?_)
   ·replace h := bif_t hb6 h
    refine WP_seq ?_
    refine WP_reg [6] [] ?_
    refine WPO_f ?_
    refine ⟨List.map ei64 ([long, 5, w64 (n - 1)] : List Int), rfl, ?_⟩
    refine WP_ret ?_
    cases h
    exact ⟨rfl, rfl, rfl, rfl, rfl⟩
   ·replace h := bif_f hb6 h
    refine WP_skip ?_
    refine WP_seq ?_
    refine WP_reg [6] [] ?_
    refine WPO_f ?_
    refine And.intro (by decide) ?_
    refine And.intro (by decide) ?_
    refine ⟨List.map ei64 ([long, 2, iAnd .i64 (iShr .i64 n 16) 255, iAnd .i64 (iShr .i64 n 8) 255, iAnd .i64 n 255] : List Int), rfl, ?_⟩
    refine WP_ret ?_
    cases h
    exact ⟨rfl, rfl, rfl, rfl, rfl⟩
noncomputable def sgr_Params_l1 (y1 : Style) (out : List Int) (t11 : Int) : Option ((List Int × Int) ⊕ List Int) :=
 letB (decide (t11 < ([1, 2, 3, 4, 7].length : Int))) fun c2 =>
 bif c2 then (
  Option.bind (
   (idx [1, 2, 3, 4, 7] t11).bind fun x4 =>
   (sgr_mark x4).bind fun y5 =>
   letB (decide ((iAnd .i64 y1.Attr y5) ≠ 0)) fun c6 =>
   Option.bind (
    bif c6 then (
     (app out [x4]).bind fun x8 =>
     some (x8))
    else (
     some (out)) : Option (List Int)) fun j9 =>
   some (j9) : Option (List Int)) fun j10 =>
  some (.inl (j10, w64 (t11 + 1))))
 else (
  some (.inr out))
noncomputable def sgr_Params (s_ : Style) : Option (List Int) :=
 (sgr_clean s_).bind fun y1 =>
 (iter (fun s => sgr_Params_l1 y1 s.1 s.2 : (List Int × Int) → Option ((List Int × Int) ⊕ List Int)) ([0], 0)).bind fun j11 =>
 (sgr_numbers y1.Fg 30 38).bind fun y12 =>
 (app j11 y12).bind fun x13 =>
 (sgr_numbers y1.Bg 40 48).bind fun y14 =>
 (app x13 y14).bind fun x15 =>
 some x15
set_option maxRecDepth 20000 in
theorem sgr_Params_ok {s_ : Style} {r : List Int} (h : sgr_Params s_ = some r) : CallT true (RF ET) 36 [.agg (Style.c s_)] [] (.sl true 1 (List.map ei64 r)) [] := by
 refine CallT.quiet (con_low (af := a36) rfl rfl ?_) rfl
 unfold sgr_Params at h
 refine WP_seq ?_
 refine WP_reg [1] [0] ?_
 refine WPO_f ?_
 refine ⟨.sl false 1 [], .sl _ _, ?_⟩
 refine WP_seq ?_
 refine WP_reg [1] [0] ?_
 refine WPO_f ?_
 obtain ⟨y1, hy1, h⟩ := bind_inv h
 refine ⟨_, _, CallT.any (sgr_clean_ok hy1) rfl _ rfl, ?_⟩
 refine WP_seq ?_
 refine WP_reg [1, 3] [0] ?_
 refine WPO_f ?_
 refine ⟨List.map ei64 ([0] : List Int), rfl, ?_⟩
 refine WP_seq ?_
 refine WP_seq ?_
 refine WP_reg [1, 3, 9, 10, 11] [0] ?_
 refine WPO_f ?_
 refine ⟨List.map ei64 ([1, 2, 3, 4, 7] : List Int), rfl, ?_⟩
 refine ⟨_, (List.length_map ..).symm, ?_⟩
 refine WP_block ?_
 obtain ⟨j11, hj11, h⟩ := bind_inv h
 refine WP_iter hj11 [0] (fun s => ([(1, .loc 0 0), (3, .sl true 1 (List.map ei64 s.1)), (9, .sl true 1 (List.map ei64 [1, 2, 3, 4, 7])), (10, .int .i64 ([1, 2, 3, 4, 7].length : Int)), (11, .int .i64 s.2)], [(0, (Style.c y1))], [])) (fun _ => [1, 3]) (fun _ => [0]) (fun z => (.exit 0, [(1, .loc 0 0), (3, .sl true 1 (List.map ei64 z))], [(0, (Style.c y1))], [])) ?_ ?_ ?_
 ·exact rfl
 ·clear h
  rintro ⟨out, t11⟩ x h
  replace h : sgr_Params_l1 y1 out t11 = some x := h
  unfold sgr_Params_l1 at h
  show T.WP _ _ [(1, .loc 0 0), (3, .sl true 1 (List.map ei64 out)), (9, .sl true 1 (List.map ei64 [1, 2, 3, 4, 7])), (10, .int .i64 ([1, 2, 3, 4, 7].length : Int)), (11, .int .i64 t11)] [(0, (Style.c y1))] [] _
  refine WP_seq ?_
  refine WP_reg [1, 3, 9, 10, 11, 12] [0] ?_
  refine WPO_f ?_
  refine fun c2 hc2 => ?_
  replace h := letB_inv hc2 h
  refine WP_seq ?_
  refine WP_cond (b := c2) rfl (fun hb3 => ?_) (fun hb3 => ?_)
  ·replace h := bif_t hb3 h
   refine WP_skip ?_
   refine WP_seq ?_
   obtain ⟨j10, hj10, h⟩ := bind_inv h
   refine WP_cut j10 (fun z => (.normal, [(1, .loc 0 0), (3, .sl true 1 (List.map ei64 z)), (9, .sl true 1 (List.map ei64 [1, 2, 3, 4, 7])), (10, .int .i64 ([1, 2, 3, 4, 7].length : Int)), (11, .int .i64 t11)], [(0, (Style.c y1))], [])) (fun _ => [1, 3, 9, 10, 11]) (fun _ => [0]) ?_ ?_
   ·clear h
    replace h := hj10
    clear hj10
    refine WP_block ?_
    refine WP_seq ?_
    refine WP_reg [1, 3, 5, 9, 10, 11] [0] ?_
    refine WPO_f ?_
    obtain ⟨x4, hx4, h⟩ := bind_inv h
    refine And.intro (idx_len ei64 hx4) ?_
    refine ⟨_, idx_get ei64 hx4, ?_⟩
    refine WP_seq ?_
    refine WP_reg [1, 3, 5, 9, 10, 11, 20] [0] ?_
    refine WPO_t ?_
    obtain ⟨y5, hy5, h⟩ := bind_inv h
    refine ⟨_, _, CallT.any (sgr_mark_ok hy5) rfl _ rfl, ?_⟩
    refine fun c6 hc6 => ?_
    replace h := letB_inv hc6 h
    obtain ⟨j9, hj9, h⟩ := bind_inv h
    refine WP_cut j9 (fun z => (.normal, [(1, .loc 0 0), (3, .sl true 1 (List.map ei64 z)), (9, .sl true 1 (List.map ei64 [1, 2, 3, 4, 7])), (10, .int .i64 ([1, 2, 3, 4, 7].length : Int)), (11, .int .i64 t11)], [(0, (Style.c y1))], [])) (fun _ => [1, 3, 9, 10, 11]) (fun _ => [0]) ?_ ?_
    ·clear h
     replace h := hj9
     clear hj9
     refine WP_cond (b := c6) rfl (fun hb7 => ?_) (fun hb7 => ?_)
     ·replace h := bif_t hb7 h
      refine WP_reg [1, 3, 9, 10, 11] [0] ?_
      refine WPO_f ?_
      refine ⟨List.map ei64 ([x4] : List Int), rfl, ?_⟩
      obtain ⟨x8, hx8, h⟩ := bind_inv h
      refine And.intro (app_le ei64 hx8) ⟨_, app_eq ei64 hx8, ?_⟩
      cases h
      exact rfl
     ·replace h := bif_f hb7 h
      refine WP_skip ?_
      cases h
      exact rfl
    cases h
    exact rfl
   refine WP_reg [1, 3, 9, 10, 11] [0] ?_
   refine WPO_f ?_
   cases h
   exact ⟨_, rfl, rfl⟩
  ·replace h := bif_f hb3 h
   refine WP_exit ?_
   cases h
   exact ⟨_, rfl, rfl⟩
 refine WP_seq ?_
 refine WP_reg [1, 3] [0] ?_
 refine WPO_f ?_
 obtain ⟨y12, hy12, h⟩ := bind_inv h
 refine ⟨_, _, CallT.any (sgr_numbers_ok hy12) rfl _ rfl, ?_⟩
 obtain ⟨x13, hx13, h⟩ := bind_inv h
 refine And.intro (app_le ei64 hx13) ⟨_, app_eq ei64 hx13, ?_⟩
 refine WP_seq ?_
 refine WP_reg [2] [0] ?_
 refine WPO_f ?_
 obtain ⟨y14, hy14, h⟩ := bind_inv h
 refine ⟨_, _, CallT.any (sgr_numbers_ok hy14) rfl _ rfl, ?_⟩
 obtain ⟨x15, hx15, h⟩ := bind_inv h
 refine And.intro (app_le ei64 hx15) ⟨_, app_eq ei64 hx15, ?_⟩
 refine WP_ret ?_
 cases h
 exact ⟨rfl, rfl, rfl, rfl, rfl⟩
noncomputable def internal_strconv_AppendInt (dst : List Int) (i : Int) (base : Int) : Option (List Int) :=
 letB (decide (i < 0)) fun c1 =>
 Option.bind (
  bif c1 then (
   (app dst [45]).bind fun x3 =>
   some ((x3, wu64 (0 - (wu64 i)))))
  else (
   some ((dst, wu64 i))) : Option (List Int × Int)) fun j4 =>
 (strconv_AppendUint j4.1 j4.2 base).bind fun y5 =>
 some y5
set_option maxRecDepth 20000 in
theorem internal_strconv_AppendInt_ok {dst : List Int} {i : Int} {base : Int} {r : List Int} (h : internal_strconv_AppendInt dst i base = some r) : CallT true (RF ET) 104 [.sl true 1 (List.map by8 dst), .int .i64 i, .int .i64 base] [] (.sl true 1 (List.map by8 r)) [] := by
 refine CallT.quiet (con_low (af := a104) rfl rfl ?_) rfl
 unfold internal_strconv_AppendInt at h
 refine WP_seq ?_
 refine WP_reg [0, 1, 2] [] ?_
 refine WPO_f ?_
 refine ⟨.sl false 1 [], .sl _ _, ?_⟩
 refine WP_seq ?_
 refine WP_reg [0, 1, 2, 7] [] ?_
 refine WPO_f ?_
 refine WP_seq ?_
 refine WP_seq ?_
 refine WP_reg [0, 2, 7, 11] [] ?_
 refine WPO_f ?_
 refine fun c1 hc1 => ?_
 replace h := letB_inv hc1 h
 obtain ⟨j4, hj4, h⟩ := bind_inv h
 refine WP_cut j4 (fun z => (.normal, [(0, .sl true 1 (List.map by8 z.1)), (2, .int .i64 base), (7, .int .u64 z.2)], [], [])) (fun _ => [0, 2, 7]) (fun _ => []) ?_ ?_
 ·clear h
  replace h := hj4
  clear hj4
  refine WP_cond (b := c1) rfl (fun hb2 => ?_) (fun hb2 => ?_)
  ·replace h := bif_t hb2 h
   refine WP_seq ?_
   refine WP_reg [0, 2, 7] [] ?_
   refine WPO_f ?_
   refine ⟨List.map by8 ([45] : List Int), rfl, ?_⟩
   obtain ⟨x3, hx3, h⟩ := bind_inv h
   refine And.intro (app_le by8 hx3) ⟨_, app_eq by8 hx3, ?_⟩
   refine WP_reg [0, 2, 7] [] ?_
   refine WPO_f ?_
   cases h
   exact rfl
  ·replace h := bif_f hb2 h
   refine WP_skip ?_
   cases h
   exact rfl
 refine WP_seq ?_
 refine WP_reg [6] [] ?_
 refine WPO_f ?_
 obtain ⟨y5, hy5, h⟩ := bind_inv h
 refine ⟨_, _, CallT.any (strconv_AppendUint_ok hy5) rfl _ rfl, ?_⟩
 refine WP_ret ?_
 cases h
 exact ⟨rfl, rfl, rfl, rfl, rfl⟩
noncomputable def strconv_AppendInt (dst : List Int) (i : Int) (base : Int) : Option (List Int) :=
 (internal_strconv_AppendInt dst i base).bind fun y1 =>
 some y1
set_option maxRecDepth 20000 in
theorem strconv_AppendInt_ok {dst : List Int} {i : Int} {base : Int} {r : List Int} (h : strconv_AppendInt dst i base = some r) : CallT true (RF ET) 79 [.sl true 1 (List.map by8 dst), .int .i64 i, .int .i64 base] [] (.sl true 1 (List.map by8 r)) [] := by
 refine CallT.quiet (con_low (af := a79) rfl rfl ?_) rfl
 unfold strconv_AppendInt at h
 refine WP_seq ?_
 refine WP_reg [0, 1, 2] [] ?_
 refine WPO_f ?_
 refine ⟨.sl false 1 [], .sl _ _, ?_⟩
 refine WP_seq ?_
 refine WP_reg [6] [] ?_
 refine WPO_f ?_
 obtain ⟨y1, hy1, h⟩ := bind_inv h
 refine ⟨_, _, CallT.any (internal_strconv_AppendInt_ok hy1) rfl _ rfl, ?_⟩
 refine WP_ret ?_
 cases h
 exact ⟨rfl, rfl, rfl, rfl, rfl⟩
noncomputable def esc_Csi_l1 (x5 : List Int) (out : List Int) (t23 : Int) : Option ((List Int × Int) ⊕ List Int) :=
 letB (decide (t23 < (x5.length : Int))) fun c6 =>
 bif c6 then (
  Option.bind (
   (idx x5 t23).bind fun x8 =>
   letB (decide (t23 > 0)) fun c9 =>
   Option.bind (
    bif c9 then (
     (app out [59]).bind fun x11 =>
     some (x11))
    else (
     some (out)) : Option (List Int)) fun j12 =>
   letB (decide (x8 ≥ 0)) fun c13 =>
   Option.bind (
    bif c13 then (
     (strconv_AppendInt j12 (min x8 9999) 10).bind fun y15 =>
     some (y15))
    else (
     some (j12)) : Option (List Int)) fun j16 =>
   some (j16) : Option (List Int)) fun j17 =>
  some (.inl (j17, w64 (t23 + 1))))
 else (
  some (.inr out))
noncomputable def esc_Csi (priv : Int) (params : List Int) (final : Int) : Option (List Int) :=
 letB (decide (priv ≠ 0)) fun c1 =>
 Option.bind (
  bif c1 then (
   (app [27, 91] [priv]).bind fun x3 =>
   some (x3))
  else (
   some ([27, 91])) : Option (List Int)) fun j4 =>
 (subB params (min (params.length : Int) 16)).bind fun x5 =>
 (iter (fun s => esc_Csi_l1 x5 s.1 s.2 : (List Int × Int) → Option ((List Int × Int) ⊕ List Int)) (j4, 0)).bind fun j18 =>
 (app j18 [final]).bind fun x19 =>
 some x19
set_option maxRecDepth 20000 in
theorem esc_Csi_ok {priv : Int} {params : List Int} {final : Int} {r : List Int} (h : esc_Csi priv params final = some r) : CallT true (RF ET) 39 [.int .u8 priv, .sl false 1 (List.map ei64 params), .int .u8 final] [] (.sl true 1 (List.map by8 r)) [] := by
 refine CallT.quiet (con_low (af := a39) rfl rfl ?_) rfl
 unfold esc_Csi at h
 refine WP_seq ?_
 refine WP_reg [0, 1, 2] [] ?_
 refine WPO_f ?_
 refine ⟨.sl false 1 [], .sl _ _, ?_⟩
 refine WP_seq ?_
 refine WP_reg [0, 1, 2, 7] [] ?_
 refine WPO_f ?_
 refine ⟨List.map by8 ([27, 91] : List Int), rfl, ?_⟩
 refine WP_seq ?_
 refine WP_seq ?_
 refine WP_reg [0, 1, 2, 7, 12] [] ?_
 refine WPO_f ?_
 refine fun c1 hc1 => ?_
 replace h := letB_inv hc1 h
 obtain ⟨j4, hj4, h⟩ := bind_inv h
 refine WP_cut j4 (fun z => (.normal, [(1, .sl false 1 (List.map ei64 params)), (2, .int .u8 final), (7, .sl true 1 (List.map by8 z))], [], [])) (fun _ => [1, 2, 7]) (fun _ => []) ?_ ?_
 ·clear h
  replace h := hj4
  clear hj4
  refine WP_cond (b := c1) rfl (fun hb2 => ?_) (fun hb2 => ?_)
  ·replace h := bif_t hb2 h
   refine WP_reg [1, 2, 7] [] ?_
   refine WPO_f ?_
   refine ⟨List.map by8 ([priv] : List Int), rfl, ?_⟩
   obtain ⟨x3, hx3, h⟩ := bind_inv h
   refine And.intro (app_le by8 hx3) ⟨_, app_eq by8 hx3, ?_⟩
   cases h
   exact rfl
  ·replace h := bif_f hb2 h
   refine WP_skip ?_
   cases h
   exact rfl
 refine WP_seq ?_
 refine WP_seq ?_
 refine WP_reg [2, 7, 21, 22, 23] [] ?_
 refine WPO_f ?_
 refine ⟨_, (List.length_map ..).symm, ?_⟩
 obtain ⟨x5, hx5, h⟩ := bind_inv h
 refine And.intro (subB_b hx5) (And.intro (subB_le ei64 hx5) ⟨_, subB_eq ei64 hx5, ?_⟩)
 refine ⟨_, (List.length_map ..).symm, ?_⟩
 refine WP_block ?_
 obtain ⟨j18, hj18, h⟩ := bind_inv h
 refine WP_iter hj18 [] (fun s => ([(2, .int .u8 final), (7, .sl true 1 (List.map by8 s.1)), (21, .sl false 1 (List.map ei64 x5)), (22, .int .i64 (x5.length : Int)), (23, .int .i64 s.2)], [], [])) (fun _ => [2, 7]) (fun _ => []) (fun z => (.exit 0, [(2, .int .u8 final), (7, .sl true 1 (List.map by8 z))], [], [])) ?_ ?_ ?_
 ·exact rfl
 ·clear h
  rintro ⟨out, t23⟩ x h
  replace h : esc_Csi_l1 x5 out t23 = some x := h
  unfold esc_Csi_l1 at h
  show T.WP _ _ [(2, .int .u8 final), (7, .sl true 1 (List.map by8 out)), (21, .sl false 1 (List.map ei64 x5)), (22, .int .i64 (x5.length : Int)), (23, .int .i64 t23)] [] [] _
  refine WP_seq ?_
  refine WP_reg [2, 7, 21, 22, 23, 24] [] ?_
  refine WPO_f ?_
  refine fun c6 hc6 => ?_
  replace h := letB_inv hc6 h
  refine WP_seq ?_
  refine WP_cond (b := c6) rfl (fun hb7 => ?_) (fun hb7 => ?_)
  ·replace h := bif_t hb7 h
   refine WP_skip ?_
   refine WP_seq ?_
   obtain ⟨j17, hj17, h⟩ := bind_inv h
   refine WP_cut j17 (fun z => (.normal, [(2, .int .u8 final), (7, .sl true 1 (List.map by8 z)), (21, .sl false 1 (List.map ei64 x5)), (22, .int .i64 (x5.length : Int)), (23, .int .i64 t23)], [], [])) (fun _ => [2, 7, 21, 22, 23]) (fun _ => []) ?_ ?_
   ·clear h
    replace h := hj17
    clear hj17
    refine WP_block ?_
    refine WP_seq ?_
    refine WP_reg [2, 7, 8, 9, 21, 22, 23] [] ?_
    refine WPO_f ?_
    obtain ⟨x8, hx8, h⟩ := bind_inv h
    refine And.intro (idx_nn hx8) ⟨_, idx_get ei64 hx8, ?_⟩
    refine WP_seq ?_
    refine WP_seq ?_
    refine WP_reg [2, 7, 9, 21, 22, 23, 29] [] ?_
    refine WPO_f ?_
    refine fun c9 hc9 => ?_
    replace h := letB_inv hc9 h
    obtain ⟨j12, hj12, h⟩ := bind_inv h
    refine WP_cut j12 (fun z => (.normal, [(2, .int .u8 final), (7, .sl true 1 (List.map by8 z)), (9, .int .i64 x8), (21, .sl false 1 (List.map ei64 x5)), (22, .int .i64 (x5.length : Int)), (23, .int .i64 t23)], [], [])) (fun _ => [2, 7, 9, 21, 22, 23]) (fun _ => []) ?_ ?_
    ·clear h
     replace h := hj12
     clear hj12
     refine WP_cond (b := c9) rfl (fun hb10 => ?_) (fun hb10 => ?_)
     ·replace h := bif_t hb10 h
      refine WP_reg [2, 7, 9, 21, 22, 23] [] ?_
      refine WPO_f ?_
      refine ⟨List.map by8 ([59] : List Int), rfl, ?_⟩
      obtain ⟨x11, hx11, h⟩ := bind_inv h
      refine And.intro (app_le by8 hx11) ⟨_, app_eq by8 hx11, ?_⟩
      cases h
      exact rfl
     ·replace h := bif_f hb10 h
      refine WP_skip ?_
      cases h
      exact rfl
    refine WP_seq ?_
    refine WP_reg [2, 7, 9, 21, 22, 23, 34] [] ?_
    refine WPO_f ?_
    refine fun c13 hc13 => ?_
    replace h := letB_inv hc13 h
    obtain ⟨j16, hj16, h⟩ := bind_inv h
    refine WP_cut j16 (fun z => (.normal, [(2, .int .u8 final), (7, .sl true 1 (List.map by8 z)), (21, .sl false 1 (List.map ei64 x5)), (22, .int .i64 (x5.length : Int)), (23, .int .i64 t23)], [], [])) (fun _ => [2, 7, 21, 22, 23]) (fun _ => []) ?_ ?_
    ·clear h
     replace h := hj16
     clear hj16
     refine WP_cond (b := c13) rfl (fun hb14 => ?_) (fun hb14 => ?_)
     ·replace h := bif_t hb14 h
      refine WP_reg [2, 7, 21, 22, 23] [] ?_
      refine WPO_f ?_
      obtain ⟨y15, hy15, h⟩ := bind_inv h
      refine ⟨_, _, CallT.any (strconv_AppendInt_ok hy15) rfl _ rfl, ?_⟩
      cases h
      exact rfl
     ·replace h := bif_f hb14 h
      refine WP_skip ?_
      cases h
      exact rfl
    cases h
    exact rfl
   refine WP_reg [2, 7, 21, 22, 23] [] ?_
   refine WPO_f ?_
   cases h
   exact ⟨_, rfl, rfl⟩
  ·replace h := bif_f hb7 h
   refine WP_exit ?_
   cases h
   exact ⟨_, rfl, rfl⟩
 refine WP_seq ?_
 refine WP_reg [6] [] ?_
 refine WPO_f ?_
 refine ⟨List.map by8 ([final] : List Int), rfl, ?_⟩
 obtain ⟨x19, hx19, h⟩ := bind_inv h
 refine And.intro (app_le by8 hx19) ⟨_, app_eq by8 hx19, ?_⟩
 refine WP_ret ?_
 cases h
 exact ⟨rfl, rfl, rfl, rfl, rfl⟩
noncomputable def sgr_Between (a : Style) (b : Style) : Option (List Int) :=
 (sgr_clean a).bind fun y1 =>
 (sgr_clean b).bind fun y2 =>
 letB ((decide (y1.Fg = y2.Fg) && (decide (y1.Bg = y2.Bg) && (decide (y1.Attr = y2.Attr) && true)))) fun c3 =>
 bif c3 then (
  some [])
 else (
  (sgr_Params b).bind fun y5 =>
  (esc_Csi 0 y5 109).bind fun y6 =>
  some y6)
set_option maxRecDepth 20000 in
theorem sgr_Between_ok {a : Style} {b : Style} {r : List Int} (h : sgr_Between a b = some r) : CallT true (RF ET) 10 [.agg (Style.c a), .agg (Style.c b)] [] (.sl true 1 (List.map by8 r)) [] := by
 refine CallT.quiet (con_low (af := a10) rfl rfl ?_) rfl
 unfold sgr_Between at h
 refine WP_seq ?_
 refine WP_reg [2, 3] [0, 1] ?_
 refine WPO_f ?_
 refine ⟨.sl true 1 [], .sl _ _, ?_⟩
 refine WP_seq ?_
 refine WP_seq ?_
 refine WP_reg [3, 9] [0, 1] ?_
 refine WPO_t ?_
 obtain ⟨y1, hy1, h⟩ := bind_inv h
 refine ⟨_, _, CallT.any (sgr_clean_ok hy1) rfl _ rfl, ?_⟩
 obtain ⟨y2, hy2, h⟩ := bind_inv h
 refine ⟨_, _, CallT.any (sgr_clean_ok hy2) rfl _ rfl, ?_⟩
 refine fun c3 hc3 => ?_
 replace h := letB_inv hc3 h
 refine WP_cond (b := c3) rfl (fun hb4 => ?_) (fun hb4 => ?_)
 ·replace h := bif_t hb4 h
  refine WP_seq ?_
  refine WP_reg [4] [0, 1] ?_
  refine WPO_f ?_
  refine ⟨.sl true 1 [], .sl _ _, ?_⟩
  refine WP_ret ?_
  cases h
  exact ⟨rfl, rfl, rfl, rfl, rfl⟩
 ·replace h := bif_f hb4 h
  refine WP_skip ?_
  refine WP_seq ?_
  refine WP_reg [4] [0, 1] ?_
  refine WPO_f ?_
  obtain ⟨y5, hy5, h⟩ := bind_inv h
  refine ⟨_, _, CallT.any (sgr_Params_ok hy5) rfl _ rfl, ?_⟩
  obtain ⟨y6, hy6, h⟩ := bind_inv h
  refine ⟨_, _, CallT.any (esc_Csi_ok hy6) rfl _ rfl, ?_⟩
  refine WP_ret ?_
  cases h
  exact ⟨rfl, rfl, rfl, rfl, rfl⟩
noncomputable def casementref01_SameBytes_l1 (a : List Int) (b : List Int) (i : Int) : Option (Int ⊕ (Unit ⊕ Unit)) :=
 letB (decide (i < (a.length : Int))) fun c3 =>
 bif c3 then (
  (idx a i).bind fun x5 =>
  (idx b i).bind fun x6 =>
  letB (decide (x5 ≠ x6)) fun c7 =>
  bif c7 then (
   some (.inr (.inl ())))
  else (
   some (.inl (w64 (i + 1)))))
 else (
  some (.inr (.inr ())))
noncomputable def casementref01_SameBytes (a : List Int) (b : List Int) : Option Bool :=
 letB (decide ((a.length : Int) ≠ (b.length : Int))) fun c1 =>
 bif c1 then (
  some false)
 else (
  (iter (fun s => casementref01_SameBytes_l1 a b s : Int → Option (Int ⊕ (Unit ⊕ Unit))) 0).bind fun j9 =>
  match j9 with
  | .inl z10 => (
   some false)
  | .inr z11 => (
   some true))
set_option maxRecDepth 20000 in
theorem casementref01_SameBytes_ok {a : List Int} {b : List Int} {r : Bool} (h : casementref01_SameBytes a b = some r) : CallT true (RF ET) 11 [.sl false 1 (List.map by8 a), .sl false 1 (List.map by8 b)] [] (.bool r) [] := by
 refine CallT.quiet (con_low (af := a11) rfl rfl ?_) rfl
 unfold casementref01_SameBytes at h
 refine WP_seq ?_
 refine WP_reg [0, 1] [] ?_
 refine WPO_f ?_
 refine WP_seq ?_
 refine WP_seq ?_
 refine WP_reg [0, 1, 10] [] ?_
 refine WPO_f ?_
 refine ⟨_, (List.length_map ..).symm, ?_⟩
 refine ⟨_, (List.length_map ..).symm, ?_⟩
 refine fun c1 hc1 => ?_
 replace h := letB_inv hc1 h
 refine WP_cond (b := c1) rfl (fun hb2 => ?_) (fun hb2 => ?_)
 ·replace h := bif_t hb2 h
  refine WP_seq ?_
  refine WP_reg [4] [] ?_
  refine WPO_f ?_
  refine WP_ret ?_
  cases h
  exact ⟨rfl, rfl, rfl, rfl, rfl⟩
 ·replace h := bif_f hb2 h
  refine WP_skip ?_
  refine WP_seq ?_
  refine WP_seq ?_
  refine WP_reg [0, 1, 5] [] ?_
  refine WPO_f ?_
  refine WP_block ?_
  obtain ⟨j9, hj9, h⟩ := bind_inv h
  refine WP_iter hj9 [] (fun s => ([(0, .sl false 1 (List.map by8 a)), (1, .sl false 1 (List.map by8 b)), (5, .int .i64 s)], [], [])) (fun e => match e with | .ret => [4] | .exit 0 => [] | _ => []) (fun e => match e with | .ret => [] | .exit 0 => [] | _ => []) (fun r => match r with | .inl z => (.ret, [(4, .bool false)], [], []) | .inr z => (.exit 0, [], [], [])) ?_ ?_ ?_
  ·exact rfl
  ·clear h
   rintro i x h
   replace h : casementref01_SameBytes_l1 a b i = some x := h
   unfold casementref01_SameBytes_l1 at h
   show T.WP _ _ [(0, .sl false 1 (List.map by8 a)), (1, .sl false 1 (List.map by8 b)), (5, .int .i64 i)] [] [] _
   refine WP_seq ?_
   refine WP_seq ?_
   refine WP_reg [0, 1, 5, 14] [] ?_
   refine WPO_f ?_
   refine ⟨_, (List.length_map ..).symm, ?_⟩
   refine fun c3 hc3 => ?_
   replace h := letB_inv hc3 h
   refine WP_cond (b := c3) rfl (fun hb4 => ?_) (fun hb4 => ?_)
   ·replace h := bif_t hb4 h
    refine WP_skip ?_
    refine WP_seq ?_
    refine WP_block ?_
    refine WP_seq ?_
    refine WP_reg [0, 1, 5, 25] [] ?_
    refine WPO_t ?_
    obtain ⟨x5, hx5, h⟩ := bind_inv h
    refine And.intro (idx_nn hx5) ⟨_, idx_get by8 hx5, ?_⟩
    obtain ⟨x6, hx6, h⟩ := bind_inv h
    refine And.intro (idx_nn hx6) ⟨_, idx_get by8 hx6, ?_⟩
    refine fun c7 hc7 => ?_
    replace h := letB_inv hc7 h
    refine WP_cond (b := c7) rfl (fun hb8 => ?_) (fun hb8 => ?_)
    ·replace h := bif_t hb8 h
     refine WP_seq ?_
     refine WP_reg [4] [] ?_
     refine WPO_f ?_
     refine WP_ret ?_
     cases h
     exact ⟨_, rfl, rfl⟩
    ·replace h := bif_f hb8 h
     refine WP_skip ?_
     refine WP_reg [0, 1, 5] [] ?_
     refine WPO_f ?_
     cases h
     exact ⟨_, rfl, rfl⟩
   ·replace h := bif_f hb4 h
    refine WP_exit ?_
    cases h
    exact ⟨_, rfl, rfl⟩
  rcases j9 with z10 | z11
  ·cases h
   exact ⟨rfl, rfl, rfl, rfl, rfl⟩
  ·refine WP_seq ?_
   refine WP_reg [4] [] ?_
   refine WPO_f ?_
   refine WP_ret ?_
   cases h
   exact ⟨rfl, rfl, rfl, rfl, rfl⟩
noncomputable def casementref05_colour (n : Int) : Option Bool :=
 letB (decide (n ≥ 0)) fun c1 =>
 (bif c1 then (
  letB (decide (n ≤ 256)) fun c3 =>
  some (c3)) else some false).bind fun g2 =>
 (bif g2 then some true else (
  letB (decide (n ≥ 16777216)) fun c6 =>
  (bif c6 then (
   letB (decide (n < 33554432)) fun c8 =>
   some (c8)) else some false).bind fun g7 =>
  some (g7))).bind fun g5 =>
 some g5
set_option maxRecDepth 20000 in
theorem casementref05_colour_ok {n : Int} {r : Bool} (h : casementref05_colour n = some r) : CallT true (RF ET) 89 [.int .i64 n] [] (.bool r) [] := by
 refine CallT.quiet (con_low (af := a89) rfl rfl ?_) rfl
 unfold casementref05_colour at h
 refine WP_seq ?_
 refine WP_reg [0] [] ?_
 refine WPO_f ?_
 refine WP_seq ?_
 refine WP_reg [2] [] ?_
 refine WPO_then 3 ?_
 refine WPO_f ?_
 refine fun c1 hc1 => ?_
 replace h := letB_inv hc1 h
 obtain ⟨g2, hg2, h⟩ := bind_inv h
 refine WPO_grp 3 8 [0, 8] g2 ?_ ?_
 ·clear h
  replace h := hg2
  clear hg2
  cases hb4 : c1 with
  | true =>
   replace h := bif_t hb4 h
   refine WPO_f ?_
   refine fun c3 hc3 => ?_
   replace h := letB_inv hc3 h
   cases h
   exact ⟨rfl, rfl, rfl⟩
  | false =>
   replace h := bif_f hb4 h
   cases h
   refine WPO_f ?_
   exact ⟨rfl, rfl, rfl⟩
 refine WPO_then 1 ?_
 refine WPO_f ?_
 obtain ⟨g5, hg5, h⟩ := bind_inv h
 refine WPO_grp 7 16 [16] g5 ?_ ?_
 ·clear h
  replace h := hg5
  clear hg5
  cases hb10 : g2 with
  | false =>
   replace h := bif_f hb10 h
   refine WPO_then 3 ?_
   refine WPO_f ?_
   refine fun c6 hc6 => ?_
   replace h := letB_inv hc6 h
   obtain ⟨g7, hg7, h⟩ := bind_inv h
   refine WPO_grp 3 15 [9, 15] g7 ?_ ?_
   ·clear h
    replace h := hg7
    clear hg7
    cases hb9 : c6 with
    | true =>
     replace h := bif_t hb9 h
     refine WPO_f ?_
     refine fun c8 hc8 => ?_
     replace h := letB_inv hc8 h
     cases h
     exact ⟨rfl, rfl, rfl⟩
    | false =>
     replace h := bif_f hb9 h
     cases h
     refine WPO_f ?_
     exact ⟨rfl, rfl, rfl⟩
   refine WPO_f ?_
   cases h
   exact ⟨rfl, rfl, rfl⟩
  | true =>
   replace h := bif_t hb10 h
   cases h
   refine WPO_f ?_
   exact ⟨rfl, rfl, rfl⟩
 refine WPO_f ?_
 refine WP_ret ?_
 cases h
 exact ⟨rfl, rfl, rfl, rfl, rfl⟩
noncomputable def casementref05_Right (s_ : Style) : Option Bool :=
 (casementref05_colour s_.Fg).bind fun y1 =>
 (bif y1 then (
  (casementref05_colour s_.Bg).bind fun y3 =>
  some (y3)) else some false).bind fun g2 =>
 (bif g2 then (
  letB (decide (s_.Attr ≥ 0)) fun c6 =>
  some (c6)) else some false).bind fun g5 =>
 (bif g5 then (
  letB (decide (s_.Attr < 32)) fun c9 =>
  some (c9)) else some false).bind fun g8 =>
 some g8
set_option maxRecDepth 20000 in
theorem casementref05_Right_ok {s_ : Style} {r : Bool} (h : casementref05_Right s_ = some r) : CallT true (RF ET) 43 [.agg (Style.c s_)] [] (.bool r) [] := by
 refine CallT.quiet (con_low (af := a43) rfl rfl ?_) rfl
 unfold casementref05_Right at h
 refine WP_seq ?_
 refine WP_reg [1] [0] ?_
 refine WPO_f ?_
 refine WP_seq ?_
 refine WP_reg [2] [0] ?_
 refine WPO_then 4 ?_
 refine WPO_f ?_
 obtain ⟨y1, hy1, h⟩ := bind_inv h
 refine ⟨_, _, CallT.any (casementref05_colour_ok hy1) rfl _ rfl, ?_⟩
 obtain ⟨g2, hg2, h⟩ := bind_inv h
 refine WPO_grp 4 10 [1, 10] g2 ?_ ?_
 ·clear h
  replace h := hg2
  clear hg2
  cases hb4 : y1 with
  | true =>
   replace h := bif_t hb4 h
   refine WPO_f ?_
   obtain ⟨y3, hy3, h⟩ := bind_inv h
   refine ⟨_, _, CallT.any (casementref05_colour_ok hy3) rfl _ rfl, ?_⟩
   cases h
   exact ⟨rfl, rfl, rfl⟩
  | false =>
   replace h := bif_f hb4 h
   cases h
   refine WPO_f ?_
   exact ⟨rfl, rfl, rfl⟩
 refine WPO_then 1 ?_
 refine WPO_f ?_
 obtain ⟨g5, hg5, h⟩ := bind_inv h
 refine WPO_grp 4 15 [1, 15] g5 ?_ ?_
 ·clear h
  replace h := hg5
  clear hg5
  cases hb7 : g2 with
  | true =>
   replace h := bif_t hb7 h
   refine WPO_f ?_
   refine fun c6 hc6 => ?_
   replace h := letB_inv hc6 h
   cases h
   exact ⟨rfl, rfl, rfl⟩
  | false =>
   replace h := bif_f hb7 h
   cases h
   refine WPO_f ?_
   exact ⟨rfl, rfl, rfl⟩
 refine WPO_then 1 ?_
 refine WPO_f ?_
 obtain ⟨g8, hg8, h⟩ := bind_inv h
 refine WPO_grp 4 20 [20] g8 ?_ ?_
 ·clear h
  replace h := hg8
  clear hg8
  cases hb10 : g5 with
  | true =>
   replace h := bif_t hb10 h
   refine WPO_f ?_
   refine fun c9 hc9 => ?_
   replace h := letB_inv hc9 h
   cases h
   exact ⟨rfl, rfl, rfl⟩
  | false =>
   replace h := bif_f hb10 h
   cases h
   refine WPO_f ?_
   exact ⟨rfl, rfl, rfl⟩
 refine WPO_f ?_
 refine WP_ret ?_
 cases h
 exact ⟨rfl, rfl, rfl, rfl, rfl⟩
noncomputable def casementref05_Clean (s_ : Style) : Option Style :=
 (casementref05_Right s_).bind fun y1 =>
 bif y1 then (
  some s_)
 else (
  some (Style.mk 0 0 0))
set_option maxRecDepth 20000 in
theorem casementref05_Clean_ok {s_ : Style} {r : Style} (h : casementref05_Clean s_ = some r) : CallT true (RF ET) 14 [.agg (Style.c s_)] [] (.agg (Style.c r)) [] := by
 refine CallT.quiet (con_low (af := a14) rfl rfl ?_) rfl
 unfold casementref05_Clean at h
 refine WP_seq ?_
 refine WP_reg [1, 2] [0, 1] ?_
 refine WPO_f ?_
 refine WP_seq ?_
 refine WP_seq ?_
 refine WP_reg [1, 2, 4] [0, 1] ?_
 refine WPO_f ?_
 obtain ⟨y1, hy1, h⟩ := bind_inv h
 refine ⟨_, _, CallT.any (casementref05_Right_ok hy1) rfl _ rfl, ?_⟩
 refine WP_cond (b := y1) rfl (fun hb2 => ?_) (fun hb2 => ?_)
 ·replace h := bif_t hb2 h
  refine WP_seq ?_
  refine WP_reg [2] [0, 1] ?_
  refine WPO_f ?_
  refine WP_ret ?_
  cases h
  exact ⟨rfl, rfl, rfl, rfl, rfl⟩
 ·replace h := bif_f hb2 h
  refine WP_skip ?_
  refine WP_seq ?_
  refine WP_reg [2] [0, 1] ?_
  refine WPO_f ?_
  refine WP_ret ?_
  cases h
  exact ⟨rfl, rfl, rfl, rfl, rfl⟩
noncomputable def casementref01_Decimal_l1 (n' : Int) (out : List Int) : Option ((Int × List Int) ⊕ List Int) :=
 letB (decide (n' ≠ 0)) fun c4 =>
 bif c4 then (
  Option.bind (
   letB (decide ((Int.tmod n' 10) < 0)) fun c6 =>
   Option.bind (
    bif c6 then (
     some (w64 (0 - (Int.tmod n' 10))))
    else (
     some (Int.tmod n' 10)) : Option Int) fun j8 =>
   (bstr [w8 (w64 (48 + j8))]).bind fun x9 =>
   (sadd x9 out).bind fun x10 =>
   some (x10) : Option (List Int)) fun j11 =>
  some (.inl (w64 (Int.tdiv n' 10), j11)))
 else (
  some (.inr out))
noncomputable def casementref01_Decimal (n : Int) : Option (List Int) :=
 letB (decide (n = 0)) fun c1 =>
 bif c1 then (
  some [48])
 else (
  letB (decide (n < 0)) fun c3 =>
  (iter (fun s => casementref01_Decimal_l1 s.1 s.2 : (Int × List Int) → Option ((Int × List Int) ⊕ List Int)) (n, [])).bind fun j12 =>
  bif c3 then (
   (sadd [45] j12).bind fun x14 =>
   some x14)
  else (
   some j12))
set_option maxRecDepth 20000 in
theorem casementref01_Decimal_ok {n : Int} {r : List Int} (h : casementref01_Decimal n = some r) : CallT true (RF ET) 30 [.int .i64 n] [] (.str r) [] := by
 refine CallT.quiet (con_low (af := a30) rfl rfl ?_) rfl
 unfold casementref01_Decimal at h
 refine WP_seq ?_
 refine WP_reg [0] [] ?_
 refine WPO_f ?_
 refine WP_seq ?_
 refine WP_seq ?_
 refine WP_reg [0, 7] [] ?_
 refine WPO_f ?_
 refine fun c1 hc1 => ?_
 replace h := letB_inv hc1 h
 refine WP_cond (b := c1) rfl (fun hb2 => ?_) (fun hb2 => ?_)
 ·replace h := bif_t hb2 h
  refine WP_seq ?_
  refine WP_reg [2] [] ?_
  refine WPO_f ?_
  refine WP_ret ?_
  cases h
  exact ⟨rfl, rfl, rfl, rfl, rfl⟩
 ·replace h := bif_f hb2 h
  refine WP_skip ?_
  refine WP_seq ?_
  refine WP_reg [0, 3] [] ?_
  refine WPO_f ?_
  refine fun c3 hc3 => ?_
  replace h := letB_inv hc3 h
  refine WP_seq ?_
  refine WP_reg [0, 3, 4] [] ?_
  refine WPO_f ?_
  refine WP_seq ?_
  refine WP_block ?_
  obtain ⟨j12, hj12, h⟩ := bind_inv h
  refine WP_iter hj12 [] (fun s => ([(0, .int .i64 s.1), (3, .bool c3), (4, .str s.2)], [], [])) (fun _ => [3, 4]) (fun _ => []) (fun z => (.exit 0, [(3, .bool c3), (4, .str z)], [], [])) ?_ ?_ ?_
  ·exact rfl
  ·clear h
   rintro ⟨n', out⟩ x h
   replace h : casementref01_Decimal_l1 n' out = some x := h
   unfold casementref01_Decimal_l1 at h
   show T.WP _ _ [(0, .int .i64 n'), (3, .bool c3), (4, .str out)] [] [] _
   refine WP_seq ?_
   refine WP_seq ?_
   refine WP_reg [0, 3, 4, 11] [] ?_
   refine WPO_f ?_
   refine fun c4 hc4 => ?_
   replace h := letB_inv hc4 h
   refine WP_cond (b := c4) rfl (fun hb5 => ?_) (fun hb5 => ?_)
   ·replace h := bif_t hb5 h
    refine WP_skip ?_
    obtain ⟨j11, hj11, h⟩ := bind_inv h
    refine WP_cut j11 (fun z => (.normal, [(0, .int .i64 (w64 (Int.tdiv n' 10))), (3, .bool c3), (4, .str z)], [], [])) (fun _ => [0, 3, 4]) (fun _ => []) ?_ ?_
    ·clear h
     replace h := hj11
     clear hj11
     refine WP_block ?_
     refine WP_seq ?_
     refine WP_reg [0, 3, 4, 5] [] ?_
     refine WPO_f ?_
     refine And.intro (by decide) ?_
     refine WP_seq ?_
     refine WP_seq ?_
     refine WP_reg [0, 3, 4, 5, 15] [] ?_
     refine WPO_f ?_
     refine fun c6 hc6 => ?_
     replace h := letB_inv hc6 h
     obtain ⟨j8, hj8, h⟩ := bind_inv h
     refine WP_cut j8 (fun z => (.normal, [(0, .int .i64 n'), (3, .bool c3), (4, .str out), (5, .int .i64 z)], [], [])) (fun _ => [0, 3, 4, 5]) (fun _ => []) ?_ ?_
     ·clear h
      replace h := hj8
      clear hj8
      refine WP_cond (b := c6) rfl (fun hb7 => ?_) (fun hb7 => ?_)
      ·replace h := bif_t hb7 h
       refine WP_reg [0, 3, 4, 5] [] ?_
       refine WPO_f ?_
       cases h
       exact rfl
      ·replace h := bif_f hb7 h
       refine WP_skip ?_
       cases h
       exact rfl
     refine WP_seq ?_
     refine WP_reg [0, 3, 4] [] ?_
     refine WPO_f ?_
     refine ⟨List.map by8 ([w8 (w64 (48 + j8))] : List Int), rfl, ?_⟩
     obtain ⟨x9, hx9, h⟩ := bind_inv h
     refine ⟨_, bstr_inv hx9, ?_⟩
     obtain ⟨x10, hx10, h⟩ := bind_inv h
     refine And.intro (sadd_le hx10) ⟨_, sadd_eq hx10, ?_⟩
     refine WP_reg [0, 3, 4] [] ?_
     refine WPO_f ?_
     refine And.intro (by decide) ?_
     cases h
     exact rfl
    cases h
    exact ⟨_, rfl, rfl⟩
   ·replace h := bif_f hb5 h
    refine WP_exit ?_
    cases h
    exact ⟨_, rfl, rfl⟩
  refine WP_seq ?_
  refine WP_seq ?_
  refine WP_reg [4, 27] [] ?_
  refine WPO_f ?_
  refine WP_cond (b := c3) rfl (fun hb13 => ?_) (fun hb13 => ?_)
  ·replace h := bif_t hb13 h
   refine WP_seq ?_
   refine WP_reg [2] [] ?_
   refine WPO_f ?_
   obtain ⟨x14, hx14, h⟩ := bind_inv h
   refine And.intro (sadd_le hx14) ⟨_, sadd_eq hx14, ?_⟩
   refine WP_ret ?_
   cases h
   exact ⟨rfl, rfl, rfl, rfl, rfl⟩
  ·replace h := bif_f hb13 h
   refine WP_skip ?_
   refine WP_seq ?_
   refine WP_reg [2] [] ?_
   refine WPO_f ?_
   refine WP_ret ?_
   cases h
   exact ⟨rfl, rfl, rfl, rfl, rfl⟩
noncomputable def casementref01_Between (n : Int) (lo : Int) (hi : Int) : Option Int :=
 letB (decide (n < lo)) fun c1 =>
 bif c1 then (
  some lo)
 else (
  letB (decide (n > hi)) fun c3 =>
  bif c3 then (
   some hi)
  else (
   some n))
set_option maxRecDepth 20000 in
theorem casementref01_Between_ok {n : Int} {lo : Int} {hi : Int} {r : Int} (h : casementref01_Between n lo hi = some r) : CallT true (RF ET) 80 [.int .i64 n, .int .i64 lo, .int .i64 hi] [] (.int .i64 r) [] := by
 refine CallT.quiet (con_low (af := a80) rfl rfl ?_) rfl
 unfold casementref01_Between at h
 refine WP_seq ?_
 refine WP_reg [0, 1, 2] [] ?_
 refine WPO_f ?_
 refine WP_seq ?_
 refine WP_seq ?_
 refine WP_reg [0, 1, 2, 9] [] ?_
 refine WPO_f ?_
 refine fun c1 hc1 => ?_
 replace h := letB_inv hc1 h
 refine WP_cond (b := c1) rfl (fun hb2 => ?_) (fun hb2 => ?_)
 ·replace h := bif_t hb2 h
  refine WP_seq ?_
  refine WP_reg [6] [] ?_
  refine WPO_f ?_
  refine WP_ret ?_
  cases h
  exact ⟨rfl, rfl, rfl, rfl, rfl⟩
 ·replace h := bif_f hb2 h
  refine WP_skip ?_
  refine WP_seq ?_
  refine WP_seq ?_
  refine WP_reg [0, 2, 13] [] ?_
  refine WPO_f ?_
  refine fun c3 hc3 => ?_
  replace h := letB_inv hc3 h
  refine WP_cond (b := c3) rfl (fun hb4 => ?_) (fun hb4 => ?_)
  ·replace h := bif_t hb4 h
   refine WP_seq ?_
   refine WP_reg [6] [] ?_
   refine WPO_f ?_
   refine WP_ret ?_
   cases h
   exact ⟨rfl, rfl, rfl, rfl, rfl⟩
  ·replace h := bif_f hb4 h
   refine WP_skip ?_
   refine WP_seq ?_
   refine WP_reg [6] [] ?_
   refine WPO_f ?_
   refine WP_ret ?_
   cases h
   exact ⟨rfl, rfl, rfl, rfl, rfl⟩
noncomputable def casementref04_Csi_l1 (params : List Int) (out : List Int) (i : Int) : Option ((List Int × Int) ⊕ List Int) :=
 letB (decide (i < (params.length : Int))) fun c6 =>
 (bif c6 then (
  letB (decide (i < 16)) fun c8 =>
  some (c8)) else some false).bind fun g7 =>
 bif g7 then (
  Option.bind (
   letB (decide (i > 0)) fun c11 =>
   Option.bind (
    bif c11 then (
     (sadd out [59]).bind fun x13 =>
     some (x13))
    else (
     some (out)) : Option (List Int)) fun j14 =>
   (idx params i).bind fun x15 =>
   letB (decide (x15 ≥ 0)) fun c16 =>
   Option.bind (
    bif c16 then (
     (idx params i).bind fun x18 =>
     (casementref01_Between x18 0 9999).bind fun y19 =>
     (casementref01_Decimal y19).bind fun y20 =>
     (sadd j14 y20).bind fun x21 =>
     some (x21))
    else (
     some (j14)) : Option (List Int)) fun j22 =>
   some (j22) : Option (List Int)) fun j23 =>
  some (.inl (j23, w64 (i + 1))))
 else (
  some (.inr out))
noncomputable def casementref04_Csi (priv : Int) (params : List Int) (final : Int) : Option (List Int) :=
 letB (decide (priv ≠ 0)) fun c1 =>
 Option.bind (
  bif c1 then (
   (bstr [priv]).bind fun x3 =>
   (sadd [27, 91] x3).bind fun x4 =>
   some (x4))
  else (
   some ([27, 91])) : Option (List Int)) fun j5 =>
 (iter (fun s => casementref04_Csi_l1 params s.1 s.2 : (List Int × Int) → Option ((List Int × Int) ⊕ List Int)) (j5, 0)).bind fun j24 =>
 (app j24 [final]).bind fun x25 =>
 some x25
set_option maxRecDepth 20000 in
theorem casementref04_Csi_ok {priv : Int} {params : List Int} {final : Int} {r : List Int} (h : casementref04_Csi priv params final = some r) : CallT true (RF ET) 40 [.int .u8 priv, .sl false 1 (List.map ei64 params), .int .u8 final] [] (.sl true 1 (List.map by8 r)) [] := by
 refine CallT.quiet (con_low (af := a40) rfl rfl ?_) rfl
 unfold casementref04_Csi at h
 refine WP_seq ?_
 refine WP_reg [0, 1, 2] [] ?_
 refine WPO_f ?_
 refine ⟨.sl false 1 [], .sl _ _, ?_⟩
 refine WP_seq ?_
 refine WP_reg [0, 1, 2, 7] [] ?_
 refine WPO_f ?_
 refine WP_seq ?_
 refine WP_seq ?_
 refine WP_reg [0, 1, 2, 7, 10] [] ?_
 refine WPO_f ?_
 refine fun c1 hc1 => ?_
 replace h := letB_inv hc1 h
 obtain ⟨j5, hj5, h⟩ := bind_inv h
 refine WP_cut j5 (fun z => (.normal, [(1, .sl false 1 (List.map ei64 params)), (2, .int .u8 final), (7, .str z)], [], [])) (fun _ => [1, 2, 7]) (fun _ => []) ?_ ?_
 ·clear h
  replace h := hj5
  clear hj5
  refine WP_cond (b := c1) rfl (fun hb2 => ?_) (fun hb2 => ?_)
  ·replace h := bif_t hb2 h
   refine WP_reg [1, 2, 7] [] ?_
   refine WPO_f ?_
   refine ⟨List.map by8 ([priv] : List Int), rfl, ?_⟩
   obtain ⟨x3, hx3, h⟩ := bind_inv h
   refine ⟨_, bstr_inv hx3, ?_⟩
   obtain ⟨x4, hx4, h⟩ := bind_inv h
   refine And.intro (sadd_le hx4) ⟨_, sadd_eq hx4, ?_⟩
   cases h
   exact rfl
  ·replace h := bif_f hb2 h
   refine WP_skip ?_
   cases h
   exact rfl
 refine WP_seq ?_
 refine WP_seq ?_
 refine WP_reg [1, 2, 7, 8] [] ?_
 refine WPO_f ?_
 refine WP_block ?_
 obtain ⟨j24, hj24, h⟩ := bind_inv h
 refine WP_iter hj24 [] (fun s => ([(1, .sl false 1 (List.map ei64 params)), (2, .int .u8 final), (7, .str s.1), (8, .int .i64 s.2)], [], [])) (fun _ => [2, 7]) (fun _ => []) (fun z => (.exit 0, [(2, .int .u8 final), (7, .str z)], [], [])) ?_ ?_ ?_
 ·exact rfl
 ·clear h
  rintro ⟨out, i⟩ x h
  replace h : casementref04_Csi_l1 params out i = some x := h
  unfold casementref04_Csi_l1 at h
  show T.WP _ _ [(1, .sl false 1 (List.map ei64 params)), (2, .int .u8 final), (7, .str out), (8, .int .i64 i)] [] [] _
  refine WP_seq ?_
  refine WP_seq ?_
  refine WP_reg [1, 2, 7, 8, 23] [] ?_
  refine WPO_then 5 ?_
  refine WPO_f ?_
  refine ⟨_, (List.length_map ..).symm, ?_⟩
  refine fun c6 hc6 => ?_
  replace h := letB_inv hc6 h
  obtain ⟨g7, hg7, h⟩ := bind_inv h
  refine WPO_grp 3 23 [1, 2, 7, 8, 23] g7 ?_ ?_
  ·clear h
   replace h := hg7
   clear hg7
   cases hb9 : c6 with
   | true =>
    replace h := bif_t hb9 h
    refine WPO_f ?_
    refine fun c8 hc8 => ?_
    replace h := letB_inv hc8 h
    cases h
    exact ⟨rfl, rfl, rfl⟩
   | false =>
    replace h := bif_f hb9 h
    cases h
    refine WPO_f ?_
    exact ⟨rfl, rfl, rfl⟩
  refine WPO_f ?_
  refine WP_cond (b := g7) rfl (fun hb10 => ?_) (fun hb10 => ?_)
  ·replace h := bif_t hb10 h
   refine WP_skip ?_
   refine WP_seq ?_
   obtain ⟨j23, hj23, h⟩ := bind_inv h
   refine WP_cut j23 (fun z => (.normal, [(1, .sl false 1 (List.map ei64 params)), (2, .int .u8 final), (7, .str z), (8, .int .i64 i)], [], [])) (fun _ => [1, 2, 7, 8]) (fun _ => []) ?_ ?_
   ·clear h
    replace h := hj23
    clear hj23
    refine WP_block ?_
    refine WP_seq ?_
    refine WP_seq ?_
    refine WP_reg [1, 2, 7, 8, 27] [] ?_
    refine WPO_f ?_
    refine fun c11 hc11 => ?_
    replace h := letB_inv hc11 h
    obtain ⟨j14, hj14, h⟩ := bind_inv h
    refine WP_cut j14 (fun z => (.normal, [(1, .sl false 1 (List.map ei64 params)), (2, .int .u8 final), (7, .str z), (8, .int .i64 i)], [], [])) (fun _ => [1, 2, 7, 8]) (fun _ => []) ?_ ?_
    ·clear h
     replace h := hj14
     clear hj14
     refine WP_cond (b := c11) rfl (fun hb12 => ?_) (fun hb12 => ?_)
     ·replace h := bif_t hb12 h
      refine WP_reg [1, 2, 7, 8] [] ?_
      refine WPO_f ?_
      obtain ⟨x13, hx13, h⟩ := bind_inv h
      refine And.intro (sadd_le hx13) ⟨_, sadd_eq hx13, ?_⟩
      cases h
      exact rfl
     ·replace h := bif_f hb12 h
      refine WP_skip ?_
      cases h
      exact rfl
    refine WP_seq ?_
    refine WP_reg [1, 2, 7, 8, 34] [] ?_
    refine WPO_f ?_
    obtain ⟨x15, hx15, h⟩ := bind_inv h
    refine And.intro (idx_nn hx15) ⟨_, idx_get ei64 hx15, ?_⟩
    refine fun c16 hc16 => ?_
    replace h := letB_inv hc16 h
    obtain ⟨j22, hj22, h⟩ := bind_inv h
    refine WP_cut j22 (fun z => (.normal, [(1, .sl false 1 (List.map ei64 params)), (2, .int .u8 final), (7, .str z), (8, .int .i64 i)], [], [])) (fun _ => [1, 2, 7, 8]) (fun _ => []) ?_ ?_
    ·clear h
     replace h := hj22
     clear hj22
     refine WP_cond (b := c16) rfl (fun hb17 => ?_) (fun hb17 => ?_)
     ·replace h := bif_t hb17 h
      refine WP_reg [1, 2, 7, 8] [] ?_
      refine WPO_f ?_
      obtain ⟨x18, hx18, h⟩ := bind_inv h
      refine And.intro (idx_nn hx18) ⟨_, idx_get ei64 hx18, ?_⟩
      obtain ⟨y19, hy19, h⟩ := bind_inv h
      refine ⟨_, _, CallT.any (casementref01_Between_ok hy19) rfl _ rfl, ?_⟩
      obtain ⟨y20, hy20, h⟩ := bind_inv h
      refine ⟨_, _, CallT.any (casementref01_Decimal_ok hy20) rfl _ rfl, ?_⟩
      obtain ⟨x21, hx21, h⟩ := bind_inv h
      refine And.intro (sadd_le hx21) ⟨_, sadd_eq hx21, ?_⟩
      cases h
      exact rfl
     ·replace h := bif_f hb17 h
      refine WP_skip ?_
      cases h
      exact rfl
    cases h
    exact rfl
   refine WP_reg [1, 2, 7, 8] [] ?_
   refine WPO_f ?_
   cases h
   exact ⟨_, rfl, rfl⟩
  ·replace h := bif_f hb10 h
   refine WP_exit ?_
   cases h
   exact ⟨_, rfl, rfl⟩
 refine WP_seq ?_
 refine WP_reg [6] [] ?_
 refine WPO_f ?_
 refine ⟨List.map by8 ([final] : List Int), rfl, ?_⟩
 obtain ⟨x25, hx25, h⟩ := bind_inv h
 refine And.intro (app_le by8 hx25) ⟨_, app_eq by8 hx25, ?_⟩
 refine WP_ret ?_
 cases h
 exact ⟨rfl, rfl, rfl, rfl, rfl⟩
noncomputable def casementref05_marks : Option (List Int × List Int) :=
 some ([1, 2, 3, 4, 7], [1, 2, 4, 8, 16])
set_option maxRecDepth 20000 in
theorem casementref05_marks_ok {r : List Int × List Int} (h : casementref05_marks = some r) : CallT true (RF ET) 81 [] [] (.tuple [.sl false 1 (List.map ei64 r.1), .sl false 1 (List.map ei64 r.2)]) [] := by
 refine CallT.quiet (con_low (af := a81) rfl rfl ?_) rfl
 unfold casementref05_marks at h
 refine WP_seq ?_
 refine WP_reg [] [] ?_
 refine WPO_f ?_
 refine ⟨.sl false 1 [], .sl _ _, ?_⟩
 refine ⟨.sl false 1 [], .sl _ _, ?_⟩
 refine WP_seq ?_
 refine WP_reg [0, 1] [] ?_
 refine WPO_f ?_
 refine ⟨List.map ei64 ([1, 2, 3, 4, 7] : List Int), rfl, ?_⟩
 refine ⟨List.map ei64 ([1, 2, 4, 8, 16] : List Int), rfl, ?_⟩
 refine WP_ret ?_
 cases h
 exact ⟨rfl, rfl, rfl, rfl, rfl⟩
noncomputable def casementref05_has (attr : Int) (m : Int) : Option Bool :=
 (req (decide (m ≠ 0))).bind fun x1 =>
 letB (decide ((Int.tmod (w64 (Int.tdiv attr m)) 2) = 1)) fun c2 =>
 some c2
set_option maxRecDepth 20000 in
theorem casementref05_has_ok {attr : Int} {m : Int} {r : Bool} (h : casementref05_has attr m = some r) : CallT true (RF ET) 82 [.int .i64 attr, .int .i64 m] [] (.bool r) [] := by
 refine CallT.quiet (con_low (af := a82) rfl rfl ?_) rfl
 unfold casementref05_has at h
 refine WP_seq ?_
 refine WP_reg [0, 1] [] ?_
 refine WPO_f ?_
 refine WP_seq ?_
 refine WP_reg [4] [] ?_
 refine WPO_f ?_
 obtain ⟨x1, hx1, h⟩ := bind_inv h
 refine And.intro (req_inv hx1) ?_
 refine And.intro (by decide) ?_
 refine fun c2 hc2 => ?_
 replace h := letB_inv hc2 h
 refine WP_ret ?_
 cases h
 exact ⟨rfl, rfl, rfl, rfl, rfl⟩
noncomputable def casementref05_numbers (n : Int) (base : Int) : Option (List Int) :=
 letB (decide (n = 0)) fun c1 =>
 bif c1 then (
  some [])
 else (
  letB (decide (n ≤ 8)) fun c3 =>
  bif c3 then (
   some [w64 ((w64 (base + n)) - 1)])
  else (
   letB (decide (n ≤ 256)) fun c5 =>
   bif c5 then (
    some [w64 (base + 8), 5, w64 (n - 1)])
   else (
    some [w64 (base + 8), 2, w64 (Int.tdiv (w64 (n - 16777216)) 65536), Int.tmod (w64 (Int.tdiv (w64 (n - 16777216)) 256)) 256, Int.tmod (w64 (n - 16777216)) 256])))
set_option maxRecDepth 20000 in
theorem casementref05_numbers_ok {n : Int} {base : Int} {r : List Int} (h : casementref05_numbers n base = some r) : CallT true (RF ET) 83 [.int .i64 n, .int .i64 base] [] (.sl true 1 (List.map ei64 r)) [] := by
 refine CallT.quiet (con_low (af := a83) rfl rfl ?_) rfl
 unfold casementref05_numbers at h
 refine WP_seq ?_
 refine WP_reg [0, 1] [] ?_
 refine WPO_f ?_
 refine ⟨.sl true 1 [], .sl _ _, ?_⟩
 refine WP_seq ?_
 refine WP_seq ?_
 refine WP_reg [0, 1, 6] [] ?_
 refine WPO_f ?_
 refine fun c1 hc1 => ?_
 replace h := letB_inv hc1 h
 refine WP_cond (b := c1) rfl (fun hb2 => ?_) (fun hb2 => ?_)
 ·replace h := bif_t hb2 h
  refine WP_seq ?_
  refine WP_reg [4] [] ?_
  refine WPO_f ?_
  refine ⟨.sl true 1 [], .sl _ _, ?_⟩
  refine WP_ret ?_
  cases h
  exact ⟨rfl, rfl, rfl, rfl, rfl⟩
 ·replace h := bif_f hb2 h
  refine WP_skip ?_
  refine WP_seq ?_
  refine WP_seq ?_
  refine WP_reg [0, 1, 8] [] ?_
  refine WPO_f ?_
  refine fun c3 hc3 => ?_
  replace h := letB_inv hc3 h
  refine WP_cond (b := c3) rfl (fun hb4 => ?_) (fun hb4 => ?_)
  ·replace h := bif_t hb4 h
   refine WP_seq ?_
   refine WP_reg [4] [] ?_
   refine WPO_f ?_
   refine ⟨List.map ei64 ([w64 ((w64 (base + n)) - 1)] : List Int), rfl, ?_⟩
   refine WP_ret ?_
   cases h
   exact ⟨rfl, rfl, rfl, rfl, rfl⟩
  ·replace h := bif_f hb4 h
   refine WP_skip ?_
   refine WP_seq ?_
   refine WP_seq ?_
   refine WP_reg [0, 1, 15] [] ?_
   refine WPO_f ?_
   refine fun c5 hc5 => ?_
   replace h := letB_inv hc5 h
   refine WP_cond (b := c5) rfl (fun hb6 => ?_) (fun hb6 => ?_)
   ·replace h := bif_t hb6 h
    refine WP_seq ?_
    refine WP_reg [4] [] ?_
    refine WPO_f ?_
    refine ⟨List.map ei64 ([w64 (base + 8), 5, w64 (n - 1)] : List Int), rfl, ?_⟩
    refine WP_ret ?_
    cases h
    exact ⟨rfl, rfl, rfl, rfl, rfl⟩
   ·replace h := bif_f hb6 h
    refine WP_skip ?_
    refine WP_seq ?_
    refine WP_reg [0, 1] [] ?_
    refine WPO_f ?_
    refine WP_seq ?_
    refine WP_reg [4] [] ?_
    refine WPO_f ?_
    refine And.intro (by decide) ?_
    refine And.intro (by decide) ?_
    refine And.intro (by decide) ?_
    refine And.intro (by decide) ?_
    refine ⟨List.map ei64 ([w64 (base + 8), 2, w64 (Int.tdiv (w64 (n - 16777216)) 65536), Int.tmod (w64 (Int.tdiv (w64 (n - 16777216)) 256)) 256, Int.tmod (w64 (n - 16777216)) 256] : List Int), rfl, ?_⟩
    refine WP_ret ?_
    cases h
    exact ⟨rfl, rfl, rfl, rfl, rfl⟩
noncomputable def casementref05_Params_l1 (y1 : Style) (y2 : List Int × List Int) (out : List Int) (i : Int) : Option ((List Int × Int) ⊕ List Int) :=
 letB (decide (i < (y2.1.length : Int))) fun c3 =>
 bif c3 then (
  Option.bind (
   (idx y2.2 i).bind fun x5 =>
   (casementref05_has y1.Attr x5).bind fun y6 =>
   Option.bind (
    bif y6 then (
     (idx y2.1 i).bind fun x8 =>
     (app out [x8]).bind fun x9 =>
     some (x9))
    else (
     some (out)) : Option (List Int)) fun j10 =>
   some (j10) : Option (List Int)) fun j11 =>
  some (.inl (j11, w64 (i + 1))))
 else (
  some (.inr out))
noncomputable def casementref05_Params_l2 (y13 : List Int) (out' : List Int) (i' : Int) : Option ((List Int × Int) ⊕ List Int) :=
 letB (decide (i' < (y13.length : Int))) fun c14 =>
 bif c14 then (
  (idx y13 i').bind fun x16 =>
  (app out' [x16]).bind fun x17 =>
  some (.inl (x17, w64 (i' + 1))))
 else (
  some (.inr out'))
noncomputable def casementref05_Params_l3 (y19 : List Int) (out'' : List Int) (i'' : Int) : Option ((List Int × Int) ⊕ List Int) :=
 letB (decide (i'' < (y19.length : Int))) fun c20 =>
 bif c20 then (
  (idx y19 i'').bind fun x22 =>
  (app out'' [x22]).bind fun x23 =>
  some (.inl (x23, w64 (i'' + 1))))
 else (
  some (.inr out''))
noncomputable def casementref05_Params (s_ : Style) : Option (List Int) :=
 (casementref05_Clean s_).bind fun y1 =>
 (casementref05_marks).bind fun y2 =>
 (iter (fun s => casementref05_Params_l1 y1 y2 s.1 s.2 : (List Int × Int) → Option ((List Int × Int) ⊕ List Int)) ([0], 0)).bind fun j12 =>
 (casementref05_numbers y1.Fg 30).bind fun y13 =>
 (iter (fun s => casementref05_Params_l2 y13 s.1 s.2 : (List Int × Int) → Option ((List Int × Int) ⊕ List Int)) (j12, 0)).bind fun j18 =>
 (casementref05_numbers y1.Bg 40).bind fun y19 =>
 (iter (fun s => casementref05_Params_l3 y19 s.1 s.2 : (List Int × Int) → Option ((List Int × Int) ⊕ List Int)) (j18, 0)).bind fun j24 =>
 some j24
set_option maxRecDepth 20000 in
theorem casementref05_Params_ok {s_ : Style} {r : List Int} (h : casementref05_Params s_ = some r) : CallT true (RF ET) 41 [.agg (Style.c s_)] [] (.sl true 1 (List.map ei64 r)) [] := by
 refine CallT.quiet (con_low (af := a41) rfl rfl ?_) rfl
 unfold casementref05_Params at h
 refine WP_seq ?_
 refine WP_reg [1] [0] ?_
 refine WPO_f ?_
 refine ⟨.sl false 1 [], .sl _ _, ?_⟩
 refine WP_seq ?_
 refine WP_reg [1] [0] ?_
 refine WPO_f ?_
 obtain ⟨y1, hy1, h⟩ := bind_inv h
 refine ⟨_, _, CallT.any (casementref05_Clean_ok hy1) rfl _ rfl, ?_⟩
 refine WP_seq ?_
 refine WP_reg [1, 3] [0] ?_
 refine WPO_f ?_
 refine ⟨List.map ei64 ([0] : List Int), rfl, ?_⟩
 refine WP_seq ?_
 refine WP_reg [1, 3, 4, 5] [0] ?_
 refine WPO_f ?_
 obtain ⟨y2, hy2, h⟩ := bind_inv h
 refine ⟨_, _, CallT.any (casementref05_marks_ok hy2) rfl _ rfl, ?_⟩
 refine WP_seq ?_
 refine WP_seq ?_
 refine WP_reg [1, 3, 4, 5, 6] [0] ?_
 refine WPO_f ?_
 refine WP_block ?_
 obtain ⟨j12, hj12, h⟩ := bind_inv h
 refine WP_iter hj12 [0] (fun s => ([(1, .loc 0 0), (3, .sl true 1 (List.map ei64 s.1)), (4, .sl false 1 (List.map ei64 y2.1)), (5, .sl false 1 (List.map ei64 y2.2)), (6, .int .i64 s.2)], [(0, (Style.c y1))], [])) (fun _ => [1, 3]) (fun _ => [0]) (fun z => (.exit 0, [(1, .loc 0 0), (3, .sl true 1 (List.map ei64 z))], [(0, (Style.c y1))], [])) ?_ ?_ ?_
 ·exact rfl
 ·clear h
  rintro ⟨out, i⟩ x h
  replace h : casementref05_Params_l1 y1 y2 out i = some x := h
  unfold casementref05_Params_l1 at h
  show T.WP _ _ [(1, .loc 0 0), (3, .sl true 1 (List.map ei64 out)), (4, .sl false 1 (List.map ei64 y2.1)), (5, .sl false 1 (List.map ei64 y2.2)), (6, .int .i64 i)] [(0, (Style.c y1))] [] _
  refine WP_seq ?_
  refine WP_seq ?_
  refine WP_reg [1, 3, 4, 5, 6, 21] [0] ?_
  refine WPO_f ?_
  refine ⟨_, (List.length_map ..).symm, ?_⟩
  refine fun c3 hc3 => ?_
  replace h := letB_inv hc3 h
  refine WP_cond (b := c3) rfl (fun hb4 => ?_) (fun hb4 => ?_)
  ·replace h := bif_t hb4 h
   refine WP_skip ?_
   refine WP_seq ?_
   obtain ⟨j11, hj11, h⟩ := bind_inv h
   refine WP_cut j11 (fun z => (.normal, [(1, .loc 0 0), (3, .sl true 1 (List.map ei64 z)), (4, .sl false 1 (List.map ei64 y2.1)), (5, .sl false 1 (List.map ei64 y2.2)), (6, .int .i64 i)], [(0, (Style.c y1))], [])) (fun _ => [1, 3, 4, 5, 6]) (fun _ => [0]) ?_ ?_
   ·clear h
    replace h := hj11
    clear hj11
    refine WP_block ?_
    refine WP_seq ?_
    refine WP_reg [1, 3, 4, 5, 6, 30] [0] ?_
    refine WPO_t ?_
    obtain ⟨x5, hx5, h⟩ := bind_inv h
    refine And.intro (idx_nn hx5) ⟨_, idx_get ei64 hx5, ?_⟩
    obtain ⟨y6, hy6, h⟩ := bind_inv h
    refine ⟨_, _, CallT.any (casementref05_has_ok hy6) rfl _ rfl, ?_⟩
    obtain ⟨j10, hj10, h⟩ := bind_inv h
    refine WP_cut j10 (fun z => (.normal, [(1, .loc 0 0), (3, .sl true 1 (List.map ei64 z)), (4, .sl false 1 (List.map ei64 y2.1)), (5, .sl false 1 (List.map ei64 y2.2)), (6, .int .i64 i)], [(0, (Style.c y1))], [])) (fun _ => [1, 3, 4, 5, 6]) (fun _ => [0]) ?_ ?_
    ·clear h
     replace h := hj10
     clear hj10
     refine WP_cond (b := y6) rfl (fun hb7 => ?_) (fun hb7 => ?_)
     ·replace h := bif_t hb7 h
      refine WP_reg [1, 3, 4, 5, 6] [0] ?_
      refine WPO_f ?_
      obtain ⟨x8, hx8, h⟩ := bind_inv h
      refine And.intro (idx_nn hx8) ⟨_, idx_get ei64 hx8, ?_⟩
      refine ⟨List.map ei64 ([x8] : List Int), rfl, ?_⟩
      obtain ⟨x9, hx9, h⟩ := bind_inv h
      refine And.intro (app_le ei64 hx9) ⟨_, app_eq ei64 hx9, ?_⟩
      cases h
      exact rfl
     ·replace h := bif_f hb7 h
      refine WP_skip ?_
      cases h
      exact rfl
    cases h
    exact rfl
   refine WP_reg [1, 3, 4, 5, 6] [0] ?_
   refine WPO_f ?_
   cases h
   exact ⟨_, rfl, rfl⟩
  ·replace h := bif_f hb4 h
   refine WP_exit ?_
   cases h
   exact ⟨_, rfl, rfl⟩
 refine WP_seq ?_
 refine WP_reg [1, 3, 7] [0] ?_
 refine WPO_f ?_
 obtain ⟨y13, hy13, h⟩ := bind_inv h
 refine ⟨_, _, CallT.any (casementref05_numbers_ok hy13) rfl _ rfl, ?_⟩
 refine WP_seq ?_
 refine WP_seq ?_
 refine WP_reg [1, 3, 7, 8] [0] ?_
 refine WPO_f ?_
 refine WP_block ?_
 obtain ⟨j18, hj18, h⟩ := bind_inv h
 refine WP_iter hj18 [0] (fun s => ([(1, .loc 0 0), (3, .sl true 1 (List.map ei64 s.1)), (7, .sl false 1 (List.map ei64 y13)), (8, .int .i64 s.2)], [(0, (Style.c y1))], [])) (fun _ => [1, 3]) (fun _ => [0]) (fun z => (.exit 2, [(1, .loc 0 0), (3, .sl true 1 (List.map ei64 z))], [(0, (Style.c y1))], [])) ?_ ?_ ?_
 ·exact rfl
 ·clear h
  rintro ⟨out', i'⟩ x h
  replace h : casementref05_Params_l2 y13 out' i' = some x := h
  unfold casementref05_Params_l2 at h
  show T.WP _ _ [(1, .loc 0 0), (3, .sl true 1 (List.map ei64 out')), (7, .sl false 1 (List.map ei64 y13)), (8, .int .i64 i')] [(0, (Style.c y1))] [] _
  refine WP_seq ?_
  refine WP_seq ?_
  refine WP_reg [1, 3, 7, 8, 44] [0] ?_
  refine WPO_f ?_
  refine ⟨_, (List.length_map ..).symm, ?_⟩
  refine fun c14 hc14 => ?_
  replace h := letB_inv hc14 h
  refine WP_cond (b := c14) rfl (fun hb15 => ?_) (fun hb15 => ?_)
  ·replace h := bif_t hb15 h
   refine WP_skip ?_
   refine WP_seq ?_
   refine WP_block ?_
   refine WP_reg [1, 3, 7, 8] [0] ?_
   refine WPO_f ?_
   obtain ⟨x16, hx16, h⟩ := bind_inv h
   refine And.intro (idx_nn hx16) ⟨_, idx_get ei64 hx16, ?_⟩
   refine ⟨List.map ei64 ([x16] : List Int), rfl, ?_⟩
   obtain ⟨x17, hx17, h⟩ := bind_inv h
   refine And.intro (app_le ei64 hx17) ⟨_, app_eq ei64 hx17, ?_⟩
   refine WP_reg [1, 3, 7, 8] [0] ?_
   refine WPO_f ?_
   cases h
   exact ⟨_, rfl, rfl⟩
  ·replace h := bif_f hb15 h
   refine WP_exit ?_
   cases h
   exact ⟨_, rfl, rfl⟩
 refine WP_seq ?_
 refine WP_reg [3, 9] [0] ?_
 refine WPO_f ?_
 obtain ⟨y19, hy19, h⟩ := bind_inv h
 refine ⟨_, _, CallT.any (casementref05_numbers_ok hy19) rfl _ rfl, ?_⟩
 refine WP_seq ?_
 refine WP_seq ?_
 refine WP_reg [3, 9, 10] [0] ?_
 refine WPO_f ?_
 refine WP_block ?_
 obtain ⟨j24, hj24, h⟩ := bind_inv h
 refine WP_iter hj24 [0] (fun s => ([(3, .sl true 1 (List.map ei64 s.1)), (9, .sl false 1 (List.map ei64 y19)), (10, .int .i64 s.2)], [(0, (Style.c y1))], [])) (fun _ => [3]) (fun _ => [0]) (fun z => (.exit 4, [(3, .sl true 1 (List.map ei64 z))], [(0, (Style.c y1))], [])) ?_ ?_ ?_
 ·exact rfl
 ·clear h
  rintro ⟨out'', i''⟩ x h
  replace h : casementref05_Params_l3 y19 out'' i'' = some x := h
  unfold casementref05_Params_l3 at h
  show T.WP _ _ [(3, .sl true 1 (List.map ei64 out'')), (9, .sl false 1 (List.map ei64 y19)), (10, .int .i64 i'')] [(0, (Style.c y1))] [] _
  refine WP_seq ?_
  refine WP_seq ?_
  refine WP_reg [3, 9, 10, 60] [0] ?_
  refine WPO_f ?_
  refine ⟨_, (List.length_map ..).symm, ?_⟩
  refine fun c20 hc20 => ?_
  replace h := letB_inv hc20 h
  refine WP_cond (b := c20) rfl (fun hb21 => ?_) (fun hb21 => ?_)
  ·replace h := bif_t hb21 h
   refine WP_skip ?_
   refine WP_seq ?_
   refine WP_block ?_
   refine WP_reg [3, 9, 10] [0] ?_
   refine WPO_f ?_
   obtain ⟨x22, hx22, h⟩ := bind_inv h
   refine And.intro (idx_nn hx22) ⟨_, idx_get ei64 hx22, ?_⟩
   refine ⟨List.map ei64 ([x22] : List Int), rfl, ?_⟩
   obtain ⟨x23, hx23, h⟩ := bind_inv h
   refine And.intro (app_le ei64 hx23) ⟨_, app_eq ei64 hx23, ?_⟩
   refine WP_reg [3, 9, 10] [0] ?_
   refine WPO_f ?_
   cases h
   exact ⟨_, rfl, rfl⟩
  ·replace h := bif_f hb21 h
   refine WP_exit ?_
   cases h
   exact ⟨_, rfl, rfl⟩
 refine WP_seq ?_
 refine WP_reg [2] [0] ?_
 refine WPO_f ?_
 refine WP_ret ?_
 cases h
 exact ⟨rfl, rfl, rfl, rfl, rfl⟩
noncomputable def casementref05_Between (a : Style) (b : Style) : Option (List Int) :=
 (casementref05_Clean a).bind fun y1 =>
 (casementref05_Clean b).bind fun y2 =>
 letB ((decide (y1.Fg = y2.Fg) && (decide (y1.Bg = y2.Bg) && (decide (y1.Attr = y2.Attr) && true)))) fun c3 =>
 bif c3 then (
  some [])
 else (
  (casementref05_Params b).bind fun y5 =>
  (casementref04_Csi 0 y5 109).bind fun y6 =>
  some y6)
set_option maxRecDepth 20000 in
theorem casementref05_Between_ok {a : Style} {b : Style} {r : List Int} (h : casementref05_Between a b = some r) : CallT true (RF ET) 12 [.agg (Style.c a), .agg (Style.c b)] [] (.sl true 1 (List.map by8 r)) [] := by
 refine CallT.quiet (con_low (af := a12) rfl rfl ?_) rfl
 unfold casementref05_Between at h
 refine WP_seq ?_
 refine WP_reg [2, 3] [0, 1] ?_
 refine WPO_f ?_
 refine ⟨.sl true 1 [], .sl _ _, ?_⟩
 refine WP_seq ?_
 refine WP_seq ?_
 refine WP_reg [3, 9] [0, 1] ?_
 refine WPO_t ?_
 obtain ⟨y1, hy1, h⟩ := bind_inv h
 refine ⟨_, _, CallT.any (casementref05_Clean_ok hy1) rfl _ rfl, ?_⟩
 obtain ⟨y2, hy2, h⟩ := bind_inv h
 refine ⟨_, _, CallT.any (casementref05_Clean_ok hy2) rfl _ rfl, ?_⟩
 refine fun c3 hc3 => ?_
 replace h := letB_inv hc3 h
 refine WP_cond (b := c3) rfl (fun hb4 => ?_) (fun hb4 => ?_)
 ·replace h := bif_t hb4 h
  refine WP_seq ?_
  refine WP_reg [4] [0, 1] ?_
  refine WPO_f ?_
  refine ⟨.sl true 1 [], .sl _ _, ?_⟩
  refine WP_ret ?_
  cases h
  exact ⟨rfl, rfl, rfl, rfl, rfl⟩
 ·replace h := bif_f hb4 h
  refine WP_skip ?_
  refine WP_seq ?_
  refine WP_reg [4] [0, 1] ?_
  refine WPO_f ?_
  obtain ⟨y5, hy5, h⟩ := bind_inv h
  refine ⟨_, _, CallT.any (casementref05_Params_ok hy5) rfl _ rfl, ?_⟩
  obtain ⟨y6, hy6, h⟩ := bind_inv h
  refine ⟨_, _, CallT.any (casementref04_Csi_ok hy6) rfl _ rfl, ?_⟩
  refine WP_ret ?_
  cases h
  exact ⟨rfl, rfl, rfl, rfl, rfl⟩
structure Reader where
 waits : List Int
def Reader.c (x : Reader) : List TV := [.sl false 1 (List.map by8 x.waits)]
structure ActM where
 Kind : Int
 R : Int
 Final : Int
 Priv : Int
 Inter : List Int
 Params : Option (List Int)
 Text : List Int
def ActM.m (x : ActM) : List TV := [.int .i64 x.Kind, .int .i32 x.R, .int .u8 x.Final, .int .u8 x.Priv, .str x.Inter, tvo 1 ei64 x.Params, .str x.Text]
theorem ActM.flat (x : ActM) : (ActM.m x).all TV.flat0 = true := by
 unfold ActM.m
 cases x.Params <;> rfl
structure Act where
 Kind : Int
 R : Int
 Final : Int
 Priv : Int
 Inter : List Int
 Params : List Int
 Text : List Int
def Act.c (x : Act) : List TV := [.int .i64 x.Kind, .int .i32 x.R, .int .u8 x.Final, .int .u8 x.Priv, .str x.Inter, .sl true 1 (List.map ei64 x.Params), .str x.Text]
def Act.e (x : Act) : List TV := [.int .i64 x.Kind, .int .i32 x.R, .int .u8 x.Final, .int .u8 x.Priv, .str x.Inter, .sl false 1 (List.map ei64 x.Params), .str x.Text]
structure ParserM where
 text : Reader
 in_ : Int
 spoiled : Bool
 first : Bool
 act : ActM
 count : Int
 payload : List Int
 out : List Act
def ParserM.m (x : ParserM) : List TV := [.sl false 1 (List.map by8 x.text.waits), .int .i64 x.in_, .bool x.spoiled, .bool x.first, .int .i64 x.act.Kind, .int .i32 x.act.R, .int .u8 x.act.Final, .int .u8 x.act.Priv, .str x.act.Inter, tvo 1 ei64 x.act.Params, .str x.act.Text, .int .i64 x.count, .sl true 1 (List.map by8 x.payload), .sl true 7 (List.map Act.e x.out)]
theorem ParserM.flat (x : ParserM) : (ParserM.m x).all TV.flat0 = true := by
 unfold ParserM.m
 cases x.act.Params <;> rfl
noncomputable def esc_Parser_say (p : ParserM) (a : Act) : Option ParserM :=
 (app p.out [a]).bind fun x1 =>
 some ({ p with out := x1 })
set_option maxRecDepth 20000 in
theorem esc_Parser_say_ok {p : ParserM} {a : Act} {r : ParserM} (h : esc_Parser_say p a = some r) : CallT false (RF ET) 88 [.ptr 0 0, .agg (Act.e a)] [(ParserM.m p)] (.tuple []) [(ParserM.m r)] := by
 refine con_low (af := a88) rfl rfl ?_
 unfold esc_Parser_say at h
 refine WP_seq ?_
 refine WP_reg [0, 3] [0] ?_
 refine WPO_f ?_
 refine WP_reg [] [0] ?_
 refine WPO_t ?_
 refine ⟨.sl false 1 [], .sl _ _, ?_⟩
 refine ⟨List.map Act.e ([a] : List Act), rfl, ?_⟩
 obtain ⟨x1, hx1, h⟩ := bind_inv h
 refine And.intro (app_le Act.e hx1) ⟨_, app_eq Act.e hx1, ?_⟩
 cases h
 exact ⟨rfl, rfl, rfl, rfl, by simp only [flatM, List.all_cons, List.all_nil, ParserM.flat, Bool.and_self]⟩
noncomputable def esc_Parser_print_l1 (rs : List Int) (t8 : Int) (p' : ParserM) : Option ((Int × ParserM) ⊕ ParserM) :=
 letB (decide (t8 < (rs.length : Int))) fun c1 =>
 bif c1 then (
  (idx rs t8).bind fun x3 =>
  (esc_Parser_say p' (Act.mk 1 x3 0 0 [] [] [])).bind fun y4 =>
  some (.inl (w64 (t8 + 1), y4)))
 else (
  some (.inr p'))
noncomputable def esc_Parser_print (p : ParserM) (rs : List Int) : Option ParserM :=
 (iter (fun s => esc_Parser_print_l1 rs s.1 s.2 : (Int × ParserM) → Option ((Int × ParserM) ⊕ ParserM)) (0, p)).bind fun j5 =>
 some j5
set_option maxRecDepth 20000 in
theorem esc_Parser_print_ok {p : ParserM} {rs : List Int} {r : ParserM} (h : esc_Parser_print p rs = some r) : CallT false (RF ET) 84 [.ptr 0 0, .sl false 1 (List.map ei32 rs)] [(ParserM.m p)] (.tuple []) [(ParserM.m r)] := by
 refine con_low (af := a84) rfl rfl ?_
 unfold esc_Parser_print at h
 refine WP_seq ?_
 refine WP_reg [0, 6, 7, 8] [] ?_
 refine WPO_f ?_
 refine ⟨_, (List.length_map ..).symm, ?_⟩
 refine WP_block ?_
 obtain ⟨j5, hj5, h⟩ := bind_inv h
 refine WP_iter hj5 [] (fun s => ([(0, .ptr 0 0), (6, .sl false 1 (List.map ei32 rs)), (7, .int .i64 (rs.length : Int)), (8, .int .i64 s.1)], [], [(ParserM.m s.2)])) (fun _ => []) (fun _ => []) (fun z => (.exit 0, [], [], [(ParserM.m z)])) ?_ ?_ ?_
 ·exact rfl
 ·clear h
  rintro ⟨t8, p'⟩ x h
  replace h : esc_Parser_print_l1 rs t8 p' = some x := h
  unfold esc_Parser_print_l1 at h
  show T.WP _ _ [(0, .ptr 0 0), (6, .sl false 1 (List.map ei32 rs)), (7, .int .i64 (rs.length : Int)), (8, .int .i64 t8)] [] [(ParserM.m p')] _
  refine WP_seq ?_
  refine WP_reg [0, 6, 7, 8, 9] [] ?_
  refine WPO_f ?_
  refine fun c1 hc1 => ?_
  replace h := letB_inv hc1 h
  refine WP_seq ?_
  refine WP_cond (b := c1) rfl (fun hb2 => ?_) (fun hb2 => ?_)
  ·replace h := bif_t hb2 h
   refine WP_skip ?_
   refine WP_seq ?_
   refine WP_block ?_
   refine WP_seq ?_
   refine WP_reg [0, 5, 6, 7, 8] [] ?_
   refine WPO_f ?_
   obtain ⟨x3, hx3, h⟩ := bind_inv h
   refine And.intro (idx_nn hx3) ⟨_, idx_get ei32 hx3, ?_⟩
   refine WP_reg [0, 6, 7, 8] [] ?_
   refine WPO_f ?_
   refine ⟨.sl true 1 [], .sl _ _, ?_⟩
   obtain ⟨y4, hy4, h⟩ := bind_inv h
   refine ⟨_, _, CallT.sub (i := 0) (esc_Parser_say_ok hy4) rfl _ rfl rfl (ParserM.flat _) (ParserM.flat _), ?_⟩
   refine WP_reg [0, 6, 7, 8] [] ?_
   refine WPO_f ?_
   cases h
   exact ⟨_, rfl, rfl⟩
  ·replace h := bif_f hb2 h
   refine WP_exit ?_
   cases h
   exact ⟨_, rfl, rfl⟩
 cases h
 exact ⟨rfl, rfl, rfl, rfl, by simp only [flatM, List.all_cons, List.all_nil, ParserM.flat, Bool.and_self]⟩
noncomputable def esc_state_on (s_ : Int) : Option Nat :=
 letB (decide (s_ = 1)) fun c1 =>
 bif c1 then (
  some 106)
 else (
  letB (decide (s_ = 2)) fun c3 =>
  bif c3 then (
   some 107)
  else (
   letB (decide (s_ = 3)) fun c5 =>
   bif c5 then (
    some 108)
   else (
    letB (decide (s_ = 4)) fun c7 =>
    bif c7 then (
     some 109)
    else (
     some 110))))
set_option maxRecDepth 20000 in
theorem esc_state_on_ok {s_ : Int} {r : Nat} (h : esc_state_on s_ = some r) : CallT true (RF ET) 86 [.int .i64 s_] [] (.func r []) [] := by
 refine CallT.quiet (con_low (af := a86) rfl rfl ?_) rfl
 unfold esc_state_on at h
 refine WP_seq ?_
 refine WP_reg [0] [] ?_
 refine WPO_f ?_
 refine WP_seq ?_
 refine WP_seq ?_
 refine WP_reg [3] [] ?_
 refine WPO_f ?_
 refine WP_block ?_
 refine WP_seq ?_
 refine WP_reg [3, 4] [] ?_
 refine WPO_f ?_
 refine fun c1 hc1 => ?_
 replace h := letB_inv hc1 h
 refine WP_cond (b := c1) rfl (fun hb2 => ?_) (fun hb2 => ?_)
 ·replace h := bif_t hb2 h
  refine WP_seq ?_
  refine WP_reg [2] [] ?_
  refine WPO_f ?_
  refine WP_ret ?_
  cases h
  exact ⟨rfl, rfl, rfl, rfl, rfl⟩
 ·replace h := bif_f hb2 h
  refine WP_seq ?_
  refine WP_reg [3, 6] [] ?_
  refine WPO_f ?_
  refine fun c3 hc3 => ?_
  replace h := letB_inv hc3 h
  refine WP_cond (b := c3) rfl (fun hb4 => ?_) (fun hb4 => ?_)
  ·replace h := bif_t hb4 h
   refine WP_seq ?_
   refine WP_reg [2] [] ?_
   refine WPO_f ?_
   refine WP_ret ?_
   cases h
   exact ⟨rfl, rfl, rfl, rfl, rfl⟩
  ·replace h := bif_f hb4 h
   refine WP_seq ?_
   refine WP_reg [3, 8] [] ?_
   refine WPO_f ?_
   refine fun c5 hc5 => ?_
   replace h := letB_inv hc5 h
   refine WP_cond (b := c5) rfl (fun hb6 => ?_) (fun hb6 => ?_)
   ·replace h := bif_t hb6 h
    refine WP_seq ?_
    refine WP_reg [2] [] ?_
    refine WPO_f ?_
    refine WP_ret ?_
    cases h
    exact ⟨rfl, rfl, rfl, rfl, rfl⟩
   ·replace h := bif_f hb6 h
    refine WP_seq ?_
    refine WP_reg [10] [] ?_
    refine WPO_f ?_
    refine fun c7 hc7 => ?_
    replace h := letB_inv hc7 h
    refine WP_cond (b := c7) rfl (fun hb8 => ?_) (fun hb8 => ?_)
    ·replace h := bif_t hb8 h
     refine WP_seq ?_
     refine WP_reg [2] [] ?_
     refine WPO_f ?_
     refine WP_ret ?_
     cases h
     exact ⟨rfl, rfl, rfl, rfl, rfl⟩
    ·replace h := bif_f hb8 h
     refine WP_skip ?_
     refine WP_seq ?_
     refine WP_reg [2] [] ?_
     refine WPO_f ?_
     refine WP_ret ?_
     cases h
     exact ⟨rfl, rfl, rfl, rfl, rfl⟩
noncomputable def esc_Parser_begin (p : ParserM) (in_ : Int) : Option ParserM :=
 some (ParserM.mk p.text in_ false true (ActM.mk 0 0 0 0 [] (some []) []) 0 [] p.out)
set_option maxRecDepth 20000 in
theorem esc_Parser_begin_ok {p : ParserM} {in_ : Int} {r : ParserM} (h : esc_Parser_begin p in_ = some r) : CallT false (RF ET) 87 [.ptr 0 0, .int .i64 in_] [(ParserM.m p)] (.tuple []) [(ParserM.m r)] := by
 refine con_low (af := a87) rfl rfl ?_
 unfold esc_Parser_begin at h
 refine WP_seq ?_
 refine WP_reg [0] [] ?_
 refine WPO_f ?_
 refine WP_reg [] [] ?_
 refine WPO_f ?_
 refine ⟨.sl true 1 [], .sl _ _, ?_⟩
 refine ⟨.sl true 1 [], .sl _ _, ?_⟩
 cases h
 exact ⟨rfl, rfl, rfl, rfl, by simp only [flatM, List.all_cons, List.all_nil, ParserM.flat, Bool.and_self]⟩
noncomputable def esc_Parser_inter (p : ParserM) (c : Int) : Option ParserM :=
 letB (decide ((p.act.Inter.length : Int) = 2)) fun c1 =>
 bif c1 then (
  some ({ p with spoiled := true }))
 else (
  (sadd p.act.Inter (runeT (w32 c))).bind fun x3 =>
  some ({ p with act := { p.act with Inter := x3 } }))
set_option maxRecDepth 20000 in
theorem esc_Parser_inter_ok {p : ParserM} {c : Int} {r : ParserM} (h : esc_Parser_inter p c = some r) : CallT false (RF ET) 131 [.ptr 0 0, .int .u8 c] [(ParserM.m p)] (.tuple []) [(ParserM.m r)] := by
 refine con_low (af := a131) rfl rfl ?_
 unfold esc_Parser_inter at h
 refine WP_seq ?_
 refine WP_seq ?_
 refine WP_reg [0, 1, 10] [] ?_
 refine WPO_f ?_
 refine fun c1 hc1 => ?_
 replace h := letB_inv hc1 h
 refine WP_cond (b := c1) rfl (fun hb2 => ?_) (fun hb2 => ?_)
 ·replace h := bif_t hb2 h
  refine WP_seq ?_
  refine WP_reg [] [] ?_
  refine WPO_f ?_
  refine WP_ret ?_
  cases h
  exact ⟨rfl, rfl, rfl, rfl, by simp only [flatM, List.all_cons, List.all_nil, ParserM.flat, Bool.and_self]⟩
 ·replace h := bif_f hb2 h
  refine WP_skip ?_
  refine WP_reg [] [] ?_
  refine WPO_f ?_
  obtain ⟨x3, hx3, h⟩ := bind_inv h
  refine And.intro (sadd_le hx3) ⟨_, sadd_eq hx3, ?_⟩
  cases h
  exact ⟨rfl, rfl, rfl, rfl, by simp only [flatM, List.all_cons, List.all_nil, ParserM.flat, Bool.and_self]⟩
noncomputable def slices_Index_51_l1 (s_ : List Int) (v : Int) (t8 : Int) : Option (Int ⊕ (Int ⊕ Unit)) :=
 letB (decide (t8 < (s_.length : Int))) fun c1 =>
 bif c1 then (
  (idx s_ t8).bind fun x3 =>
  letB (decide (v = x3)) fun c4 =>
  bif c4 then (
   some (.inr (.inl t8)))
  else (
   some (.inl (w64 (t8 + 1)))))
 else (
  some (.inr (.inr ())))
noncomputable def slices_Index_51 (s_ : List Int) (v : Int) : Option Int :=
 (iter (fun s => slices_Index_51_l1 s_ v s : Int → Option (Int ⊕ (Int ⊕ Unit))) 0).bind fun j6 =>
 match j6 with
 | .inl z7 => (
  some z7)
 | .inr z8 => (
  some (-1))
set_option maxRecDepth 20000 in
theorem slices_Index_51_ok {s_ : List Int} {v : Int} {r : Int} (h : slices_Index_51 s_ v = some r) : CallT true (RF ET) 152 [.sl false 1 (List.map by8 s_), .int .u8 v] [] (.int .i64 r) [] := by
 refine CallT.quiet (con_low (af := a152) rfl rfl ?_) rfl
 unfold slices_Index_51 at h
 refine WP_seq ?_
 refine WP_reg [0, 1] [] ?_
 refine WPO_f ?_
 refine WP_seq ?_
 refine WP_seq ?_
 refine WP_reg [0, 1, 7, 8] [] ?_
 refine WPO_f ?_
 refine ⟨_, (List.length_map ..).symm, ?_⟩
 refine WP_block ?_
 obtain ⟨j6, hj6, h⟩ := bind_inv h
 refine WP_iter hj6 [] (fun s => ([(0, .sl false 1 (List.map by8 s_)), (1, .int .u8 v), (7, .int .i64 (s_.length : Int)), (8, .int .i64 s)], [], [])) (fun e => match e with | .ret => [4] | .exit 0 => [] | _ => []) (fun e => match e with | .ret => [] | .exit 0 => [] | _ => []) (fun r => match r with | .inl z => (.ret, [(4, .int .i64 z)], [], []) | .inr z => (.exit 0, [], [], [])) ?_ ?_ ?_
 ·exact rfl
 ·clear h
  rintro t8 x h
  replace h : slices_Index_51_l1 s_ v t8 = some x := h
  unfold slices_Index_51_l1 at h
  show T.WP _ _ [(0, .sl false 1 (List.map by8 s_)), (1, .int .u8 v), (7, .int .i64 (s_.length : Int)), (8, .int .i64 t8)] [] [] _
  refine WP_seq ?_
  refine WP_reg [0, 1, 7, 8, 9] [] ?_
  refine WPO_f ?_
  refine fun c1 hc1 => ?_
  replace h := letB_inv hc1 h
  refine WP_seq ?_
  refine WP_cond (b := c1) rfl (fun hb2 => ?_) (fun hb2 => ?_)
  ·replace h := bif_t hb2 h
   refine WP_skip ?_
   refine WP_seq ?_
   refine WP_block ?_
   refine WP_seq ?_
   refine WP_reg [0, 1, 5, 7, 8] [] ?_
   refine WPO_f ?_
   refine WP_seq ?_
   refine WP_reg [0, 1, 5, 7, 8, 16] [] ?_
   refine WPO_f ?_
   obtain ⟨x3, hx3, h⟩ := bind_inv h
   refine And.intro (idx_nn hx3) ⟨_, idx_get by8 hx3, ?_⟩
   refine fun c4 hc4 => ?_
   replace h := letB_inv hc4 h
   refine WP_cond (b := c4) rfl (fun hb5 => ?_) (fun hb5 => ?_)
   ·replace h := bif_t hb5 h
    refine WP_seq ?_
    refine WP_reg [4] [] ?_
    refine WPO_f ?_
    refine WP_ret ?_
    cases h
    exact ⟨_, rfl, rfl⟩
   ·replace h := bif_f hb5 h
    refine WP_skip ?_
    refine WP_reg [0, 1, 7, 8] [] ?_
    refine WPO_f ?_
    cases h
    exact ⟨_, rfl, rfl⟩
  ·replace h := bif_f hb2 h
   refine WP_exit ?_
   cases h
   exact ⟨_, rfl, rfl⟩
 rcases j6 with z7 | z8
 ·cases h
  exact ⟨rfl, rfl, rfl, rfl, rfl⟩
 ·refine WP_seq ?_
  refine WP_reg [4] [] ?_
  refine WPO_f ?_
  refine WP_ret ?_
  cases h
  exact ⟨rfl, rfl, rfl, rfl, rfl⟩
noncomputable def slices_Contains_40 (s_ : List Int) (v : Int) : Option Bool :=
 (slices_Index_51 s_ v).bind fun y1 =>
 letB (decide (y1 ≥ 0)) fun c2 =>
 some c2
set_option maxRecDepth 20000 in
theorem slices_Contains_40_ok {s_ : List Int} {v : Int} {r : Bool} (h : slices_Contains_40 s_ v = some r) : CallT true (RF ET) 132 [.sl false 1 (List.map by8 s_), .int .u8 v] [] (.bool r) [] := by
 refine CallT.quiet (con_low (af := a132) rfl rfl ?_) rfl
 unfold slices_Contains_40 at h
 refine WP_seq ?_
 refine WP_reg [0, 1] [] ?_
 refine WPO_f ?_
 refine WP_seq ?_
 refine WP_reg [4] [] ?_
 refine WPO_f ?_
 obtain ⟨y1, hy1, h⟩ := bind_inv h
 refine ⟨_, _, CallT.any (slices_Index_51_ok hy1) rfl _ rfl, ?_⟩
 refine fun c2 hc2 => ?_
 replace h := letB_inv hc2 h
 refine WP_ret ?_
 cases h
 exact ⟨rfl, rfl, rfl, rfl, rfl⟩
noncomputable def esc_Parser_behind (p : ParserM) (c : Int) : Option ParserM :=
 Option.bind (
  letB (decide (c < 48)) fun c1 =>
  Option.bind (
   bif c1 then (
    (esc_Parser_inter p c).bind fun y3 =>
    some (.inr y3))
   else (
    letB (decide (c = 91)) fun c4 =>
    (bif c4 then (
     letB (decide (p.act.Inter = [])) fun c6 =>
     some (c6)) else some false).bind fun g5 =>
    Option.bind (
     bif g5 then (
      (esc_Parser_begin p 2).bind fun y9 =>
      some (.inr y9))
     else (
      letB (decide (p.act.Inter = [])) fun c10 =>
      (bif c10 then (
       (slices_Contains_40 [93, 80, 88, 94, 95] c).bind fun y12 =>
       some (y12)) else some false).bind fun g11 =>
      Option.bind (
       bif g11 then (
        (esc_Parser_begin p 3).bind fun y15 =>
        some (.inr ({ y15 with act := { y15.act with Final := c } })))
       else (
        letB (decide (c < 127)) fun c16 =>
        (bif c16 then (
         some ((!p.spoiled))) else some false).bind fun g17 =>
        Option.bind (
         bif g17 then (
          (esc_Parser_say p (Act.mk 3 0 c 0 p.act.Inter [] [])).bind fun y20 =>
          some (y20))
         else (
          some (p)) : Option ParserM) fun j21 =>
        some (.inl j21)) : Option (ParserM ⊕ ParserM)) fun j22 =>
      match j22 with
      | .inl z23 => (
       some (.inl z23))
      | .inr z24 => (
       some (.inr z24))) : Option (ParserM ⊕ ParserM)) fun j25 =>
    match j25 with
    | .inl z26 => (
     some (.inl z26))
    | .inr z27 => (
     some (.inr z27))) : Option (ParserM ⊕ ParserM)) fun j28 =>
  match j28 with
  | .inl z29 => (
   some (.inl z29))
  | .inr z30 => (
   some (.inr z30)) : Option (ParserM ⊕ ParserM)) fun j31 =>
 match j31 with
 | .inl z32 => (
  some ({ z32 with in_ := 0 }))
 | .inr z33 => (
  some z33)
set_option maxRecDepth 20000 in
theorem esc_Parser_behind_ok {p : ParserM} {c : Int} {r : ParserM} (h : esc_Parser_behind p c = some r) : CallT false (RF ET) 106 [.ptr 0 0, .int .u8 c] [(ParserM.m p)] (.tuple []) [(ParserM.m r)] := by
 refine con_low (af := a106) rfl rfl ?_
 unfold esc_Parser_behind at h
 refine WP_seq ?_
 obtain ⟨j31, hj31, h⟩ := bind_inv h
 refine WP_cut j31 (fun r => match r with | .inl z => (.normal, [(0, .ptr 0 0)], [], [(ParserM.m z)]) | .inr z => (.ret, [], [], [(ParserM.m z)])) (fun e => match e with | .normal => [0] | .ret => [] | _ => []) (fun e => match e with | .normal => [] | .ret => [] | _ => []) ?_ ?_
 ·clear h
  replace h := hj31
  clear hj31
  refine WP_block ?_
  refine WP_seq ?_
  refine WP_reg [0, 1, 4] [] ?_
  refine WPO_f ?_
  refine fun c1 hc1 => ?_
  replace h := letB_inv hc1 h
  obtain ⟨j28, hj28, h⟩ := bind_inv h
  refine WP_cut j28 (fun r => match r with | .inl z => (.normal, [(0, .ptr 0 0)], [], [(ParserM.m z)]) | .inr z => (.ret, [], [], [(ParserM.m z)])) (fun e => match e with | .normal => [0] | .ret => [] | _ => []) (fun e => match e with | .normal => [] | .ret => [] | _ => []) ?_ ?_
  ·clear h
   replace h := hj28
   clear hj28
   refine WP_cond (b := c1) rfl (fun hb2 => ?_) (fun hb2 => ?_)
   ·replace h := bif_t hb2 h
    refine WP_seq ?_
    refine WP_reg [] [] ?_
    refine WPO_f ?_
    obtain ⟨y3, hy3, h⟩ := bind_inv h
    refine ⟨_, _, CallT.sub (i := 0) (esc_Parser_inter_ok hy3) rfl _ rfl rfl (ParserM.flat _) (ParserM.flat _), ?_⟩
    refine WP_ret ?_
    cases h
    exact rfl
   ·replace h := bif_f hb2 h
    refine WP_seq ?_
    refine WP_reg [0, 1, 10] [] ?_
    refine WPO_then 3 ?_
    refine WPO_f ?_
    refine fun c4 hc4 => ?_
    replace h := letB_inv hc4 h
    obtain ⟨g5, hg5, h⟩ := bind_inv h
    refine WPO_grp 7 20 [0, 1, 20] g5 ?_ ?_
    ·clear h
     replace h := hg5
     clear hg5
     cases hb7 : c4 with
     | true =>
      replace h := bif_t hb7 h
      refine WPO_f ?_
      refine fun c6 hc6 => ?_
      replace h := letB_inv hc6 h
      cases h
      exact ⟨rfl, rfl, rfl⟩
     | false =>
      replace h := bif_f hb7 h
      cases h
      refine WPO_f ?_
      exact ⟨rfl, rfl, rfl⟩
    refine WPO_f ?_
    obtain ⟨j25, hj25, h⟩ := bind_inv h
    refine WP_cut j25 (fun r => match r with | .inl z => (.normal, [(0, .ptr 0 0)], [], [(ParserM.m z)]) | .inr z => (.ret, [], [], [(ParserM.m z)])) (fun e => match e with | .normal => [0] | .ret => [] | _ => []) (fun e => match e with | .normal => [] | .ret => [] | _ => []) ?_ ?_
    ·clear h
     replace h := hj25
     clear hj25
     refine WP_cond (b := g5) rfl (fun hb8 => ?_) (fun hb8 => ?_)
     ·replace h := bif_t hb8 h
      refine WP_seq ?_
      refine WP_reg [] [] ?_
      refine WPO_f ?_
      obtain ⟨y9, hy9, h⟩ := bind_inv h
      refine ⟨_, _, CallT.sub (i := 0) (esc_Parser_begin_ok hy9) rfl _ rfl rfl (ParserM.flat _) (ParserM.flat _), ?_⟩
      refine WP_ret ?_
      cases h
      exact rfl
     ·replace h := bif_f hb8 h
      refine WP_seq ?_
      refine WP_reg [0, 1, 23] [] ?_
      refine WPO_then 7 ?_
      refine WPO_f ?_
      refine fun c10 hc10 => ?_
      replace h := letB_inv hc10 h
      obtain ⟨g11, hg11, h⟩ := bind_inv h
      refine WPO_grp 5 35 [0, 1, 35] g11 ?_ ?_
      ·clear h
       replace h := hg11
       clear hg11
       cases hb13 : c10 with
       | true =>
        replace h := bif_t hb13 h
        refine WPO_f ?_
        refine ⟨List.map by8 ([93, 80, 88, 94, 95] : List Int), rfl, ?_⟩
        refine And.intro (by simp) ?_
        obtain ⟨y12, hy12, h⟩ := bind_inv h
        refine ⟨_, _, CallT.any (slices_Contains_40_ok hy12) rfl _ rfl, ?_⟩
        cases h
        exact ⟨rfl, rfl, rfl⟩
       | false =>
        replace h := bif_f hb13 h
        cases h
        refine WPO_f ?_
        exact ⟨rfl, rfl, rfl⟩
      refine WPO_f ?_
      obtain ⟨j22, hj22, h⟩ := bind_inv h
      refine WP_cut j22 (fun r => match r with | .inl z => (.normal, [(0, .ptr 0 0)], [], [(ParserM.m z)]) | .inr z => (.ret, [], [], [(ParserM.m z)])) (fun e => match e with | .normal => [0] | .ret => [] | _ => []) (fun e => match e with | .normal => [] | .ret => [] | _ => []) ?_ ?_
      ·clear h
       replace h := hj22
       clear hj22
       refine WP_cond (b := g11) rfl (fun hb14 => ?_) (fun hb14 => ?_)
       ·replace h := bif_t hb14 h
        refine WP_seq ?_
        refine WP_reg [0, 1] [] ?_
        refine WPO_f ?_
        obtain ⟨y15, hy15, h⟩ := bind_inv h
        refine ⟨_, _, CallT.sub (i := 0) (esc_Parser_begin_ok hy15) rfl _ rfl rfl (ParserM.flat _) (ParserM.flat _), ?_⟩
        refine WP_seq ?_
        refine WP_reg [] [] ?_
        refine WPO_f ?_
        refine WP_ret ?_
        cases h
        exact rfl
       ·replace h := bif_f hb14 h
        refine WP_seq ?_
        refine WP_reg [0, 1, 43] [] ?_
        refine WPO_then 3 ?_
        refine WPO_f ?_
        refine fun c16 hc16 => ?_
        replace h := letB_inv hc16 h
        obtain ⟨g17, hg17, h⟩ := bind_inv h
        refine WPO_grp 6 52 [0, 1, 52] g17 ?_ ?_
        ·clear h
         replace h := hg17
         clear hg17
         cases hb18 : c16 with
         | true =>
          replace h := bif_t hb18 h
          refine WPO_f ?_
          cases h
          exact ⟨rfl, rfl, rfl⟩
         | false =>
          replace h := bif_f hb18 h
          cases h
          refine WPO_f ?_
          exact ⟨rfl, rfl, rfl⟩
        refine WPO_f ?_
        obtain ⟨j21, hj21, h⟩ := bind_inv h
        refine WP_cut j21 (fun z => (.normal, [(0, .ptr 0 0)], [], [(ParserM.m z)])) (fun _ => [0]) (fun _ => []) ?_ ?_
        ·clear h
         replace h := hj21
         clear hj21
         refine WP_cond (b := g17) rfl (fun hb19 => ?_) (fun hb19 => ?_)
         ·replace h := bif_t hb19 h
          refine WP_reg [0] [] ?_
          refine WPO_f ?_
          refine ⟨.sl true 1 [], .sl _ _, ?_⟩
          obtain ⟨y20, hy20, h⟩ := bind_inv h
          refine ⟨_, _, CallT.sub (i := 0) (esc_Parser_say_ok hy20) rfl _ rfl rfl (ParserM.flat _) (ParserM.flat _), ?_⟩
          cases h
          exact rfl
         ·replace h := bif_f hb19 h
          refine WP_skip ?_
          cases h
          exact rfl
        cases h
        exact rfl
      rcases j22 with z23 | z24
      ·cases h
       exact rfl
      ·cases h
       exact rfl
    rcases j25 with z26 | z27
    ·cases h
     exact rfl
    ·cases h
     exact rfl
  rcases j28 with z29 | z30
  ·cases h
   exact rfl
  ·cases h
   exact rfl
 rcases j31 with z32 | z33
 ·refine WP_reg [] [] ?_
  refine WPO_f ?_
  cases h
  exact ⟨rfl, rfl, rfl, rfl, by simp only [flatM, List.all_cons, List.all_nil, ParserM.flat, Bool.and_self]⟩
 ·cases h
  exact ⟨rfl, rfl, rfl, rfl, by simp only [flatM, List.all_cons, List.all_nil, ParserM.flat, Bool.and_self]⟩
noncomputable def esc_Parser_end (p : ParserM) (c : Int) : Option ParserM :=
 (p.act.Params).bind fun x1 =>
 Option.bind (
  bif (!p.spoiled) then (
   (esc_Parser_say ({ p with in_ := 0, act := { p.act with Kind := 4, Final := c, Params := none } }) ({ p.act with Kind := 4, Final := c, Params := x1 })).bind fun y3 =>
   some (y3))
  else (
   some ({ p with in_ := 0, act := { p.act with Params := some x1 } })) : Option ParserM) fun j4 =>
 some j4
set_option maxRecDepth 20000 in
theorem esc_Parser_end_ok {p : ParserM} {c : Int} {r : ParserM} (h : esc_Parser_end p c = some r) : CallT false (RF ET) 133 [.ptr 0 0, .int .u8 c] [(ParserM.m p)] (.tuple []) [(ParserM.m r)] := by
 refine con_low (af := a133) rfl rfl ?_
 unfold esc_Parser_end at h
 refine WP_seq ?_
 obtain ⟨x1, hx1, h⟩ := bind_inv h
 show T.WP _ _ _ _ [(ParserM.m p)] _
 rw [show ((ParserM.m p) : List TV) = [.sl false 1 (List.map by8 p.text.waits), .int .i64 p.in_, .bool p.spoiled, .bool p.first, .int .i64 p.act.Kind, .int .i32 p.act.R, .int .u8 p.act.Final, .int .u8 p.act.Priv, .str p.act.Inter, .sl true 1 (List.map ei64 x1), .str p.act.Text, .int .i64 p.count, .sl true 1 (List.map by8 p.payload), .sl true 7 (List.map Act.e p.out)] from by first | (simp only [ParserM.m]; rw [hx1]; rfl) | (rw [hx1]; rfl)]
 refine WP_reg [0, 1] [] ?_
 refine WPO_f ?_
 refine WP_seq ?_
 refine WP_reg [0, 1, 11] [] ?_
 refine WPO_f ?_
 obtain ⟨j4, hj4, h⟩ := bind_inv h
 refine WP_cut j4 (fun z => (.normal, [], [], [(ParserM.m z)])) (fun _ => []) (fun _ => []) ?_ ?_
 ·clear h
  replace h := hj4
  clear hj4
  refine WP_cond (b := (!p.spoiled)) rfl (fun hb2 => ?_) (fun hb2 => ?_)
  ·replace h := bif_t hb2 h
   refine WP_seq ?_
   refine WP_reg [0] [] ?_
   refine WPO_f ?_
   refine WP_reg [] [] ?_
   refine WPO_f ?_
   obtain ⟨y3, hy3, h⟩ := bind_inv h
   refine ⟨_, _, CallT.sub (i := 0) (esc_Parser_say_ok hy3) rfl _ rfl rfl (ParserM.flat _) (ParserM.flat _), ?_⟩
   cases h
   exact rfl
  ·replace h := bif_f hb2 h
   refine WP_skip ?_
   cases h
   exact rfl
 cases h
 exact ⟨rfl, rfl, rfl, rfl, by simp only [flatM, List.all_cons, List.all_nil, ParserM.flat, Bool.and_self]⟩
noncomputable def esc_Parser_number (p : ParserM) (c : Int) : Option ParserM :=
 letB (decide (p.count = 0)) fun c1 =>
 Option.bind (
  bif c1 then (
   some ({ p with act := { p.act with Params := some [(-1)] }, count := 1 }))
  else (
   some (p)) : Option ParserM) fun j3 =>
 (j3.act.Params).bind fun x4 =>
 letB (decide (c = 59)) fun c5 =>
 bif c5 then (
  letB (decide ((w64 (j3.count + 1)) ≤ 16)) fun c7 =>
  Option.bind (
   bif c7 then (
    (app x4 [(-1)]).bind fun x9 =>
    some ({ j3 with act := { j3.act with Params := some x9 }, count := w64 (j3.count + 1) }))
   else (
    some ({ j3 with act := { j3.act with Params := some x4 }, count := w64 (j3.count + 1) })) : Option ParserM) fun j10 =>
  some j10)
 else (
  letB (decide (j3.count ≤ 16)) fun c11 =>
  Option.bind (
   bif c11 then (
    (idx x4 (w64 (j3.count - 1))).bind fun x13 =>
    some ({ j3 with act := { j3.act with Params := some (upI x4 (w64 (j3.count - 1)) (min (w64 ((w64 ((max x13 0) * 10)) + (w64 (w8 (c - 48))))) 9999)) } }))
   else (
    some ({ j3 with act := { j3.act with Params := some x4 } })) : Option ParserM) fun j14 =>
  some j14)
set_option maxRecDepth 20000 in
theorem esc_Parser_number_ok {p : ParserM} {c : Int} {r : ParserM} (h : esc_Parser_number p c = some r) : CallT false (RF ET) 134 [.ptr 0 0, .int .u8 c] [(ParserM.m p)] (.tuple []) [(ParserM.m r)] := by
 refine con_low (af := a134) rfl rfl ?_
 unfold esc_Parser_number at h
 refine WP_seq ?_
 refine WP_seq ?_
 refine WP_reg [0, 1, 9] [] ?_
 refine WPO_f ?_
 refine fun c1 hc1 => ?_
 replace h := letB_inv hc1 h
 obtain ⟨j3, hj3, h⟩ := bind_inv h
 refine WP_cut j3 (fun z => (.normal, [(0, .ptr 0 0), (1, .int .u8 c)], [], [(ParserM.m z)])) (fun _ => [0, 1]) (fun _ => []) ?_ ?_
 ·clear h
  replace h := hj3
  clear hj3
  refine WP_cond (b := c1) rfl (fun hb2 => ?_) (fun hb2 => ?_)
  ·replace h := bif_t hb2 h
   refine WP_seq ?_
   refine WP_reg [0, 1] [] ?_
   refine WPO_f ?_
   refine WP_reg [0, 1] [] ?_
   refine WPO_f ?_
   refine ⟨List.map ei64 ([(-1)] : List Int), rfl, ?_⟩
   cases h
   exact rfl
  ·replace h := bif_f hb2 h
   refine WP_skip ?_
   cases h
   exact rfl
 refine WP_seq ?_
 refine WP_seq ?_
 obtain ⟨x4, hx4, h⟩ := bind_inv h
 show T.WP _ _ _ _ [(ParserM.m j3)] _
 rw [show ((ParserM.m j3) : List TV) = [.sl false 1 (List.map by8 j3.text.waits), .int .i64 j3.in_, .bool j3.spoiled, .bool j3.first, .int .i64 j3.act.Kind, .int .i32 j3.act.R, .int .u8 j3.act.Final, .int .u8 j3.act.Priv, .str j3.act.Inter, .sl true 1 (List.map ei64 x4), .str j3.act.Text, .int .i64 j3.count, .sl true 1 (List.map by8 j3.payload), .sl true 7 (List.map Act.e j3.out)] from by first | (simp only [ParserM.m]; rw [hx4]; rfl) | (rw [hx4]; rfl)]
 refine WP_reg [0, 1, 19] [] ?_
 refine WPO_f ?_
 refine fun c5 hc5 => ?_
 replace h := letB_inv hc5 h
 refine WP_cond (b := c5) rfl (fun hb6 => ?_) (fun hb6 => ?_)
 ·replace h := bif_t hb6 h
  refine WP_seq ?_
  refine WP_reg [0] [] ?_
  refine WPO_f ?_
  refine WP_seq ?_
  refine WP_seq ?_
  refine WP_reg [0, 31] [] ?_
  refine WPO_f ?_
  refine fun c7 hc7 => ?_
  replace h := letB_inv hc7 h
  obtain ⟨j10, hj10, h⟩ := bind_inv h
  refine WP_cut j10 (fun z => (.normal, [], [], [(ParserM.m z)])) (fun _ => []) (fun _ => []) ?_ ?_
  ·clear h
   replace h := hj10
   clear hj10
   refine WP_cond (b := c7) rfl (fun hb8 => ?_) (fun hb8 => ?_)
   ·replace h := bif_t hb8 h
    refine WP_reg [] [] ?_
    refine WPO_f ?_
    refine ⟨List.map ei64 ([(-1)] : List Int), rfl, ?_⟩
    obtain ⟨x9, hx9, h⟩ := bind_inv h
    refine And.intro (app_le ei64 hx9) ⟨_, app_eq ei64 hx9, ?_⟩
    cases h
    exact rfl
   ·replace h := bif_f hb8 h
    refine WP_skip ?_
    cases h
    exact rfl
  refine WP_ret ?_
  cases h
  exact ⟨rfl, rfl, rfl, rfl, by simp only [flatM, List.all_cons, List.all_nil, ParserM.flat, Bool.and_self]⟩
 ·replace h := bif_f hb6 h
  refine WP_skip ?_
  refine WP_seq ?_
  refine WP_reg [0, 1, 47] [] ?_
  refine WPO_f ?_
  refine fun c11 hc11 => ?_
  replace h := letB_inv hc11 h
  obtain ⟨j14, hj14, h⟩ := bind_inv h
  refine WP_cut j14 (fun z => (.normal, [], [], [(ParserM.m z)])) (fun _ => []) (fun _ => []) ?_ ?_
  ·clear h
   replace h := hj14
   clear hj14
   refine WP_cond (b := c11) rfl (fun hb12 => ?_) (fun hb12 => ?_)
   ·replace h := bif_t hb12 h
    refine WP_seq ?_
    refine WP_reg [1, 4] [] ?_
    refine WPO_t ?_
    obtain ⟨x13, hx13, h⟩ := bind_inv h
    refine And.intro (idx_len ei64 hx13) ?_
    refine WP_reg [] [] ?_
    refine WPO_f ?_
    refine ⟨_, idx_get ei64 hx13, ?_⟩
    refine ⟨_, idx_get ei64 hx13, ?_⟩
    refine ⟨_, upI_map (e := ei64) (i := w64 (j3.count - 1)) (x := min (w64 ((w64 ((max x13 0) * 10)) + (w64 (w8 (c - 48))))) 9999) rfl, ?_⟩
    cases h
    exact rfl
   ·replace h := bif_f hb12 h
    refine WP_skip ?_
    cases h
    exact rfl
  cases h
  exact ⟨rfl, rfl, rfl, rfl, by simp only [flatM, List.all_cons, List.all_nil, ParserM.flat, Bool.and_self]⟩
noncomputable def esc_Parser_sequence (p : ParserM) (c : Int) : Option ParserM :=
 Option.bind (
  letB (decide (c ≥ 128)) fun c1 =>
  Option.bind (
   bif c1 then (
    some ({ p with in_ := 0, first := false }))
   else (
    letB (decide (c < 48)) fun c3 =>
    Option.bind (
     bif c3 then (
      (esc_Parser_inter ({ p with first := false }) c).bind fun y5 =>
      some (y5))
     else (
      letB (decide (c ≥ 64)) fun c6 =>
      Option.bind (
       bif c6 then (
        (esc_Parser_end ({ p with first := false }) c).bind fun y8 =>
        some (y8))
       else (
        letB (decide (c ≥ 60)) fun c9 =>
        (bif c9 then (
         some (p.first)) else some false).bind fun g10 =>
        Option.bind (
         bif g10 then (
          some ({ p with first := false, act := { p.act with Priv := c } }))
         else (
          letB (decide (c = 58)) fun c13 =>
          (bif c13 then some true else (
           letB (decide (c ≥ 60)) fun c15 =>
           some (c15))).bind fun g14 =>
          (bif g14 then some true else (
           letB (decide (p.act.Inter ≠ [])) fun c18 =>
           some (c18))).bind fun g17 =>
          Option.bind (
           bif g17 then (
            some ({ p with spoiled := true, first := false }))
           else (
            (esc_Parser_number ({ p with first := false }) c).bind fun y21 =>
            some (y21)) : Option ParserM) fun j22 =>
          some (j22)) : Option ParserM) fun j23 =>
        some (j23)) : Option ParserM) fun j24 =>
      some (j24)) : Option ParserM) fun j25 =>
    some (j25)) : Option ParserM) fun j26 =>
  some (j26) : Option ParserM) fun j27 =>
 some j27
set_option maxRecDepth 20000 in
theorem esc_Parser_sequence_ok {p : ParserM} {c : Int} {r : ParserM} (h : esc_Parser_sequence p c = some r) : CallT false (RF ET) 107 [.ptr 0 0, .int .u8 c] [(ParserM.m p)] (.tuple []) [(ParserM.m r)] := by
 refine con_low (af := a107) rfl rfl ?_
 unfold esc_Parser_sequence at h
 refine WP_seq ?_
 refine WP_reg [0, 1, 4] [] ?_
 refine WPO_f ?_
 refine WP_seq ?_
 refine WP_reg [0, 1, 4] [] ?_
 refine WPO_f ?_
 obtain ⟨j27, hj27, h⟩ := bind_inv h
 refine WP_cut j27 (fun z => (.normal, [], [], [(ParserM.m z)])) (fun _ => []) (fun _ => []) ?_ ?_
 ·clear h
  replace h := hj27
  clear hj27
  refine WP_block ?_
  refine WP_seq ?_
  refine WP_reg [0, 1, 4, 15] [] ?_
  refine WPO_f ?_
  refine fun c1 hc1 => ?_
  replace h := letB_inv hc1 h
  obtain ⟨j26, hj26, h⟩ := bind_inv h
  refine WP_cut j26 (fun z => (.normal, [], [], [(ParserM.m z)])) (fun _ => []) (fun _ => []) ?_ ?_
  ·clear h
   replace h := hj26
   clear hj26
   refine WP_cond (b := c1) rfl (fun hb2 => ?_) (fun hb2 => ?_)
   ·replace h := bif_t hb2 h
    refine WP_reg [] [] ?_
    refine WPO_f ?_
    cases h
    exact rfl
   ·replace h := bif_f hb2 h
    refine WP_seq ?_
    refine WP_reg [0, 1, 4, 21] [] ?_
    refine WPO_f ?_
    refine fun c3 hc3 => ?_
    replace h := letB_inv hc3 h
    obtain ⟨j25, hj25, h⟩ := bind_inv h
    refine WP_cut j25 (fun z => (.normal, [], [], [(ParserM.m z)])) (fun _ => []) (fun _ => []) ?_ ?_
    ·clear h
     replace h := hj25
     clear hj25
     refine WP_cond (b := c3) rfl (fun hb4 => ?_) (fun hb4 => ?_)
     ·replace h := bif_t hb4 h
      refine WP_reg [] [] ?_
      refine WPO_f ?_
      obtain ⟨y5, hy5, h⟩ := bind_inv h
      refine ⟨_, _, CallT.sub (i := 0) (esc_Parser_inter_ok hy5) rfl _ rfl rfl (ParserM.flat _) (ParserM.flat _), ?_⟩
      cases h
      exact rfl
     ·replace h := bif_f hb4 h
      refine WP_seq ?_
      refine WP_reg [0, 1, 4, 27] [] ?_
      refine WPO_f ?_
      refine fun c6 hc6 => ?_
      replace h := letB_inv hc6 h
      obtain ⟨j24, hj24, h⟩ := bind_inv h
      refine WP_cut j24 (fun z => (.normal, [], [], [(ParserM.m z)])) (fun _ => []) (fun _ => []) ?_ ?_
      ·clear h
       replace h := hj24
       clear hj24
       refine WP_cond (b := c6) rfl (fun hb7 => ?_) (fun hb7 => ?_)
       ·replace h := bif_t hb7 h
        refine WP_reg [] [] ?_
        refine WPO_f ?_
        obtain ⟨y8, hy8, h⟩ := bind_inv h
        refine ⟨_, _, CallT.sub (i := 0) (esc_Parser_end_ok hy8) rfl _ rfl rfl (ParserM.flat _) (ParserM.flat _), ?_⟩
        cases h
        exact rfl
       ·replace h := bif_f hb7 h
        refine WP_seq ?_
        refine WP_reg [0, 1, 33] [] ?_
        refine WPO_then 3 ?_
        refine WPO_f ?_
        refine fun c9 hc9 => ?_
        replace h := letB_inv hc9 h
        obtain ⟨g10, hg10, h⟩ := bind_inv h
        refine WPO_grp 2 38 [0, 1, 38] g10 ?_ ?_
        ·clear h
         replace h := hg10
         clear hg10
         cases hb11 : c9 with
         | true =>
          replace h := bif_t hb11 h
          refine WPO_f ?_
          cases h
          exact ⟨rfl, rfl, rfl⟩
         | false =>
          replace h := bif_f hb11 h
          cases h
          refine WPO_f ?_
          exact ⟨rfl, rfl, rfl⟩
        refine WPO_f ?_
        obtain ⟨j23, hj23, h⟩ := bind_inv h
        refine WP_cut j23 (fun z => (.normal, [], [], [(ParserM.m z)])) (fun _ => []) (fun _ => []) ?_ ?_
        ·clear h
         replace h := hj23
         clear hj23
         refine WP_cond (b := g10) rfl (fun hb12 => ?_) (fun hb12 => ?_)
         ·replace h := bif_t hb12 h
          refine WP_reg [] [] ?_
          refine WPO_f ?_
          cases h
          exact rfl
         ·replace h := bif_f hb12 h
          refine WP_seq ?_
          refine WP_reg [0, 1, 44] [] ?_
          refine WPO_then 3 ?_
          refine WPO_f ?_
          refine fun c13 hc13 => ?_
          replace h := letB_inv hc13 h
          obtain ⟨g14, hg14, h⟩ := bind_inv h
          refine WPO_grp 3 50 [0, 1, 50] g14 ?_ ?_
          ·clear h
           replace h := hg14
           clear hg14
           cases hb16 : c13 with
           | false =>
            replace h := bif_f hb16 h
            refine WPO_f ?_
            refine fun c15 hc15 => ?_
            replace h := letB_inv hc15 h
            cases h
            exact ⟨rfl, rfl, rfl⟩
           | true =>
            replace h := bif_t hb16 h
            cases h
            refine WPO_f ?_
            exact ⟨rfl, rfl, rfl⟩
          refine WPO_then 1 ?_
          refine WPO_f ?_
          obtain ⟨g17, hg17, h⟩ := bind_inv h
          refine WPO_grp 7 58 [0, 1, 58] g17 ?_ ?_
          ·clear h
           replace h := hg17
           clear hg17
           cases hb19 : g14 with
           | false =>
            replace h := bif_f hb19 h
            refine WPO_f ?_
            refine fun c18 hc18 => ?_
            replace h := letB_inv hc18 h
            cases h
            exact ⟨rfl, rfl, rfl⟩
           | true =>
            replace h := bif_t hb19 h
            cases h
            refine WPO_f ?_
            exact ⟨rfl, rfl, rfl⟩
          refine WPO_f ?_
          obtain ⟨j22, hj22, h⟩ := bind_inv h
          refine WP_cut j22 (fun z => (.normal, [], [], [(ParserM.m z)])) (fun _ => []) (fun _ => []) ?_ ?_
          ·clear h
           replace h := hj22
           clear hj22
           refine WP_cond (b := g17) rfl (fun hb20 => ?_) (fun hb20 => ?_)
           ·replace h := bif_t hb20 h
            refine WP_reg [] [] ?_
            refine WPO_f ?_
            cases h
            exact rfl
           ·replace h := bif_f hb20 h
            refine WP_reg [] [] ?_
            refine WPO_f ?_
            obtain ⟨y21, hy21, h⟩ := bind_inv h
            refine ⟨_, _, CallT.sub (i := 0) (esc_Parser_number_ok hy21) rfl _ rfl rfl (ParserM.flat _) (ParserM.flat _), ?_⟩
            cases h
            exact rfl
          cases h
          exact rfl
        cases h
        exact rfl
      cases h
      exact rfl
    cases h
    exact rfl
  cases h
  exact rfl
 cases h
 exact ⟨rfl, rfl, rfl, rfl, by simp only [flatM, List.all_cons, List.all_nil, ParserM.flat, Bool.and_self]⟩
noncomputable def esc_Parser_endString (p : ParserM) : Option ParserM :=
 (bstr p.payload).bind fun x1 =>
 (esc_Parser_say ({ p with in_ := 0 }) (Act.mk 5 0 p.act.Final 0 [] [] x1)).bind fun y2 =>
 some y2
set_option maxRecDepth 20000 in
theorem esc_Parser_endString_ok {p : ParserM} {r : ParserM} (h : esc_Parser_endString p = some r) : CallT false (RF ET) 135 [.ptr 0 0] [(ParserM.m p)] (.tuple []) [(ParserM.m r)] := by
 refine con_low (af := a135) rfl rfl ?_
 unfold esc_Parser_endString at h
 refine WP_seq ?_
 refine WP_reg [0] [] ?_
 refine WPO_f ?_
 refine WP_reg [] [] ?_
 refine WPO_t ?_
 obtain ⟨x1, hx1, h⟩ := bind_inv h
 refine ⟨_, bstr_inv hx1, ?_⟩
 refine ⟨.sl true 1 [], .sl _ _, ?_⟩
 obtain ⟨y2, hy2, h⟩ := bind_inv h
 refine ⟨_, _, CallT.sub (i := 0) (esc_Parser_say_ok hy2) rfl _ rfl rfl (ParserM.flat _) (ParserM.flat _), ?_⟩
 cases h
 exact ⟨rfl, rfl, rfl, rfl, by simp only [flatM, List.all_cons, List.all_nil, ParserM.flat, Bool.and_self]⟩
noncomputable def esc_Parser_collect (p : ParserM) (c : Int) : Option ParserM :=
 Option.bind (
  letB (decide (c = 7)) fun c1 =>
  Option.bind (
   bif c1 then (
    (esc_Parser_endString p).bind fun y3 =>
    some (y3))
   else (
    letB (decide (c = 27)) fun c4 =>
    Option.bind (
     bif c4 then (
      some ({ p with in_ := 4 }))
     else (
      letB (decide (c = 24)) fun c6 =>
      (bif c6 then some true else (
       letB (decide (c = 26)) fun c8 =>
       some (c8))).bind fun g7 =>
      Option.bind (
       bif g7 then (
        some ({ p with in_ := 0 }))
       else (
        letB (decide (c ≥ 32)) fun c11 =>
        (bif c11 then (
         letB (decide ((p.payload.length : Int) < 256)) fun c13 =>
         some (c13)) else some false).bind fun g12 =>
        Option.bind (
         bif g12 then (
          (app p.payload [c]).bind fun x16 =>
          some ({ p with payload := x16 }))
         else (
          some (p)) : Option ParserM) fun j17 =>
        some (j17)) : Option ParserM) fun j18 =>
      some (j18)) : Option ParserM) fun j19 =>
    some (j19)) : Option ParserM) fun j20 =>
  some (j20) : Option ParserM) fun j21 =>
 some j21
set_option maxRecDepth 20000 in
theorem esc_Parser_collect_ok {p : ParserM} {c : Int} {r : ParserM} (h : esc_Parser_collect p c = some r) : CallT false (RF ET) 108 [.ptr 0 0, .int .u8 c] [(ParserM.m p)] (.tuple []) [(ParserM.m r)] := by
 refine con_low (af := a108) rfl rfl ?_
 unfold esc_Parser_collect at h
 obtain ⟨j21, hj21, h⟩ := bind_inv h
 refine WP_cut j21 (fun z => (.normal, [], [], [(ParserM.m z)])) (fun _ => []) (fun _ => []) ?_ ?_
 ·clear h
  replace h := hj21
  clear hj21
  refine WP_block ?_
  refine WP_seq ?_
  refine WP_reg [0, 1, 4] [] ?_
  refine WPO_f ?_
  refine fun c1 hc1 => ?_
  replace h := letB_inv hc1 h
  obtain ⟨j20, hj20, h⟩ := bind_inv h
  refine WP_cut j20 (fun z => (.normal, [], [], [(ParserM.m z)])) (fun _ => []) (fun _ => []) ?_ ?_
  ·clear h
   replace h := hj20
   clear hj20
   refine WP_cond (b := c1) rfl (fun hb2 => ?_) (fun hb2 => ?_)
   ·replace h := bif_t hb2 h
    refine WP_reg [] [] ?_
    refine WPO_f ?_
    obtain ⟨y3, hy3, h⟩ := bind_inv h
    refine ⟨_, _, CallT.sub (i := 0) (esc_Parser_endString_ok hy3) rfl _ rfl rfl (ParserM.flat _) (ParserM.flat _), ?_⟩
    cases h
    exact rfl
   ·replace h := bif_f hb2 h
    refine WP_seq ?_
    refine WP_reg [0, 1, 9] [] ?_
    refine WPO_f ?_
    refine fun c4 hc4 => ?_
    replace h := letB_inv hc4 h
    obtain ⟨j19, hj19, h⟩ := bind_inv h
    refine WP_cut j19 (fun z => (.normal, [], [], [(ParserM.m z)])) (fun _ => []) (fun _ => []) ?_ ?_
    ·clear h
     replace h := hj19
     clear hj19
     refine WP_cond (b := c4) rfl (fun hb5 => ?_) (fun hb5 => ?_)
     ·replace h := bif_t hb5 h
      refine WP_reg [] [] ?_
      refine WPO_f ?_
      cases h
      exact rfl
     ·replace h := bif_f hb5 h
      refine WP_seq ?_
      refine WP_reg [0, 1, 15] [] ?_
      refine WPO_then 3 ?_
      refine WPO_f ?_
      refine fun c6 hc6 => ?_
      replace h := letB_inv hc6 h
      obtain ⟨g7, hg7, h⟩ := bind_inv h
      refine WPO_grp 3 21 [0, 1, 21] g7 ?_ ?_
      ·clear h
       replace h := hg7
       clear hg7
       cases hb9 : c6 with
       | false =>
        replace h := bif_f hb9 h
        refine WPO_f ?_
        refine fun c8 hc8 => ?_
        replace h := letB_inv hc8 h
        cases h
        exact ⟨rfl, rfl, rfl⟩
       | true =>
        replace h := bif_t hb9 h
        cases h
        refine WPO_f ?_
        exact ⟨rfl, rfl, rfl⟩
      refine WPO_f ?_
      obtain ⟨j18, hj18, h⟩ := bind_inv h
      refine WP_cut j18 (fun z => (.normal, [], [], [(ParserM.m z)])) (fun _ => []) (fun _ => []) ?_ ?_
      ·clear h
       replace h := hj18
       clear hj18
       refine WP_cond (b := g7) rfl (fun hb10 => ?_) (fun hb10 => ?_)
       ·replace h := bif_t hb10 h
        refine WP_reg [] [] ?_
        refine WPO_f ?_
        cases h
        exact rfl
       ·replace h := bif_f hb10 h
        refine WP_seq ?_
        refine WP_reg [0, 1, 25] [] ?_
        refine WPO_then 3 ?_
        refine WPO_f ?_
        refine fun c11 hc11 => ?_
        replace h := letB_inv hc11 h
        obtain ⟨g12, hg12, h⟩ := bind_inv h
        refine WPO_grp 7 35 [0, 1, 35] g12 ?_ ?_
        ·clear h
         replace h := hg12
         clear hg12
         cases hb14 : c11 with
         | true =>
          replace h := bif_t hb14 h
          refine WPO_f ?_
          refine ⟨_, (List.length_map ..).symm, ?_⟩
          refine fun c13 hc13 => ?_
          replace h := letB_inv hc13 h
          cases h
          exact ⟨rfl, rfl, rfl⟩
         | false =>
          replace h := bif_f hb14 h
          cases h
          refine WPO_f ?_
          exact ⟨rfl, rfl, rfl⟩
        refine WPO_f ?_
        obtain ⟨j17, hj17, h⟩ := bind_inv h
        refine WP_cut j17 (fun z => (.normal, [], [], [(ParserM.m z)])) (fun _ => []) (fun _ => []) ?_ ?_
        ·clear h
         replace h := hj17
         clear hj17
         refine WP_cond (b := g12) rfl (fun hb15 => ?_) (fun hb15 => ?_)
         ·replace h := bif_t hb15 h
          refine WP_reg [] [] ?_
          refine WPO_f ?_
          refine ⟨List.map by8 ([c] : List Int), rfl, ?_⟩
          obtain ⟨x16, hx16, h⟩ := bind_inv h
          refine And.intro (app_le by8 hx16) ⟨_, app_eq by8 hx16, ?_⟩
          cases h
          exact rfl
         ·replace h := bif_f hb15 h
          refine WP_skip ?_
          cases h
          exact rfl
        cases h
        exact rfl
      cases h
      exact rfl
    cases h
    exact rfl
  cases h
  exact rfl
 cases h
 exact ⟨rfl, rfl, rfl, rfl, by simp only [flatM, List.all_cons, List.all_nil, ParserM.flat, Bool.and_self]⟩
def tab1L : List Int := [240, 240, 240, 240, 240, 240, 240, 240, 240, 240, 240, 240, 240, 240, 240, 240, 240, 240, 240, 240, 240, 240, 240, 240, 240, 240, 240, 240, 240, 240, 240, 240, 240, 240, 240, 240, 240, 240, 240, 240, 240, 240, 240, 240, 240, 240, 240, 240, 240, 240, 240, 240, 240, 240, 240, 240, 240, 240, 240, 240, 240, 240, 240, 240, 240, 240, 240, 240, 240, 240, 240, 240, 240, 240, 240, 240, 240, 240, 240, 240, 240, 240, 240, 240, 240, 240, 240, 240, 240, 240, 240, 240, 240, 240, 240, 240, 240, 240, 240, 240, 240, 240, 240, 240, 240, 240, 240, 240, 240, 240, 240, 240, 240, 240, 240, 240, 240, 240, 240, 240, 240, 240, 240, 240, 240, 240, 240, 240, 241, 241, 241, 241, 241, 241, 241, 241, 241, 241, 241, 241, 241, 241, 241, 241, 241, 241, 241, 241, 241, 241, 241, 241, 241, 241, 241, 241, 241, 241, 241, 241, 241, 241, 241, 241, 241, 241, 241, 241, 241, 241, 241, 241, 241, 241, 241, 241, 241, 241, 241, 241, 241, 241, 241, 241, 241, 241, 241, 241, 241, 241, 241, 241, 241, 241, 2, 2, 2, 2, 2, 2, 2, 2, 2, 2, 2, 2, 2, 2, 2, 2, 2, 2, 2, 2, 2, 2, 2, 2, 2, 2, 2, 2, 2, 2, 19, 3, 3, 3, 3, 3, 3, 3, 3, 3, 3, 3, 3, 35, 3, 3, 52, 4, 4, 4, 68, 241, 241, 241, 241, 241, 241, 241, 241, 241, 241, 241]
set_option maxRecDepth 100000 in
theorem tab1_get {i : Int} {x : Int} (h : idx tab1L i = some x) : (tab1.map fun cs => cs.map cV0)[i.toNat]? = some (by8 x) := by
 rw [show (tab1.map fun cs => cs.map cV0) = tab1L.map by8 from rfl]
 exact idx_get by8 h
structure AcceptRange where
 lo : Int
 hi : Int
def AcceptRange.c (x : AcceptRange) : List TV := [.int .u8 x.lo, .int .u8 x.hi]
def tab2L : List AcceptRange := [⟨128, 191⟩, ⟨160, 191⟩, ⟨128, 159⟩, ⟨144, 191⟩, ⟨128, 143⟩, ⟨0, 0⟩, ⟨0, 0⟩, ⟨0, 0⟩, ⟨0, 0⟩, ⟨0, 0⟩, ⟨0, 0⟩, ⟨0, 0⟩, ⟨0, 0⟩, ⟨0, 0⟩, ⟨0, 0⟩, ⟨0, 0⟩]
set_option maxRecDepth 100000 in
theorem tab2_get {i : Int} {x : AcceptRange} (h : idx tab2L i = some x) : (tab2.map fun cs => cs.map cV0)[i.toNat]? = some (AcceptRange.c x) := by
 rw [show (tab2.map fun cs => cs.map cV0) = tab2L.map AcceptRange.c from rfl]
 exact idx_get AcceptRange.c h
noncomputable def unicode_utf8_decodeRuneSlow (p : List Int) : Option (Int × Int) :=
 letB (decide ((p.length : Int) < 1)) fun c1 =>
 bif c1 then (
  some (65533, 0))
 else (
  (idx p 0).bind fun x3 =>
  (idx tab1L x3).bind fun x4 =>
  letB (decide (x4 ≥ 240)) fun c5 =>
  bif c5 then (
   (idx p 0).bind fun x7 =>
   some (iOr .i32 (iAndNot .i32 (w32 x7) (iShr .i32 (iShl .i32 (w32 x4) 31) 31)) (iAnd .i32 65533 (iShr .i32 (iShl .i32 (w32 x4) 31) 31)), 1))
  else (
   (idx tab2L (iShr .u8 x4 4)).bind fun x8 =>
   letB (decide ((p.length : Int) < (w64 (iAnd .u8 x4 7)))) fun c9 =>
   bif c9 then (
    some (65533, 1))
   else (
    (idx p 1).bind fun x11 =>
    letB (decide (x11 < x8.lo)) fun c12 =>
    (bif c12 then some true else (
     letB (decide (x8.hi < x11)) fun c14 =>
     some (c14))).bind fun g13 =>
    bif g13 then (
     some (65533, 1))
    else (
     letB (decide ((w64 (iAnd .u8 x4 7)) ≤ 2)) fun c17 =>
     bif c17 then (
      some (iOr .i32 (iShl .i32 (w32 (iAnd .u8 x3 31)) 6) (w32 (iAnd .u8 x11 63)), 2))
     else (
      (idx p 2).bind fun x19 =>
      letB (decide (x19 < 128)) fun c20 =>
      (bif c20 then some true else (
       letB (decide (191 < x19)) fun c22 =>
       some (c22))).bind fun g21 =>
      bif g21 then (
       some (65533, 1))
      else (
       letB (decide ((w64 (iAnd .u8 x4 7)) ≤ 3)) fun c25 =>
       bif c25 then (
        some (iOr .i32 (iOr .i32 (iShl .i32 (w32 (iAnd .u8 x3 15)) 12) (iShl .i32 (w32 (iAnd .u8 x11 63)) 6)) (w32 (iAnd .u8 x19 63)), 3))
       else (
        (idx p 3).bind fun x27 =>
        letB (decide (x27 < 128)) fun c28 =>
        (bif c28 then some true else (
         letB (decide (191 < x27)) fun c30 =>
         some (c30))).bind fun g29 =>
        bif g29 then (
         some (65533, 1))
        else (
         some (iOr .i32 (iOr .i32 (iOr .i32 (iShl .i32 (w32 (iAnd .u8 x3 7)) 18) (iShl .i32 (w32 (iAnd .u8 x11 63)) 12)) (iShl .i32 (w32 (iAnd .u8 x19 63)) 6)) (w32 (iAnd .u8 x27 63)), 4)))))))))
set_option maxRecDepth 20000 in
theorem unicode_utf8_decodeRuneSlow_ok {p : List Int} {r : Int × Int} (h : unicode_utf8_decodeRuneSlow p = some r) : CallT true (RF ET) 111 [.sl false 1 (List.map by8 p)] [] (.tuple [.int .i32 r.1, .int .i64 r.2]) [] := by
 refine CallT.quiet (con_low (af := a111) rfl rfl ?_) rfl
 unfold unicode_utf8_decodeRuneSlow at h
 refine WP_seq ?_
 refine WP_reg [0] [] ?_
 refine WPO_f ?_
 refine WP_seq ?_
 refine WP_reg [0, 4] [] ?_
 refine WPO_f ?_
 refine ⟨_, (List.length_map ..).symm, ?_⟩
 refine WP_seq ?_
 refine WP_seq ?_
 refine WP_reg [0, 4, 16] [] ?_
 refine WPO_f ?_
 refine fun c1 hc1 => ?_
 replace h := letB_inv hc1 h
 refine WP_cond (b := c1) rfl (fun hb2 => ?_) (fun hb2 => ?_)
 ·replace h := bif_t hb2 h
  refine WP_seq ?_
  refine WP_reg [2, 3] [] ?_
  refine WPO_f ?_
  refine WP_ret ?_
  cases h
  exact ⟨rfl, rfl, rfl, rfl, rfl⟩
 ·replace h := bif_f hb2 h
  refine WP_skip ?_
  refine WP_seq ?_
  refine WP_reg [0, 4, 5] [] ?_
  refine WPO_f ?_
  obtain ⟨x3, hx3, h⟩ := bind_inv h
  refine And.intro (idx_nn hx3) ⟨_, idx_get by8 hx3, ?_⟩
  refine WP_seq ?_
  refine WP_reg [0, 4, 5, 6] [] ?_
  refine WPO_f ?_
  obtain ⟨x4, hx4, h⟩ := bind_inv h
  refine And.intro (idx_nn hx4) ⟨_, tab1_get hx4, ?_⟩
  refine WP_seq ?_
  refine WP_seq ?_
  refine WP_reg [0, 4, 5, 6, 24] [] ?_
  refine WPO_f ?_
  refine fun c5 hc5 => ?_
  replace h := letB_inv hc5 h
  refine WP_cond (b := c5) rfl (fun hb6 => ?_) (fun hb6 => ?_)
  ·replace h := bif_t hb6 h
   refine WP_seq ?_
   refine WP_reg [0, 7] [] ?_
   refine WPO_f ?_
   refine And.intro (by decide) ?_
   refine And.intro (by decide) ?_
   refine WP_seq ?_
   refine WP_reg [2, 3] [] ?_
   refine WPO_f ?_
   obtain ⟨x7, hx7, h⟩ := bind_inv h
   refine And.intro (idx_nn hx7) ⟨_, idx_get by8 hx7, ?_⟩
   refine WP_ret ?_
   cases h
   exact ⟨rfl, rfl, rfl, rfl, rfl⟩
  ·replace h := bif_f hb6 h
   refine WP_skip ?_
   refine WP_seq ?_
   refine WP_reg [0, 4, 5, 6, 8] [] ?_
   refine WPO_f ?_
   refine WP_seq ?_
   refine WP_reg [0, 4, 5, 8, 9] [0] ?_
   refine WPO_f ?_
   refine And.intro (by decide) ?_
   obtain ⟨x8, hx8, h⟩ := bind_inv h
   refine And.intro (idx_nn hx8) ⟨_, tab2_get hx8, ?_⟩
   refine WP_seq ?_
   refine WP_seq ?_
   refine WP_reg [0, 5, 8, 9, 47] [0] ?_
   refine WPO_f ?_
   refine fun c9 hc9 => ?_
   replace h := letB_inv hc9 h
   refine WP_cond (b := c9) rfl (fun hb10 => ?_) (fun hb10 => ?_)
   ·replace h := bif_t hb10 h
    refine WP_seq ?_
    refine WP_reg [2, 3] [0] ?_
    refine WPO_f ?_
    refine WP_ret ?_
    cases h
    exact ⟨rfl, rfl, rfl, rfl, rfl⟩
   ·replace h := bif_f hb10 h
    refine WP_skip ?_
    refine WP_seq ?_
    refine WP_reg [0, 5, 8, 9, 10] [0] ?_
    refine WPO_f ?_
    obtain ⟨x11, hx11, h⟩ := bind_inv h
    refine And.intro (idx_nn hx11) ⟨_, idx_get by8 hx11, ?_⟩
    refine WP_seq ?_
    refine WP_seq ?_
    refine WP_reg [0, 5, 8, 10, 60] [0] ?_
    refine WPO_then 5 ?_
    refine WPO_f ?_
    refine fun c12 hc12 => ?_
    replace h := letB_inv hc12 h
    obtain ⟨g13, hg13, h⟩ := bind_inv h
    refine WPO_grp 5 60 [0, 5, 8, 10, 60] g13 ?_ ?_
    ·clear h
     replace h := hg13
     clear hg13
     cases hb15 : c12 with
     | false =>
      replace h := bif_f hb15 h
      refine WPO_f ?_
      refine fun c14 hc14 => ?_
      replace h := letB_inv hc14 h
      cases h
      exact ⟨rfl, rfl, rfl⟩
     | true =>
      replace h := bif_t hb15 h
      cases h
      refine WPO_f ?_
      exact ⟨rfl, rfl, rfl⟩
    refine WPO_f ?_
    refine WP_cond (b := g13) rfl (fun hb16 => ?_) (fun hb16 => ?_)
    ·replace h := bif_t hb16 h
     refine WP_seq ?_
     refine WP_reg [2, 3] [0] ?_
     refine WPO_f ?_
     refine WP_ret ?_
     cases h
     exact ⟨rfl, rfl, rfl, rfl, rfl⟩
    ·replace h := bif_f hb16 h
     refine WP_skip ?_
     refine WP_seq ?_
     refine WP_seq ?_
     refine WP_reg [0, 5, 8, 10, 62] [0] ?_
     refine WPO_f ?_
     refine fun c17 hc17 => ?_
     replace h := letB_inv hc17 h
     refine WP_cond (b := c17) rfl (fun hb18 => ?_) (fun hb18 => ?_)
     ·replace h := bif_t hb18 h
      refine WP_seq ?_
      refine WP_reg [2, 3] [0] ?_
      refine WPO_f ?_
      refine And.intro (by decide) ?_
      refine WP_ret ?_
      cases h
      exact ⟨rfl, rfl, rfl, rfl, rfl⟩
     ·replace h := bif_f hb18 h
      refine WP_skip ?_
      refine WP_seq ?_
      refine WP_reg [0, 5, 8, 10, 11] [0] ?_
      refine WPO_f ?_
      obtain ⟨x19, hx19, h⟩ := bind_inv h
      refine And.intro (idx_nn hx19) ⟨_, idx_get by8 hx19, ?_⟩
      refine WP_seq ?_
      refine WP_seq ?_
      refine WP_reg [0, 5, 8, 10, 11, 79] [0] ?_
      refine WPO_then 3 ?_
      refine WPO_f ?_
      refine fun c20 hc20 => ?_
      replace h := letB_inv hc20 h
      obtain ⟨g21, hg21, h⟩ := bind_inv h
      refine WPO_grp 3 79 [0, 5, 8, 10, 11, 79] g21 ?_ ?_
      ·clear h
       replace h := hg21
       clear hg21
       cases hb23 : c20 with
       | false =>
        replace h := bif_f hb23 h
        refine WPO_f ?_
        refine fun c22 hc22 => ?_
        replace h := letB_inv hc22 h
        cases h
        exact ⟨rfl, rfl, rfl⟩
       | true =>
        replace h := bif_t hb23 h
        cases h
        refine WPO_f ?_
        exact ⟨rfl, rfl, rfl⟩
      refine WPO_f ?_
      refine WP_cond (b := g21) rfl (fun hb24 => ?_) (fun hb24 => ?_)
      ·replace h := bif_t hb24 h
       refine WP_seq ?_
       refine WP_reg [2, 3] [0] ?_
       refine WPO_f ?_
       refine WP_ret ?_
       cases h
       exact ⟨rfl, rfl, rfl, rfl, rfl⟩
      ·replace h := bif_f hb24 h
       refine WP_skip ?_
       refine WP_seq ?_
       refine WP_seq ?_
       refine WP_reg [0, 5, 10, 11, 81] [0] ?_
       refine WPO_f ?_
       refine fun c25 hc25 => ?_
       replace h := letB_inv hc25 h
       refine WP_cond (b := c25) rfl (fun hb26 => ?_) (fun hb26 => ?_)
       ·replace h := bif_t hb26 h
        refine WP_seq ?_
        refine WP_reg [2, 3] [0] ?_
        refine WPO_f ?_
        refine And.intro (by decide) ?_
        refine And.intro (by decide) ?_
        refine WP_ret ?_
        cases h
        exact ⟨rfl, rfl, rfl, rfl, rfl⟩
       ·replace h := bif_f hb26 h
        refine WP_skip ?_
        refine WP_seq ?_
        refine WP_reg [5, 10, 11, 12] [0] ?_
        refine WPO_f ?_
        obtain ⟨x27, hx27, h⟩ := bind_inv h
        refine And.intro (idx_nn hx27) ⟨_, idx_get by8 hx27, ?_⟩
        refine WP_seq ?_
        refine WP_seq ?_
        refine WP_reg [5, 10, 11, 12, 103] [0] ?_
        refine WPO_then 3 ?_
        refine WPO_f ?_
        refine fun c28 hc28 => ?_
        replace h := letB_inv hc28 h
        obtain ⟨g29, hg29, h⟩ := bind_inv h
        refine WPO_grp 3 103 [5, 10, 11, 12, 103] g29 ?_ ?_
        ·clear h
         replace h := hg29
         clear hg29
         cases hb31 : c28 with
         | false =>
          replace h := bif_f hb31 h
          refine WPO_f ?_
          refine fun c30 hc30 => ?_
          replace h := letB_inv hc30 h
          cases h
          exact ⟨rfl, rfl, rfl⟩
         | true =>
          replace h := bif_t hb31 h
          cases h
          refine WPO_f ?_
          exact ⟨rfl, rfl, rfl⟩
        refine WPO_f ?_
        refine WP_cond (b := g29) rfl (fun hb32 => ?_) (fun hb32 => ?_)
        ·replace h := bif_t hb32 h
         refine WP_seq ?_
         refine WP_reg [2, 3] [0] ?_
         refine WPO_f ?_
         refine WP_ret ?_
         cases h
         exact ⟨rfl, rfl, rfl, rfl, rfl⟩
        ·replace h := bif_f hb32 h
         refine WP_skip ?_
         refine WP_seq ?_
         refine WP_reg [2, 3] [0] ?_
         refine WPO_f ?_
         refine And.intro (by decide) ?_
         refine And.intro (by decide) ?_
         refine And.intro (by decide) ?_
         refine WP_ret ?_
         cases h
         exact ⟨rfl, rfl, rfl, rfl, rfl⟩
noncomputable def unicode_utf8_DecodeRune_l2 (p : List Int) : Option (Unit ⊕ (Int ⊕ Unit)) :=
 letB (decide (0 < (p.length : Int))) fun c1 =>
 bif c1 then (
  (idx p 0).bind fun x3 =>
  letB (decide (x3 < 128)) fun c4 =>
  bif c4 then (
   some (.inr (.inl (w32 x3))))
  else (
   some (.inr (.inr ()))))
 else (
  some (.inr (.inr ())))
noncomputable def unicode_utf8_DecodeRune (p : List Int) : Option (Int × Int) :=
 Option.bind (
  (iter (fun _ => unicode_utf8_DecodeRune_l2 p : Unit → Option (Unit ⊕ (Int ⊕ Unit))) ()).bind fun j6 =>
  match j6 with
  | .inl z7 => (
   some (.inr z7))
  | .inr z8 => (
   some (.inl ())) : Option (Unit ⊕ Int)) fun j9 =>
 match j9 with
 | .inl z10 => (
  (unicode_utf8_decodeRuneSlow p).bind fun y12 =>
  some (y12.1, y12.2))
 | .inr z11 => (
  some (z11, 1))
set_option maxRecDepth 20000 in
theorem unicode_utf8_DecodeRune_ok {p : List Int} {r : Int × Int} (h : unicode_utf8_DecodeRune p = some r) : CallT true (RF ET) 91 [.sl false 1 (List.map by8 p)] [] (.tuple [.int .i32 r.1, .int .i64 r.2]) [] := by
 refine CallT.quiet (con_low (af := a91) rfl rfl ?_) rfl
 unfold unicode_utf8_DecodeRune at h
 refine WP_seq ?_
 refine WP_reg [0] [] ?_
 refine WPO_f ?_
 refine WP_seq ?_
 refine WP_seq ?_
 refine WP_reg [0, 6, 7, 8] [] ?_
 refine WPO_f ?_
 refine ⟨_, (List.length_map ..).symm, ?_⟩
 obtain ⟨j9, hj9, h⟩ := bind_inv h
 refine WP_cut j9 (fun r => match r with | .inl z => (.normal, [(0, .sl false 1 (List.map by8 p))], [], []) | .inr z => (.ret, [(2, .int .i32 z), (3, .int .i64 1)], [], [])) (fun e => match e with | .normal => [0] | .ret => [2, 3] | _ => []) (fun e => match e with | .normal => [] | .ret => [] | _ => []) ?_ ?_
 ·clear h
  replace h := hj9
  clear hj9
  refine WP_block ?_
  obtain ⟨j6, hj6, h⟩ := bind_inv h
  refine WP_iter hj6 [] (fun s => ([(0, .sl false 1 (List.map by8 p)), (6, .sl false 1 (List.map by8 p)), (7, .int .i64 (p.length : Int)), (8, .int .i64 0)], [], [])) (fun e => match e with | .ret => [2, 3] | .exit 0 => [0] | _ => []) (fun e => match e with | .ret => [] | .exit 0 => [] | _ => []) (fun r => match r with | .inl z => (.ret, [(2, .int .i32 z), (3, .int .i64 1)], [], []) | .inr z => (.exit 0, [(0, .sl false 1 (List.map by8 p))], [], [])) ?_ ?_ ?_
  ·exact rfl
  ·clear h
   rintro _ x h
   replace h : unicode_utf8_DecodeRune_l2 p = some x := h
   unfold unicode_utf8_DecodeRune_l2 at h
   show T.WP _ _ [(0, .sl false 1 (List.map by8 p)), (6, .sl false 1 (List.map by8 p)), (7, .int .i64 (p.length : Int)), (8, .int .i64 0)] [] [] _
   refine WP_seq ?_
   refine WP_reg [0, 6, 8, 9] [] ?_
   refine WPO_f ?_
   refine fun c1 hc1 => ?_
   replace h := letB_inv hc1 h
   refine WP_seq ?_
   refine WP_cond (b := c1) rfl (fun hb2 => ?_) (fun hb2 => ?_)
   ·replace h := bif_t hb2 h
    refine WP_skip ?_
    refine WP_seq ?_
    refine WP_block ?_
    refine WP_seq ?_
    refine WP_reg [0, 5] [] ?_
    refine WPO_f ?_
    obtain ⟨x3, hx3, h⟩ := bind_inv h
    refine And.intro (idx_nn hx3) ⟨_, idx_get by8 hx3, ?_⟩
    refine WP_seq ?_
    refine WP_seq ?_
    refine WP_reg [0, 5, 13] [] ?_
    refine WPO_f ?_
    refine fun c4 hc4 => ?_
    replace h := letB_inv hc4 h
    refine WP_cond (b := c4) rfl (fun hb5 => ?_) (fun hb5 => ?_)
    ·replace h := bif_t hb5 h
     refine WP_seq ?_
     refine WP_reg [2, 3] [] ?_
     refine WPO_f ?_
     refine WP_ret ?_
     cases h
     exact ⟨_, rfl, rfl⟩
    ·replace h := bif_f hb5 h
     refine WP_skip ?_
     refine WP_exit ?_
     cases h
     exact ⟨_, rfl, rfl⟩
   ·replace h := bif_f hb2 h
    refine WP_exit ?_
    cases h
    exact ⟨_, rfl, rfl⟩
  rcases j6 with z7 | z8
  ·cases h
   exact rfl
  ·cases h
   exact rfl
 rcases j9 with z10 | z11
 ·refine WP_seq ?_
  refine WP_reg [2, 3] [] ?_
  refine WPO_f ?_
  obtain ⟨y12, hy12, h⟩ := bind_inv h
  refine ⟨_, _, CallT.any (unicode_utf8_decodeRuneSlow_ok hy12) rfl _ rfl, ?_⟩
  refine WP_ret ?_
  cases h
  exact ⟨rfl, rfl, rfl, rfl, rfl⟩
 ·cases h
  exact ⟨rfl, rfl, rfl, rfl, rfl⟩
noncomputable def slices_Clone_52 (l : List Int) : Option (List Int) := app [] l
theorem slices_Clone_52_ok {l r : List Int} (h : slices_Clone_52 l = some r) : CallT true (RF ET) 153 [.sl false 1 (List.map by8 l)] [] (.sl true 1 (List.map by8 r)) [] := by
 refine CallT.quiet (con_low (af := a153) rfl rfl ?_) rfl
 unfold slices_Clone_52 at h
 refine WP_seq ?_
 refine WP_reg [0] [] ?_
 refine WPO_f ?_
 refine ⟨.sl true 1 [], .sl _ _, ?_⟩
 refine WP_seq ?_
 refine WP_seq ?_
 refine WP_reg [0, 4] [] ?_
 refine WPO_f ?_
 refine fun c hc => ?_
 refine WP_cond (b := c) rfl (fun hb => ?_) (fun hb => ?_)
 ·have hl : l = [] := List.map_eq_nil_iff.1 (hc hb)
  subst hl
  have hr := app_is h
  simp only [List.append_nil] at hr
  subst hr
  refine WP_seq ?_
  refine WP_reg [2] [] ?_
  refine WPO_f ?_
  refine ⟨.sl true 1 [], .sl _ _, ?_⟩
  refine WP_ret ?_
  exact ⟨rfl, rfl, rfl, rfl, rfl⟩
 refine WP_skip ?_
 refine WP_seq ?_
 refine WP_reg [2] [] ?_
 refine WPO_f ?_
 refine ⟨List.map by8 ([] : List Int), rfl, ?_⟩
 refine And.intro (app_le by8 h) ⟨_, app_eq by8 h, ?_⟩
 refine WP_ret ?_
 exact ⟨rfl, rfl, rfl, rfl, rfl⟩
noncomputable def unicode_utf8_FullRune (p : List Int) : Option Bool :=
 letB (decide ((p.length : Int) = 0)) fun c1 =>
 bif c1 then (
  some false)
 else (
  (idx p 0).bind fun x3 =>
  (idx tab1L x3).bind fun x4 =>
  letB (decide ((p.length : Int) ≥ (w64 (iAnd .u8 x4 7)))) fun c5 =>
  bif c5 then (
   some true)
  else (
   (idx tab2L (iShr .u8 x4 4)).bind fun x7 =>
   letB (decide ((p.length : Int) > 1)) fun c8 =>
   (bif c8 then (
    (idx p 1).bind fun x10 =>
    letB (decide (x10 < x7.lo)) fun c11 =>
    (bif c11 then some true else (
     (idx p 1).bind fun x13 =>
     letB (decide (x7.hi < x13)) fun c14 =>
     some (c14))).bind fun g12 =>
    some (g12)) else some false).bind fun g9 =>
   bif g9 then (
    some true)
   else (
    letB (decide ((p.length : Int) > 2)) fun c18 =>
    (bif c18 then (
     (idx p 2).bind fun x20 =>
     letB (decide (x20 < 128)) fun c21 =>
     (bif c21 then some true else (
      (idx p 2).bind fun x23 =>
      letB (decide (191 < x23)) fun c24 =>
      some (c24))).bind fun g22 =>
     some (g22)) else some false).bind fun g19 =>
    bif g19 then (
     some true)
    else (
     some false))))
set_option maxRecDepth 20000 in
theorem unicode_utf8_FullRune_ok {p : List Int} {r : Bool} (h : unicode_utf8_FullRune p = some r) : CallT true (RF ET) 154 [.sl false 1 (List.map by8 p)] [] (.bool r) [] := by
 refine CallT.quiet (con_low (af := a154) rfl rfl ?_) rfl
 unfold unicode_utf8_FullRune at h
 refine WP_seq ?_
 refine WP_reg [0] [] ?_
 refine WPO_f ?_
 refine WP_seq ?_
 refine WP_reg [0, 3] [] ?_
 refine WPO_f ?_
 refine ⟨_, (List.length_map ..).symm, ?_⟩
 refine WP_seq ?_
 refine WP_seq ?_
 refine WP_reg [0, 3, 9] [] ?_
 refine WPO_f ?_
 refine fun c1 hc1 => ?_
 replace h := letB_inv hc1 h
 refine WP_cond (b := c1) rfl (fun hb2 => ?_) (fun hb2 => ?_)
 ·replace h := bif_t hb2 h
  refine WP_seq ?_
  refine WP_reg [2] [] ?_
  refine WPO_f ?_
  refine WP_ret ?_
  cases h
  exact ⟨rfl, rfl, rfl, rfl, rfl⟩
 ·replace h := bif_f hb2 h
  refine WP_skip ?_
  refine WP_seq ?_
  refine WP_reg [0, 3, 4] [] ?_
  refine WPO_f ?_
  obtain ⟨x3, hx3, h⟩ := bind_inv h
  refine And.intro (idx_nn hx3) ⟨_, idx_get by8 hx3, ?_⟩
  obtain ⟨x4, hx4, h⟩ := bind_inv h
  refine And.intro (idx_nn hx4) ⟨_, tab1_get hx4, ?_⟩
  refine WP_seq ?_
  refine WP_seq ?_
  refine WP_reg [0, 3, 4, 19] [] ?_
  refine WPO_f ?_
  refine fun c5 hc5 => ?_
  replace h := letB_inv hc5 h
  refine WP_cond (b := c5) rfl (fun hb6 => ?_) (fun hb6 => ?_)
  ·replace h := bif_t hb6 h
   refine WP_seq ?_
   refine WP_reg [2] [] ?_
   refine WPO_f ?_
   refine WP_ret ?_
   cases h
   exact ⟨rfl, rfl, rfl, rfl, rfl⟩
  ·replace h := bif_f hb6 h
   refine WP_skip ?_
   refine WP_seq ?_
   refine WP_reg [0, 3, 5] [0] ?_
   refine WPO_f ?_
   refine And.intro (by decide) ?_
   obtain ⟨x7, hx7, h⟩ := bind_inv h
   refine And.intro (idx_nn hx7) ⟨_, tab2_get hx7, ?_⟩
   refine WP_seq ?_
   refine WP_seq ?_
   refine WP_reg [0, 3, 41] [0] ?_
   refine WPO_then 3 ?_
   refine WPO_t ?_
   refine fun c8 hc8 => ?_
   replace h := letB_inv hc8 h
   obtain ⟨g9, hg9, h⟩ := bind_inv h
   refine WPO_grp 15 41 [0, 3, 41] g9 ?_ ?_
   ·clear h
    replace h := hg9
    clear hg9
    cases hb16 : c8 with
    | true =>
     replace h := bif_t hb16 h
     refine WPO_then 7 ?_
     refine WPO_t ?_
     obtain ⟨x10, hx10, h⟩ := bind_inv h
     refine And.intro (idx_nn hx10) ⟨_, idx_get by8 hx10, ?_⟩
     refine fun c11 hc11 => ?_
     replace h := letB_inv hc11 h
     obtain ⟨g12, hg12, h⟩ := bind_inv h
     refine WPO_grp 7 40 [0, 3, 26, 40] g12 ?_ ?_
     ·clear h
      replace h := hg12
      clear hg12
      cases hb15 : c11 with
      | false =>
       replace h := bif_f hb15 h
       refine WPO_t ?_
       obtain ⟨x13, hx13, h⟩ := bind_inv h
       refine And.intro (idx_nn hx13) ⟨_, idx_get by8 hx13, ?_⟩
       refine fun c14 hc14 => ?_
       replace h := letB_inv hc14 h
       cases h
       exact ⟨rfl, rfl, rfl⟩
      | true =>
       replace h := bif_t hb15 h
       cases h
       refine WPO_t ?_
       exact ⟨rfl, rfl, rfl⟩
     refine WPO_t ?_
     cases h
     exact ⟨rfl, rfl, rfl⟩
    | false =>
     replace h := bif_f hb16 h
     cases h
     refine WPO_t ?_
     exact ⟨rfl, rfl, rfl⟩
   refine WPO_t ?_
   refine WP_cond (b := g9) rfl (fun hb17 => ?_) (fun hb17 => ?_)
   ·replace h := bif_t hb17 h
    refine WP_seq ?_
    refine WP_reg [2] [0] ?_
    refine WPO_f ?_
    refine WP_ret ?_
    cases h
    exact ⟨rfl, rfl, rfl, rfl, rfl⟩
   ·replace h := bif_f hb17 h
    refine WP_seq ?_
    refine WP_reg [55] [0] ?_
    refine WPO_then 3 ?_
    refine WPO_f ?_
    refine fun c18 hc18 => ?_
    replace h := letB_inv hc18 h
    obtain ⟨g19, hg19, h⟩ := bind_inv h
    refine WPO_grp 11 55 [55] g19 ?_ ?_
    ·clear h
     replace h := hg19
     clear hg19
     cases hb26 : c18 with
     | true =>
      replace h := bif_t hb26 h
      refine WPO_then 5 ?_
      refine WPO_f ?_
      obtain ⟨x20, hx20, h⟩ := bind_inv h
      refine And.intro (idx_nn hx20) ⟨_, idx_get by8 hx20, ?_⟩
      refine fun c21 hc21 => ?_
      replace h := letB_inv hc21 h
      obtain ⟨g22, hg22, h⟩ := bind_inv h
      refine WPO_grp 5 54 [44, 54] g22 ?_ ?_
      ·clear h
       replace h := hg22
       clear hg22
       cases hb25 : c21 with
       | false =>
        replace h := bif_f hb25 h
        refine WPO_f ?_
        obtain ⟨x23, hx23, h⟩ := bind_inv h
        refine And.intro (idx_nn hx23) ⟨_, idx_get by8 hx23, ?_⟩
        refine fun c24 hc24 => ?_
        replace h := letB_inv hc24 h
        cases h
        exact ⟨rfl, rfl, rfl⟩
       | true =>
        replace h := bif_t hb25 h
        cases h
        refine WPO_f ?_
        exact ⟨rfl, rfl, rfl⟩
      refine WPO_f ?_
      cases h
      exact ⟨rfl, rfl, rfl⟩
     | false =>
      replace h := bif_f hb26 h
      cases h
      refine WPO_f ?_
      exact ⟨rfl, rfl, rfl⟩
    refine WPO_f ?_
    refine WP_cond (b := g19) rfl (fun hb27 => ?_) (fun hb27 => ?_)
    ·replace h := bif_t hb27 h
     refine WP_seq ?_
     refine WP_reg [2] [0] ?_
     refine WPO_f ?_
     refine WP_ret ?_
     cases h
     exact ⟨rfl, rfl, rfl, rfl, rfl⟩
    ·replace h := bif_f hb27 h
     refine WP_skip ?_
     refine WP_seq ?_
     refine WP_reg [2] [0] ?_
     refine WPO_f ?_
     refine WP_ret ?_
     cases h
     exact ⟨rfl, rfl, rfl, rfl, rfl⟩
noncomputable def glyph_Reader_Feed_in32_0_l1 (out : List Int) (all : List Int) : Option ((List Int × List Int) ⊕ (List Int × List Int)) :=
 (unicode_utf8_FullRune all).bind fun y3 =>
 bif y3 then (
  (unicode_utf8_DecodeRune all).bind fun y5 =>
  (app out [y5.1]).bind fun x6 =>
  (subA all y5.2).bind fun x7 =>
  some (.inl (x6, x7)))
 else (
  some (.inr (out, all)))
noncomputable def glyph_Reader_Feed_in32_0 (r_ : ParserM) (b : List Int) : Option (List Int × ParserM) :=
 (slices_Clone_52 r_.text.waits).bind fun y1 =>
 (app y1 b).bind fun x2 =>
 (iter (fun s => glyph_Reader_Feed_in32_0_l1 s.1 s.2 : (List Int × List Int) → Option ((List Int × List Int) ⊕ (List Int × List Int))) ([], x2)).bind fun j8 =>
 (slices_Clone_52 j8.2).bind fun y9 =>
 some (j8.1, { r_ with text := (Reader.mk y9) })
set_option maxRecDepth 20000 in
theorem glyph_Reader_Feed_in32_0_ok {r_ : ParserM} {b : List Int} {r : List Int × ParserM} (h : glyph_Reader_Feed_in32_0 r_ b = some r) : CallT false (RF ET) 136 [.ptr 0 0, .sl false 1 (List.map by8 b)] [(ParserM.m r_)] (.sl true 1 (List.map ei32 r.1)) [(ParserM.m r.2)] := by
 refine con_low (af := a136) rfl rfl ?_
 unfold glyph_Reader_Feed_in32_0 at h
 refine WP_seq ?_
 refine WP_reg [0, 1] [] ?_
 refine WPO_f ?_
 refine ⟨.sl false 1 [], .sl _ _, ?_⟩
 refine WP_seq ?_
 refine WP_reg [0, 1, 5] [] ?_
 refine WPO_f ?_
 refine ⟨.sl true 1 [], .sl _ _, ?_⟩
 refine WP_seq ?_
 refine WP_reg [0, 5, 6] [] ?_
 refine WPO_f ?_
 obtain ⟨y1, hy1, h⟩ := bind_inv h
 refine ⟨_, _, CallT.any (slices_Clone_52_ok hy1) rfl _ rfl, ?_⟩
 obtain ⟨x2, hx2, h⟩ := bind_inv h
 refine And.intro (app_le by8 hx2) ⟨_, app_eq by8 hx2, ?_⟩
 refine WP_seq ?_
 refine WP_block ?_
 obtain ⟨j8, hj8, h⟩ := bind_inv h
 refine WP_iter hj8 [] (fun s => ([(0, .ptr 0 0), (5, .sl true 1 (List.map ei32 s.1)), (6, .sl false 1 (List.map by8 s.2))], [], [(ParserM.m r_)])) (fun _ => [0, 5, 6]) (fun _ => []) (fun z => (.exit 0, [(0, .ptr 0 0), (5, .sl true 1 (List.map ei32 z.1)), (6, .sl false 1 (List.map by8 z.2))], [], [(ParserM.m r_)])) ?_ ?_ ?_
 ·exact rfl
 ·clear h
  rintro ⟨out, all⟩ x h
  replace h : glyph_Reader_Feed_in32_0_l1 out all = some x := h
  unfold glyph_Reader_Feed_in32_0_l1 at h
  show T.WP _ _ [(0, .ptr 0 0), (5, .sl true 1 (List.map ei32 out)), (6, .sl false 1 (List.map by8 all))] [] [(ParserM.m r_)] _
  refine WP_seq ?_
  refine WP_seq ?_
  refine WP_reg [0, 5, 6, 17] [] ?_
  refine WPO_f ?_
  obtain ⟨y3, hy3, h⟩ := bind_inv h
  refine ⟨_, _, CallT.any (unicode_utf8_FullRune_ok hy3) rfl _ rfl, ?_⟩
  refine WP_cond (b := y3) rfl (fun hb4 => ?_) (fun hb4 => ?_)
  ·replace h := bif_t hb4 h
   refine WP_skip ?_
   refine WP_block ?_
   refine WP_seq ?_
   refine WP_reg [0, 5, 6, 7, 8] [] ?_
   refine WPO_f ?_
   obtain ⟨y5, hy5, h⟩ := bind_inv h
   refine ⟨_, _, CallT.any (unicode_utf8_DecodeRune_ok hy5) rfl _ rfl, ?_⟩
   refine WP_seq ?_
   refine WP_reg [0, 5, 6, 8] [] ?_
   refine WPO_f ?_
   refine ⟨List.map ei32 ([y5.1] : List Int), rfl, ?_⟩
   obtain ⟨x6, hx6, h⟩ := bind_inv h
   refine And.intro (app_le ei32 hx6) ⟨_, app_eq ei32 hx6, ?_⟩
   refine WP_reg [0, 5, 6] [] ?_
   refine WPO_f ?_
   obtain ⟨x7, hx7, h⟩ := bind_inv h
   refine And.intro (subA_a hx7) (And.intro (subA_le by8 hx7) ⟨_, subA_eq by8 hx7, ?_⟩)
   cases h
   exact ⟨_, rfl, rfl⟩
  ·replace h := bif_f hb4 h
   refine WP_exit ?_
   cases h
   exact ⟨_, rfl, rfl⟩
 refine WP_seq ?_
 refine WP_reg [5] [] ?_
 refine WPO_f ?_
 obtain ⟨y9, hy9, h⟩ := bind_inv h
 refine ⟨_, _, CallT.any (slices_Clone_52_ok hy9) rfl _ rfl, ?_⟩
 refine WP_seq ?_
 refine WP_reg [4] [] ?_
 refine WPO_f ?_
 refine WP_ret ?_
 cases h
 exact ⟨rfl, rfl, rfl, rfl, by simp only [flatM, List.all_cons, List.all_nil, ParserM.flat, Bool.and_self]⟩
noncomputable def esc_Parser_plain (p : ParserM) (c : Int) : Option ParserM :=
 (glyph_Reader_Feed_in32_0 p [c]).bind fun y1 =>
 (esc_Parser_print y1.2 y1.1).bind fun y2 =>
 some y2
set_option maxRecDepth 20000 in
theorem esc_Parser_plain_ok {p : ParserM} {c : Int} {r : ParserM} (h : esc_Parser_plain p c = some r) : CallT false (RF ET) 110 [.ptr 0 0, .int .u8 c] [(ParserM.m p)] (.tuple []) [(ParserM.m r)] := by
 refine con_low (af := a110) rfl rfl ?_
 unfold esc_Parser_plain at h
 refine WP_reg [] [] ?_
 refine WPO_f ?_
 refine ⟨List.map by8 ([c] : List Int), rfl, ?_⟩
 obtain ⟨y1, hy1, h⟩ := bind_inv h
 refine ⟨_, _, CallT.sub (i := 0) (glyph_Reader_Feed_in32_0_ok hy1) rfl _ rfl rfl (ParserM.flat _) (ParserM.flat _), ?_⟩
 obtain ⟨y2, hy2, h⟩ := bind_inv h
 refine ⟨_, _, CallT.sub (i := 0) (esc_Parser_print_ok hy2) rfl _ rfl rfl (ParserM.flat _) (ParserM.flat _), ?_⟩
 cases h
 exact ⟨rfl, rfl, rfl, rfl, by simp only [flatM, List.all_cons, List.all_nil, ParserM.flat, Bool.and_self]⟩
noncomputable def glyph_Reader_Rest_in32_0 (r_ : ParserM) : Option (List Int × ParserM) :=
 (slices_Repeat_31 [65533] (r_.text.waits.length : Int)).bind fun y1 =>
 some (y1, { r_ with text := (Reader.mk []) })
set_option maxRecDepth 20000 in
theorem glyph_Reader_Rest_in32_0_ok {r_ : ParserM} {r : List Int × ParserM} (h : glyph_Reader_Rest_in32_0 r_ = some r) : CallT false (RF ET) 85 [.ptr 0 0] [(ParserM.m r_)] (.sl false 1 (List.map ei32 r.1)) [(ParserM.m r.2)] := by
 refine con_low (af := a85) rfl rfl ?_
 unfold glyph_Reader_Rest_in32_0 at h
 refine WP_seq ?_
 refine WP_reg [0] [] ?_
 refine WPO_f ?_
 refine ⟨.sl false 1 [], .sl _ _, ?_⟩
 refine WP_seq ?_
 refine WP_reg [0, 3] [] ?_
 refine WPO_f ?_
 refine ⟨List.map ei32 ([65533] : List Int), rfl, ?_⟩
 refine ⟨_, (List.length_map ..).symm, ?_⟩
 obtain ⟨y1, hy1, h⟩ := bind_inv h
 refine ⟨_, _, CallT.any (slices_Repeat_31_ok hy1) rfl _ rfl, ?_⟩
 refine WP_seq ?_
 refine WP_reg [3] [] ?_
 refine WPO_f ?_
 refine ⟨.sl false 1 [], .sl _ _, ?_⟩
 refine WP_seq ?_
 refine WP_reg [2] [] ?_
 refine WPO_f ?_
 refine WP_ret ?_
 cases h
 exact ⟨rfl, rfl, rfl, rfl, by simp only [flatM, List.all_cons, List.all_nil, ParserM.flat, Bool.and_self]⟩
noncomputable def esc_Parser_byteF (rec42 : ParserM → Int → Option ParserM) (rec109 : ParserM → Int → Option ParserM) (p : ParserM) (c : Int) : Option ParserM :=
 letB (decide (c < 32)) fun c1 =>
 (bif c1 then some true else (
  letB (decide (c = 127)) fun c3 =>
  some (c3))).bind fun g2 =>
 Option.bind (
  bif g2 then (
   (glyph_Reader_Rest_in32_0 p).bind fun y6 =>
   (esc_Parser_print y6.2 y6.1).bind fun y7 =>
   some (y7))
  else (
   some (p)) : Option ParserM) fun j8 =>
 Option.bind (
  letB (decide (j8.in_ = 3)) fun c9 =>
  (bif c9 then some true else (
   letB (decide (j8.in_ = 4)) fun c11 =>
   some (c11))).bind fun g10 =>
  Option.bind (
   bif g10 then (
    (esc_state_on j8.in_).bind fun y14 =>
    ((bif decide (y14 = 106) then esc_Parser_behind j8 c else bif decide (y14 = 107) then esc_Parser_sequence j8 c else bif decide (y14 = 108) then esc_Parser_collect j8 c else bif decide (y14 = 109) then rec109 j8 c else bif decide (y14 = 110) then esc_Parser_plain j8 c else none : Option ParserM)).bind fun y15 =>
    some (y15))
   else (
    letB (decide (c = 24)) fun c17 =>
    (bif c17 then some true else (
     letB (decide (c = 26)) fun c19 =>
     some (c19))).bind fun g18 =>
    Option.bind (
     bif g18 then (
      some ({ j8 with in_ := 0 }))
     else (
      letB (decide (c = 27)) fun c22 =>
      Option.bind (
       bif c22 then (
        (esc_Parser_begin j8 1).bind fun y24 =>
        some (y24))
       else (
        letB (decide (c < 32)) fun c25 =>
        Option.bind (
         bif c25 then (
          (esc_Parser_say j8 (Act.mk 2 0 c 0 [] [] [])).bind fun y27 =>
          some (y27))
         else (
          letB (decide (c ≠ 127)) fun c28 =>
          Option.bind (
           bif c28 then (
            (esc_state_on j8.in_).bind fun y30 =>
            ((bif decide (y30 = 106) then esc_Parser_behind j8 c else bif decide (y30 = 107) then esc_Parser_sequence j8 c else bif decide (y30 = 108) then esc_Parser_collect j8 c else bif decide (y30 = 109) then rec109 j8 c else bif decide (y30 = 110) then esc_Parser_plain j8 c else none : Option ParserM)).bind fun y31 =>
            some (y31))
           else (
            some (j8)) : Option ParserM) fun j33 =>
          some (j33)) : Option ParserM) fun j34 =>
        some (j34)) : Option ParserM) fun j35 =>
      some (j35)) : Option ParserM) fun j36 =>
    some (j36)) : Option ParserM) fun j37 =>
  some (j37) : Option ParserM) fun j38 =>
 some j38
set_option maxRecDepth 20000 in
theorem esc_Parser_byteF_ok {rec42 : ParserM → Int → Option ParserM} {rec109 : ParserM → Int → Option ParserM} (rec42_ok : ∀ (a0 : ParserM) (a1 : Int) (r : ParserM), rec42 a0 a1 = some r → CallT false (RF ET) 42 [.ptr 0 0, .int .u8 a1] [(ParserM.m a0)] (.tuple []) [(ParserM.m r)]) (rec109_ok : ∀ (a0 : ParserM) (a1 : Int) (r : ParserM), rec109 a0 a1 = some r → CallT false (RF ET) 109 [.ptr 0 0, .int .u8 a1] [(ParserM.m a0)] (.tuple []) [(ParserM.m r)]) {p : ParserM} {c : Int} {r : ParserM} (h : esc_Parser_byteF rec42 rec109 p c = some r) : CallT false (RF ET) 42 [.ptr 0 0, .int .u8 c] [(ParserM.m p)] (.tuple []) [(ParserM.m r)] := by
 refine con_low (af := a42) rfl rfl ?_
 unfold esc_Parser_byteF at h
 refine WP_seq ?_
 refine WP_seq ?_
 refine WP_reg [0, 1, 9] [] ?_
 refine WPO_then 3 ?_
 refine WPO_f ?_
 refine fun c1 hc1 => ?_
 replace h := letB_inv hc1 h
 obtain ⟨g2, hg2, h⟩ := bind_inv h
 refine WPO_grp 3 9 [0, 1, 9] g2 ?_ ?_
 ·clear h
  replace h := hg2
  clear hg2
  cases hb4 : c1 with
  | false =>
   replace h := bif_f hb4 h
   refine WPO_f ?_
   refine fun c3 hc3 => ?_
   replace h := letB_inv hc3 h
   cases h
   exact ⟨rfl, rfl, rfl⟩
  | true =>
   replace h := bif_t hb4 h
   cases h
   refine WPO_f ?_
   exact ⟨rfl, rfl, rfl⟩
 refine WPO_f ?_
 obtain ⟨j8, hj8, h⟩ := bind_inv h
 refine WP_cut j8 (fun z => (.normal, [(0, .ptr 0 0), (1, .int .u8 c)], [], [(ParserM.m z)])) (fun _ => [0, 1]) (fun _ => []) ?_ ?_
 ·clear h
  replace h := hj8
  clear hj8
  refine WP_cond (b := g2) rfl (fun hb5 => ?_) (fun hb5 => ?_)
  ·replace h := bif_t hb5 h
   refine WP_reg [0, 1] [] ?_
   refine WPO_f ?_
   obtain ⟨y6, hy6, h⟩ := bind_inv h
   refine ⟨_, _, CallT.sub (i := 0) (glyph_Reader_Rest_in32_0_ok hy6) rfl _ rfl rfl (ParserM.flat _) (ParserM.flat _), ?_⟩
   obtain ⟨y7, hy7, h⟩ := bind_inv h
   refine ⟨_, _, CallT.sub (i := 0) (esc_Parser_print_ok hy7) rfl _ rfl rfl (ParserM.flat _) (ParserM.flat _), ?_⟩
   cases h
   exact rfl
  ·replace h := bif_f hb5 h
   refine WP_skip ?_
   cases h
   exact rfl
 obtain ⟨j38, hj38, h⟩ := bind_inv h
 refine WP_cut j38 (fun z => (.normal, [], [], [(ParserM.m z)])) (fun _ => []) (fun _ => []) ?_ ?_
 ·clear h
  replace h := hj38
  clear hj38
  refine WP_block ?_
  refine WP_seq ?_
  refine WP_reg [0, 1, 16] [] ?_
  refine WPO_then 6 ?_
  refine WPO_f ?_
  refine fun c9 hc9 => ?_
  replace h := letB_inv hc9 h
  obtain ⟨g10, hg10, h⟩ := bind_inv h
  refine WPO_grp 6 28 [0, 1, 28] g10 ?_ ?_
  ·clear h
   replace h := hg10
   clear hg10
   cases hb12 : c9 with
   | false =>
    replace h := bif_f hb12 h
    refine WPO_f ?_
    refine fun c11 hc11 => ?_
    replace h := letB_inv hc11 h
    cases h
    exact ⟨rfl, rfl, rfl⟩
   | true =>
    replace h := bif_t hb12 h
    cases h
    refine WPO_f ?_
    exact ⟨rfl, rfl, rfl⟩
  refine WPO_f ?_
  obtain ⟨j37, hj37, h⟩ := bind_inv h
  refine WP_cut j37 (fun z => (.normal, [], [], [(ParserM.m z)])) (fun _ => []) (fun _ => []) ?_ ?_
  ·clear h
   replace h := hj37
   clear hj37
   refine WP_cond (b := g10) rfl (fun hb13 => ?_) (fun hb13 => ?_)
   ·replace h := bif_t hb13 h
    refine WP_reg [] [] ?_
    refine WPO_f ?_
    obtain ⟨y14, hy14, h⟩ := bind_inv h
    refine ⟨_, _, CallT.any (esc_state_on_ok hy14) rfl _ rfl, ?_⟩
    refine And.intro rfl ?_
    obtain ⟨y15, hy15, h⟩ := bind_inv h
    have d16 : ∀ {r : ParserM}, (bif decide (y14 = 106) then esc_Parser_behind j8 c else bif decide (y14 = 107) then esc_Parser_sequence j8 c else bif decide (y14 = 108) then esc_Parser_collect j8 c else bif decide (y14 = 109) then rec109 j8 c else bif decide (y14 = 110) then esc_Parser_plain j8 c else none : Option ParserM) = some r → CallT false (RF ET) y14 [.ptr 0 0, .int .u8 c] [(ParserM.m j8)] (.tuple []) [(ParserM.m r)] := by
     intro r h
     by_cases hq : y14 = 106
     ·rw [hq] at h ⊢
      exact esc_Parser_behind_ok h
     replace h := bif_f (decide_eq_false hq) h
     by_cases hq : y14 = 107
     ·rw [hq] at h ⊢
      exact esc_Parser_sequence_ok h
     replace h := bif_f (decide_eq_false hq) h
     by_cases hq : y14 = 108
     ·rw [hq] at h ⊢
      exact esc_Parser_collect_ok h
     replace h := bif_f (decide_eq_false hq) h
     by_cases hq : y14 = 109
     ·rw [hq] at h ⊢
      exact rec109_ok _ _ _ h
     replace h := bif_f (decide_eq_false hq) h
     by_cases hq : y14 = 110
     ·rw [hq] at h ⊢
      exact esc_Parser_plain_ok h
     replace h := bif_f (decide_eq_false hq) h
     cases h
    refine ⟨_, _, CallT.sub (i := 0) (d16 hy15) rfl _ rfl rfl (ParserM.flat _) (ParserM.flat _), ?_⟩
    cases h
    exact rfl
   ·replace h := bif_f hb13 h
    refine WP_seq ?_
    refine WP_reg [0, 1, 37] [] ?_
    refine WPO_then 3 ?_
    refine WPO_f ?_
    refine fun c17 hc17 => ?_
    replace h := letB_inv hc17 h
    obtain ⟨g18, hg18, h⟩ := bind_inv h
    refine WPO_grp 3 43 [0, 1, 43] g18 ?_ ?_
    ·clear h
     replace h := hg18
     clear hg18
     cases hb20 : c17 with
     | false =>
      replace h := bif_f hb20 h
      refine WPO_f ?_
      refine fun c19 hc19 => ?_
      replace h := letB_inv hc19 h
      cases h
      exact ⟨rfl, rfl, rfl⟩
     | true =>
      replace h := bif_t hb20 h
      cases h
      refine WPO_f ?_
      exact ⟨rfl, rfl, rfl⟩
    refine WPO_f ?_
    obtain ⟨j36, hj36, h⟩ := bind_inv h
    refine WP_cut j36 (fun z => (.normal, [], [], [(ParserM.m z)])) (fun _ => []) (fun _ => []) ?_ ?_
    ·clear h
     replace h := hj36
     clear hj36
     refine WP_cond (b := g18) rfl (fun hb21 => ?_) (fun hb21 => ?_)
     ·replace h := bif_t hb21 h
      refine WP_reg [] [] ?_
      refine WPO_f ?_
      cases h
      exact rfl
     ·replace h := bif_f hb21 h
      refine WP_seq ?_
      refine WP_reg [0, 1, 47] [] ?_
      refine WPO_f ?_
      refine fun c22 hc22 => ?_
      replace h := letB_inv hc22 h
      obtain ⟨j35, hj35, h⟩ := bind_inv h
      refine WP_cut j35 (fun z => (.normal, [], [], [(ParserM.m z)])) (fun _ => []) (fun _ => []) ?_ ?_
      ·clear h
       replace h := hj35
       clear hj35
       refine WP_cond (b := c22) rfl (fun hb23 => ?_) (fun hb23 => ?_)
       ·replace h := bif_t hb23 h
        refine WP_reg [] [] ?_
        refine WPO_f ?_
        obtain ⟨y24, hy24, h⟩ := bind_inv h
        refine ⟨_, _, CallT.sub (i := 0) (esc_Parser_begin_ok hy24) rfl _ rfl rfl (ParserM.flat _) (ParserM.flat _), ?_⟩
        cases h
        exact rfl
       ·replace h := bif_f hb23 h
        refine WP_seq ?_
        refine WP_reg [0, 1, 52] [] ?_
        refine WPO_f ?_
        refine fun c25 hc25 => ?_
        replace h := letB_inv hc25 h
        obtain ⟨j34, hj34, h⟩ := bind_inv h
        refine WP_cut j34 (fun z => (.normal, [], [], [(ParserM.m z)])) (fun _ => []) (fun _ => []) ?_ ?_
        ·clear h
         replace h := hj34
         clear hj34
         refine WP_cond (b := c25) rfl (fun hb26 => ?_) (fun hb26 => ?_)
         ·replace h := bif_t hb26 h
          refine WP_reg [] [] ?_
          refine WPO_f ?_
          refine ⟨.sl true 1 [], .sl _ _, ?_⟩
          obtain ⟨y27, hy27, h⟩ := bind_inv h
          refine ⟨_, _, CallT.sub (i := 0) (esc_Parser_say_ok hy27) rfl _ rfl rfl (ParserM.flat _) (ParserM.flat _), ?_⟩
          cases h
          exact rfl
         ·replace h := bif_f hb26 h
          refine WP_seq ?_
          refine WP_reg [0, 1, 59] [] ?_
          refine WPO_f ?_
          refine fun c28 hc28 => ?_
          replace h := letB_inv hc28 h
          obtain ⟨j33, hj33, h⟩ := bind_inv h
          refine WP_cut j33 (fun z => (.normal, [], [], [(ParserM.m z)])) (fun _ => []) (fun _ => []) ?_ ?_
          ·clear h
           replace h := hj33
           clear hj33
           refine WP_cond (b := c28) rfl (fun hb29 => ?_) (fun hb29 => ?_)
           ·replace h := bif_t hb29 h
            refine WP_reg [] [] ?_
            refine WPO_f ?_
            obtain ⟨y30, hy30, h⟩ := bind_inv h
            refine ⟨_, _, CallT.any (esc_state_on_ok hy30) rfl _ rfl, ?_⟩
            refine And.intro rfl ?_
            obtain ⟨y31, hy31, h⟩ := bind_inv h
            have d32 : ∀ {r : ParserM}, (bif decide (y30 = 106) then esc_Parser_behind j8 c else bif decide (y30 = 107) then esc_Parser_sequence j8 c else bif decide (y30 = 108) then esc_Parser_collect j8 c else bif decide (y30 = 109) then rec109 j8 c else bif decide (y30 = 110) then esc_Parser_plain j8 c else none : Option ParserM) = some r → CallT false (RF ET) y30 [.ptr 0 0, .int .u8 c] [(ParserM.m j8)] (.tuple []) [(ParserM.m r)] := by
             intro r h
             by_cases hq : y30 = 106
             ·rw [hq] at h ⊢
              exact esc_Parser_behind_ok h
             replace h := bif_f (decide_eq_false hq) h
             by_cases hq : y30 = 107
             ·rw [hq] at h ⊢
              exact esc_Parser_sequence_ok h
             replace h := bif_f (decide_eq_false hq) h
             by_cases hq : y30 = 108
             ·rw [hq] at h ⊢
              exact esc_Parser_collect_ok h
             replace h := bif_f (decide_eq_false hq) h
             by_cases hq : y30 = 109
             ·rw [hq] at h ⊢
              exact rec109_ok _ _ _ h
             replace h := bif_f (decide_eq_false hq) h
             by_cases hq : y30 = 110
             ·rw [hq] at h ⊢
              exact esc_Parser_plain_ok h
             replace h := bif_f (decide_eq_false hq) h
             cases h
            refine ⟨_, _, CallT.sub (i := 0) (d32 hy31) rfl _ rfl rfl (ParserM.flat _) (ParserM.flat _), ?_⟩
            cases h
            exact rfl
           ·replace h := bif_f hb29 h
            refine WP_skip ?_
            cases h
            exact rfl
          cases h
          exact rfl
        cases h
        exact rfl
      cases h
      exact rfl
    cases h
    exact rfl
  cases h
  exact rfl
 cases h
 exact ⟨rfl, rfl, rfl, rfl, by simp only [flatM, List.all_cons, List.all_nil, ParserM.flat, Bool.and_self]⟩
noncomputable def esc_Parser_endsF (rec42 : ParserM → Int → Option ParserM) (rec109 : ParserM → Int → Option ParserM) (p : ParserM) (c : Int) : Option ParserM :=
 letB (decide (c = 92)) fun c1 =>
 bif c1 then (
  (esc_Parser_endString p).bind fun y3 =>
  some y3)
 else (
  (esc_Parser_begin p 1).bind fun y4 =>
  (rec42 y4 c).bind fun y5 =>
  some y5)
set_option maxRecDepth 20000 in
theorem esc_Parser_endsF_ok {rec42 : ParserM → Int → Option ParserM} {rec109 : ParserM → Int → Option ParserM} (rec42_ok : ∀ (a0 : ParserM) (a1 : Int) (r : ParserM), rec42 a0 a1 = some r → CallT false (RF ET) 42 [.ptr 0 0, .int .u8 a1] [(ParserM.m a0)] (.tuple []) [(ParserM.m r)]) (rec109_ok : ∀ (a0 : ParserM) (a1 : Int) (r : ParserM), rec109 a0 a1 = some r → CallT false (RF ET) 109 [.ptr 0 0, .int .u8 a1] [(ParserM.m a0)] (.tuple []) [(ParserM.m r)]) {p : ParserM} {c : Int} {r : ParserM} (h : esc_Parser_endsF rec42 rec109 p c = some r) : CallT false (RF ET) 109 [.ptr 0 0, .int .u8 c] [(ParserM.m p)] (.tuple []) [(ParserM.m r)] := by
 refine con_low (af := a109) rfl rfl ?_
 unfold esc_Parser_endsF at h
 refine WP_seq ?_
 refine WP_seq ?_
 refine WP_reg [0, 1, 5] [] ?_
 refine WPO_f ?_
 refine fun c1 hc1 => ?_
 replace h := letB_inv hc1 h
 refine WP_cond (b := c1) rfl (fun hb2 => ?_) (fun hb2 => ?_)
 ·replace h := bif_t hb2 h
  refine WP_seq ?_
  refine WP_reg [] [] ?_
  refine WPO_f ?_
  obtain ⟨y3, hy3, h⟩ := bind_inv h
  refine ⟨_, _, CallT.sub (i := 0) (esc_Parser_endString_ok hy3) rfl _ rfl rfl (ParserM.flat _) (ParserM.flat _), ?_⟩
  refine WP_ret ?_
  cases h
  exact ⟨rfl, rfl, rfl, rfl, by simp only [flatM, List.all_cons, List.all_nil, ParserM.flat, Bool.and_self]⟩
 ·replace h := bif_f hb2 h
  refine WP_skip ?_
  refine WP_seq ?_
  refine WP_reg [0, 1] [] ?_
  refine WPO_f ?_
  obtain ⟨y4, hy4, h⟩ := bind_inv h
  refine ⟨_, _, CallT.sub (i := 0) (esc_Parser_begin_ok hy4) rfl _ rfl rfl (ParserM.flat _) (ParserM.flat _), ?_⟩
  refine WP_reg [] [] ?_
  refine WPO_f ?_
  obtain ⟨y5, hy5, h⟩ := bind_inv h
  refine ⟨_, _, CallT.sub (i := 0) (rec42_ok _ _ _ hy5) rfl _ rfl rfl (ParserM.flat _) (ParserM.flat _), ?_⟩
  cases h
  exact ⟨rfl, rfl, rfl, rfl, by simp only [flatM, List.all_cons, List.all_nil, ParserM.flat, Bool.and_self]⟩
noncomputable def esc_Parser_byteG : Nat → (ParserM → Int → Option ParserM) × (ParserM → Int → Option ParserM)
 | 0 => (fun _ _ => none, fun _ _ => none)
 | k + 1 => (esc_Parser_byteF ((esc_Parser_byteG k).1) ((esc_Parser_byteG k).2), esc_Parser_endsF ((esc_Parser_byteG k).1) ((esc_Parser_byteG k).2))
theorem esc_Parser_byteG_ok : ∀ k, (∀ (a0 : ParserM) (a1 : Int) (r : ParserM), ((esc_Parser_byteG k).1) a0 a1 = some r → CallT false (RF ET) 42 [.ptr 0 0, .int .u8 a1] [(ParserM.m a0)] (.tuple []) [(ParserM.m r)]) ∧ (∀ (a0 : ParserM) (a1 : Int) (r : ParserM), ((esc_Parser_byteG k).2) a0 a1 = some r → CallT false (RF ET) 109 [.ptr 0 0, .int .u8 a1] [(ParserM.m a0)] (.tuple []) [(ParserM.m r)])
 | 0 => ⟨(fun _ _ _ h => by cases h), (fun _ _ _ h => by cases h)⟩
 | k + 1 => ⟨(fun _ _ _ h => esc_Parser_byteF_ok ((esc_Parser_byteG_ok k).1) ((esc_Parser_byteG_ok k).2) h), (fun _ _ _ h => esc_Parser_endsF_ok ((esc_Parser_byteG_ok k).1) ((esc_Parser_byteG_ok k).2) h)⟩
noncomputable def esc_Parser_byte (a0 : ParserM) (a1 : Int) : Option ParserM := (esc_Parser_byteG 3).1 a0 a1
theorem esc_Parser_byte_ok {a0 : ParserM} {a1 : Int} {r : ParserM} (h : esc_Parser_byte a0 a1 = some r) : CallT false (RF ET) 42 [.ptr 0 0, .int .u8 a1] [(ParserM.m a0)] (.tuple []) [(ParserM.m r)] := (esc_Parser_byteG_ok 3).1 a0 a1 r h
noncomputable def esc_Parser_Feed_l1 (b : List Int) (t13 : Int) (p' : ParserM) : Option ((Int × ParserM) ⊕ ParserM) :=
 letB (decide (t13 < (b.length : Int))) fun c1 =>
 bif c1 then (
  (idx b t13).bind fun x3 =>
  (esc_Parser_byte p' x3).bind fun y4 =>
  some (.inl (w64 (t13 + 1), y4)))
 else (
  some (.inr p'))
noncomputable def esc_Parser_Feed (p : ParserM) (b : List Int) : Option (List Act × ParserM) :=
 (iter (fun s => esc_Parser_Feed_l1 b s.1 s.2 : (Int × ParserM) → Option ((Int × ParserM) ⊕ ParserM)) (0, { p with out := [] })).bind fun j5 =>
 some (j5.out, { j5 with out := [] })
set_option maxRecDepth 20000 in
theorem esc_Parser_Feed_ok {p : ParserM} {b : List Int} {r : List Act × ParserM} (h : esc_Parser_Feed p b = some r) : CallT false (RF ET) 13 [.ptr 0 0, .sl false 1 (List.map by8 b)] [(ParserM.m p)] (.sl false 7 (List.map Act.e r.1)) [(ParserM.m r.2)] := by
 refine con_low (af := a13) rfl rfl ?_
 unfold esc_Parser_Feed at h
 refine WP_seq ?_
 refine WP_reg [0, 1] [] ?_
 refine WPO_f ?_
 refine ⟨.sl false 7 [], .sl _ _, ?_⟩
 refine WP_seq ?_
 refine WP_reg [0, 1] [] ?_
 refine WPO_f ?_
 refine ⟨.sl true 7 [], .sl _ _, ?_⟩
 refine WP_seq ?_
 refine WP_seq ?_
 refine WP_reg [0, 11, 12, 13] [] ?_
 refine WPO_f ?_
 refine ⟨_, (List.length_map ..).symm, ?_⟩
 refine WP_block ?_
 obtain ⟨j5, hj5, h⟩ := bind_inv h
 refine WP_iter hj5 [] (fun s => ([(0, .ptr 0 0), (11, .sl false 1 (List.map by8 b)), (12, .int .i64 (b.length : Int)), (13, .int .i64 s.1)], [], [(ParserM.m s.2)])) (fun _ => [0]) (fun _ => []) (fun z => (.exit 0, [(0, .ptr 0 0)], [], [(ParserM.m z)])) ?_ ?_ ?_
 ·exact rfl
 ·clear h
  rintro ⟨t13, p'⟩ x h
  replace h : esc_Parser_Feed_l1 b t13 p' = some x := h
  unfold esc_Parser_Feed_l1 at h
  show T.WP _ _ [(0, .ptr 0 0), (11, .sl false 1 (List.map by8 b)), (12, .int .i64 (b.length : Int)), (13, .int .i64 t13)] [] [(ParserM.m p')] _
  refine WP_seq ?_
  refine WP_reg [0, 11, 12, 13, 14] [] ?_
  refine WPO_f ?_
  refine fun c1 hc1 => ?_
  replace h := letB_inv hc1 h
  refine WP_seq ?_
  refine WP_cond (b := c1) rfl (fun hb2 => ?_) (fun hb2 => ?_)
  ·replace h := bif_t hb2 h
   refine WP_skip ?_
   refine WP_seq ?_
   refine WP_block ?_
   refine WP_seq ?_
   refine WP_reg [0, 6, 11, 12, 13] [] ?_
   refine WPO_f ?_
   obtain ⟨x3, hx3, h⟩ := bind_inv h
   refine And.intro (idx_nn hx3) ⟨_, idx_get by8 hx3, ?_⟩
   refine WP_reg [0, 11, 12, 13] [] ?_
   refine WPO_f ?_
   obtain ⟨y4, hy4, h⟩ := bind_inv h
   refine ⟨_, _, CallT.sub (i := 0) (esc_Parser_byte_ok hy4) rfl _ rfl rfl (ParserM.flat _) (ParserM.flat _), ?_⟩
   refine WP_reg [0, 11, 12, 13] [] ?_
   refine WPO_f ?_
   cases h
   exact ⟨_, rfl, rfl⟩
  ·replace h := bif_f hb2 h
   refine WP_exit ?_
   cases h
   exact ⟨_, rfl, rfl⟩
 refine WP_seq ?_
 refine WP_reg [0, 7] [] ?_
 refine WPO_f ?_
 refine WP_seq ?_
 refine WP_reg [7] [] ?_
 refine WPO_f ?_
 refine ⟨.sl true 7 [], .sl _ _, ?_⟩
 refine WP_seq ?_
 refine WP_reg [4] [] ?_
 refine WPO_f ?_
 refine WP_ret ?_
 cases h
 exact ⟨rfl, rfl, rfl, rfl, by simp only [flatM, List.all_cons, List.all_nil, ParserM.flat, Bool.and_self]⟩
noncomputable def sgr_kind (n : Int) : Option Int :=
 letB (decide (n = 2)) fun c1 =>
 bif c1 then (
  some 1)
 else (
  letB (decide (n = 5)) fun c3 =>
  bif c3 then (
   some 2)
  else (
   some 0))
set_option maxRecDepth 20000 in
theorem sgr_kind_ok {n : Int} {r : Int} (h : sgr_kind n = some r) : CallT true (RF ET) 90 [.int .i64 n] [] (.int .i64 r) [] := by
 refine CallT.quiet (con_low (af := a90) rfl rfl ?_) rfl
 unfold sgr_kind at h
 refine WP_seq ?_
 refine WP_reg [0] [] ?_
 refine WPO_f ?_
 refine WP_seq ?_
 refine WP_seq ?_
 refine WP_reg [3] [] ?_
 refine WPO_f ?_
 refine WP_block ?_
 refine WP_seq ?_
 refine WP_reg [3, 4] [] ?_
 refine WPO_f ?_
 refine fun c1 hc1 => ?_
 replace h := letB_inv hc1 h
 refine WP_cond (b := c1) rfl (fun hb2 => ?_) (fun hb2 => ?_)
 ·replace h := bif_t hb2 h
  refine WP_seq ?_
  refine WP_reg [2] [] ?_
  refine WPO_f ?_
  refine WP_ret ?_
  cases h
  exact ⟨rfl, rfl, rfl, rfl, rfl⟩
 ·replace h := bif_f hb2 h
  refine WP_seq ?_
  refine WP_reg [6] [] ?_
  refine WPO_f ?_
  refine fun c3 hc3 => ?_
  replace h := letB_inv hc3 h
  refine WP_cond (b := c3) rfl (fun hb4 => ?_) (fun hb4 => ?_)
  ·replace h := bif_t hb4 h
   refine WP_seq ?_
   refine WP_reg [2] [] ?_
   refine WPO_f ?_
   refine WP_ret ?_
   cases h
   exact ⟨rfl, rfl, rfl, rfl, rfl⟩
  ·replace h := bif_f hb4 h
   refine WP_skip ?_
   refine WP_seq ?_
   refine WP_reg [2] [] ?_
   refine WPO_f ?_
   refine WP_ret ?_
   cases h
   exact ⟨rfl, rfl, rfl, rfl, rfl⟩
noncomputable def sgr_one (s_ : Style) (n : Int) : Option Style :=
 Option.bind (
  letB (decide (n ≤ 0)) fun c1 =>
  (bif c1 then (
   letB (decide (n ≥ (-1))) fun c3 =>
   some (c3)) else some false).bind fun g2 =>
  Option.bind (
   bif g2 then (
    some (.inr ()))
   else (
    letB (decide (n = 22)) fun c6 =>
    Option.bind (
     bif c6 then (
      some ({ s_ with Attr := iAndNot .i64 s_.Attr 3 }))
     else (
      letB (decide (n ≥ 23)) fun c8 =>
      (bif c8 then (
       letB (decide (n ≤ 27)) fun c10 =>
       some (c10)) else some false).bind fun g9 =>
      Option.bind (
       bif g9 then (
        (sgr_mark (w64 (n - 20))).bind fun y13 =>
        some ({ s_ with Attr := iAndNot .i64 s_.Attr y13 }))
       else (
        letB (decide (n ≥ 30)) fun c14 =>
        (bif c14 then (
         letB (decide (n ≤ 37)) fun c16 =>
         some (c16)) else some false).bind fun g15 =>
        Option.bind (
         bif g15 then (
          some ({ s_ with Fg := w64 (n - 29) }))
         else (
          letB (decide (n ≥ 90)) fun c19 =>
          (bif c19 then (
           letB (decide (n ≤ 97)) fun c21 =>
           some (c21)) else some false).bind fun g20 =>
          Option.bind (
           bif g20 then (
            some ({ s_ with Fg := w64 (n - 81) }))
           else (
            letB (decide (n = 39)) fun c24 =>
            Option.bind (
             bif c24 then (
              some ({ s_ with Fg := 0 }))
             else (
              letB (decide (n ≥ 40)) fun c26 =>
              (bif c26 then (
               letB (decide (n ≤ 47)) fun c28 =>
               some (c28)) else some false).bind fun g27 =>
              Option.bind (
               bif g27 then (
                some ({ s_ with Bg := w64 (n - 39) }))
               else (
                letB (decide (n ≥ 100)) fun c31 =>
                (bif c31 then (
                 letB (decide (n ≤ 107)) fun c33 =>
                 some (c33)) else some false).bind fun g32 =>
                Option.bind (
                 bif g32 then (
                  some ({ s_ with Bg := w64 (n - 91) }))
                 else (
                  letB (decide (n = 49)) fun c36 =>
                  Option.bind (
                   bif c36 then (
                    some ({ s_ with Bg := 0 }))
                   else (
                    (sgr_mark n).bind fun y38 =>
                    some ({ s_ with Attr := iOr .i64 s_.Attr y38 })) : Option Style) fun j39 =>
                  some (j39)) : Option Style) fun j40 =>
                some (j40)) : Option Style) fun j41 =>
              some (j41)) : Option Style) fun j42 =>
            some (j42)) : Option Style) fun j43 =>
          some (j43)) : Option Style) fun j44 =>
        some (j44)) : Option Style) fun j45 =>
      some (j45)) : Option Style) fun j46 =>
    some (.inl j46)) : Option (Style ⊕ Unit)) fun j47 =>
  match j47 with
  | .inl z48 => (
   some (.inl z48))
  | .inr z49 => (
   some (.inr ())) : Option (Style ⊕ Unit)) fun j50 =>
 match j50 with
 | .inl z51 => (
  some z51)
 | .inr z52 => (
  some (Style.mk 0 0 0))
set_option maxRecDepth 20000 in
theorem sgr_one_ok {s_ : Style} {n : Int} {r : Style} (h : sgr_one s_ n = some r) : CallT true (RF ET) 45 [.agg (Style.c s_), .int .i64 n] [] (.agg (Style.c r)) [] := by
 refine CallT.quiet (con_low (af := a45) rfl rfl ?_) rfl
 unfold sgr_one at h
 refine WP_seq ?_
 refine WP_reg [1, 2, 4] [0, 1] ?_
 refine WPO_f ?_
 refine WP_seq ?_
 obtain ⟨j50, hj50, h⟩ := bind_inv h
 refine WP_cut j50 (fun r => match r with | .inl z => (.normal, [(2, .loc 0 0), (4, .loc 1 0)], [(0, (Style.c z)), (1, [.int .i64 0, .int .i64 0, .int .i64 0])], []) | .inr z => (.ret, [(4, .loc 1 0)], [(0, (Style.c s_)), (1, [.int .i64 0, .int .i64 0, .int .i64 0])], [])) (fun e => match e with | .normal => [2, 4] | .ret => [4] | _ => []) (fun e => match e with | .normal => [0, 1] | .ret => [0, 1] | _ => []) ?_ ?_
 ·clear h
  replace h := hj50
  clear hj50
  refine WP_block ?_
  refine WP_seq ?_
  refine WP_reg [1, 2, 4, 11] [0, 1] ?_
  refine WPO_then 3 ?_
  refine WPO_f ?_
  refine fun c1 hc1 => ?_
  replace h := letB_inv hc1 h
  obtain ⟨g2, hg2, h⟩ := bind_inv h
  refine WPO_grp 3 17 [1, 2, 4, 17] g2 ?_ ?_
  ·clear h
   replace h := hg2
   clear hg2
   cases hb4 : c1 with
   | true =>
    replace h := bif_t hb4 h
    refine WPO_f ?_
    refine fun c3 hc3 => ?_
    replace h := letB_inv hc3 h
    cases h
    exact ⟨rfl, rfl, rfl⟩
   | false =>
    replace h := bif_f hb4 h
    cases h
    refine WPO_f ?_
    exact ⟨rfl, rfl, rfl⟩
  refine WPO_f ?_
  obtain ⟨j47, hj47, h⟩ := bind_inv h
  refine WP_cut j47 (fun r => match r with | .inl z => (.normal, [(2, .loc 0 0), (4, .loc 1 0)], [(0, (Style.c z)), (1, [.int .i64 0, .int .i64 0, .int .i64 0])], []) | .inr z => (.ret, [(4, .loc 1 0)], [(0, (Style.c s_)), (1, [.int .i64 0, .int .i64 0, .int .i64 0])], [])) (fun e => match e with | .normal => [2, 4] | .ret => [4] | _ => []) (fun e => match e with | .normal => [0, 1] | .ret => [0, 1] | _ => []) ?_ ?_
  ·clear h
   replace h := hj47
   clear hj47
   refine WP_cond (b := g2) rfl (fun hb5 => ?_) (fun hb5 => ?_)
   ·replace h := bif_t hb5 h
    refine WP_seq ?_
    refine WP_reg [4] [0, 1] ?_
    refine WPO_f ?_
    refine WP_ret ?_
    cases h
    exact rfl
   ·replace h := bif_f hb5 h
    refine WP_seq ?_
    refine WP_reg [1, 2, 4, 19] [0, 1] ?_
    refine WPO_f ?_
    refine fun c6 hc6 => ?_
    replace h := letB_inv hc6 h
    obtain ⟨j46, hj46, h⟩ := bind_inv h
    refine WP_cut j46 (fun z => (.normal, [(2, .loc 0 0), (4, .loc 1 0)], [(0, (Style.c z)), (1, [.int .i64 0, .int .i64 0, .int .i64 0])], [])) (fun _ => [2, 4]) (fun _ => [0, 1]) ?_ ?_
    ·clear h
     replace h := hj46
     clear hj46
     refine WP_cond (b := c6) rfl (fun hb7 => ?_) (fun hb7 => ?_)
     ·replace h := bif_t hb7 h
      refine WP_reg [2, 4] [0, 1] ?_
      refine WPO_f ?_
      cases h
      exact rfl
     ·replace h := bif_f hb7 h
      refine WP_seq ?_
      refine WP_reg [1, 2, 4, 26] [0, 1] ?_
      refine WPO_then 3 ?_
      refine WPO_f ?_
      refine fun c8 hc8 => ?_
      replace h := letB_inv hc8 h
      obtain ⟨g9, hg9, h⟩ := bind_inv h
      refine WPO_grp 3 32 [1, 2, 4, 32] g9 ?_ ?_
      ·clear h
       replace h := hg9
       clear hg9
       cases hb11 : c8 with
       | true =>
        replace h := bif_t hb11 h
        refine WPO_f ?_
        refine fun c10 hc10 => ?_
        replace h := letB_inv hc10 h
        cases h
        exact ⟨rfl, rfl, rfl⟩
       | false =>
        replace h := bif_f hb11 h
        cases h
        refine WPO_f ?_
        exact ⟨rfl, rfl, rfl⟩
      refine WPO_f ?_
      obtain ⟨j45, hj45, h⟩ := bind_inv h
      refine WP_cut j45 (fun z => (.normal, [(2, .loc 0 0), (4, .loc 1 0)], [(0, (Style.c z)), (1, [.int .i64 0, .int .i64 0, .int .i64 0])], [])) (fun _ => [2, 4]) (fun _ => [0, 1]) ?_ ?_
      ·clear h
       replace h := hj45
       clear hj45
       refine WP_cond (b := g9) rfl (fun hb12 => ?_) (fun hb12 => ?_)
       ·replace h := bif_t hb12 h
        refine WP_reg [2, 4] [0, 1] ?_
        refine WPO_t ?_
        obtain ⟨y13, hy13, h⟩ := bind_inv h
        refine ⟨_, _, CallT.any (sgr_mark_ok hy13) rfl _ rfl, ?_⟩
        cases h
        exact rfl
       ·replace h := bif_f hb12 h
        refine WP_seq ?_
        refine WP_reg [1, 2, 4, 40] [0, 1] ?_
        refine WPO_then 3 ?_
        refine WPO_f ?_
        refine fun c14 hc14 => ?_
        replace h := letB_inv hc14 h
        obtain ⟨g15, hg15, h⟩ := bind_inv h
        refine WPO_grp 3 46 [1, 2, 4, 46] g15 ?_ ?_
        ·clear h
         replace h := hg15
         clear hg15
         cases hb17 : c14 with
         | true =>
          replace h := bif_t hb17 h
          refine WPO_f ?_
          refine fun c16 hc16 => ?_
          replace h := letB_inv hc16 h
          cases h
          exact ⟨rfl, rfl, rfl⟩
         | false =>
          replace h := bif_f hb17 h
          cases h
          refine WPO_f ?_
          exact ⟨rfl, rfl, rfl⟩
        refine WPO_f ?_
        obtain ⟨j44, hj44, h⟩ := bind_inv h
        refine WP_cut j44 (fun z => (.normal, [(2, .loc 0 0), (4, .loc 1 0)], [(0, (Style.c z)), (1, [.int .i64 0, .int .i64 0, .int .i64 0])], [])) (fun _ => [2, 4]) (fun _ => [0, 1]) ?_ ?_
        ·clear h
         replace h := hj44
         clear hj44
         refine WP_cond (b := g15) rfl (fun hb18 => ?_) (fun hb18 => ?_)
         ·replace h := bif_t hb18 h
          refine WP_reg [2, 4] [0, 1] ?_
          refine WPO_f ?_
          cases h
          exact rfl
         ·replace h := bif_f hb18 h
          refine WP_seq ?_
          refine WP_reg [1, 2, 4, 50] [0, 1] ?_
          refine WPO_then 3 ?_
          refine WPO_f ?_
          refine fun c19 hc19 => ?_
          replace h := letB_inv hc19 h
          obtain ⟨g20, hg20, h⟩ := bind_inv h
          refine WPO_grp 3 56 [1, 2, 4, 56] g20 ?_ ?_
          ·clear h
           replace h := hg20
           clear hg20
           cases hb22 : c19 with
           | true =>
            replace h := bif_t hb22 h
            refine WPO_f ?_
            refine fun c21 hc21 => ?_
            replace h := letB_inv hc21 h
            cases h
            exact ⟨rfl, rfl, rfl⟩
           | false =>
            replace h := bif_f hb22 h
            cases h
            refine WPO_f ?_
            exact ⟨rfl, rfl, rfl⟩
          refine WPO_f ?_
          obtain ⟨j43, hj43, h⟩ := bind_inv h
          refine WP_cut j43 (fun z => (.normal, [(2, .loc 0 0), (4, .loc 1 0)], [(0, (Style.c z)), (1, [.int .i64 0, .int .i64 0, .int .i64 0])], [])) (fun _ => [2, 4]) (fun _ => [0, 1]) ?_ ?_
          ·clear h
           replace h := hj43
           clear hj43
           refine WP_cond (b := g20) rfl (fun hb23 => ?_) (fun hb23 => ?_)
           ·replace h := bif_t hb23 h
            refine WP_reg [2, 4] [0, 1] ?_
            refine WPO_f ?_
            cases h
            exact rfl
           ·replace h := bif_f hb23 h
            refine WP_seq ?_
            refine WP_reg [1, 2, 4, 60] [0, 1] ?_
            refine WPO_f ?_
            refine fun c24 hc24 => ?_
            replace h := letB_inv hc24 h
            obtain ⟨j42, hj42, h⟩ := bind_inv h
            refine WP_cut j42 (fun z => (.normal, [(2, .loc 0 0), (4, .loc 1 0)], [(0, (Style.c z)), (1, [.int .i64 0, .int .i64 0, .int .i64 0])], [])) (fun _ => [2, 4]) (fun _ => [0, 1]) ?_ ?_
            ·clear h
             replace h := hj42
             clear hj42
             refine WP_cond (b := c24) rfl (fun hb25 => ?_) (fun hb25 => ?_)
             ·replace h := bif_t hb25 h
              refine WP_reg [2, 4] [0, 1] ?_
              refine WPO_f ?_
              cases h
              exact rfl
             ·replace h := bif_f hb25 h
              refine WP_seq ?_
              refine WP_reg [1, 2, 4, 64] [0, 1] ?_
              refine WPO_then 3 ?_
              refine WPO_f ?_
              refine fun c26 hc26 => ?_
              replace h := letB_inv hc26 h
              obtain ⟨g27, hg27, h⟩ := bind_inv h
              refine WPO_grp 3 70 [1, 2, 4, 70] g27 ?_ ?_
              ·clear h
               replace h := hg27
               clear hg27
               cases hb29 : c26 with
               | true =>
                replace h := bif_t hb29 h
                refine WPO_f ?_
                refine fun c28 hc28 => ?_
                replace h := letB_inv hc28 h
                cases h
                exact ⟨rfl, rfl, rfl⟩
               | false =>
                replace h := bif_f hb29 h
                cases h
                refine WPO_f ?_
                exact ⟨rfl, rfl, rfl⟩
              refine WPO_f ?_
              obtain ⟨j41, hj41, h⟩ := bind_inv h
              refine WP_cut j41 (fun z => (.normal, [(2, .loc 0 0), (4, .loc 1 0)], [(0, (Style.c z)), (1, [.int .i64 0, .int .i64 0, .int .i64 0])], [])) (fun _ => [2, 4]) (fun _ => [0, 1]) ?_ ?_
              ·clear h
               replace h := hj41
               clear hj41
               refine WP_cond (b := g27) rfl (fun hb30 => ?_) (fun hb30 => ?_)
               ·replace h := bif_t hb30 h
                refine WP_reg [2, 4] [0, 1] ?_
                refine WPO_f ?_
                cases h
                exact rfl
               ·replace h := bif_f hb30 h
                refine WP_seq ?_
                refine WP_reg [1, 2, 4, 74] [0, 1] ?_
                refine WPO_then 3 ?_
                refine WPO_f ?_
                refine fun c31 hc31 => ?_
                replace h := letB_inv hc31 h
                obtain ⟨g32, hg32, h⟩ := bind_inv h
                refine WPO_grp 3 80 [1, 2, 4, 80] g32 ?_ ?_
                ·clear h
                 replace h := hg32
                 clear hg32
                 cases hb34 : c31 with
                 | true =>
                  replace h := bif_t hb34 h
                  refine WPO_f ?_
                  refine fun c33 hc33 => ?_
                  replace h := letB_inv hc33 h
                  cases h
                  exact ⟨rfl, rfl, rfl⟩
                 | false =>
                  replace h := bif_f hb34 h
                  cases h
                  refine WPO_f ?_
                  exact ⟨rfl, rfl, rfl⟩
                refine WPO_f ?_
                obtain ⟨j40, hj40, h⟩ := bind_inv h
                refine WP_cut j40 (fun z => (.normal, [(2, .loc 0 0), (4, .loc 1 0)], [(0, (Style.c z)), (1, [.int .i64 0, .int .i64 0, .int .i64 0])], [])) (fun _ => [2, 4]) (fun _ => [0, 1]) ?_ ?_
                ·clear h
                 replace h := hj40
                 clear hj40
                 refine WP_cond (b := g32) rfl (fun hb35 => ?_) (fun hb35 => ?_)
                 ·replace h := bif_t hb35 h
                  refine WP_reg [2, 4] [0, 1] ?_
                  refine WPO_f ?_
                  cases h
                  exact rfl
                 ·replace h := bif_f hb35 h
                  refine WP_seq ?_
                  refine WP_reg [1, 2, 4, 84] [0, 1] ?_
                  refine WPO_f ?_
                  refine fun c36 hc36 => ?_
                  replace h := letB_inv hc36 h
                  obtain ⟨j39, hj39, h⟩ := bind_inv h
                  refine WP_cut j39 (fun z => (.normal, [(2, .loc 0 0), (4, .loc 1 0)], [(0, (Style.c z)), (1, [.int .i64 0, .int .i64 0, .int .i64 0])], [])) (fun _ => [2, 4]) (fun _ => [0, 1]) ?_ ?_
                  ·clear h
                   replace h := hj39
                   clear hj39
                   refine WP_cond (b := c36) rfl (fun hb37 => ?_) (fun hb37 => ?_)
                   ·replace h := bif_t hb37 h
                    refine WP_reg [2, 4] [0, 1] ?_
                    refine WPO_f ?_
                    cases h
                    exact rfl
                   ·replace h := bif_f hb37 h
                    refine WP_reg [2, 4] [0, 1] ?_
                    refine WPO_t ?_
                    obtain ⟨y38, hy38, h⟩ := bind_inv h
                    refine ⟨_, _, CallT.any (sgr_mark_ok hy38) rfl _ rfl, ?_⟩
                    cases h
                    exact rfl
                  cases h
                  exact rfl
                cases h
                exact rfl
              cases h
              exact rfl
            cases h
            exact rfl
          cases h
          exact rfl
        cases h
        exact rfl
      cases h
      exact rfl
    cases h
    exact rfl
  rcases j47 with z48 | z49
  ·cases h
   exact rfl
  ·cases h
   exact rfl
 rcases j50 with z51 | z52
 ·refine WP_seq ?_
  refine WP_reg [4] [0, 1] ?_
  refine WPO_f ?_
  refine WP_ret ?_
  cases h
  exact ⟨rfl, rfl, rfl, rfl, rfl⟩
 ·cases h
  exact ⟨rfl, rfl, rfl, rfl, rfl⟩
noncomputable def sgr_long_in23_0_l1 (x12 : List Int) (n : Int) (t33 : Int) : Option ((Int × Int) ⊕ (Unit ⊕ Int)) :=
 letB (decide (t33 < (x12.length : Int))) fun c13 =>
 bif c13 then (
  (idx x12 t33).bind fun x15 =>
  letB (decide (x15 < 0)) fun c16 =>
  (bif c16 then some true else (
   letB (decide (x15 > 255)) fun c18 =>
   some (c18))).bind fun g17 =>
  bif g17 then (
   some (.inr (.inl ())))
  else (
   some (.inl (iOr .i64 (iShl .i64 n 8) x15, w64 (t33 + 1)))))
 else (
  some (.inr (.inr n)))
noncomputable def sgr_long_in23_0 (to : Style) (rest : List Int) : Option (Int × Style) :=
 letB (decide ((rest.length : Int) > 0)) fun c1 =>
 Option.bind (
  bif c1 then (
   (idx rest 0).bind fun x3 =>
   (sgr_kind x3).bind fun y4 =>
   (idx [0, 3, 1] y4).bind fun x5 =>
   some (x5))
  else (
   some (0)) : Option Int) fun j6 =>
 letB (decide (j6 = 0)) fun c7 =>
 (bif c7 then some true else (
  letB (decide ((rest.length : Int) ≤ j6)) fun c9 =>
  some (c9))).bind fun g8 =>
 bif g8 then (
  some ((rest.length : Int), to))
 else (
  (subL rest 1 (w64 (j6 + 1))).bind fun x12 =>
  (iter (fun s => sgr_long_in23_0_l1 x12 s.1 s.2 : (Int × Int) → Option ((Int × Int) ⊕ (Unit ⊕ Int))) (0, 0)).bind fun j21 =>
  match j21 with
  | .inl z22 => (
   some (w64 (j6 + 1), to))
  | .inr z23 => (
   letB (decide (j6 = 3)) fun c24 =>
   Option.bind (
    bif c24 then (
     some ({ to with Fg := iOr .i64 z23 16777216 }))
    else (
     some ({ to with Fg := w64 (z23 + 1) })) : Option Style) fun j26 =>
   some (w64 (j6 + 1), j26)))
set_option maxRecDepth 20000 in
theorem sgr_long_in23_0_ok {to : Style} {rest : List Int} {r : Int × Style} (h : sgr_long_in23_0 to rest = some r) : CallT false (RF ET) 44 [.ptr 0 0, .sl false 1 (List.map ei64 rest)] [(Style.c to)] (.int .i64 r.1) [(Style.c r.2)] := by
 refine con_low (af := a44) rfl rfl ?_
 unfold sgr_long_in23_0 at h
 refine WP_seq ?_
 refine WP_reg [0, 1] [] ?_
 refine WPO_f ?_
 refine WP_seq ?_
 refine WP_reg [0, 1, 5] [] ?_
 refine WPO_f ?_
 refine WP_seq ?_
 refine WP_seq ?_
 refine WP_reg [0, 1, 5, 11] [] ?_
 refine WPO_f ?_
 refine ⟨_, (List.length_map ..).symm, ?_⟩
 refine fun c1 hc1 => ?_
 replace h := letB_inv hc1 h
 obtain ⟨j6, hj6, h⟩ := bind_inv h
 refine WP_cut j6 (fun z => (.normal, [(0, .ptr 0 0), (1, .sl false 1 (List.map ei64 rest)), (5, .int .i64 z)], [], [(Style.c to)])) (fun _ => [0, 1, 5]) (fun _ => []) ?_ ?_
 ·clear h
  replace h := hj6
  clear hj6
  refine WP_cond (b := c1) rfl (fun hb2 => ?_) (fun hb2 => ?_)
  ·replace h := bif_t hb2 h
   refine WP_reg [0, 1, 5] [] ?_
   refine WPO_f ?_
   obtain ⟨x3, hx3, h⟩ := bind_inv h
   refine And.intro (idx_nn hx3) ⟨_, idx_get ei64 hx3, ?_⟩
   obtain ⟨y4, hy4, h⟩ := bind_inv h
   refine ⟨_, _, CallT.any (sgr_kind_ok hy4) rfl _ rfl, ?_⟩
   obtain ⟨x5, hx5, h⟩ := bind_inv h
   refine And.intro (idxA_b hx5 rfl) ⟨_, idxA_eq .i64 hx5, ?_⟩
   cases h
   exact rfl
  ·replace h := bif_f hb2 h
   refine WP_skip ?_
   cases h
   exact rfl
 refine WP_seq ?_
 refine WP_seq ?_
 refine WP_reg [0, 1, 5, 25] [] ?_
 refine WPO_then 3 ?_
 refine WPO_f ?_
 refine fun c7 hc7 => ?_
 replace h := letB_inv hc7 h
 obtain ⟨g8, hg8, h⟩ := bind_inv h
 refine WPO_grp 5 25 [0, 1, 5, 25] g8 ?_ ?_
 ·clear h
  replace h := hg8
  clear hg8
  cases hb10 : c7 with
  | false =>
   replace h := bif_f hb10 h
   refine WPO_f ?_
   refine ⟨_, (List.length_map ..).symm, ?_⟩
   refine fun c9 hc9 => ?_
   replace h := letB_inv hc9 h
   cases h
   exact ⟨rfl, rfl, rfl⟩
  | true =>
   replace h := bif_t hb10 h
   cases h
   refine WPO_f ?_
   exact ⟨rfl, rfl, rfl⟩
 refine WPO_f ?_
 refine WP_cond (b := g8) rfl (fun hb11 => ?_) (fun hb11 => ?_)
 ·replace h := bif_t hb11 h
  refine WP_seq ?_
  refine WP_reg [4] [] ?_
  refine WPO_f ?_
  refine ⟨_, (List.length_map ..).symm, ?_⟩
  refine WP_ret ?_
  cases h
  exact ⟨rfl, rfl, rfl, rfl, rfl⟩
 ·replace h := bif_f hb11 h
  refine WP_skip ?_
  refine WP_seq ?_
  refine WP_reg [0, 1, 5, 6] [] ?_
  refine WPO_f ?_
  refine WP_seq ?_
  refine WP_seq ?_
  refine WP_reg [0, 5, 6, 31, 32, 33] [] ?_
  refine WPO_f ?_
  obtain ⟨x12, hx12, h⟩ := bind_inv h
  refine And.intro (subL_b hx12) (And.intro (subL_a hx12) (And.intro (subL_le ei64 hx12) ⟨_, subL_eq ei64 hx12, ?_⟩))
  refine ⟨_, (List.length_map ..).symm, ?_⟩
  refine WP_block ?_
  obtain ⟨j21, hj21, h⟩ := bind_inv h
  refine WP_iter hj21 [] (fun s => ([(0, .ptr 0 0), (5, .int .i64 j6), (6, .int .i64 s.1), (31, .sl false 1 (List.map ei64 x12)), (32, .int .i64 (x12.length : Int)), (33, .int .i64 s.2)], [], [(Style.c to)])) (fun e => match e with | .ret => [4] | .exit 0 => [0, 5, 6] | _ => []) (fun e => match e with | .ret => [] | .exit 0 => [] | _ => []) (fun r => match r with | .inl z => (.ret, [(4, .int .i64 (w64 (j6 + 1)))], [], [(Style.c to)]) | .inr z => (.exit 0, [(0, .ptr 0 0), (5, .int .i64 j6), (6, .int .i64 z)], [], [(Style.c to)])) ?_ ?_ ?_
  ·exact rfl
  ·clear h
   rintro ⟨n, t33⟩ x h
   replace h : sgr_long_in23_0_l1 x12 n t33 = some x := h
   unfold sgr_long_in23_0_l1 at h
   show T.WP _ _ [(0, .ptr 0 0), (5, .int .i64 j6), (6, .int .i64 n), (31, .sl false 1 (List.map ei64 x12)), (32, .int .i64 (x12.length : Int)), (33, .int .i64 t33)] [] [(Style.c to)] _
   refine WP_seq ?_
   refine WP_reg [0, 5, 6, 31, 32, 33, 34] [] ?_
   refine WPO_f ?_
   refine fun c13 hc13 => ?_
   replace h := letB_inv hc13 h
   refine WP_seq ?_
   refine WP_cond (b := c13) rfl (fun hb14 => ?_) (fun hb14 => ?_)
   ·replace h := bif_t hb14 h
    refine WP_skip ?_
    refine WP_seq ?_
    refine WP_block ?_
    refine WP_seq ?_
    refine WP_reg [0, 5, 6, 8, 31, 32, 33] [] ?_
    refine WPO_f ?_
    obtain ⟨x15, hx15, h⟩ := bind_inv h
    refine And.intro (idx_nn hx15) ⟨_, idx_get ei64 hx15, ?_⟩
    refine WP_seq ?_
    refine WP_seq ?_
    refine WP_reg [0, 5, 6, 8, 31, 32, 33, 42] [] ?_
    refine WPO_then 3 ?_
    refine WPO_f ?_
    refine fun c16 hc16 => ?_
    replace h := letB_inv hc16 h
    obtain ⟨g17, hg17, h⟩ := bind_inv h
    refine WPO_grp 3 42 [0, 5, 6, 8, 31, 32, 33, 42] g17 ?_ ?_
    ·clear h
     replace h := hg17
     clear hg17
     cases hb19 : c16 with
     | false =>
      replace h := bif_f hb19 h
      refine WPO_f ?_
      refine fun c18 hc18 => ?_
      replace h := letB_inv hc18 h
      cases h
      exact ⟨rfl, rfl, rfl⟩
     | true =>
      replace h := bif_t hb19 h
      cases h
      refine WPO_f ?_
      exact ⟨rfl, rfl, rfl⟩
    refine WPO_f ?_
    refine WP_cond (b := g17) rfl (fun hb20 => ?_) (fun hb20 => ?_)
    ·replace h := bif_t hb20 h
     refine WP_seq ?_
     refine WP_reg [4] [] ?_
     refine WPO_f ?_
     refine WP_ret ?_
     cases h
     exact ⟨_, rfl, rfl⟩
    ·replace h := bif_f hb20 h
     refine WP_skip ?_
     refine WP_reg [0, 5, 6, 31, 32, 33] [] ?_
     refine WPO_f ?_
     refine And.intro (by decide) ?_
     refine WP_reg [0, 5, 6, 31, 32, 33] [] ?_
     refine WPO_f ?_
     cases h
     exact ⟨_, rfl, rfl⟩
   ·replace h := bif_f hb14 h
    refine WP_exit ?_
    cases h
    exact ⟨_, rfl, rfl⟩
  rcases j21 with z22 | z23
  ·cases h
   exact ⟨rfl, rfl, rfl, rfl, rfl⟩
  ·refine WP_seq ?_
   refine WP_seq ?_
   refine WP_reg [0, 5, 6] [] ?_
   refine WPO_f ?_
   refine WP_seq ?_
   refine WP_reg [0, 5, 6, 55] [] ?_
   refine WPO_f ?_
   refine fun c24 hc24 => ?_
   replace h := letB_inv hc24 h
   obtain ⟨j26, hj26, h⟩ := bind_inv h
   refine WP_cut j26 (fun z => (.normal, [(5, .int .i64 j6)], [], [(Style.c z)])) (fun _ => [5]) (fun _ => []) ?_ ?_
   ·clear h
    replace h := hj26
    clear hj26
    refine WP_cond (b := c24) rfl (fun hb25 => ?_) (fun hb25 => ?_)
    ·replace h := bif_t hb25 h
     refine WP_reg [5] [] ?_
     refine WPO_f ?_
     cases h
     exact rfl
    ·replace h := bif_f hb25 h
     refine WP_skip ?_
     cases h
     exact rfl
   refine WP_seq ?_
   refine WP_reg [4] [] ?_
   refine WPO_f ?_
   refine WP_ret ?_
   cases h
   exact ⟨rfl, rfl, rfl, rfl, rfl⟩
noncomputable def sgr_long_in23_1_l1 (x12 : List Int) (n : Int) (t33 : Int) : Option ((Int × Int) ⊕ (Unit ⊕ Int)) :=
 letB (decide (t33 < (x12.length : Int))) fun c13 =>
 bif c13 then (
  (idx x12 t33).bind fun x15 =>
  letB (decide (x15 < 0)) fun c16 =>
  (bif c16 then some true else (
   letB (decide (x15 > 255)) fun c18 =>
   some (c18))).bind fun g17 =>
  bif g17 then (
   some (.inr (.inl ())))
  else (
   some (.inl (iOr .i64 (iShl .i64 n 8) x15, w64 (t33 + 1)))))
 else (
  some (.inr (.inr n)))
noncomputable def sgr_long_in23_1 (to : Style) (rest : List Int) : Option (Int × Style) :=
 letB (decide ((rest.length : Int) > 0)) fun c1 =>
 Option.bind (
  bif c1 then (
   (idx rest 0).bind fun x3 =>
   (sgr_kind x3).bind fun y4 =>
   (idx [0, 3, 1] y4).bind fun x5 =>
   some (x5))
  else (
   some (0)) : Option Int) fun j6 =>
 letB (decide (j6 = 0)) fun c7 =>
 (bif c7 then some true else (
  letB (decide ((rest.length : Int) ≤ j6)) fun c9 =>
  some (c9))).bind fun g8 =>
 bif g8 then (
  some ((rest.length : Int), to))
 else (
  (subL rest 1 (w64 (j6 + 1))).bind fun x12 =>
  (iter (fun s => sgr_long_in23_1_l1 x12 s.1 s.2 : (Int × Int) → Option ((Int × Int) ⊕ (Unit ⊕ Int))) (0, 0)).bind fun j21 =>
  match j21 with
  | .inl z22 => (
   some (w64 (j6 + 1), to))
  | .inr z23 => (
   letB (decide (j6 = 3)) fun c24 =>
   Option.bind (
    bif c24 then (
     some ({ to with Bg := iOr .i64 z23 16777216 }))
    else (
     some ({ to with Bg := w64 (z23 + 1) })) : Option Style) fun j26 =>
   some (w64 (j6 + 1), j26)))
set_option maxRecDepth 20000 in
theorem sgr_long_in23_1_ok {to : Style} {rest : List Int} {r : Int × Style} (h : sgr_long_in23_1 to rest = some r) : CallT false (RF ET) 44 [.ptr 0 1, .sl false 1 (List.map ei64 rest)] [(Style.c to)] (.int .i64 r.1) [(Style.c r.2)] := by
 refine con_low (af := a44) rfl rfl ?_
 unfold sgr_long_in23_1 at h
 refine WP_seq ?_
 refine WP_reg [0, 1] [] ?_
 refine WPO_f ?_
 refine WP_seq ?_
 refine WP_reg [0, 1, 5] [] ?_
 refine WPO_f ?_
 refine WP_seq ?_
 refine WP_seq ?_
 refine WP_reg [0, 1, 5, 11] [] ?_
 refine WPO_f ?_
 refine ⟨_, (List.length_map ..).symm, ?_⟩
 refine fun c1 hc1 => ?_
 replace h := letB_inv hc1 h
 obtain ⟨j6, hj6, h⟩ := bind_inv h
 refine WP_cut j6 (fun z => (.normal, [(0, .ptr 0 1), (1, .sl false 1 (List.map ei64 rest)), (5, .int .i64 z)], [], [(Style.c to)])) (fun _ => [0, 1, 5]) (fun _ => []) ?_ ?_
 ·clear h
  replace h := hj6
  clear hj6
  refine WP_cond (b := c1) rfl (fun hb2 => ?_) (fun hb2 => ?_)
  ·replace h := bif_t hb2 h
   refine WP_reg [0, 1, 5] [] ?_
   refine WPO_f ?_
   obtain ⟨x3, hx3, h⟩ := bind_inv h
   refine And.intro (idx_nn hx3) ⟨_, idx_get ei64 hx3, ?_⟩
   obtain ⟨y4, hy4, h⟩ := bind_inv h
   refine ⟨_, _, CallT.any (sgr_kind_ok hy4) rfl _ rfl, ?_⟩
   obtain ⟨x5, hx5, h⟩ := bind_inv h
   refine And.intro (idxA_b hx5 rfl) ⟨_, idxA_eq .i64 hx5, ?_⟩
   cases h
   exact rfl
  ·replace h := bif_f hb2 h
   refine WP_skip ?_
   cases h
   exact rfl
 refine WP_seq ?_
 refine WP_seq ?_
 refine WP_reg [0, 1, 5, 25] [] ?_
 refine WPO_then 3 ?_
 refine WPO_f ?_
 refine fun c7 hc7 => ?_
 replace h := letB_inv hc7 h
 obtain ⟨g8, hg8, h⟩ := bind_inv h
 refine WPO_grp 5 25 [0, 1, 5, 25] g8 ?_ ?_
 ·clear h
  replace h := hg8
  clear hg8
  cases hb10 : c7 with
  | false =>
   replace h := bif_f hb10 h
   refine WPO_f ?_
   refine ⟨_, (List.length_map ..).symm, ?_⟩
   refine fun c9 hc9 => ?_
   replace h := letB_inv hc9 h
   cases h
   exact ⟨rfl, rfl, rfl⟩
  | true =>
   replace h := bif_t hb10 h
   cases h
   refine WPO_f ?_
   exact ⟨rfl, rfl, rfl⟩
 refine WPO_f ?_
 refine WP_cond (b := g8) rfl (fun hb11 => ?_) (fun hb11 => ?_)
 ·replace h := bif_t hb11 h
  refine WP_seq ?_
  refine WP_reg [4] [] ?_
  refine WPO_f ?_
  refine ⟨_, (List.length_map ..).symm, ?_⟩
  refine WP_ret ?_
  cases h
  exact ⟨rfl, rfl, rfl, rfl, rfl⟩
 ·replace h := bif_f hb11 h
  refine WP_skip ?_
  refine WP_seq ?_
  refine WP_reg [0, 1, 5, 6] [] ?_
  refine WPO_f ?_
  refine WP_seq ?_
  refine WP_seq ?_
  refine WP_reg [0, 5, 6, 31, 32, 33] [] ?_
  refine WPO_f ?_
  obtain ⟨x12, hx12, h⟩ := bind_inv h
  refine And.intro (subL_b hx12) (And.intro (subL_a hx12) (And.intro (subL_le ei64 hx12) ⟨_, subL_eq ei64 hx12, ?_⟩))
  refine ⟨_, (List.length_map ..).symm, ?_⟩
  refine WP_block ?_
  obtain ⟨j21, hj21, h⟩ := bind_inv h
  refine WP_iter hj21 [] (fun s => ([(0, .ptr 0 1), (5, .int .i64 j6), (6, .int .i64 s.1), (31, .sl false 1 (List.map ei64 x12)), (32, .int .i64 (x12.length : Int)), (33, .int .i64 s.2)], [], [(Style.c to)])) (fun e => match e with | .ret => [4] | .exit 0 => [0, 5, 6] | _ => []) (fun e => match e with | .ret => [] | .exit 0 => [] | _ => []) (fun r => match r with | .inl z => (.ret, [(4, .int .i64 (w64 (j6 + 1)))], [], [(Style.c to)]) | .inr z => (.exit 0, [(0, .ptr 0 1), (5, .int .i64 j6), (6, .int .i64 z)], [], [(Style.c to)])) ?_ ?_ ?_
  ·exact rfl
  ·clear h
   rintro ⟨n, t33⟩ x h
   replace h : sgr_long_in23_1_l1 x12 n t33 = some x := h
   unfold sgr_long_in23_1_l1 at h
   show T.WP _ _ [(0, .ptr 0 1), (5, .int .i64 j6), (6, .int .i64 n), (31, .sl false 1 (List.map ei64 x12)), (32, .int .i64 (x12.length : Int)), (33, .int .i64 t33)] [] [(Style.c to)] _
   refine WP_seq ?_
   refine WP_reg [0, 5, 6, 31, 32, 33, 34] [] ?_
   refine WPO_f ?_
   refine fun c13 hc13 => ?_
   replace h := letB_inv hc13 h
   refine WP_seq ?_
   refine WP_cond (b := c13) rfl (fun hb14 => ?_) (fun hb14 => ?_)
   ·replace h := bif_t hb14 h
    refine WP_skip ?_
    refine WP_seq ?_
    refine WP_block ?_
    refine WP_seq ?_
    refine WP_reg [0, 5, 6, 8, 31, 32, 33] [] ?_
    refine WPO_f ?_
    obtain ⟨x15, hx15, h⟩ := bind_inv h
    refine And.intro (idx_nn hx15) ⟨_, idx_get ei64 hx15, ?_⟩
    refine WP_seq ?_
    refine WP_seq ?_
    refine WP_reg [0, 5, 6, 8, 31, 32, 33, 42] [] ?_
    refine WPO_then 3 ?_
    refine WPO_f ?_
    refine fun c16 hc16 => ?_
    replace h := letB_inv hc16 h
    obtain ⟨g17, hg17, h⟩ := bind_inv h
    refine WPO_grp 3 42 [0, 5, 6, 8, 31, 32, 33, 42] g17 ?_ ?_
    ·clear h
     replace h := hg17
     clear hg17
     cases hb19 : c16 with
     | false =>
      replace h := bif_f hb19 h
      refine WPO_f ?_
      refine fun c18 hc18 => ?_
      replace h := letB_inv hc18 h
      cases h
      exact ⟨rfl, rfl, rfl⟩
     | true =>
      replace h := bif_t hb19 h
      cases h
      refine WPO_f ?_
      exact ⟨rfl, rfl, rfl⟩
    refine WPO_f ?_
    refine WP_cond (b := g17) rfl (fun hb20 => ?_) (fun hb20 => ?_)
    ·replace h := bif_t hb20 h
     refine WP_seq ?_
     refine WP_reg [4] [] ?_
     refine WPO_f ?_
     refine WP_ret ?_
     cases h
     exact ⟨_, rfl, rfl⟩
    ·replace h := bif_f hb20 h
     refine WP_skip ?_
     refine WP_reg [0, 5, 6, 31, 32, 33] [] ?_
     refine WPO_f ?_
     refine And.intro (by decide) ?_
     refine WP_reg [0, 5, 6, 31, 32, 33] [] ?_
     refine WPO_f ?_
     cases h
     exact ⟨_, rfl, rfl⟩
   ·replace h := bif_f hb14 h
    refine WP_exit ?_
    cases h
    exact ⟨_, rfl, rfl⟩
  rcases j21 with z22 | z23
  ·cases h
   exact ⟨rfl, rfl, rfl, rfl, rfl⟩
  ·refine WP_seq ?_
   refine WP_seq ?_
   refine WP_reg [0, 5, 6] [] ?_
   refine WPO_f ?_
   refine WP_seq ?_
   refine WP_reg [0, 5, 6, 55] [] ?_
   refine WPO_f ?_
   refine fun c24 hc24 => ?_
   replace h := letB_inv hc24 h
   obtain ⟨j26, hj26, h⟩ := bind_inv h
   refine WP_cut j26 (fun z => (.normal, [(5, .int .i64 j6)], [], [(Style.c z)])) (fun _ => [5]) (fun _ => []) ?_ ?_
   ·clear h
    replace h := hj26
    clear hj26
    refine WP_cond (b := c24) rfl (fun hb25 => ?_) (fun hb25 => ?_)
    ·replace h := bif_t hb25 h
     refine WP_reg [5] [] ?_
     refine WPO_f ?_
     cases h
     exact rfl
    ·replace h := bif_f hb25 h
     refine WP_skip ?_
     cases h
     exact rfl
   refine WP_seq ?_
   refine WP_reg [4] [] ?_
   refine WPO_f ?_
   refine WP_ret ?_
   cases h
   exact ⟨rfl, rfl, rfl, rfl, rfl⟩
noncomputable def sgr_Apply_l1 (x4 : List Int) (i : Int) (s_' : Style) : Option ((Int × Style) ⊕ Style) :=
 letB (decide (i < (x4.length : Int))) fun c5 =>
 bif c5 then (
  Option.bind (
   (idx x4 i).bind fun x7 =>
   Option.bind (
    letB (decide (x7 = 38)) fun c8 =>
    Option.bind (
     bif c8 then (
      (subA x4 (w64 (i + 1))).bind fun x10 =>
      (sgr_long_in23_0 s_' x10).bind fun y11 =>
      some ((w64 (i + y11.1), y11.2)))
     else (
      letB (decide (x7 = 48)) fun c12 =>
      Option.bind (
       bif c12 then (
        (subA x4 (w64 (i + 1))).bind fun x14 =>
        (sgr_long_in23_1 s_' x14).bind fun y15 =>
        some ((w64 (i + y15.1), y15.2)))
       else (
        (sgr_one s_' x7).bind fun y16 =>
        some ((i, y16))) : Option (Int × Style)) fun j17 =>
      some ((j17.1, j17.2))) : Option (Int × Style)) fun j18 =>
    some ((j18.1, j18.2)) : Option (Int × Style)) fun j19 =>
   some ((j19.1, j19.2)) : Option (Int × Style)) fun j20 =>
  some (.inl (w64 (j20.1 + 1), j20.2)))
 else (
  some (.inr s_'))
noncomputable def sgr_Apply (s_ : Style) (params : List Int) : Option Style :=
 (sgr_clean s_).bind fun y1 =>
 letB (decide ((params.length : Int) = 0)) fun c2 =>
 bif c2 then (
  some (Style.mk 0 0 0))
 else (
  (subB params (min (params.length : Int) 16)).bind fun x4 =>
  (iter (fun s => sgr_Apply_l1 x4 s.1 s.2 : (Int × Style) → Option ((Int × Style) ⊕ Style)) (0, y1)).bind fun j21 =>
  some j21)
set_option maxRecDepth 20000 in
theorem sgr_Apply_ok {s_ : Style} {params : List Int} {r : Style} (h : sgr_Apply s_ params = some r) : CallT true (RF ET) 15 [.agg (Style.c s_), .sl false 1 (List.map ei64 params)] [] (.agg (Style.c r)) [] := by
 refine CallT.quiet (con_low (af := a15) rfl rfl ?_) rfl
 unfold sgr_Apply at h
 refine WP_seq ?_
 refine WP_reg [1, 2, 4] [0] ?_
 refine WPO_f ?_
 refine WP_seq ?_
 refine WP_reg [1, 2, 4] [0] ?_
 refine WPO_f ?_
 obtain ⟨y1, hy1, h⟩ := bind_inv h
 refine ⟨_, _, CallT.any (sgr_clean_ok hy1) rfl _ rfl, ?_⟩
 refine WP_seq ?_
 refine WP_seq ?_
 refine WP_reg [1, 2, 4, 11] [0] ?_
 refine WPO_f ?_
 refine ⟨_, (List.length_map ..).symm, ?_⟩
 refine fun c2 hc2 => ?_
 replace h := letB_inv hc2 h
 refine WP_cond (b := c2) rfl (fun hb3 => ?_) (fun hb3 => ?_)
 ·replace h := bif_t hb3 h
  refine WP_seq ?_
  refine WP_reg [4] [0] ?_
  refine WPO_f ?_
  refine WP_ret ?_
  cases h
  exact ⟨rfl, rfl, rfl, rfl, rfl⟩
 ·replace h := bif_f hb3 h
  refine WP_skip ?_
  refine WP_seq ?_
  refine WP_reg [1, 2, 4] [0] ?_
  refine WPO_f ?_
  refine ⟨_, (List.length_map ..).symm, ?_⟩
  obtain ⟨x4, hx4, h⟩ := bind_inv h
  refine And.intro (subB_b hx4) (And.intro (subB_le ei64 hx4) ⟨_, subB_eq ei64 hx4, ?_⟩)
  refine WP_seq ?_
  refine WP_seq ?_
  refine WP_reg [1, 2, 4, 5] [0] ?_
  refine WPO_f ?_
  refine WP_block ?_
  obtain ⟨j21, hj21, h⟩ := bind_inv h
  refine WP_iter hj21 [0] (fun s => ([(1, .sl false 1 (List.map ei64 x4)), (2, .ptr 0 0), (4, .loc 0 0), (5, .int .i64 s.1)], [(0, [.int .i64 0, .int .i64 0, .int .i64 0])], [(Style.c s.2)])) (fun _ => [2, 4]) (fun _ => [0]) (fun z => (.exit 0, [(2, .ptr 0 0), (4, .loc 0 0)], [(0, [.int .i64 0, .int .i64 0, .int .i64 0])], [(Style.c z)])) ?_ ?_ ?_
  ·exact rfl
  ·clear h
   rintro ⟨i, s_'⟩ x h
   replace h : sgr_Apply_l1 x4 i s_' = some x := h
   unfold sgr_Apply_l1 at h
   show T.WP _ _ [(1, .sl false 1 (List.map ei64 x4)), (2, .ptr 0 0), (4, .loc 0 0), (5, .int .i64 i)] [(0, [.int .i64 0, .int .i64 0, .int .i64 0])] [(Style.c s_')] _
   refine WP_seq ?_
   refine WP_seq ?_
   refine WP_reg [1, 2, 4, 5, 21] [0] ?_
   refine WPO_f ?_
   refine ⟨_, (List.length_map ..).symm, ?_⟩
   refine fun c5 hc5 => ?_
   replace h := letB_inv hc5 h
   refine WP_cond (b := c5) rfl (fun hb6 => ?_) (fun hb6 => ?_)
   ·replace h := bif_t hb6 h
    refine WP_skip ?_
    refine WP_seq ?_
    obtain ⟨j20, hj20, h⟩ := bind_inv h
    refine WP_cut j20 (fun z => (.normal, [(1, .sl false 1 (List.map ei64 x4)), (2, .ptr 0 0), (4, .loc 0 0), (5, .int .i64 z.1)], [(0, [.int .i64 0, .int .i64 0, .int .i64 0])], [(Style.c z.2)])) (fun _ => [1, 2, 4, 5]) (fun _ => [0]) ?_ ?_
    ·clear h
     replace h := hj20
     clear hj20
     refine WP_block ?_
     refine WP_seq ?_
     refine WP_reg [1, 2, 4, 5, 6] [0] ?_
     refine WPO_f ?_
     obtain ⟨x7, hx7, h⟩ := bind_inv h
     refine And.intro (idx_nn hx7) ⟨_, idx_get ei64 hx7, ?_⟩
     obtain ⟨j19, hj19, h⟩ := bind_inv h
     refine WP_cut j19 (fun z => (.normal, [(1, .sl false 1 (List.map ei64 x4)), (2, .ptr 0 0), (4, .loc 0 0), (5, .int .i64 z.1)], [(0, [.int .i64 0, .int .i64 0, .int .i64 0])], [(Style.c z.2)])) (fun _ => [1, 2, 4, 5]) (fun _ => [0]) ?_ ?_
     ·clear h
      replace h := hj19
      clear hj19
      refine WP_block ?_
      refine WP_seq ?_
      refine WP_reg [1, 2, 4, 5, 6, 31] [0] ?_
      refine WPO_f ?_
      refine fun c8 hc8 => ?_
      replace h := letB_inv hc8 h
      obtain ⟨j18, hj18, h⟩ := bind_inv h
      refine WP_cut j18 (fun z => (.normal, [(1, .sl false 1 (List.map ei64 x4)), (2, .ptr 0 0), (4, .loc 0 0), (5, .int .i64 z.1)], [(0, [.int .i64 0, .int .i64 0, .int .i64 0])], [(Style.c z.2)])) (fun _ => [1, 2, 4, 5]) (fun _ => [0]) ?_ ?_
      ·clear h
       replace h := hj18
       clear hj18
       refine WP_cond (b := c8) rfl (fun hb9 => ?_) (fun hb9 => ?_)
       ·replace h := bif_t hb9 h
        refine WP_reg [1, 2, 4, 5] [0] ?_
        refine WPO_f ?_
        obtain ⟨x10, hx10, h⟩ := bind_inv h
        refine And.intro (subA_a hx10) (And.intro (subA_le ei64 hx10) ⟨_, subA_eq ei64 hx10, ?_⟩)
        obtain ⟨y11, hy11, h⟩ := bind_inv h
        refine ⟨_, _, CallT.sub (i := 0) (sgr_long_in23_0_ok hy11) rfl _ rfl rfl rfl rfl, ?_⟩
        cases h
        exact rfl
       ·replace h := bif_f hb9 h
        refine WP_seq ?_
        refine WP_reg [1, 2, 4, 5, 6, 42] [0] ?_
        refine WPO_f ?_
        refine fun c12 hc12 => ?_
        replace h := letB_inv hc12 h
        obtain ⟨j17, hj17, h⟩ := bind_inv h
        refine WP_cut j17 (fun z => (.normal, [(1, .sl false 1 (List.map ei64 x4)), (2, .ptr 0 0), (4, .loc 0 0), (5, .int .i64 z.1)], [(0, [.int .i64 0, .int .i64 0, .int .i64 0])], [(Style.c z.2)])) (fun _ => [1, 2, 4, 5]) (fun _ => [0]) ?_ ?_
        ·clear h
         replace h := hj17
         clear hj17
         refine WP_cond (b := c12) rfl (fun hb13 => ?_) (fun hb13 => ?_)
         ·replace h := bif_t hb13 h
          refine WP_reg [1, 2, 4, 5] [0] ?_
          refine WPO_f ?_
          obtain ⟨x14, hx14, h⟩ := bind_inv h
          refine And.intro (subA_a hx14) (And.intro (subA_le ei64 hx14) ⟨_, subA_eq ei64 hx14, ?_⟩)
          obtain ⟨y15, hy15, h⟩ := bind_inv h
          refine ⟨_, _, CallT.sub (i := 0) (sgr_long_in23_1_ok hy15) rfl _ rfl rfl rfl rfl, ?_⟩
          cases h
          exact rfl
         ·replace h := bif_f hb13 h
          refine WP_reg [1, 2, 4, 5] [0] ?_
          refine WPO_f ?_
          obtain ⟨y16, hy16, h⟩ := bind_inv h
          refine ⟨_, _, CallT.any (sgr_one_ok hy16) rfl _ rfl, ?_⟩
          cases h
          exact rfl
        cases h
        exact rfl
      cases h
      exact rfl
     cases h
     exact rfl
    refine WP_reg [1, 2, 4, 5] [0] ?_
    refine WPO_f ?_
    cases h
    exact ⟨_, rfl, rfl⟩
   ·replace h := bif_f hb6 h
    refine WP_exit ?_
    cases h
    exact ⟨_, rfl, rfl⟩
  refine WP_seq ?_
  refine WP_reg [4] [0] ?_
  refine WPO_f ?_
  refine WP_ret ?_
  cases h
  exact ⟨rfl, rfl, rfl, rfl, rfl⟩
noncomputable def casementlaw05_SgrBetween_l1 (y7 : List Act × ParserM) (t28 : Int) (to : Style) : Option ((Int × Style) ⊕ ((Style × Act) ⊕ Style)) :=
 letB (decide (t28 < (y7.1.length : Int))) fun c9 =>
 bif c9 then (
  (idx y7.1 t28).bind fun x11 =>
  letB (decide (x11.Kind ≠ 4)) fun c12 =>
  (bif c12 then some true else (
   letB (decide (x11.Final ≠ 109)) fun c14 =>
   some (c14))).bind fun g13 =>
  bif g13 then (
   some (.inr (.inl (to, x11))))
  else (
   (sgr_Apply to x11.Params).bind fun y17 =>
   some (.inl (w64 (t28 + 1), y17))))
 else (
  some (.inr (.inr to)))
noncomputable def casementlaw05_SgrBetween (a : Style) (b : Style) : Option Bool :=
 (casementlaw05_alive).bind fun y1 =>
 bif (!y1) then (
  some false)
 else (
  (sgr_Between a b).bind fun y3 =>
  (casementref05_Between a b).bind fun y4 =>
  (casementref01_SameBytes y3 y4).bind fun y5 =>
  bif (!y5) then (
   some false)
  else (
   (esc_Parser_Feed (ParserM.mk (Reader.mk []) 0 false false (ActM.mk 0 0 0 0 [] (some []) []) 0 [] []) y3).bind fun y7 =>
   (casementref05_Clean a).bind fun y8 =>
   (iter (fun s => casementlaw05_SgrBetween_l1 y7 s.1 s.2 : (Int × Style) → Option ((Int × Style) ⊕ ((Style × Act) ⊕ Style))) (0, y8)).bind fun j18 =>
   match j18 with
   | .inl z19 => (
    some false)
   | .inr z20 => (
    letB (decide ((y7.1.length : Int) ≤ 1)) fun c21 =>
    (bif c21 then (
     (casementref05_Clean b).bind fun y23 =>
     letB ((decide (z20.Fg = y23.Fg) && (decide (z20.Bg = y23.Bg) && (decide (z20.Attr = y23.Attr) && true)))) fun c24 =>
     some (c24)) else some false).bind fun g22 =>
    some g22)))
set_option maxRecDepth 20000 in
theorem casementlaw05_SgrBetween_ok {a : Style} {b : Style} {r : Bool} (h : casementlaw05_SgrBetween a b = some r) : CallT true (RF ET) 3 [.agg (Style.c a), .agg (Style.c b)] [] (.bool r) [] := by
 refine CallT.quiet (con_low (af := a3) rfl rfl ?_) rfl
 unfold casementlaw05_SgrBetween at h
 refine WP_seq ?_
 refine WP_reg [2, 3] [0, 1] ?_
 refine WPO_f ?_
 refine WP_seq ?_
 refine WP_seq ?_
 refine WP_reg [2, 3, 12] [0, 1] ?_
 refine WPO_f ?_
 obtain ⟨y1, hy1, h⟩ := bind_inv h
 refine ⟨_, _, CallT.any (casementlaw05_alive_ok hy1) rfl _ rfl, ?_⟩
 refine WP_cond (b := (!y1)) rfl (fun hb2 => ?_) (fun hb2 => ?_)
 ·replace h := bif_t hb2 h
  refine WP_seq ?_
  refine WP_reg [4] [0, 1] ?_
  refine WPO_f ?_
  refine WP_ret ?_
  cases h
  exact ⟨rfl, rfl, rfl, rfl, rfl⟩
 ·replace h := bif_f hb2 h
  refine WP_skip ?_
  refine WP_seq ?_
  refine WP_reg [2, 3, 5] [0, 1] ?_
  refine WPO_f ?_
  obtain ⟨y3, hy3, h⟩ := bind_inv h
  refine ⟨_, _, CallT.any (sgr_Between_ok hy3) rfl _ rfl, ?_⟩
  refine WP_seq ?_
  refine WP_seq ?_
  refine WP_reg [2, 3, 5, 21] [0, 1] ?_
  refine WPO_f ?_
  obtain ⟨y4, hy4, h⟩ := bind_inv h
  refine ⟨_, _, CallT.any (casementref05_Between_ok hy4) rfl _ rfl, ?_⟩
  obtain ⟨y5, hy5, h⟩ := bind_inv h
  refine ⟨_, _, CallT.any (casementref01_SameBytes_ok hy5) rfl _ rfl, ?_⟩
  refine WP_cond (b := (!y5)) rfl (fun hb6 => ?_) (fun hb6 => ?_)
  ·replace h := bif_t hb6 h
   refine WP_seq ?_
   refine WP_reg [4] [0, 1] ?_
   refine WPO_f ?_
   refine WP_ret ?_
   cases h
   exact ⟨rfl, rfl, rfl, rfl, rfl⟩
  ·replace h := bif_f hb6 h
   refine WP_skip ?_
   refine WP_seq ?_
   refine WP_reg [2, 3, 5, 6] [0, 1] ?_
   refine WPO_f ?_
   refine ⟨.sl false 1 [], .sl _ _, ?_⟩
   refine ⟨.sl true 1 [], .sl _ _, ?_⟩
   refine ⟨.sl true 1 [], .sl _ _, ?_⟩
   refine ⟨.sl true 7 [], .sl _ _, ?_⟩
   refine WP_seq ?_
   refine WP_reg [2, 3, 7] [0, 1] ?_
   refine WPO_f ?_
   obtain ⟨y7, hy7, h⟩ := bind_inv h
   refine ⟨_, _, CallT.sub (i := 0) (esc_Parser_Feed_ok hy7) rfl _ rfl rfl (ParserM.flat _) (ParserM.flat _), ?_⟩
   refine WP_seq ?_
   refine WP_reg [3, 7, 8] [0, 1, 2] ?_
   refine WPO_f ?_
   obtain ⟨y8, hy8, h⟩ := bind_inv h
   refine ⟨_, _, CallT.any (casementref05_Clean_ok hy8) rfl _ rfl, ?_⟩
   refine WP_seq ?_
   refine WP_seq ?_
   refine WP_reg [3, 7, 8, 26, 27, 28] [0, 1, 2] ?_
   refine WPO_f ?_
   refine ⟨_, (List.length_map ..).symm, ?_⟩
   refine WP_block ?_
   obtain ⟨j18, hj18, h⟩ := bind_inv h
   refine WP_iter hj18 [0, 1, 2] (fun s => ([(3, .loc 1 0), (7, .sl false 7 (List.map Act.e y7.1)), (8, .loc 2 0), (26, .sl false 7 (List.map Act.e y7.1)), (27, .int .i64 (y7.1.length : Int)), (28, .int .i64 s.1)], [(0, (Style.c a)), (1, (Style.c b)), (2, (Style.c s.2))], [(ParserM.m y7.2)])) (fun e => match e with | .ret => [4] | .exit 0 => [3, 7, 8] | _ => []) (fun e => match e with | .ret => [0, 1, 2, 3] | .exit 0 => [0, 1, 2] | _ => []) (fun r => match r with | .inl z => (.ret, [(4, .bool false)], [(0, (Style.c a)), (1, (Style.c b)), (2, (Style.c z.1)), (3, (Act.e z.2))], [(ParserM.m y7.2)]) | .inr z => (.exit 0, [(3, .loc 1 0), (7, .sl false 7 (List.map Act.e y7.1)), (8, .loc 2 0)], [(0, (Style.c a)), (1, (Style.c b)), (2, (Style.c z))], [(ParserM.m y7.2)])) ?_ ?_ ?_
   ·exact rfl
   ·clear h
    rintro ⟨t28, to⟩ x h
    replace h : casementlaw05_SgrBetween_l1 y7 t28 to = some x := h
    unfold casementlaw05_SgrBetween_l1 at h
    show T.WP _ _ [(3, .loc 1 0), (7, .sl false 7 (List.map Act.e y7.1)), (8, .loc 2 0), (26, .sl false 7 (List.map Act.e y7.1)), (27, .int .i64 (y7.1.length : Int)), (28, .int .i64 t28)] [(0, (Style.c a)), (1, (Style.c b)), (2, (Style.c to))] [(ParserM.m y7.2)] _
    refine WP_seq ?_
    refine WP_reg [3, 7, 8, 26, 27, 28, 29] [0, 1, 2] ?_
    refine WPO_f ?_
    refine fun c9 hc9 => ?_
    replace h := letB_inv hc9 h
    refine WP_seq ?_
    refine WP_cond (b := c9) rfl (fun hb10 => ?_) (fun hb10 => ?_)
    ·replace h := bif_t hb10 h
     refine WP_skip ?_
     refine WP_seq ?_
     refine WP_block ?_
     refine WP_seq ?_
     refine WP_reg [3, 7, 8, 10, 26, 27, 28] [0, 1, 2, 3] ?_
     refine WPO_f ?_
     obtain ⟨x11, hx11, h⟩ := bind_inv h
     refine And.intro (idx_nn hx11) ⟨_, idx_get Act.e hx11, ?_⟩
     refine ⟨.sl true 1 [], .sl _ _, ?_⟩
     refine WP_seq ?_
     refine WP_seq ?_
     refine WP_reg [3, 7, 8, 10, 26, 27, 28, 39] [0, 1, 2, 3] ?_
     refine WPO_then 4 ?_
     refine WPO_f ?_
     refine fun c12 hc12 => ?_
     replace h := letB_inv hc12 h
     obtain ⟨g13, hg13, h⟩ := bind_inv h
     refine WPO_grp 4 39 [3, 7, 8, 10, 26, 27, 28, 39] g13 ?_ ?_
     ·clear h
      replace h := hg13
      clear hg13
      cases hb15 : c12 with
      | false =>
       replace h := bif_f hb15 h
       refine WPO_f ?_
       refine fun c14 hc14 => ?_
       replace h := letB_inv hc14 h
       cases h
       exact ⟨rfl, rfl, rfl⟩
      | true =>
       replace h := bif_t hb15 h
       cases h
       refine WPO_f ?_
       exact ⟨rfl, rfl, rfl⟩
     refine WPO_f ?_
     refine WP_cond (b := g13) rfl (fun hb16 => ?_) (fun hb16 => ?_)
     ·replace h := bif_t hb16 h
      refine WP_seq ?_
      refine WP_reg [4] [0, 1, 2, 3] ?_
      refine WPO_f ?_
      refine WP_ret ?_
      cases h
      exact ⟨_, rfl, rfl⟩
     ·replace h := bif_f hb16 h
      refine WP_skip ?_
      refine WP_reg [3, 7, 8, 26, 27, 28] [0, 1, 2, 3] ?_
      refine WPO_f ?_
      obtain ⟨y17, hy17, h⟩ := bind_inv h
      refine ⟨_, _, CallT.any (sgr_Apply_ok hy17) rfl _ rfl, ?_⟩
      refine WP_reg [3, 7, 8, 26, 27, 28] [0, 1, 2, 3] ?_
      refine WPO_f ?_
      cases h
      exact ⟨_, rfl, rfl⟩
    ·replace h := bif_f hb10 h
     refine WP_exit ?_
     cases h
     exact ⟨_, rfl, rfl⟩
   rcases j18 with z19 | z20
   ·cases h
    exact ⟨rfl, rfl, rfl, rfl, rfl⟩
   ·refine WP_seq ?_
    refine WP_reg [4] [0, 1, 2] ?_
    refine WPO_then 4 ?_
    refine WPO_t ?_
    refine ⟨_, (List.length_map ..).symm, ?_⟩
    refine fun c21 hc21 => ?_
    replace h := letB_inv hc21 h
    obtain ⟨g22, hg22, h⟩ := bind_inv h
    refine WPO_grp 5 53 [53] g22 ?_ ?_
    ·clear h
     replace h := hg22
     clear hg22
     cases hb25 : c21 with
     | true =>
      replace h := bif_t hb25 h
      refine WPO_t ?_
      obtain ⟨y23, hy23, h⟩ := bind_inv h
      refine ⟨_, _, CallT.any (casementref05_Clean_ok hy23) rfl _ rfl, ?_⟩
      refine fun c24 hc24 => ?_
      replace h := letB_inv hc24 h
      cases h
      exact ⟨rfl, rfl, rfl⟩
     | false =>
      replace h := bif_f hb25 h
      cases h
      refine WPO_t ?_
      exact ⟨rfl, rfl, rfl⟩
    refine WPO_t ?_
    refine WP_ret ?_
    cases h
    exact ⟨rfl, rfl, rfl, rfl, rfl⟩
end Go.Proofs.YtdlijnfdkeimlaaDoor.Am.Esc

set_option linter.all false
namespace Go.Proofs.YtdlijnfdkeimlaaDoor.Am.Esc
open Go.Proofs.YtdlijnfdkeimlaaDoor.Am.T Go.Proofs.YtdlijnfdkeimlaaDoor.Am.Sgr
def Style.sty (s : Style) : Sty := ⟨s.Fg, s.Bg, s.Attr⟩
def P (s : Sty) : Style := ⟨s.fg, s.bg, s.attr⟩
theorem w64i {n : Int} (h1 : -9223372036854775808 ≤ n) (h2 : n ≤ 9223372036854775807) : w64 n = n := wrap64 h1 h2
theorem sty_P (s : Sty) : (P s).sty = s := rfl
theorem of_cl {f b a : Int} {t : Sty} (h : cl f b a = t.cells) : some (Style.mk f b a) = some (P t) := by
 unfold cl Sty.cells at h
 simp only [List.cons.injEq, V.int.injEq, true_and, and_true] at h
 obtain ⟨h1, h2, h3⟩ := h
 subst h1 h2 h3; rfl
theorem pcolour_is (n : Int) : sgr_colour n = some (colB n) := by
 unfold sgr_colour letB colB
 by_cases h1 : 0 ≤ n <;> by_cases h2 : n ≤ 256 <;> by_cases h3 : 16777216 ≤ n <;> by_cases h4 : n < 33554432 <;> simp [h1, h2, h3, h4]
theorem rcolour_is (n : Int) : casementref05_colour n = some (colB n) := by
 unfold casementref05_colour letB colB
 by_cases h1 : 0 ≤ n <;> by_cases h2 : n ≤ 256 <;> by_cases h3 : 16777216 ≤ n <;> by_cases h4 : n < 33554432 <;> simp [h1, h2, h3, h4]
theorem attr_is {n : Int} (h : in64 n) : decide (iAndNot .i64 n 31 = 0) = attrB n := by
 have k : iAndNot .i64 n 31 = 0 ↔ attrB n = true := andNot31 h
 by_cases h0 : iAndNot .i64 n 31 = 0
 ·rw [decide_eq_true h0, k.1 h0]
 ·rw [decide_eq_false h0]; exact (Bool.eq_false_iff.2 fun e => h0 (k.2 e)).symm
theorem pright_is {s : Style} (h : in64 s.Attr) : sgr_Right s = some (rightB s.sty) := by
 unfold sgr_Right letB rightB Style.sty
 rw [pcolour_is, pcolour_is, attr_is h]
 cases colB s.Fg <;> cases colB s.Bg <;> rfl
theorem rright_is {s : Style} : casementref05_Right s = some (rightB s.sty) := by
 unfold casementref05_Right letB rightB Style.sty attrB
 rw [rcolour_is, rcolour_is]
 by_cases h1 : 0 ≤ s.Attr <;> by_cases h2 : s.Attr < 32 <;> cases colB s.Fg <;> cases colB s.Bg <;> simp [h1, h2]
theorem pclean_is {s : Style} (h : in64 s.Attr) : sgr_clean s = some (P (clean s.sty)) := by
 unfold sgr_clean clean
 rw [pright_is h]
 cases rightB s.sty <;> rfl
theorem rclean_is {s : Style} : casementref05_Clean s = some (P (clean s.sty)) := by
 unfold casementref05_Clean clean
 rw [rright_is]
 cases rightB s.sty <;> rfl
theorem pmark_is (n : Int) : sgr_mark n = some (Sgr.mark n) := by
 unfold sgr_mark Sgr.mark
 simp only [letB]
 by_cases h1 : n = 1
 ·simp [h1]
 by_cases h2 : n = 2
 ·simp [h2]
 by_cases h3 : n = 3
 ·simp [h3]
 by_cases h4 : n = 4
 ·simp [h4]
 by_cases h7 : n = 7
 ·simp [h7]
 simp [h1, h2, h3, h4, h7]
theorem shr_is {n : Int} {k : Nat} (hk : k ≤ 64) : iShr .i64 n (k : Int) = n / 2 ^ k := by
 show n.fdiv (2 ^ min (k : Int).toNat (IntKind.bits .i64)) = _
 rw [Int.toNat_natCast, show IntKind.bits .i64 = 64 from rfl, Nat.min_eq_left hk, Int.fdiv_eq_ediv_of_nonneg n (Int.le_of_lt (Int.pow_pos (by decide)))]
theorem pnumbers_is {n b lg : Int} (hc : colB n = true) (hb : 0 ≤ b) (hb2 : b ≤ 100) (hlg : lg = b + 8) : sgr_numbers n b lg = some (nums n b) := by
 have hcc := col_of hc
 unfold sgr_numbers nums
 simp only [letB]
 by_cases h0 : n = 0
 ·rw [decide_eq_true h0, if_pos h0]; rfl
 rw [decide_eq_false h0, if_neg h0]
 simp only [cond_false]
 by_cases h8 : n ≤ 8
 ·rw [decide_eq_true h8, if_pos h8]
  simp only [cond_true]
  rw [w64i (n := b + n) (by omega) (by omega), w64i (by omega) (by omega)]
 rw [decide_eq_false h8, if_neg h8]
 simp only [cond_false]
 subst hlg
 by_cases h2 : n ≤ 256
 ·rw [decide_eq_true h2, if_pos h2]
  simp only [cond_true]
  rw [w64i (n := n - 1) (by omega) (by omega)]
 rw [decide_eq_false h2, if_neg h2]
 simp only [cond_false]
 have e1 : iShr .i64 n 16 = n / 2 ^ 16 := shr_is (k := 16) (by decide)
 have e2 : iShr .i64 n 8 = n / 2 ^ 8 := shr_is (k := 8) (by decide)
 have a1 : iAnd .i64 (iShr .i64 n 16) 255 = n / 2 ^ 16 % 256 := by rw [e1]; exact and255 (x := n / 2 ^ 16) (by omega) (by omega)
 have a2 : iAnd .i64 (iShr .i64 n 8) 255 = n / 2 ^ 8 % 256 := by rw [e2]; exact and255 (x := n / 2 ^ 8) (by omega) (by omega)
 have a3 : iAnd .i64 n 255 = n % 256 := and255 (x := n) (by omega) (by omega)
 rw [a1, a2, a3, show n / 2 ^ 16 % 256 = (n - 16777216) / 65536 by omega, show n / 2 ^ 8 % 256 = (n - 16777216) / 256 % 256 by omega, show n % 256 = (n - 16777216) % 256 by omega]
theorem rnumbers_is {n b : Int} (hc : colB n = true) (hb : 0 ≤ b) (hb2 : b ≤ 100) : casementref05_numbers n b = some (nums n b) := by
 have hcc := col_of hc
 unfold casementref05_numbers nums
 simp only [letB]
 by_cases h0 : n = 0
 ·rw [decide_eq_true h0, if_pos h0]; rfl
 rw [decide_eq_false h0, if_neg h0]
 simp only [cond_false]
 by_cases h8 : n ≤ 8
 ·rw [decide_eq_true h8, if_pos h8]
  simp only [cond_true]
  rw [w64i (n := b + n) (by omega) (by omega), w64i (by omega) (by omega)]
 rw [decide_eq_false h8, if_neg h8]
 simp only [cond_false]
 by_cases h2 : n ≤ 256
 ·rw [decide_eq_true h2, if_pos h2]
  simp only [cond_true]
  rw [w64i (n := n - 1) (by omega) (by omega), w64i (n := b + 8) (by omega) (by omega)]
 rw [decide_eq_false h2, if_neg h2]
 simp only [cond_false]
 have w0 : w64 (n - 16777216) = n - 16777216 := w64i (by omega) (by omega)
 have t1 : Int.tdiv (n - 16777216) 65536 = (n - 16777216) / 65536 := Int.tdiv_eq_ediv_of_nonneg (by omega)
 have t2 : Int.tdiv (n - 16777216) 256 = (n - 16777216) / 256 := Int.tdiv_eq_ediv_of_nonneg (by omega)
 have t3 : Int.tmod (n - 16777216) 256 = (n - 16777216) % 256 := Int.tmod_eq_emod_of_nonneg (by omega)
 have t4 : Int.tmod ((n - 16777216) / 256) 256 = (n - 16777216) / 256 % 256 := Int.tmod_eq_emod_of_nonneg (by omega)
 rw [w0, t1, t2, t3]
 have w1 : w64 ((n - 16777216) / 65536) = (n - 16777216) / 65536 := w64i (by omega) (by omega)
 have w2 : w64 ((n - 16777216) / 256) = (n - 16777216) / 256 := w64i (by omega) (by omega)
 have w3 : w64 (b + 8) = b + 8 := w64i (by omega) (by omega)
 rw [w1, w2, w3, t4]
theorem idx_some {l : List Int} {i : Nat} {x : Int} (h : l[i]? = some x) : idx l (i : Int) = some x := idx_of (by omega) (by simpa using h)
theorem most_eq : most = 4294967296 := rfl
theorem pparams_loop {y : Style} (h : attrB y.Attr = true) : ∀ (k i : Nat), i + k = 5 →
  iter (fun s => sgr_Params_l1 y s.1 s.2 : (List Int × Int) → Option ((List Int × Int) ⊕ List Int)) (0 :: mk y.Attr i, (i : Int)) = some (0 :: mk y.Attr 5)
 | 0, i, hi => by
  obtain rfl : i = 5 := by omega
  exact iter_inr (by simp only [sgr_Params_l1, letB]; rfl)
 | k + 1, i, hi => by
  have hm := most_eq
  have h5 : i < 5 := by omega
  obtain ⟨hx, hy, hx1, hx2, hy1, hy2⟩ := tab_key i h5
  have hl := mk_len y.Attr i
  rw [iter_inl (s' := (0 :: mk y.Attr (i + 1), ((i + 1 : Nat) : Int))) (by
   simp only [sgr_Params_l1, letB]
   rw [show decide ((i : Int) < (([1, 2, 3, 4, 7] : List Nat).length : Int)) = true from decide_eq_true (by simp; omega)]
   simp only [cond_true]
   rw [show idx ([1, 2, 3, 4, 7] : List Int) (i : Int) = some (nsL.getD i 0) from idx_some hx]
   simp only [Option.bind_some]
   rw [pmark_is]
   simp only [Option.bind_some]
   rw [show decide (iAnd .i64 y.Attr (Sgr.mark (nsL.getD i 0)) ≠ 0) = hasB y.Attr (msL.getD i 0) from and_has h h5]
   rw [show w64 ((i : Int) + 1) = ((i + 1 : Nat) : Int) from by rw [w64i (by omega) (by omega)]; omega]
   cases h1 : hasB y.Attr (msL.getD i 0) with
   | true =>
    simp only [cond_true]
    rw [app_some (by simp; omega)]
    rw [show mk y.Attr (i + 1) = mk y.Attr i ++ [nsL.getD i 0] from by rw [mk, if_pos h1]]; rfl
   | false =>
    simp only [cond_false]
    rw [mk_same h1]; rfl)]
  exact pparams_loop h k (i + 1) (by omega)
theorem pparams_is {s : Style} (h : in64 s.Attr) : sgr_Params s = some (params s.sty) := by
 have hm := most_eq
 unfold sgr_Params params
 rw [pclean_is h]
 have hr := right_clean s.sty
 generalize clean s.sty = c at *
 obtain ⟨hf, hb, hA⟩ := rightB_of.1 hr
 simp only [Option.bind_some]
 have hl := pparams_loop (y := P c) hA 5 0 rfl
 have hl' : iter (fun s => sgr_Params_l1 (P c) s.1 s.2 : (List Int × Int) → Option ((List Int × Int) ⊕ List Int)) ([0], 0) = some (0 :: mk c.attr 5) := hl
 rw [hl']
 simp only [Option.bind_some]
 have l1 := mk_len c.attr 5
 have l2 := nums_len c.fg 30
 have l3 := nums_len c.bg 40
 rw [show sgr_numbers (P c).Fg 30 38 = some (nums c.fg 30) from pnumbers_is hf (by decide) (by decide) rfl]
 simp only [Option.bind_some]
 rw [app_some (by simp; omega)]
 simp only [Option.bind_some]
 rw [show sgr_numbers (P c).Bg 40 48 = some (nums c.bg 40) from pnumbers_is hb (by decide) (by decide) rfl]
 simp only [Option.bind_some]
 rw [app_some (by simp; omega)]
 rfl
theorem rhas_is {a m : Int} (h0 : 0 ≤ a) (h1 : a ≤ 1000000) (hk : 0 < m) : casementref05_has a m = some (hasB a m) := by
 unfold casementref05_has hasB
 rw [show req (decide (m ≠ 0)) = some () from by rw [decide_eq_true (by omega)]; rfl]
 simp only [Option.bind_some, letB]
 have t : Int.tdiv a m = a / m := Int.tdiv_eq_ediv_of_nonneg h0
 have q0 : 0 ≤ a / m := Int.ediv_nonneg h0 (by omega)
 have q1 : a / m ≤ a := Int.ediv_le_self _ h0
 rw [t, w64i (by omega) (by omega), Int.tmod_eq_emod_of_nonneg q0]
theorem rparams_loop {y : Style} (h : attrB y.Attr = true) : ∀ (k i : Nat), i + k = 5 →
  iter (fun s => casementref05_Params_l1 y (nsL, msL) s.1 s.2 : (List Int × Int) → Option ((List Int × Int) ⊕ List Int)) (0 :: mk y.Attr i, (i : Int)) = some (0 :: mk y.Attr 5)
 | 0, i, hi => by
  obtain rfl : i = 5 := by omega
  exact iter_inr (by simp only [casementref05_Params_l1, letB]; rfl)
 | k + 1, i, hi => by
  have hm := most_eq
  have h5 : i < 5 := by omega
  obtain ⟨hx, hy, hx1, hx2, hy1, hy2⟩ := tab_key i h5
  have hl := mk_len y.Attr i
  obtain ⟨ha1, ha2⟩ := attr_le h
  rw [iter_inl (s' := (0 :: mk y.Attr (i + 1), ((i + 1 : Nat) : Int))) (by
   simp only [casementref05_Params_l1, letB]
   rw [show decide ((i : Int) < (nsL.length : Int)) = true from decide_eq_true (by simp [nsL]; omega)]
   simp only [cond_true]
   rw [idx_some hy]
   simp only [Option.bind_some]
   rw [rhas_is ha1 ha2 hy1]
   simp only [Option.bind_some]
   rw [show w64 ((i : Int) + 1) = ((i + 1 : Nat) : Int) from by rw [w64i (by omega) (by omega)]; omega]
   cases h1 : hasB y.Attr (msL.getD i 0) with
   | true =>
    simp only [cond_true]
    rw [idx_some hx]
    simp only [Option.bind_some]
    rw [app_some (by simp; omega)]
    rw [show mk y.Attr (i + 1) = mk y.Attr i ++ [nsL.getD i 0] from by rw [mk, if_pos h1]]; rfl
   | false =>
    simp only [cond_false]
    rw [mk_same h1]; rfl)]
  exact rparams_loop h k (i + 1) (by omega)
theorem gdrop_cons {l : List Int} {i : Nat} (h : i < l.length) : l.drop i = l.getD i 0 :: l.drop (i + 1) := by
 rw [List.getD_eq_getElem?_getD, List.getElem?_eq_getElem h]; exact List.drop_eq_getElem_cons h
theorem gidx {l : List Int} {i : Nat} (h : i < l.length) : idx l (i : Int) = some (l.getD i 0) := idx_some (by rw [List.getD_eq_getElem?_getD, List.getElem?_eq_getElem h]; rfl)
theorem copy2_loop {l : List Int} (hl : l.length ≤ 100) : ∀ (k i : Nat) (out : List Int), i + k = l.length → out.length + k ≤ 1000 →
  iter (fun s => casementref05_Params_l2 l s.1 s.2 : (List Int × Int) → Option ((List Int × Int) ⊕ List Int)) (out, (i : Int)) = some (out ++ l.drop i)
 | 0, i, out, hi, ho => by
  rw [iter_inr (r := out) (by
   simp only [casementref05_Params_l2, letB]
   rw [decide_eq_false (by omega)]; rfl), List.drop_of_length_le (by omega), List.append_nil]
 | k + 1, i, out, hi, ho => by
  have hm := most_eq
  rw [iter_inl (s' := (out ++ [l.getD i 0], ((i + 1 : Nat) : Int))) (by
   simp only [casementref05_Params_l2, letB]
   rw [decide_eq_true (by omega), gidx (by omega)]
   simp only [cond_true, Option.bind_some]
   rw [app_some (by simp; omega), show w64 ((i : Int) + 1) = ((i + 1 : Nat) : Int) from by rw [w64i (by omega) (by omega)]; omega]; rfl)]
  rw [copy2_loop hl k (i + 1) _ (by omega) (by simp; omega), gdrop_cons (l := l) (i := i) (by omega), List.append_assoc]; rfl
theorem copy3_loop {l : List Int} (hl : l.length ≤ 100) : ∀ (k i : Nat) (out : List Int), i + k = l.length → out.length + k ≤ 1000 →
  iter (fun s => casementref05_Params_l3 l s.1 s.2 : (List Int × Int) → Option ((List Int × Int) ⊕ List Int)) (out, (i : Int)) = some (out ++ l.drop i)
 | 0, i, out, hi, ho => by
  rw [iter_inr (r := out) (by
   simp only [casementref05_Params_l3, letB]
   rw [decide_eq_false (by omega)]; rfl), List.drop_of_length_le (by omega), List.append_nil]
 | k + 1, i, out, hi, ho => by
  have hm := most_eq
  rw [iter_inl (s' := (out ++ [l.getD i 0], ((i + 1 : Nat) : Int))) (by
   simp only [casementref05_Params_l3, letB]
   rw [decide_eq_true (by omega), gidx (by omega)]
   simp only [cond_true, Option.bind_some]
   rw [app_some (by simp; omega), show w64 ((i : Int) + 1) = ((i + 1 : Nat) : Int) from by rw [w64i (by omega) (by omega)]; omega]; rfl)]
  rw [copy3_loop hl k (i + 1) _ (by omega) (by simp; omega), gdrop_cons (l := l) (i := i) (by omega), List.append_assoc]; rfl
theorem rparams_is {s : Style} : casementref05_Params s = some (params s.sty) := by
 have hm := most_eq
 unfold casementref05_Params params
 rw [rclean_is]
 have hr := right_clean s.sty
 generalize clean s.sty = c at *
 obtain ⟨hf, hb, hA⟩ := rightB_of.1 hr
 simp only [Option.bind_some]
 have hmk : casementref05_marks = some (nsL, msL) := rfl
 rw [hmk]
 simp only [Option.bind_some]
 have hl := rparams_loop (y := P c) hA 5 0 rfl
 have hl' : iter (fun s => casementref05_Params_l1 (P c) (nsL, msL) s.1 s.2 : (List Int × Int) → Option ((List Int × Int) ⊕ List Int)) ([0], 0) = some (0 :: mk c.attr 5) := hl
 rw [hl']
 simp only [Option.bind_some]
 have l1 := mk_len c.attr 5
 have l2 := nums_len c.fg 30
 have l3 := nums_len c.bg 40
 rw [show casementref05_numbers (P c).Fg 30 = some (nums c.fg 30) from rnumbers_is hf (by decide) (by decide)]
 simp only [Option.bind_some]
 have c2 := copy2_loop (l := nums c.fg 30) (by omega) (nums c.fg 30).length 0 (0 :: mk c.attr 5) (by omega) (by simp; omega)
 have c2' : iter (fun s => casementref05_Params_l2 (nums c.fg 30) s.1 s.2 : (List Int × Int) → Option ((List Int × Int) ⊕ List Int)) (0 :: mk c.attr 5, 0) = some (0 :: mk c.attr 5 ++ nums c.fg 30) := c2
 rw [c2']
 simp only [Option.bind_some]
 rw [show casementref05_numbers (P c).Bg 40 = some (nums c.bg 40) from rnumbers_is hb (by decide) (by decide)]
 simp only [Option.bind_some]
 have c3 := copy3_loop (l := nums c.bg 40) (by omega) (nums c.bg 40).length 0 (0 :: mk c.attr 5 ++ nums c.fg 30) (by omega) (by simp; omega)
 have c3' : iter (fun s => casementref05_Params_l3 (nums c.bg 40) s.1 s.2 : (List Int × Int) → Option ((List Int × Int) ⊕ List Int)) (0 :: mk c.attr 5 ++ nums c.fg 30, 0) = some (0 :: mk c.attr 5 ++ nums c.fg 30 ++ nums c.bg 40) := c3
 rw [c3']
 rfl
theorem one_is {s : Sty} {n : Int} (h : attrB s.attr = true) : sgr_one (P s) n = some (P (one s n)) := by
 unfold sgr_one
 simp only [letB]
 rcases (by omega : (n ≤ -2) ∨ (n = -1 ∨ n = 0) ∨ (1 ≤ n ∧ n ≤ 21) ∨ (n = 22) ∨ (23 ≤ n ∧ n ≤ 27) ∨ (28 ≤ n ∧ n ≤ 29) ∨ (30 ≤ n ∧ n ≤ 37) ∨ (n = 38) ∨ (n = 39) ∨ (40 ≤ n ∧ n ≤ 47) ∨ (n = 48) ∨ (n = 49) ∨ (50 ≤ n ∧ n ≤ 89) ∨ (90 ≤ n ∧ n ≤ 97) ∨ (98 ≤ n ∧ n ≤ 99) ∨ (100 ≤ n ∧ n ≤ 107) ∨ (108 ≤ n)) with hr | hr | hr | hr | hr | hr | hr | hr | hr | hr | hr | hr | hr | hr | hr | hr | hr
 ·simp only [decide_eq_true (by omega : n ≤ 0), decide_eq_false (by omega : ¬ (n ≥ (-1))), decide_eq_false (by omega : ¬ (n = 22)), decide_eq_false (by omega : ¬ (n ≥ 23)), decide_eq_true (by omega : n ≤ 27), decide_eq_false (by omega : ¬ (n ≥ 30)), decide_eq_true (by omega : n ≤ 37), decide_eq_false (by omega : ¬ (n ≥ 90)), decide_eq_true (by omega : n ≤ 97), decide_eq_false (by omega : ¬ (n = 39)), decide_eq_false (by omega : ¬ (n ≥ 40)), decide_eq_true (by omega : n ≤ 47), decide_eq_false (by omega : ¬ (n ≥ 100)), decide_eq_true (by omega : n ≤ 107), decide_eq_false (by omega : ¬ (n = 49)), cond_true, cond_false, Option.bind_some]
  rw [pmark_is]
  simp only [Option.bind_some]
  exact of_cl (one_or (n := n) (s := s) h ⟨by omega, by omega, by omega, by omega, by omega, by omega, by omega, by omega⟩)
 ·simp only [decide_eq_true (by omega : n ≤ 0), decide_eq_true (by omega : n ≥ (-1)), decide_eq_false (by omega : ¬ (n = 22)), decide_eq_false (by omega : ¬ (n ≥ 23)), decide_eq_true (by omega : n ≤ 27), decide_eq_false (by omega : ¬ (n ≥ 30)), decide_eq_true (by omega : n ≤ 37), decide_eq_false (by omega : ¬ (n ≥ 90)), decide_eq_true (by omega : n ≤ 97), decide_eq_false (by omega : ¬ (n = 39)), decide_eq_false (by omega : ¬ (n ≥ 40)), decide_eq_true (by omega : n ≤ 47), decide_eq_false (by omega : ¬ (n ≥ 100)), decide_eq_true (by omega : n ≤ 107), decide_eq_false (by omega : ¬ (n = 49)), cond_true, cond_false, Option.bind_some]
  exact of_cl (one_zero (s := s) hr)
 ·simp only [decide_eq_false (by omega : ¬ (n ≤ 0)), decide_eq_true (by omega : n ≥ (-1)), decide_eq_false (by omega : ¬ (n = 22)), decide_eq_false (by omega : ¬ (n ≥ 23)), decide_eq_true (by omega : n ≤ 27), decide_eq_false (by omega : ¬ (n ≥ 30)), decide_eq_true (by omega : n ≤ 37), decide_eq_false (by omega : ¬ (n ≥ 90)), decide_eq_true (by omega : n ≤ 97), decide_eq_false (by omega : ¬ (n = 39)), decide_eq_false (by omega : ¬ (n ≥ 40)), decide_eq_true (by omega : n ≤ 47), decide_eq_false (by omega : ¬ (n ≥ 100)), decide_eq_true (by omega : n ≤ 107), decide_eq_false (by omega : ¬ (n = 49)), cond_true, cond_false, Option.bind_some]
  rw [pmark_is]
  simp only [Option.bind_some]
  exact of_cl (one_or (n := n) (s := s) h ⟨by omega, by omega, by omega, by omega, by omega, by omega, by omega, by omega⟩)
 ·simp only [decide_eq_false (by omega : ¬ (n ≤ 0)), decide_eq_true (by omega : n ≥ (-1)), decide_eq_true (by omega : n = 22), decide_eq_false (by omega : ¬ (n ≥ 23)), decide_eq_true (by omega : n ≤ 27), decide_eq_false (by omega : ¬ (n ≥ 30)), decide_eq_true (by omega : n ≤ 37), decide_eq_false (by omega : ¬ (n ≥ 90)), decide_eq_true (by omega : n ≤ 97), decide_eq_false (by omega : ¬ (n = 39)), decide_eq_false (by omega : ¬ (n ≥ 40)), decide_eq_true (by omega : n ≤ 47), decide_eq_false (by omega : ¬ (n ≥ 100)), decide_eq_true (by omega : n ≤ 107), decide_eq_false (by omega : ¬ (n = 49)), cond_true, cond_false, Option.bind_some]
  exact of_cl (one_22 h hr)
 ·simp only [decide_eq_false (by omega : ¬ (n ≤ 0)), decide_eq_true (by omega : n ≥ (-1)), decide_eq_false (by omega : ¬ (n = 22)), decide_eq_true (by omega : n ≥ 23), decide_eq_true (by omega : n ≤ 27), decide_eq_false (by omega : ¬ (n ≥ 30)), decide_eq_true (by omega : n ≤ 37), decide_eq_false (by omega : ¬ (n ≥ 90)), decide_eq_true (by omega : n ≤ 97), decide_eq_false (by omega : ¬ (n = 39)), decide_eq_false (by omega : ¬ (n ≥ 40)), decide_eq_true (by omega : n ≤ 47), decide_eq_false (by omega : ¬ (n ≥ 100)), decide_eq_true (by omega : n ≤ 107), decide_eq_false (by omega : ¬ (n = 49)), cond_true, cond_false, Option.bind_some]
  rw [pmark_is]
  simp only [Option.bind_some]
  exact of_cl (one_nand h hr)
 ·simp only [decide_eq_false (by omega : ¬ (n ≤ 0)), decide_eq_true (by omega : n ≥ (-1)), decide_eq_false (by omega : ¬ (n = 22)), decide_eq_true (by omega : n ≥ 23), decide_eq_false (by omega : ¬ (n ≤ 27)), decide_eq_false (by omega : ¬ (n ≥ 30)), decide_eq_true (by omega : n ≤ 37), decide_eq_false (by omega : ¬ (n ≥ 90)), decide_eq_true (by omega : n ≤ 97), decide_eq_false (by omega : ¬ (n = 39)), decide_eq_false (by omega : ¬ (n ≥ 40)), decide_eq_true (by omega : n ≤ 47), decide_eq_false (by omega : ¬ (n ≥ 100)), decide_eq_true (by omega : n ≤ 107), decide_eq_false (by omega : ¬ (n = 49)), cond_true, cond_false, Option.bind_some]
  rw [pmark_is]
  simp only [Option.bind_some]
  exact of_cl (one_or (n := n) (s := s) h ⟨by omega, by omega, by omega, by omega, by omega, by omega, by omega, by omega⟩)
 ·simp only [decide_eq_false (by omega : ¬ (n ≤ 0)), decide_eq_true (by omega : n ≥ (-1)), decide_eq_false (by omega : ¬ (n = 22)), decide_eq_true (by omega : n ≥ 23), decide_eq_false (by omega : ¬ (n ≤ 27)), decide_eq_true (by omega : n ≥ 30), decide_eq_true (by omega : n ≤ 37), decide_eq_false (by omega : ¬ (n ≥ 90)), decide_eq_true (by omega : n ≤ 97), decide_eq_false (by omega : ¬ (n = 39)), decide_eq_false (by omega : ¬ (n ≥ 40)), decide_eq_true (by omega : n ≤ 47), decide_eq_false (by omega : ¬ (n ≥ 100)), decide_eq_true (by omega : n ≤ 107), decide_eq_false (by omega : ¬ (n = 49)), cond_true, cond_false, Option.bind_some]
  exact of_cl (one_f1 hr)
 ·simp only [decide_eq_false (by omega : ¬ (n ≤ 0)), decide_eq_true (by omega : n ≥ (-1)), decide_eq_false (by omega : ¬ (n = 22)), decide_eq_true (by omega : n ≥ 23), decide_eq_false (by omega : ¬ (n ≤ 27)), decide_eq_true (by omega : n ≥ 30), decide_eq_false (by omega : ¬ (n ≤ 37)), decide_eq_false (by omega : ¬ (n ≥ 90)), decide_eq_true (by omega : n ≤ 97), decide_eq_false (by omega : ¬ (n = 39)), decide_eq_false (by omega : ¬ (n ≥ 40)), decide_eq_true (by omega : n ≤ 47), decide_eq_false (by omega : ¬ (n ≥ 100)), decide_eq_true (by omega : n ≤ 107), decide_eq_false (by omega : ¬ (n = 49)), cond_true, cond_false, Option.bind_some]
  rw [pmark_is]
  simp only [Option.bind_some]
  exact of_cl (one_or (n := n) (s := s) h ⟨by omega, by omega, by omega, by omega, by omega, by omega, by omega, by omega⟩)
 ·simp only [decide_eq_false (by omega : ¬ (n ≤ 0)), decide_eq_true (by omega : n ≥ (-1)), decide_eq_false (by omega : ¬ (n = 22)), decide_eq_true (by omega : n ≥ 23), decide_eq_false (by omega : ¬ (n ≤ 27)), decide_eq_true (by omega : n ≥ 30), decide_eq_false (by omega : ¬ (n ≤ 37)), decide_eq_false (by omega : ¬ (n ≥ 90)), decide_eq_true (by omega : n ≤ 97), decide_eq_true (by omega : n = 39), decide_eq_false (by omega : ¬ (n ≥ 40)), decide_eq_true (by omega : n ≤ 47), decide_eq_false (by omega : ¬ (n ≥ 100)), decide_eq_true (by omega : n ≤ 107), decide_eq_false (by omega : ¬ (n = 49)), cond_true, cond_false, Option.bind_some]
  exact of_cl (one_f0 hr)
 ·simp only [decide_eq_false (by omega : ¬ (n ≤ 0)), decide_eq_true (by omega : n ≥ (-1)), decide_eq_false (by omega : ¬ (n = 22)), decide_eq_true (by omega : n ≥ 23), decide_eq_false (by omega : ¬ (n ≤ 27)), decide_eq_true (by omega : n ≥ 30), decide_eq_false (by omega : ¬ (n ≤ 37)), decide_eq_false (by omega : ¬ (n ≥ 90)), decide_eq_true (by omega : n ≤ 97), decide_eq_false (by omega : ¬ (n = 39)), decide_eq_true (by omega : n ≥ 40), decide_eq_true (by omega : n ≤ 47), decide_eq_false (by omega : ¬ (n ≥ 100)), decide_eq_true (by omega : n ≤ 107), decide_eq_false (by omega : ¬ (n = 49)), cond_true, cond_false, Option.bind_some]
  exact of_cl (one_b1 hr)
 ·simp only [decide_eq_false (by omega : ¬ (n ≤ 0)), decide_eq_true (by omega : n ≥ (-1)), decide_eq_false (by omega : ¬ (n = 22)), decide_eq_true (by omega : n ≥ 23), decide_eq_false (by omega : ¬ (n ≤ 27)), decide_eq_true (by omega : n ≥ 30), decide_eq_false (by omega : ¬ (n ≤ 37)), decide_eq_false (by omega : ¬ (n ≥ 90)), decide_eq_true (by omega : n ≤ 97), decide_eq_false (by omega : ¬ (n = 39)), decide_eq_true (by omega : n ≥ 40), decide_eq_false (by omega : ¬ (n ≤ 47)), decide_eq_false (by omega : ¬ (n ≥ 100)), decide_eq_true (by omega : n ≤ 107), decide_eq_false (by omega : ¬ (n = 49)), cond_true, cond_false, Option.bind_some]
  rw [pmark_is]
  simp only [Option.bind_some]
  exact of_cl (one_or (n := n) (s := s) h ⟨by omega, by omega, by omega, by omega, by omega, by omega, by omega, by omega⟩)
 ·simp only [decide_eq_false (by omega : ¬ (n ≤ 0)), decide_eq_true (by omega : n ≥ (-1)), decide_eq_false (by omega : ¬ (n = 22)), decide_eq_true (by omega : n ≥ 23), decide_eq_false (by omega : ¬ (n ≤ 27)), decide_eq_true (by omega : n ≥ 30), decide_eq_false (by omega : ¬ (n ≤ 37)), decide_eq_false (by omega : ¬ (n ≥ 90)), decide_eq_true (by omega : n ≤ 97), decide_eq_false (by omega : ¬ (n = 39)), decide_eq_true (by omega : n ≥ 40), decide_eq_false (by omega : ¬ (n ≤ 47)), decide_eq_false (by omega : ¬ (n ≥ 100)), decide_eq_true (by omega : n ≤ 107), decide_eq_true (by omega : n = 49), cond_true, cond_false, Option.bind_some]
  exact of_cl (one_b0 hr)
 ·simp only [decide_eq_false (by omega : ¬ (n ≤ 0)), decide_eq_true (by omega : n ≥ (-1)), decide_eq_false (by omega : ¬ (n = 22)), decide_eq_true (by omega : n ≥ 23), decide_eq_false (by omega : ¬ (n ≤ 27)), decide_eq_true (by omega : n ≥ 30), decide_eq_false (by omega : ¬ (n ≤ 37)), decide_eq_false (by omega : ¬ (n ≥ 90)), decide_eq_true (by omega : n ≤ 97), decide_eq_false (by omega : ¬ (n = 39)), decide_eq_true (by omega : n ≥ 40), decide_eq_false (by omega : ¬ (n ≤ 47)), decide_eq_false (by omega : ¬ (n ≥ 100)), decide_eq_true (by omega : n ≤ 107), decide_eq_false (by omega : ¬ (n = 49)), cond_true, cond_false, Option.bind_some]
  rw [pmark_is]
  simp only [Option.bind_some]
  exact of_cl (one_or (n := n) (s := s) h ⟨by omega, by omega, by omega, by omega, by omega, by omega, by omega, by omega⟩)
 ·simp only [decide_eq_false (by omega : ¬ (n ≤ 0)), decide_eq_true (by omega : n ≥ (-1)), decide_eq_false (by omega : ¬ (n = 22)), decide_eq_true (by omega : n ≥ 23), decide_eq_false (by omega : ¬ (n ≤ 27)), decide_eq_true (by omega : n ≥ 30), decide_eq_false (by omega : ¬ (n ≤ 37)), decide_eq_true (by omega : n ≥ 90), decide_eq_true (by omega : n ≤ 97), decide_eq_false (by omega : ¬ (n = 39)), decide_eq_true (by omega : n ≥ 40), decide_eq_false (by omega : ¬ (n ≤ 47)), decide_eq_false (by omega : ¬ (n ≥ 100)), decide_eq_true (by omega : n ≤ 107), decide_eq_false (by omega : ¬ (n = 49)), cond_true, cond_false, Option.bind_some]
  exact of_cl (one_f2 hr)
 ·simp only [decide_eq_false (by omega : ¬ (n ≤ 0)), decide_eq_true (by omega : n ≥ (-1)), decide_eq_false (by omega : ¬ (n = 22)), decide_eq_true (by omega : n ≥ 23), decide_eq_false (by omega : ¬ (n ≤ 27)), decide_eq_true (by omega : n ≥ 30), decide_eq_false (by omega : ¬ (n ≤ 37)), decide_eq_true (by omega : n ≥ 90), decide_eq_false (by omega : ¬ (n ≤ 97)), decide_eq_false (by omega : ¬ (n = 39)), decide_eq_true (by omega : n ≥ 40), decide_eq_false (by omega : ¬ (n ≤ 47)), decide_eq_false (by omega : ¬ (n ≥ 100)), decide_eq_true (by omega : n ≤ 107), decide_eq_false (by omega : ¬ (n = 49)), cond_true, cond_false, Option.bind_some]
  rw [pmark_is]
  simp only [Option.bind_some]
  exact of_cl (one_or (n := n) (s := s) h ⟨by omega, by omega, by omega, by omega, by omega, by omega, by omega, by omega⟩)
 ·simp only [decide_eq_false (by omega : ¬ (n ≤ 0)), decide_eq_true (by omega : n ≥ (-1)), decide_eq_false (by omega : ¬ (n = 22)), decide_eq_true (by omega : n ≥ 23), decide_eq_false (by omega : ¬ (n ≤ 27)), decide_eq_true (by omega : n ≥ 30), decide_eq_false (by omega : ¬ (n ≤ 37)), decide_eq_true (by omega : n ≥ 90), decide_eq_false (by omega : ¬ (n ≤ 97)), decide_eq_false (by omega : ¬ (n = 39)), decide_eq_true (by omega : n ≥ 40), decide_eq_false (by omega : ¬ (n ≤ 47)), decide_eq_true (by omega : n ≥ 100), decide_eq_true (by omega : n ≤ 107), decide_eq_false (by omega : ¬ (n = 49)), cond_true, cond_false, Option.bind_some]
  exact of_cl (one_b2 hr)
 ·simp only [decide_eq_false (by omega : ¬ (n ≤ 0)), decide_eq_true (by omega : n ≥ (-1)), decide_eq_false (by omega : ¬ (n = 22)), decide_eq_true (by omega : n ≥ 23), decide_eq_false (by omega : ¬ (n ≤ 27)), decide_eq_true (by omega : n ≥ 30), decide_eq_false (by omega : ¬ (n ≤ 37)), decide_eq_true (by omega : n ≥ 90), decide_eq_false (by omega : ¬ (n ≤ 97)), decide_eq_false (by omega : ¬ (n = 39)), decide_eq_true (by omega : n ≥ 40), decide_eq_false (by omega : ¬ (n ≤ 47)), decide_eq_true (by omega : n ≥ 100), decide_eq_false (by omega : ¬ (n ≤ 107)), decide_eq_false (by omega : ¬ (n = 49)), cond_true, cond_false, Option.bind_some]
  rw [pmark_is]
  simp only [Option.bind_some]
  exact of_cl (one_or (n := n) (s := s) h ⟨by omega, by omega, by omega, by omega, by omega, by omega, by omega, by omega⟩)
end Go.Proofs.YtdlijnfdkeimlaaDoor.Am.Esc

set_option linter.all false
namespace Go.Proofs.YtdlijnfdkeimlaaDoor.Am.Esc
open Go.Proofs.YtdlijnfdkeimlaaDoor.Am.T
theorem w64_id {n : Int} (h1 : -9223372036854775808 ≤ n) (h2 : n ≤ 9223372036854775807) : w64 n = n := by
 show IntKind.wrap .i64 n = n
 rw [IntKind.wrap_i64]; omega
def Byts (l : List Int) : Prop := ∀ x ∈ l, 0 ≤ x ∧ x < 256
theorem Byts.get {l : List Int} (h : Byts l) (i : Nat) : 0 ≤ l.getD i 0 ∧ l.getD i 0 < 256 := by
 rw [List.getD_eq_getElem?_getD]
 cases hi : l[i]? with
 | none => exact ⟨Int.le_refl _, by decide⟩
 | some x => exact h x (List.mem_of_getElem? hi)
theorem Byts.drop {l : List Int} (h : Byts l) (n : Nat) : Byts (l.drop n) := fun x hx => h x (List.mem_of_mem_drop hx)
theorem Byts.append {l l' : List Int} (h : Byts l) (h' : Byts l') : Byts (l ++ l') := fun x hx => by
 rcases List.mem_append.1 hx with h1 | h1
 ·exact h x h1
 ·exact h' x h1
theorem idx_is {α : Type} {d : α} {l : List α} {i : Int} (h0 : 0 ≤ i) (h : i < l.length) : idx l i = some (l.getD i.toNat d) := by
 unfold idx
 rw [if_pos h0, List.getD_eq_getElem?_getD, List.getElem?_eq_getElem (by omega)]; rfl
def firstOk (x : Int) : Bool := decide (0 ≤ iAnd .u8 x 7) && decide (iAnd .u8 x 7 ≤ 4) && decide (0 ≤ iShr .u8 x 4) && decide (iShr .u8 x 4 < 16) && (decide (x ≥ 240) || decide (2 ≤ iAnd .u8 x 7))
theorem first_all : tab1L.all firstOk = true := by decide +kernel
theorem first_len : tab1L.length = 256 := by decide +kernel
theorem second_len : tab2L.length = 16 := by decide +kernel
theorem first_at {b : Int} (h : 0 ≤ b ∧ b < 256) : ∃ x, idx tab1L b = some x ∧ (0 ≤ iAnd .u8 x 7 ∧ iAnd .u8 x 7 ≤ 4) ∧ (0 ≤ iShr .u8 x 4 ∧ iShr .u8 x 4 < 16) ∧ (x ≥ 240 ∨ 2 ≤ iAnd .u8 x 7) := by
 refine ⟨_, idx_is (d := 0) h.1 (by have := first_len; omega), ?_⟩
 have hm : tab1L.getD b.toNat 0 ∈ tab1L := by
  rw [List.getD_eq_getElem?_getD, List.getElem?_eq_getElem (by rw [first_len]; omega)]
  exact List.getElem_mem _
 have := List.all_eq_true.1 first_all _ hm
 clear hm
 generalize tab1L.getD b.toNat 0 = x at this ⊢
 simp only [firstOk, Bool.and_eq_true, Bool.or_eq_true, decide_eq_true_eq] at this
 obtain ⟨⟨⟨⟨h1, h2⟩, h3⟩, h4⟩, h5⟩ := this
 exact ⟨⟨h1, h2⟩, ⟨h3, h4⟩, h5⟩
theorem second_at {i : Int} (h : 0 ≤ i ∧ i < 16) : ∃ x, idx tab2L i = some x := ⟨_, idx_is (d := ⟨0, 0⟩) h.1 (by have := second_len; omega)⟩
theorem full_some {b : List Int} (hb : Byts b) : ∃ t, unicode_utf8_FullRune b = some t ∧ (t = true → b ≠ []) ∧ (t = false → b.length ≤ 3) := by
 unfold unicode_utf8_FullRune
 simp only [letB]
 by_cases h0 : b.length = 0
 ·refine ⟨false, ?_, by simp, fun _ => by omega⟩
  rw [show decide ((b.length : Int) = 0) = true from decide_eq_true (by omega)]; rfl
 ·rw [show decide ((b.length : Int) = 0) = false from decide_eq_false (by omega)]
  have hn : b ≠ [] := fun h => h0 (by rw [h]; rfl)
  obtain ⟨x, hx, hs, hr, _⟩ := first_at (hb.get 0)
  obtain ⟨y, hy⟩ := second_at hr
  simp only [cond_false]
  rw [idx_is (d := 0) (Int.le_refl 0) (by omega)]
  simp only [Option.bind_some, Int.toNat_zero]
  rw [hx]
  simp only [Option.bind_some]
  rw [w64_id (by omega) (by omega)]
  by_cases hl : (b.length : Int) ≥ iAnd .u8 x 7
  ·exact ⟨true, by rw [decide_eq_true hl]; rfl, fun _ => hn, fun h => by cases h⟩
  ·rw [decide_eq_false hl, hy]
   simp only [cond_false, Option.bind_some]
   have hl3 : b.length ≤ 3 := by omega
   have key : ∀ o : Option Bool, (∃ t, o = some t) → ∃ t, o = some t ∧ (t = true → b ≠ []) ∧ (t = false → b.length ≤ 3) := fun o ⟨t, h⟩ => ⟨t, h, fun _ => hn, fun _ => hl3⟩
   apply key
   by_cases h1 : (b.length : Int) > 1
   ·rw [decide_eq_true h1, idx_is (d := 0) (i := 1) (by omega) (by omega)]
    simp only [cond_true, Option.bind_some]
    cases decide (b.getD (Int.toNat 1) 0 < y.lo) <;> cases decide (y.hi < b.getD (Int.toNat 1) 0) <;> simp only [cond_true, cond_false, Option.bind_some] <;> first | exact ⟨_, rfl⟩ | skip
    by_cases h2 : (b.length : Int) > 2
    ·rw [decide_eq_true h2, idx_is (d := 0) (i := 2) (by omega) (by omega)]
     simp only [cond_true, Option.bind_some]
     cases decide (b.getD (Int.toNat 2) 0 < 128) <;> cases decide (191 < b.getD (Int.toNat 2) 0) <;> exact ⟨_, rfl⟩
    ·rw [decide_eq_false h2]; exact ⟨_, rfl⟩
   ·rw [decide_eq_false h1]
    simp only [cond_false, Option.bind_some]
    rw [decide_eq_false (show ¬ (b.length : Int) > 2 by omega)]; exact ⟨_, rfl⟩
theorem dec_some {b : List Int} (hb : Byts b) (hn : b ≠ []) : ∃ r n, unicode_utf8_DecodeRune b = some (r, n) ∧ 1 ≤ n ∧ n ≤ (b.length : Int) := by
 have h0 : 0 < b.length := List.length_pos_iff.2 hn
 have slow : ∃ r n, unicode_utf8_decodeRuneSlow b = some (r, n) ∧ 1 ≤ n ∧ n ≤ (b.length : Int) := by
  unfold unicode_utf8_decodeRuneSlow
  simp only [letB]
  rw [show decide ((b.length : Int) < 1) = false from decide_eq_false (by omega)]
  simp only [cond_false]
  obtain ⟨x, hx, hs, hr, hh⟩ := first_at (hb.get 0)
  obtain ⟨y, hy⟩ := second_at hr
  rw [idx_is (d := 0) (i := 0) (by omega) (by omega)]
  simp only [Option.bind_some, Int.toNat_zero]
  rw [hx]
  simp only [Option.bind_some]
  by_cases h240 : x ≥ 240
  ·rw [decide_eq_true h240]; exact ⟨_, _, rfl, by omega, by omega⟩
  ·rw [decide_eq_false h240, hy]
   have h2 : 2 ≤ iAnd .u8 x 7 := hh.resolve_left h240
   simp only [cond_false, Option.bind_some]
   rw [w64_id (n := iAnd .u8 x 7) (by omega) (by omega)]
   by_cases hl : (b.length : Int) < iAnd .u8 x 7
   ·rw [decide_eq_true hl]; exact ⟨_, _, rfl, by omega, by omega⟩
   ·rw [decide_eq_false hl, idx_is (d := 0) (i := 1) (by omega) (by omega)]
    simp only [cond_false, Option.bind_some]
    have bad : ∃ r n, (some (65533, 1) : Option (Int × Int)) = some (r, n) ∧ 1 ≤ n ∧ n ≤ (b.length : Int) := ⟨_, _, rfl, by omega, by omega⟩
    cases decide (b.getD (Int.toNat 1) 0 < y.lo) <;> cases decide (y.hi < b.getD (Int.toNat 1) 0) <;> simp only [cond_true, cond_false, Option.bind_some] <;> first | exact bad | skip
    by_cases hs2 : iAnd .u8 x 7 ≤ 2
    ·rw [decide_eq_true hs2]; exact ⟨_, _, rfl, by omega, by omega⟩
    ·rw [decide_eq_false hs2, idx_is (d := 0) (i := 2) (by omega) (by omega)]
     simp only [cond_false, Option.bind_some]
     cases decide (b.getD (Int.toNat 2) 0 < 128) <;> cases decide (191 < b.getD (Int.toNat 2) 0) <;> simp only [cond_true, cond_false, Option.bind_some] <;> first | exact bad | skip
     by_cases hs3 : iAnd .u8 x 7 ≤ 3
     ·rw [decide_eq_true hs3]; exact ⟨_, _, rfl, by omega, by omega⟩
     ·rw [decide_eq_false hs3, idx_is (d := 0) (i := 3) (by omega) (by omega)]
      simp only [cond_false, Option.bind_some]
      cases decide (b.getD (Int.toNat 3) 0 < 128) <;> cases decide (191 < b.getD (Int.toNat 3) 0) <;> simp only [cond_true, cond_false, Option.bind_some] <;> first | exact bad | exact ⟨_, _, rfl, by omega, by omega⟩
 unfold unicode_utf8_DecodeRune
 have hl : unicode_utf8_DecodeRune_l2 b = some (.inr (if b.getD 0 0 < 128 then .inl (w32 (b.getD 0 0)) else .inr ())) := by
  unfold unicode_utf8_DecodeRune_l2
  simp only [letB]
  rw [show decide (0 < (b.length : Int)) = true from decide_eq_true (by omega), idx_is (d := 0) (i := 0) (by omega) (by omega)]
  simp only [cond_true, Option.bind_some, Int.toNat_zero]
  by_cases h : b.getD 0 0 < 128
  ·rw [decide_eq_true h, if_pos h]; rfl
  ·rw [decide_eq_false h, if_neg h]; rfl
 rw [iter_inr hl]
 simp only [Option.bind_some]
 by_cases h : b.getD 0 0 < 128
 ·rw [if_pos h]; exact ⟨_, _, rfl, by omega, by omega⟩
 ·rw [if_neg h]
  obtain ⟨r, n, h1, h2, h3⟩ := slow
  exact ⟨r, n, by simp only [Option.bind_some, h1], h2, h3⟩
theorem feed_some : ∀ (k : Nat) {all : List Int} {out : List Int}, Byts all → all.length ≤ k → out.length + all.length ≤ most →
  ∃ rs rest, iter (fun s => glyph_Reader_Feed_in32_0_l1 s.1 s.2 : (List Int × List Int) → Option ((List Int × List Int) ⊕ (List Int × List Int))) (out, all) = some (out ++ rs, rest) ∧ rest.length ≤ 3 ∧ rs.length + rest.length ≤ all.length ∧ Byts rest
 | k, all, out, hb, hk, hm => by
  obtain ⟨t, ht, h1, h2⟩ := full_some hb
  cases t with
  | false =>
   refine ⟨[], all, ?_, h2 rfl, by simp, hb⟩
   rw [iter_inr (r := (out, all)) (by simp only [glyph_Reader_Feed_in32_0_l1, ht, Option.bind_some]; rfl), List.append_nil]
  | true =>
   obtain ⟨r, n, hd, hn1, hn2⟩ := dec_some hb (h1 rfl)
   have hl : 0 < all.length := List.length_pos_iff.2 (h1 rfl)
   have hstep : glyph_Reader_Feed_in32_0_l1 out all = some (.inl (out ++ [r], all.drop n.toNat)) := by
    unfold glyph_Reader_Feed_in32_0_l1
    rw [ht]
    simp only [Option.bind_some, cond_true, hd]
    rw [app_some (by simp; omega)]
    simp only [Option.bind_some]
    unfold subA
    rw [if_pos ⟨by omega, hn2⟩]; rfl
   match k with
   | 0 => omega
   | k + 1 =>
    obtain ⟨rs, rest, e, e1, e2, e3⟩ := feed_some k (all := all.drop n.toNat) (out := out ++ [r]) (hb.drop _) (by simp; omega) (by simp; omega)
    refine ⟨r :: rs, rest, ?_, e1, by simp at e2 ⊢; omega, e3⟩
    rw [iter_inl (s' := (out ++ [r], all.drop n.toNat)) (by exact hstep), e]
    simp
end Go.Proofs.YtdlijnfdkeimlaaDoor.Am.Esc

set_option linter.all false
namespace Go.Proofs.YtdlijnfdkeimlaaDoor.Am.Esc
open Go.Proofs.YtdlijnfdkeimlaaDoor.Am.T
def pr (r : Int) : Act := ⟨1, r, 0, 0, [], [], []⟩
def putE (p : ParserM) (zs : List Act) : ParserM := { p with out := p.out ++ zs }
theorem print_loop (rs : List Int) (hr : rs.length ≤ most) : ∀ (k : Nat) (i : Nat) (p : ParserM), i + k = rs.length → p.out.length + k ≤ most →
  iter (fun s => esc_Parser_print_l1 rs s.1 s.2 : (Int × ParserM) → Option ((Int × ParserM) ⊕ ParserM)) ((i : Int), p) = some (putE p ((rs.drop i).map pr))
 | 0, i, p, hi, ho => by
  have hm : most = 4294967296 := rfl
  rw [iter_inr (r := p) (by
   simp only [esc_Parser_print_l1, letB]
   rw [decide_eq_false (by omega)]; rfl)]
  rw [List.drop_of_length_le (by omega)]
  simp [putE]
 | k + 1, i, p, hi, ho => by
  have hm : most = 4294967296 := rfl
  have hd : rs.drop i = rs.getD i 0 :: rs.drop (i + 1) := by
   rw [List.getD_eq_getElem?_getD, List.getElem?_eq_getElem (by omega)]; exact List.drop_eq_getElem_cons (by omega)
  rw [iter_inl (s' := (((i + 1 : Nat) : Int), putE p [pr (rs.getD i 0)])) (by
   simp only [esc_Parser_print_l1, letB]
   rw [decide_eq_true (by omega), idx_is (d := 0) (by omega) (by omega)]
   simp only [cond_true, Option.bind_some, Int.toNat_natCast, esc_Parser_say]
   rw [app_some (by simp; omega)]
   simp only [Option.bind_some]
   rw [w64_id (by omega) (by omega)]; rfl)]
  rw [print_loop rs hr k (i + 1) _ (by omega) (by simp [putE]; omega), hd]
  simp [putE]
theorem print_is {p : ParserM} {rs : List Int} (h : p.out.length + rs.length ≤ most) : esc_Parser_print p rs = some (putE p (rs.map pr)) := by
 unfold esc_Parser_print
 have := print_loop rs (by omega) rs.length 0 p (by omega) h
 rw [List.drop_zero] at this
 have e : iter (fun s => esc_Parser_print_l1 rs s.1 s.2 : (Int × ParserM) → Option ((Int × ParserM) ⊕ ParserM)) (0, p) = some (putE p (rs.map pr)) := this
 rw [e]; rfl
noncomputable def gF (all : List Int) : List Int × List Int := (iter (fun s => glyph_Reader_Feed_in32_0_l1 s.1 s.2 : (List Int × List Int) → Option ((List Int × List Int) ⊕ (List Int × List Int))) ([], all)).getD ([], all)
theorem gF_is {all : List Int} (hb : Byts all) (hl : all.length ≤ most) :
  iter (fun s => glyph_Reader_Feed_in32_0_l1 s.1 s.2 : (List Int × List Int) → Option ((List Int × List Int) ⊕ (List Int × List Int))) ([], all) = some (gF all) ∧ (gF all).2.length ≤ 3 ∧ (gF all).1.length + (gF all).2.length ≤ all.length ∧ Byts (gF all).2 := by
 obtain ⟨rs, rest, e, h1, h2, h3⟩ := feed_some all.length (all := all) (out := []) hb (Nat.le_refl _) (by simpa using hl)
 have hg : gF all = (rs, rest) := by unfold gF; rw [e]; rfl
 rw [hg]
 exact ⟨by rw [e]; rfl, h1, h2, h3⟩
noncomputable def plainE (p : ParserM) (c : Int) : ParserM := putE { p with text := ⟨(gF (p.text.waits ++ [c])).2⟩ } ((gF (p.text.waits ++ [c])).1.map pr)
def restE (p : ParserM) : ParserM := putE { p with text := ⟨[]⟩ } ((List.replicate p.text.waits.length 65533).map pr)
def beginE (p : ParserM) (s : Int) : ParserM := ⟨p.text, s, false, true, ⟨0, 0, 0, 0, [], some [], []⟩, 0, [], p.out⟩
def interE (p : ParserM) (c : Int) : ParserM := if p.act.Inter.length = 2 then { p with spoiled := true } else { p with act := { p.act with Inter := p.act.Inter ++ [c] } }
def behindE (p : ParserM) (c : Int) : ParserM :=
 if c < 48 then interE p c else if c = 91 ∧ p.act.Inter = [] then beginE p 2
 else if p.act.Inter = [] ∧ c ∈ [93, 80, 88, 94, 95] then { beginE p 3 with act := { (beginE p 3).act with Final := c } }
 else { (if c < 127 ∧ p.spoiled = false then putE p [⟨3, 0, c, 0, p.act.Inter, [], []⟩] else p) with in_ := 0 }
def endE (p : ParserM) (c : Int) : ParserM :=
 if p.spoiled = false then putE { p with in_ := 0, act := { p.act with Kind := 4, Final := c, Params := none } } [{ p.act with Kind := 4, Final := c, Params := p.act.Params.getD [] }] else { p with in_ := 0 }
def num1 (p : ParserM) : ParserM := if p.count = 0 then { p with act := { p.act with Params := some [-1] }, count := 1 } else p
def numberE (p : ParserM) (c : Int) : ParserM :=
 let q := num1 p
 let ps := q.act.Params.getD []
 if c = 59 then { q with act := { q.act with Params := some (if q.count + 1 ≤ 16 then ps ++ [-1] else ps) }, count := q.count + 1 }
 else { q with act := { q.act with Params := some (if q.count ≤ 16 then upI ps (q.count - 1) (min (w64 ((w64 ((max (ps.getD (q.count - 1).toNat 0) 0) * 10)) + (w64 (w8 (c - 48))))) 9999) else ps) } }
def sequenceE (p : ParserM) (c : Int) : ParserM :=
 if c ≥ 128 then { p with in_ := 0, first := false } else if c < 48 then interE { p with first := false } c else if c ≥ 64 then endE { p with first := false } c
 else if c ≥ 60 ∧ p.first = true then { p with first := false, act := { p.act with Priv := c } }
 else if c = 58 ∨ c ≥ 60 ∨ p.act.Inter ≠ [] then { p with spoiled := true, first := false } else numberE { p with first := false } c
def endStringE (p : ParserM) : ParserM := putE { p with in_ := 0 } [⟨5, 0, p.act.Final, 0, [], [], p.payload⟩]
def collectE (p : ParserM) (c : Int) : ParserM :=
 if c = 7 then endStringE p else if c = 27 then { p with in_ := 4 } else if c = 24 ∨ c = 26 then { p with in_ := 0 }
 else if c ≥ 32 ∧ p.payload.length < 256 then { p with payload := p.payload ++ [c] } else p
noncomputable def onE (p : ParserM) (c : Int) : ParserM := if p.in_ = 1 then behindE p c else if p.in_ = 2 then sequenceE p c else plainE p c
def flushE (p : ParserM) (c : Int) : ParserM := if c < 32 ∨ c = 127 then restE p else p
noncomputable def outE (q : ParserM) (c : Int) : ParserM :=
 if c = 24 ∨ c = 26 then { q with in_ := 0 } else if c = 27 then beginE q 1 else if c < 32 then putE q [⟨2, 0, c, 0, [], [], []⟩] else if c ≠ 127 then onE q c else q
noncomputable def endsE (q : ParserM) (c : Int) : ParserM := if c = 92 then endStringE q else outE (flushE (beginE q 1) c) c
noncomputable def byteE (p : ParserM) (c : Int) : ParserM :=
 if (flushE p c).in_ = 3 then collectE (flushE p c) c else if (flushE p c).in_ = 4 then endsE (flushE p c) c else outE (flushE p c) c
structure Ok (n : Nat) (p : ParserM) : Prop where
 inn : 0 ≤ p.in_ ∧ p.in_ ≤ 4
 wts : Byts p.text.waits ∧ p.text.waits.length ≤ 3
 pay : Byts p.payload ∧ p.payload.length ≤ 256
 int : p.act.Inter.length ≤ 2
 num : p.in_ = 2 → ∃ ps, p.act.Params = some ps ∧ 0 ≤ p.count ∧ p.count ≤ n ∧ ps.length = min p.count.toNat 16
theorem flush_in {p : ParserM} {c : Int} : (flushE p c).in_ = p.in_ := by unfold flushE restE putE; split <;> rfl
theorem Ok.flush {n : Nat} {p : ParserM} {c : Int} (h : Ok n p) : Ok n (flushE p c) := by
 unfold flushE restE putE
 split
 ·exact ⟨h.inn, ⟨fun _ hx => (by cases hx), Nat.zero_le _⟩, h.pay, h.int, h.num⟩
 ·exact h
theorem flush_out {n : Nat} {p : ParserM} {c : Int} (h : Ok n p) : (flushE p c).out.length ≤ p.out.length + 3 := by
 unfold flushE restE putE
 split
 ·simp; exact h.wts.2
 ·omega
theorem most_is : most = 4294967296 := rfl
theorem rest_is {n : Nat} {p : ParserM} (h : Ok n p) (ho : p.out.length + 3 ≤ most) : ((glyph_Reader_Rest_in32_0 p).bind fun y6 => (esc_Parser_print y6.2 y6.1).bind fun y7 => some y7) = some (restE p) := by
 have hw := h.wts.2
 have hr : slices_Repeat_31 [65533] (p.text.waits.length : Int) = some (List.replicate p.text.waits.length 65533) := by
  show (if 0 ≤ (p.text.waits.length : Int) ∧ (p.text.waits.length : Int) ≤ 3 then some (List.replicate (p.text.waits.length : Int).toNat 65533) else none) = _
  rw [if_pos ⟨by omega, by omega⟩]; rfl
 unfold glyph_Reader_Rest_in32_0
 rw [hr]
 simp only [Option.bind_some, Int.toNat_natCast]
 rw [print_is (by simp; omega)]; rfl
end Go.Proofs.YtdlijnfdkeimlaaDoor.Am.Esc

set_option linter.all false
namespace Go.Proofs.YtdlijnfdkeimlaaDoor.Am.Esc
open Go.Proofs.YtdlijnfdkeimlaaDoor.Am.T
theorem rune_small : ∀ k : Nat, k < 16 → runeT (w32 ((32 + k : Nat) : Int)) = [((32 + k : Nat) : Int)] := by decide +kernel
theorem inter_is {p : ParserM} {c : Int} (hi : p.act.Inter.length ≤ 2) (hc : 32 ≤ c ∧ c < 48) : esc_Parser_inter p c = some (interE p c) := by
 have hr : runeT (w32 c) = [c] := by
  have := rune_small (c - 32).toNat (by omega)
  rwa [show ((32 + (c - 32).toNat : Nat) : Int) = c by omega] at this
 unfold interE
 simp only [esc_Parser_inter, letB, hr]
 by_cases h : p.act.Inter.length = 2
 ·rw [if_pos h, decide_eq_true (by omega)]; rfl
 ·rw [if_neg h, decide_eq_false (by omega)]
  simp only [cond_false, sadd]
  rw [if_pos (by simp; omega)]; rfl
theorem index_loop (l : List Int) (v : Int) (hl : l.length ≤ most) : ∀ (k i : Nat), i + k = l.length →
  ∃ j, iter (fun s => slices_Index_51_l1 l v s : Int → Option (Int ⊕ (Int ⊕ Unit))) (i : Int) = some j ∧ (match j with | .inl n => 0 ≤ n ∧ v ∈ l.drop i | .inr _ => v ∉ l.drop i)
 | 0, i, hi => by
  refine ⟨.inr (), iter_inr ?_, ?_⟩
  ·simp only [slices_Index_51_l1, letB]
   rw [decide_eq_false (by omega)]; rfl
  ·rw [List.drop_of_length_le (by omega)]; simp
 | k + 1, i, hi => by
  have hm := most_is
  have hd : l.drop i = l.getD i 0 :: l.drop (i + 1) := by
   rw [List.getD_eq_getElem?_getD, List.getElem?_eq_getElem (by omega)]; exact List.drop_eq_getElem_cons (by omega)
  by_cases he : v = l.getD i 0
  ·refine ⟨.inl (i : Int), iter_inr ?_, ?_⟩
   ·simp only [slices_Index_51_l1, letB]
    rw [decide_eq_true (by omega), idx_is (d := 0) (by omega) (by omega)]
    simp only [cond_true, Option.bind_some, Int.toNat_natCast]
    rw [decide_eq_true he]; rfl
   ·exact ⟨by omega, by rw [hd, he]; exact List.mem_cons_self⟩
  ·obtain ⟨j, e, hj⟩ := index_loop l v hl k (i + 1) (by omega)
   refine ⟨j, ?_, ?_⟩
   ·rw [iter_inl (s' := ((i + 1 : Nat) : Int)) (by
     simp only [slices_Index_51_l1, letB]
     rw [decide_eq_true (by omega), idx_is (d := 0) (by omega) (by omega)]
     simp only [cond_true, Option.bind_some, Int.toNat_natCast]
     rw [decide_eq_false he, w64_id (by omega) (by omega)]; rfl), e]
   ·rw [hd]
    cases j with
    | inl n => exact ⟨hj.1, .tail _ hj.2⟩
    | inr _ => intro hh; rcases List.mem_cons.1 hh with h | h; exact he h; exact hj h
theorem contains_is {l : List Int} {v : Int} (hl : l.length ≤ most) : slices_Contains_40 l v = some (decide (v ∈ l)) := by
 obtain ⟨j, e, hj⟩ := index_loop l v hl l.length 0 (by omega)
 have e : iter (fun s => slices_Index_51_l1 l v s : Int → Option (Int ⊕ (Int ⊕ Unit))) 0 = some j := e
 simp only [slices_Contains_40, slices_Index_51, e, Option.bind_some, letB]
 cases j with
 | inl n =>
  have hj : 0 ≤ n ∧ v ∈ l := hj
  simp only [Option.bind_some]
  rw [decide_eq_true (by omega : n ≥ 0), decide_eq_true hj.2]
 | inr _ =>
  have hj : v ∉ l := hj
  simp only [Option.bind_some]
  rw [decide_eq_false hj]; rfl
theorem say_is {p : ParserM} {a : Act} (h : p.out.length + 1 ≤ most) : esc_Parser_say p a = some (putE p [a]) := by
 unfold esc_Parser_say
 rw [app_some (by simpa using h)]; rfl
theorem begin_is {p : ParserM} {s : Int} : esc_Parser_begin p s = some (beginE p s) := rfl
theorem behind_is {p : ParserM} {c : Int} (hi : p.act.Inter.length ≤ 2) (hc : 32 ≤ c) (ho : p.out.length + 1 ≤ most) : esc_Parser_behind p c = some (behindE p c) := by
 unfold esc_Parser_behind behindE
 simp only [letB]
 by_cases h1 : c < 48
 ·rw [decide_eq_true h1, if_pos h1, inter_is hi ⟨hc, h1⟩]; rfl
 rw [decide_eq_false h1, if_neg h1, contains_is (by simp [most_is])]
 simp only [cond_false, Option.bind_some, begin_is]
 by_cases h2 : c = 91
 ·rw [decide_eq_true h2]
  by_cases h3 : p.act.Inter = []
  ·rw [decide_eq_true h3, if_pos ⟨h2, h3⟩]; rfl
  ·rw [decide_eq_false h3, if_neg (by simp [h3]), if_neg (by simp [h3])]
   simp only [cond_true, cond_false, Option.bind_some]
   by_cases h4 : c < 127
   ·rw [decide_eq_true h4]
    cases h5 : p.spoiled with
    | true => rw [if_neg (by simp)]; rfl
    | false =>
     rw [if_pos ⟨h4, rfl⟩]
     simp only [cond_true, Option.bind_some, Bool.not_false, say_is ho]
   ·rw [decide_eq_false h4, if_neg (by simp [h4])]; rfl
 ·rw [decide_eq_false h2, if_neg (by simp [h2])]
  simp only [cond_false, Option.bind_some]
  by_cases h3 : p.act.Inter = []
  ·rw [decide_eq_true h3]
   by_cases h6 : c ∈ ([93, 80, 88, 94, 95] : List Int)
   ·rw [decide_eq_true h6, if_pos ⟨h3, h6⟩]; rfl
   ·rw [decide_eq_false h6, if_neg (by simp [h6])]
    simp only [cond_true, cond_false, Option.bind_some]
    by_cases h4 : c < 127
    ·rw [decide_eq_true h4]
     cases h5 : p.spoiled with
     | true => rw [if_neg (by simp)]; rfl
     | false =>
      rw [if_pos ⟨h4, rfl⟩]
      simp only [cond_true, Option.bind_some, Bool.not_false, say_is ho]
    ·rw [decide_eq_false h4, if_neg (by simp [h4])]; rfl
  ·rw [decide_eq_false h3, if_neg (by simp [h3])]
   simp only [cond_false, Option.bind_some]
   by_cases h4 : c < 127
   ·rw [decide_eq_true h4]
    cases h5 : p.spoiled with
    | true => rw [if_neg (by simp)]; rfl
    | false =>
     rw [if_pos ⟨h4, rfl⟩]
     simp only [cond_true, Option.bind_some, Bool.not_false, say_is ho]
   ·rw [decide_eq_false h4, if_neg (by simp [h4])]; rfl
theorem end_is {p : ParserM} {c : Int} {ps : List Int} (hp : p.act.Params = some ps) (ho : p.out.length + 1 ≤ most) : esc_Parser_end p c = some (endE p c) := by
 unfold esc_Parser_end endE
 rw [hp]
 simp only [Option.bind_some, Option.getD_some]
 cases h5 : p.spoiled with
 | true =>
  rw [if_neg (by simp)]
  simp only [Bool.not_true, cond_false, Option.bind_some, ← hp]
 | false =>
  rw [if_pos rfl]
  simp only [Bool.not_false, cond_true]
  rw [say_is (by exact ho)]
  simp only [Option.bind_some]
theorem endString_is {p : ParserM} (hp : Byts p.payload) (ho : p.out.length + 1 ≤ most) : esc_Parser_endString p = some (endStringE p) := by
 unfold esc_Parser_endString endStringE bstr
 rw [show (p.payload.all fun b => decide (0 ≤ b ∧ b < 256)) = true from List.all_eq_true.2 fun x hx => decide_eq_true (hp x hx)]
 simp only [cond_true, Option.bind_some]
 rw [say_is (by exact ho)]; rfl
theorem collect_is {p : ParserM} {c : Int} (hp : Byts p.payload) (hl : p.payload.length ≤ 256) (ho : p.out.length + 1 ≤ most) : esc_Parser_collect p c = some (collectE p c) := by
 unfold esc_Parser_collect collectE
 simp only [letB]
 by_cases h1 : c = 7
 ·rw [decide_eq_true h1, if_pos h1, endString_is hp ho]; rfl
 rw [decide_eq_false h1, if_neg h1]
 by_cases h2 : c = 27
 ·rw [decide_eq_true h2, if_pos h2]; rfl
 rw [decide_eq_false h2, if_neg h2]
 simp only [cond_false]
 by_cases h3 : c = 24
 ·rw [decide_eq_true h3, if_pos (.inl h3)]; rfl
 rw [decide_eq_false h3]
 simp only [cond_false]
 by_cases h4 : c = 26
 ·rw [decide_eq_true h4, if_pos (.inr h4)]; rfl
 rw [decide_eq_false h4, if_neg (by simp [h3, h4])]
 simp only [cond_false, Option.bind_some]
 by_cases h5 : c ≥ 32
 ·rw [decide_eq_true h5]
  simp only [cond_true, Option.bind_some]
  by_cases h6 : p.payload.length < 256
  ·rw [decide_eq_true (by omega), if_pos ⟨h5, h6⟩]
   simp only [cond_true, Option.bind_some]
   rw [app_some (by simp [most_is]; omega)]; rfl
  ·rw [decide_eq_false (by omega), if_neg (by simp [h6])]; rfl
 ·rw [decide_eq_false h5, if_neg (by simp [h5])]; rfl
theorem number_is {n : Nat} {p : ParserM} {c : Int} {ps : List Int} (hp : p.act.Params = some ps) (h0 : 0 ≤ p.count) (hn : p.count ≤ n) (hN : n ≤ 4611686018427387904) (hl : ps.length = min p.count.toNat 16) :
  esc_Parser_number p c = some (numberE p c) ∧ (numberE p c).out = p.out ∧ (numberE p c).text = p.text ∧ (numberE p c).payload = p.payload ∧ (numberE p c).in_ = p.in_ ∧ (numberE p c).act.Inter = p.act.Inter ∧
   ∃ qs, (numberE p c).act.Params = some qs ∧ 0 ≤ (numberE p c).count ∧ (numberE p c).count ≤ (n + 1 + 1 : Nat) ∧ qs.length = min (numberE p c).count.toNat 16 := by
 obtain ⟨q, hq⟩ : ∃ q, q = num1 p := ⟨_, rfl⟩
 have hq1 : ∃ qs, q.act.Params = some qs ∧ 1 ≤ q.count ∧ q.count ≤ (n + 1 : Nat) ∧ qs.length = min q.count.toNat 16 ∧ q.out = p.out ∧ q.text = p.text ∧ q.payload = p.payload ∧ q.in_ = p.in_ ∧ q.act.Inter = p.act.Inter := by
  rw [hq]
  unfold num1
  by_cases h : p.count = 0
  ·rw [if_pos h]; exact ⟨[-1], rfl, by show (1 : Int) ≤ 1; omega, by show (1 : Int) ≤ _; omega, rfl, rfl, rfl, rfl, rfl, rfl⟩
  ·rw [if_neg h]; exact ⟨ps, hp, by omega, by omega, hl, rfl, rfl, rfl, rfl, rfl⟩
 have hj : (bif decide (p.count = 0) then some ({ p with act := { p.act with Params := some [(-1)] }, count := 1 }) else some p : Option ParserM) = some q := by
  rw [hq]; unfold num1
  by_cases h : p.count = 0
  ·rw [decide_eq_true h, if_pos h]; rfl
  ·rw [decide_eq_false h, if_neg h]; rfl
 obtain ⟨qs, h1, h2, h3, h4, h5, h6, h7, h8, h9⟩ := hq1
 have hm := most_is
 unfold esc_Parser_number numberE
 simp only [letB]
 rw [hj, ← hq]
 simp only [Option.bind_some, h1, Option.getD_some]
 by_cases c1 : c = 59
 ·rw [decide_eq_true c1, if_pos c1, w64_id (by omega) (by omega)]
  simp only [cond_true]
  by_cases c2 : q.count + 1 ≤ 16
  ·rw [decide_eq_true c2, if_pos c2]
   simp only [cond_true]
   rw [app_some (by simp; omega)]
   exact ⟨rfl, h5, h6, h7, h8, h9, _, rfl, by (try simp only); omega, by (try simp only); omega, by (try simp only); simp only [List.length_append, List.length_cons, List.length_nil]; omega⟩
  ·rw [decide_eq_false c2, if_neg c2]
   exact ⟨rfl, h5, h6, h7, h8, h9, _, rfl, by (try simp only); omega, by (try simp only); omega, by (try simp only); omega⟩
 ·rw [decide_eq_false c1, if_neg c1]
  simp only [cond_false]
  by_cases c2 : q.count ≤ 16
  ·rw [decide_eq_true c2, if_pos c2]
   simp only [cond_true]
   rw [w64_id (n := q.count - 1) (by omega) (by omega), idx_is (d := 0) (by omega) (by omega)]
   exact ⟨rfl, h5, h6, h7, h8, h9, _, rfl, by (try simp only); omega, by (try simp only); omega, by simp only [upI, List.length_set]; omega⟩
  ·rw [decide_eq_false c2, if_neg c2]
   exact ⟨rfl, h5, h6, h7, h8, h9, _, rfl, by (try simp only); omega, by (try simp only); omega, by (try simp only); omega⟩
theorem sequence_is {n : Nat} {p : ParserM} {c : Int} (hk : Ok n p) (h2 : p.in_ = 2) (hN : n ≤ 4611686018427387904) (hc : 32 ≤ c) (ho : p.out.length + 1 ≤ most) : esc_Parser_sequence p c = some (sequenceE p c) := by
 obtain ⟨ps, hp, k0, k1, k2⟩ := hk.num h2
 unfold esc_Parser_sequence sequenceE
 simp only [letB]
 by_cases c1 : c ≥ 128
 ·rw [decide_eq_true c1, if_pos c1]; rfl
 rw [decide_eq_false c1, if_neg c1]
 by_cases c2 : c < 48
 ·rw [decide_eq_true c2, if_pos c2, inter_is (p := { p with first := false }) hk.int ⟨hc, c2⟩]; rfl
 rw [decide_eq_false c2, if_neg c2]
 by_cases c3 : c ≥ 64
 ·rw [decide_eq_true c3, if_pos c3, end_is (p := { p with first := false }) hp ho]; rfl
 rw [decide_eq_false c3, if_neg c3]
 simp only [cond_false]
 have hnum := (number_is (p := { p with first := false }) (c := c) hp k0 k1 hN k2).1
 by_cases c4 : c ≥ 60
 ·rw [decide_eq_true c4]
  cases hf : p.first with
  | true => rw [if_pos ⟨c4, rfl⟩]; rfl
  | false =>
   rw [if_neg (by simp), if_pos (.inr (.inl c4))]
   simp only [cond_true, cond_false, Option.bind_some]
   by_cases c5 : c = 58
   ·rw [decide_eq_true c5]; rfl
   ·rw [decide_eq_false c5]; rfl
 ·rw [decide_eq_false c4, if_neg (by simp [c4])]
  simp only [cond_false, Option.bind_some]
  by_cases c5 : c = 58
  ·rw [decide_eq_true c5, if_pos (.inl c5)]; rfl
  ·rw [decide_eq_false c5]
   simp only [cond_false, Option.bind_some]
   by_cases c6 : p.act.Inter = []
   ·rw [decide_eq_false (by simpa using c6), if_neg (by simp [c4, c5, c6]), hnum]; rfl
   ·rw [decide_eq_true c6, if_pos (.inr (.inr c6))]; rfl
theorem plain_is {n : Nat} {p : ParserM} {c : Int} (hk : Ok n p) (hc : 0 ≤ c ∧ c < 256) (ho : p.out.length + 4 ≤ most) : esc_Parser_plain p c = some (plainE p c) := by
 have hm := most_is
 have hw := hk.wts
 have hb : Byts (p.text.waits ++ [c]) := hw.1.append (fun x hx => by simp at hx; subst hx; exact hc)
 obtain ⟨e, e1, e2, e3⟩ := gF_is hb (by simp; omega)
 have h1 : slices_Clone_52 p.text.waits = some p.text.waits := by unfold slices_Clone_52; rw [app_some (by simp; omega)]; rfl
 have h2 : slices_Clone_52 (gF (p.text.waits ++ [c])).2 = some (gF (p.text.waits ++ [c])).2 := by unfold slices_Clone_52; rw [app_some (by simp; omega)]; rfl
 unfold esc_Parser_plain glyph_Reader_Feed_in32_0
 rw [h1]
 simp only [Option.bind_some]
 rw [app_some (by simp; omega)]
 simp only [Option.bind_some]
 rw [e]
 simp only [Option.bind_some]
 rw [h2]
 simp only [Option.bind_some]
 rw [print_is (by simp at e2 ⊢; omega)]; rfl
end Go.Proofs.YtdlijnfdkeimlaaDoor.Am.Esc

set_option linter.all false
namespace Go.Proofs.YtdlijnfdkeimlaaDoor.Am.Esc
open Go.Proofs.YtdlijnfdkeimlaaDoor.Am.T
theorem on_is {s : Int} : esc_state_on s = some (if s = 1 then 106 else if s = 2 then 107 else if s = 3 then 108 else if s = 4 then 109 else 110) := by
 unfold esc_state_on
 simp only [letB]
 by_cases h1 : s = 1
 ·rw [decide_eq_true h1, if_pos h1]; rfl
 rw [decide_eq_false h1, if_neg h1]
 by_cases h2 : s = 2
 ·rw [decide_eq_true h2, if_pos h2]; rfl
 rw [decide_eq_false h2, if_neg h2]
 by_cases h3 : s = 3
 ·rw [decide_eq_true h3, if_pos h3]; rfl
 rw [decide_eq_false h3, if_neg h3]
 by_cases h4 : s = 4
 ·rw [decide_eq_true h4, if_pos h4]; rfl
 rw [decide_eq_false h4, if_neg h4]; rfl
noncomputable def dispE (rec35 : ParserM → Int → Option ParserM) (q : ParserM) (c : Int) : Option ParserM :=
 (esc_state_on q.in_).bind fun y => ((bif decide (y = 106) then esc_Parser_behind q c else bif decide (y = 107) then esc_Parser_sequence q c else bif decide (y = 108) then esc_Parser_collect q c else bif decide (y = 109) then rec35 q c else bif decide (y = 110) then esc_Parser_plain q c else none : Option ParserM)).bind fun y15 => some (y15)
theorem disp_is {rec35 : ParserM → Int → Option ParserM} {n : Nat} {q : ParserM} {c : Int} (hk : Ok n q) (hN : n ≤ 4611686018427387904) (hc : 32 ≤ c ∧ c < 256) (h3 : q.in_ ≠ 3) (h4 : q.in_ ≠ 4) (ho : q.out.length + 4 ≤ most) :
  dispE rec35 q c = some (onE q c) := by
 unfold dispE onE
 rw [on_is]
 by_cases h1 : q.in_ = 1
 ·rw [if_pos h1, if_pos h1]
  simp only [Option.bind_some]
  show ((esc_Parser_behind q c).bind fun y => some y) = _
  rw [behind_is hk.int hc.1 (by omega)]; rfl
 rw [if_neg h1, if_neg h1]
 by_cases h2 : q.in_ = 2
 ·rw [if_pos h2, if_pos h2]
  show ((esc_Parser_sequence q c).bind fun y => some y) = _
  rw [sequence_is hk h2 hN hc.1 (by omega)]; rfl
 rw [if_neg h2, if_neg h2, if_neg h3, if_neg h4]
 show ((esc_Parser_plain q c).bind fun y => some y) = _
 rw [plain_is hk ⟨by omega, hc.2⟩ ho]; rfl
theorem byteF_is {rec18 rec35 : ParserM → Int → Option ParserM} {n : Nat} {p : ParserM} {c : Int} (hk : Ok n p) (hN : n ≤ 4611686018427387904) (hc : 0 ≤ c ∧ c < 256) (ho : p.out.length + 8 ≤ most) {r : ParserM}
  (h4 : p.in_ = 4 → rec35 (flushE p c) c = some r) : esc_Parser_byteF rec18 rec35 p c = some (if p.in_ = 4 then r else byteE p c) := by
 have hq := hk.flush (c := c)
 have hqo := flush_out (c := c) hk
 have hqi := flush_in (p := p) (c := c)
 have first : (((bif decide (c < 32) then some true else some (decide (c = 127)) : Option Bool).bind fun g2 =>
   (bif g2 then ((glyph_Reader_Rest_in32_0 p).bind fun y6 => (esc_Parser_print y6.2 y6.1).bind fun y7 => some y7) else some p : Option ParserM)) : Option ParserM) = some (flushE p c) := by
  unfold flushE
  by_cases h1 : c < 32
  ·rw [decide_eq_true h1, if_pos (.inl h1)]
   exact rest_is hk (by omega)
  ·rw [decide_eq_false h1]
   by_cases h2 : c = 127
   ·rw [decide_eq_true h2, if_pos (.inr h2)]
    exact rest_is hk (by omega)
   ·rw [decide_eq_false h2, if_neg (by simp [h1, h2])]; rfl
 have second : ∀ q : ParserM, Ok n q → q.in_ = p.in_ → q.out.length + 5 ≤ most → (p.in_ = 4 → rec35 q c = some r) → (Option.bind (
  letB (decide (q.in_ = 3)) fun c9 =>
  (bif c9 then some true else (
   letB (decide (q.in_ = 4)) fun c11 =>
   some (c11))).bind fun g10 =>
  Option.bind (
   bif g10 then (dispE rec35 q c)
   else (
    letB (decide (c = 24)) fun c17 =>
    (bif c17 then some true else (
     letB (decide (c = 26)) fun c19 =>
     some (c19))).bind fun g18 =>
    Option.bind (
     bif g18 then (
      some ({ q with in_ := 0 }))
     else (
      letB (decide (c = 27)) fun c22 =>
      Option.bind (
       bif c22 then (
        (esc_Parser_begin q 1).bind fun y24 =>
        some (y24))
       else (
        letB (decide (c < 32)) fun c25 =>
        Option.bind (
         bif c25 then (
          (esc_Parser_say q (Act.mk 2 0 c 0 [] [] [])).bind fun y27 =>
          some (y27))
         else (
          letB (decide (c ≠ 127)) fun c28 =>
          Option.bind (
           bif c28 then (dispE rec35 q c)
           else (
            some (q)) : Option ParserM) fun j33 =>
          some (j33)) : Option ParserM) fun j34 =>
        some (j34)) : Option ParserM) fun j35 =>
      some (j35)) : Option ParserM) fun j36 =>
    some (j36)) : Option ParserM) fun j37 =>
  some (j37) : Option ParserM) fun j38 =>
   some j38) = some (if q.in_ = 4 then r else if q.in_ = 3 then collectE q c else outE q c) := by
  intro q hq hqi hqo h4
  by_cases i3 : q.in_ = 3
  ·have hd : dispE rec35 q c = some (collectE q c) := by
    unfold dispE
    rw [on_is, i3]
    show ((esc_Parser_collect q c).bind fun y => some y) = _
    rw [collect_is hq.pay.1 hq.pay.2 (by omega)]; rfl
   rw [hd, if_neg (by omega), if_pos i3, i3]; rfl
  by_cases i4 : q.in_ = 4
  ·have hd : dispE rec35 q c = some r := by
    unfold dispE
    rw [on_is, i4]
    show ((rec35 q c).bind fun y => some y) = _
    rw [h4 (by omega)]; rfl
   rw [hd, if_pos i4, i4]; rfl
  rw [if_neg i4, if_neg i3]
  simp only [letB]
  rw [decide_eq_false i3, decide_eq_false i4]
  unfold outE
  by_cases c24 : c = 24
  ·rw [if_pos (.inl c24), decide_eq_true c24]; rfl
  by_cases c26 : c = 26
  ·rw [if_pos (.inr c26), decide_eq_false c24, decide_eq_true c26]; rfl
  rw [if_neg (by omega), decide_eq_false c24, decide_eq_false c26]
  by_cases c27 : c = 27
  ·rw [if_pos c27, decide_eq_true c27]; rfl
  rw [if_neg c27, decide_eq_false c27]
  by_cases c32 : c < 32
  ·rw [if_pos c32, decide_eq_true c32, say_is (by omega)]; rfl
  rw [if_neg c32, decide_eq_false c32]
  by_cases c127 : c = 127
  ·rw [if_neg (by omega), decide_eq_false (by omega)]; rfl
  ·rw [if_pos c127, decide_eq_true c127, disp_is hq hN (by omega) i3 i4 (by omega)]; rfl
 have e := second (flushE p c) hq hqi (by omega) h4
 have e' : esc_Parser_byteF rec18 rec35 p c = some (if (flushE p c).in_ = 4 then r else if (flushE p c).in_ = 3 then collectE (flushE p c) c else outE (flushE p c) c) := by
  rw [← e]
  unfold esc_Parser_byteF
  simp only [letB] at first ⊢
  rw [← Option.bind_assoc]
  rw [first]
  rfl
 rw [e', hqi]
 unfold byteE
 by_cases i4 : p.in_ = 4
 ·rw [if_pos i4, if_pos i4]
 ·rw [if_neg i4, if_neg i4, hqi]
  by_cases i3 : p.in_ = 3
  ·rw [if_pos i3, if_pos i3]
  ·rw [if_neg i3, if_neg i3, if_neg i4]
end Go.Proofs.YtdlijnfdkeimlaaDoor.Am.Esc
