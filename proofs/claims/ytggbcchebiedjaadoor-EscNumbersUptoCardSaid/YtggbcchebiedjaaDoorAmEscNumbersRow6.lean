/-
A part of the proof of a law: esc p, esc u, esc m, esc n, esc b, esc c, esc d, esc a, esc l, esc s, am row, esc laid, am law, am leaf, am row u, esc fit.
-/
import Derived.Test.YtggbcchebiedjaaDoorAmEscNumbersRow5
import Derived.Carry
import Derived.OpenShut
import Derived.ChangeSame
import Derived.RowKit
import Derived.Test.YtggbcchebiedjaaDoorRows
import Derived.LaidSub
import Derived.Lib.LaidTab
set_option linter.all false
namespace Go.Proofs.YtggbcchebiedjaaDoor.Am.Esc
open Go.Proofs.YtggbcchebiedjaaDoor.Am.T
def tvo {α : Type} (z : Nat) (enc : α → List TV) : Option (List α) → TV
  | some l => .sl true z (l.map enc)
  | none => .undef
noncomputable def slices_Repeat_31 (x : List Int) (n : Int) : Option (List Int) := match x with
  | [r] => if 0 ≤ n ∧ n ≤ 3 then some (List.replicate n.toNat r) else none
  | _ => none
theorem slices_Repeat_31_ok {x : List Int} {n : Int} {r : List Int} (h : slices_Repeat_31 x n = some r) : CallT true (RF ET) 31 [.sl false 1 (List.map ei32 x), .int .i64 n] [] (.sl true 1 (List.map ei32 r)) [] := by
  unfold slices_Repeat_31 at h
  split at h
  · rename_i c
    split at h
    · rename_i hc
      cases h
      refine CallT.pure fun ρ m a ha => ?_
      obtain ⟨y, _, rfl, hy, ha⟩ := pw_cons ha
      obtain ⟨z, _, rfl, hz, ha⟩ := pw_cons ha
      rw [pw_nil ha, hz.int_inv]
      rcases den_sl hy with ⟨rfl, e⟩ | ⟨ys, rfl, hp⟩
      · simp at e
      · have hp : Pw (Pw Den0) [[.int .i32 c]] ys := hp
        cases hp with
        | cons h1 h2 =>
          cases h2
          cases h1 with
          | cons h3 h4 =>
            cases h4
            cases h3
            refine ⟨.slice true 1 (List.replicate n.toNat [.int .i32 c]), RF_ext rfl ?_, .base (.sl _ _ ?_)⟩
            · exact if_pos hc
            · rw [List.map_replicate]
              exact Pw.replicate (.cons (.int _ _) .nil) _
    · cases h
  · cases h
def digL (i : Int) : List Int := (Lib.decDigits i.toNat).map fun b => (b.toNat : Int)
noncomputable def strconv_AppendUint (dst : List Int) (i base : Int) : Option (List Int) := if base = 10 ∧ (0 ≤ i ∧ i < 18446744073709551616) ∧ dst.length + 20 ≤ most then some (dst ++ digL i) else none
theorem pw_digs (i : Int) : Pw (Pw Den0) ((digL i).map by8) (digs i) := by
  unfold digL digs
  rw [List.map_map]
  induction Lib.decDigits i.toNat with
  | nil => exact .nil
  | cons a l ih => exact .cons (.cons (.int _ _) .nil) ih
theorem strconv_AppendUint_ok {dst : List Int} {i base : Int} {r : List Int} (h : strconv_AppendUint dst i base = some r) : CallT true (RF ET) 37 [.sl true 1 (List.map by8 dst), .int .u64 i, .int .i64 base] [] (.sl true 1 (List.map by8 r)) [] := by
  unfold strconv_AppendUint at h
  split at h
  · rename_i hc
    obtain ⟨rfl, h0, hl⟩ := hc
    cases h
    refine CallT.pure fun ρ m a ha => ?_
    obtain ⟨y, _, rfl, hy, ha⟩ := pw_cons ha
    obtain ⟨z, _, rfl, hz, ha⟩ := pw_cons ha
    obtain ⟨z2, _, rfl, hz2, ha⟩ := pw_cons ha
    rw [pw_nil ha, hz.int_inv, hz2.int_inv]
    rcases den_sl hy with ⟨rfl, e⟩ | ⟨ys, rfl, hp⟩
    · have e2 : dst = [] := by simpa using e
      subst e2
      exact ⟨.slice true 1 (digs i), RF_ext rfl (if_pos h0), .base (.sl _ _ (pw_digs i))⟩
    · have hp : Pw (Pw Den0) (dst.map by8) ys := hp
      have hlen : dst.length = ys.length := by simpa using hp.length
      refine ⟨.slice true 1 (ys ++ digs i), RF_ext rfl (if_pos ⟨h0, by omega⟩), .base (.sl _ _ ?_)⟩
      rw [List.map_append]
      exact hp.append (pw_digs i)
  · cases h
structure Reader where
  waits : List Int
def Reader.c (x : Reader) : List TV := [.sl false 1 (List.map by8 x.waits)]
structure ActM where
  Kind : Int
  R : Int
  Final : Int
  Priv : Int
  Inter : List Int
  Params : Option (List Int)
  Text : List Int
def ActM.m (x : ActM) : List TV := [.int .i64 x.Kind, .int .i32 x.R, .int .u8 x.Final, .int .u8 x.Priv, .str x.Inter, tvo 1 ei64 x.Params, .str x.Text]
theorem ActM.flat (x : ActM) : (ActM.m x).all TV.flat0 = true := by
  unfold ActM.m
  cases x.Params <;> rfl
structure Act where
  Kind : Int
  R : Int
  Final : Int
  Priv : Int
  Inter : List Int
  Params : List Int
  Text : List Int
def Act.c (x : Act) : List TV := [.int .i64 x.Kind, .int .i32 x.R, .int .u8 x.Final, .int .u8 x.Priv, .str x.Inter, .sl true 1 (List.map ei64 x.Params), .str x.Text]
def Act.e (x : Act) : List TV := [.int .i64 x.Kind, .int .i32 x.R, .int .u8 x.Final, .int .u8 x.Priv, .str x.Inter, .sl false 1 (List.map ei64 x.Params), .str x.Text]
structure ParserM where
  text : Reader
  in_ : Int
  spoiled : Bool
  first : Bool
  act : ActM
  count : Int
  payload : List Int
  out : List Act
def ParserM.m (x : ParserM) : List TV := [.sl false 1 (List.map by8 x.text.waits), .int .i64 x.in_, .bool x.spoiled, .bool x.first, .int .i64 x.act.Kind, .int .i32 x.act.R, .int .u8 x.act.Final, .int .u8 x.act.Priv, .str x.act.Inter, tvo 1 ei64 x.act.Params, .str x.act.Text, .int .i64 x.count, .sl true 1 (List.map by8 x.payload), .sl true 7 (List.map Act.e x.out)]
theorem ParserM.flat (x : ParserM) : (ParserM.m x).all TV.flat0 = true := by
  unfold ParserM.m
  cases x.act.Params <;> rfl
noncomputable def esc_Parser_say (p : ParserM) (a : Act) : Option ParserM :=
  (app p.out [a]).bind fun x1 =>
  some ({ p with out := x1 })
set_option maxRecDepth 20000 in
theorem esc_Parser_say_ok {p : ParserM} {a : Act} {r : ParserM} (h : esc_Parser_say p a = some r) : CallT false (RF ET) 28 [.ptr 0 0, .agg (Act.e a)] [(ParserM.m p)] (.tuple []) [(ParserM.m r)] := by
  refine con_low (af := a28) rfl rfl ?_
  unfold esc_Parser_say at h
  refine WP_seq ?_
  refine WP_reg [0, 3] [0] ?_
  refine WPO_f ?_
  refine WP_reg [] [0] ?_
  refine WPO_t ?_
  refine ⟨.sl false 1 [], .sl _ _, ?_⟩
  refine ⟨List.map Act.e ([a] : List Act), rfl, ?_⟩
  obtain ⟨x1, hx1, h⟩ := bind_inv h
  refine And.intro (app_le Act.e hx1) ⟨_, app_eq Act.e hx1, ?_⟩
  cases h
  exact ⟨rfl, rfl, rfl, rfl, by simp only [flatM, List.all_cons, List.all_nil, ParserM.flat, Bool.and_self]⟩
noncomputable def esc_Parser_print_l1 (rs : List Int) (t8 : Int) (p' : ParserM) : Option ((Int × ParserM) ⊕ ParserM) :=
  letB (decide (t8 < (rs.length : Int))) fun c1 =>
  bif c1 then (
    (idx rs t8).bind fun x3 =>
    (esc_Parser_say p' (Act.mk 1 x3 0 0 [] [] [])).bind fun y4 =>
    some (.inl (w64 (t8 + 1), y4)))
  else (
    some (.inr p'))
noncomputable def esc_Parser_print (p : ParserM) (rs : List Int) : Option ParserM :=
  (iter (fun s => esc_Parser_print_l1 rs s.1 s.2 : (Int × ParserM) → Option ((Int × ParserM) ⊕ ParserM)) (0, p)).bind fun j5 =>
  some j5
set_option maxRecDepth 20000 in
theorem esc_Parser_print_ok {p : ParserM} {rs : List Int} {r : ParserM} (h : esc_Parser_print p rs = some r) : CallT false (RF ET) 24 [.ptr 0 0, .sl false 1 (List.map ei32 rs)] [(ParserM.m p)] (.tuple []) [(ParserM.m r)] := by
  refine con_low (af := a24) rfl rfl ?_
  unfold esc_Parser_print at h
  refine WP_seq ?_
  refine WP_reg [0, 6, 7, 8] [] ?_
  refine WPO_f ?_
  refine ⟨_, (List.length_map ..).symm, ?_⟩
  refine WP_block ?_
  obtain ⟨j5, hj5, h⟩ := bind_inv h
  refine WP_iter hj5 [] (fun s => ([(0, .ptr 0 0), (6, .sl false 1 (List.map ei32 rs)), (7, .int .i64 (rs.length : Int)), (8, .int .i64 s.1)], [], [(ParserM.m s.2)])) (fun _ => []) (fun _ => []) (fun z => (.exit 0, [], [], [(ParserM.m z)])) ?_ ?_ ?_
  · exact rfl
  · clear h
    rintro ⟨t8, p'⟩ x h
    replace h : esc_Parser_print_l1 rs t8 p' = some x := h
    unfold esc_Parser_print_l1 at h
    show T.WP _ _ [(0, .ptr 0 0), (6, .sl false 1 (List.map ei32 rs)), (7, .int .i64 (rs.length : Int)), (8, .int .i64 t8)] [] [(ParserM.m p')] _
    refine WP_seq ?_
    refine WP_reg [0, 6, 7, 8, 9] [] ?_
    refine WPO_f ?_
    refine fun c1 hc1 => ?_
    replace h := letB_inv hc1 h
    refine WP_seq ?_
    refine WP_cond (b := c1) rfl (fun hb2 => ?_) (fun hb2 => ?_)
    · replace h := bif_t hb2 h
      refine WP_skip ?_
      refine WP_seq ?_
      refine WP_block ?_
      refine WP_seq ?_
      refine WP_reg [0, 5, 6, 7, 8] [] ?_
      refine WPO_f ?_
      obtain ⟨x3, hx3, h⟩ := bind_inv h
      refine And.intro (idx_nn hx3) ⟨_, idx_get ei32 hx3, ?_⟩
      refine WP_reg [0, 6, 7, 8] [] ?_
      refine WPO_f ?_
      refine ⟨.sl true 1 [], .sl _ _, ?_⟩
      obtain ⟨y4, hy4, h⟩ := bind_inv h
      refine ⟨_, _, CallT.sub (i := 0) (esc_Parser_say_ok hy4) rfl _ rfl rfl (ParserM.flat _) (ParserM.flat _), ?_⟩
      refine WP_reg [0, 6, 7, 8] [] ?_
      refine WPO_f ?_
      cases h
      exact ⟨_, rfl, rfl⟩
    · replace h := bif_f hb2 h
      refine WP_exit ?_
      cases h
      exact ⟨_, rfl, rfl⟩
  cases h
  exact ⟨rfl, rfl, rfl, rfl, by simp only [flatM, List.all_cons, List.all_nil, ParserM.flat, Bool.and_self]⟩
noncomputable def esc_state_on (s_ : Int) : Option Nat :=
  letB (decide (s_ = 1)) fun c1 =>
  bif c1 then (
    some 32)
  else (
    letB (decide (s_ = 2)) fun c3 =>
    bif c3 then (
      some 33)
    else (
      letB (decide (s_ = 3)) fun c5 =>
      bif c5 then (
        some 34)
      else (
        letB (decide (s_ = 4)) fun c7 =>
        bif c7 then (
          some 35)
        else (
          some 36))))
set_option maxRecDepth 20000 in
theorem esc_state_on_ok {s_ : Int} {r : Nat} (h : esc_state_on s_ = some r) : CallT true (RF ET) 26 [.int .i64 s_] [] (.func r []) [] := by
  refine CallT.quiet (con_low (af := a26) rfl rfl ?_) rfl
  unfold esc_state_on at h
  refine WP_seq ?_
  refine WP_reg [0] [] ?_
  refine WPO_f ?_
  refine WP_seq ?_
  refine WP_seq ?_
  refine WP_reg [3] [] ?_
  refine WPO_f ?_
  refine WP_block ?_
  refine WP_seq ?_
  refine WP_reg [3, 4] [] ?_
  refine WPO_f ?_
  refine fun c1 hc1 => ?_
  replace h := letB_inv hc1 h
  refine WP_cond (b := c1) rfl (fun hb2 => ?_) (fun hb2 => ?_)
  · replace h := bif_t hb2 h
    refine WP_seq ?_
    refine WP_reg [2] [] ?_
    refine WPO_f ?_
    refine WP_ret ?_
    cases h
    exact ⟨rfl, rfl, rfl, rfl, rfl⟩
  · replace h := bif_f hb2 h
    refine WP_seq ?_
    refine WP_reg [3, 6] [] ?_
    refine WPO_f ?_
    refine fun c3 hc3 => ?_
    replace h := letB_inv hc3 h
    refine WP_cond (b := c3) rfl (fun hb4 => ?_) (fun hb4 => ?_)
    · replace h := bif_t hb4 h
      refine WP_seq ?_
      refine WP_reg [2] [] ?_
      refine WPO_f ?_
      refine WP_ret ?_
      cases h
      exact ⟨rfl, rfl, rfl, rfl, rfl⟩
    · replace h := bif_f hb4 h
      refine WP_seq ?_
      refine WP_reg [3, 8] [] ?_
      refine WPO_f ?_
      refine fun c5 hc5 => ?_
      replace h := letB_inv hc5 h
      refine WP_cond (b := c5) rfl (fun hb6 => ?_) (fun hb6 => ?_)
      · replace h := bif_t hb6 h
        refine WP_seq ?_
        refine WP_reg [2] [] ?_
        refine WPO_f ?_
        refine WP_ret ?_
        cases h
        exact ⟨rfl, rfl, rfl, rfl, rfl⟩
      · replace h := bif_f hb6 h
        refine WP_seq ?_
        refine WP_reg [10] [] ?_
        refine WPO_f ?_
        refine fun c7 hc7 => ?_
        replace h := letB_inv hc7 h
        refine WP_cond (b := c7) rfl (fun hb8 => ?_) (fun hb8 => ?_)
        · replace h := bif_t hb8 h
          refine WP_seq ?_
          refine WP_reg [2] [] ?_
          refine WPO_f ?_
          refine WP_ret ?_
          cases h
          exact ⟨rfl, rfl, rfl, rfl, rfl⟩
        · replace h := bif_f hb8 h
          refine WP_skip ?_
          refine WP_seq ?_
          refine WP_reg [2] [] ?_
          refine WPO_f ?_
          refine WP_ret ?_
          cases h
          exact ⟨rfl, rfl, rfl, rfl, rfl⟩
noncomputable def esc_Parser_begin (p : ParserM) (in_ : Int) : Option ParserM :=
  some (ParserM.mk p.text in_ false true (ActM.mk 0 0 0 0 [] (some []) []) 0 [] p.out)
set_option maxRecDepth 20000 in
theorem esc_Parser_begin_ok {p : ParserM} {in_ : Int} {r : ParserM} (h : esc_Parser_begin p in_ = some r) : CallT false (RF ET) 27 [.ptr 0 0, .int .i64 in_] [(ParserM.m p)] (.tuple []) [(ParserM.m r)] := by
  refine con_low (af := a27) rfl rfl ?_
  unfold esc_Parser_begin at h
  refine WP_seq ?_
  refine WP_reg [0] [] ?_
  refine WPO_f ?_
  refine WP_reg [] [] ?_
  refine WPO_f ?_
  refine ⟨.sl true 1 [], .sl _ _, ?_⟩
  refine ⟨.sl true 1 [], .sl _ _, ?_⟩
  cases h
  exact ⟨rfl, rfl, rfl, rfl, by simp only [flatM, List.all_cons, List.all_nil, ParserM.flat, Bool.and_self]⟩
noncomputable def esc_Parser_inter (p : ParserM) (c : Int) : Option ParserM :=
  letB (decide ((p.act.Inter.length : Int) = 2)) fun c1 =>
  bif c1 then (
    some ({ p with spoiled := true }))
  else (
    (sadd p.act.Inter (runeT (w32 c))).bind fun x3 =>
    some ({ p with act := { p.act with Inter := x3 } }))
set_option maxRecDepth 20000 in
theorem esc_Parser_inter_ok {p : ParserM} {c : Int} {r : ParserM} (h : esc_Parser_inter p c = some r) : CallT false (RF ET) 39 [.ptr 0 0, .int .u8 c] [(ParserM.m p)] (.tuple []) [(ParserM.m r)] := by
  refine con_low (af := a39) rfl rfl ?_
  unfold esc_Parser_inter at h
  refine WP_seq ?_
  refine WP_seq ?_
  refine WP_reg [0, 1, 10] [] ?_
  refine WPO_f ?_
  refine fun c1 hc1 => ?_
  replace h := letB_inv hc1 h
  refine WP_cond (b := c1) rfl (fun hb2 => ?_) (fun hb2 => ?_)
  · replace h := bif_t hb2 h
    refine WP_seq ?_
    refine WP_reg [] [] ?_
    refine WPO_f ?_
    refine WP_ret ?_
    cases h
    exact ⟨rfl, rfl, rfl, rfl, by simp only [flatM, List.all_cons, List.all_nil, ParserM.flat, Bool.and_self]⟩
  · replace h := bif_f hb2 h
    refine WP_skip ?_
    refine WP_reg [] [] ?_
    refine WPO_f ?_
    obtain ⟨x3, hx3, h⟩ := bind_inv h
    refine And.intro (sadd_le hx3) ⟨_, sadd_eq hx3, ?_⟩
    cases h
    exact ⟨rfl, rfl, rfl, rfl, by simp only [flatM, List.all_cons, List.all_nil, ParserM.flat, Bool.and_self]⟩
noncomputable def slices_Index_51_l1 (s_ : List Int) (v : Int) (t8 : Int) : Option (Int ⊕ (Int ⊕ Unit)) :=
  letB (decide (t8 < (s_.length : Int))) fun c1 =>
  bif c1 then (
    (idx s_ t8).bind fun x3 =>
    letB (decide (v = x3)) fun c4 =>
    bif c4 then (
      some (.inr (.inl t8)))
    else (
      some (.inl (w64 (t8 + 1)))))
  else (
    some (.inr (.inr ())))
noncomputable def slices_Index_51 (s_ : List Int) (v : Int) : Option Int :=
  (iter (fun s => slices_Index_51_l1 s_ v s : Int → Option (Int ⊕ (Int ⊕ Unit))) 0).bind fun j6 =>
  match j6 with
  | .inl z7 => (
    some z7)
  | .inr z8 => (
    some (-1))
set_option maxRecDepth 20000 in
theorem slices_Index_51_ok {s_ : List Int} {v : Int} {r : Int} (h : slices_Index_51 s_ v = some r) : CallT true (RF ET) 51 [.sl false 1 (List.map by8 s_), .int .u8 v] [] (.int .i64 r) [] := by
  refine CallT.quiet (con_low (af := a51) rfl rfl ?_) rfl
  unfold slices_Index_51 at h
  refine WP_seq ?_
  refine WP_reg [0, 1] [] ?_
  refine WPO_f ?_
  refine WP_seq ?_
  refine WP_seq ?_
  refine WP_reg [0, 1, 7, 8] [] ?_
  refine WPO_f ?_
  refine ⟨_, (List.length_map ..).symm, ?_⟩
  refine WP_block ?_
  obtain ⟨j6, hj6, h⟩ := bind_inv h
  refine WP_iter hj6 [] (fun s => ([(0, .sl false 1 (List.map by8 s_)), (1, .int .u8 v), (7, .int .i64 (s_.length : Int)), (8, .int .i64 s)], [], [])) (fun e => match e with | .ret => [4] | .exit 0 => [] | _ => []) (fun e => match e with | .ret => [] | .exit 0 => [] | _ => []) (fun r => match r with | .inl z => (.ret, [(4, .int .i64 z)], [], []) | .inr z => (.exit 0, [], [], [])) ?_ ?_ ?_
  · exact rfl
  · clear h
    rintro t8 x h
    replace h : slices_Index_51_l1 s_ v t8 = some x := h
    unfold slices_Index_51_l1 at h
    show T.WP _ _ [(0, .sl false 1 (List.map by8 s_)), (1, .int .u8 v), (7, .int .i64 (s_.length : Int)), (8, .int .i64 t8)] [] [] _
    refine WP_seq ?_
    refine WP_reg [0, 1, 7, 8, 9] [] ?_
    refine WPO_f ?_
    refine fun c1 hc1 => ?_
    replace h := letB_inv hc1 h
    refine WP_seq ?_
    refine WP_cond (b := c1) rfl (fun hb2 => ?_) (fun hb2 => ?_)
    · replace h := bif_t hb2 h
      refine WP_skip ?_
      refine WP_seq ?_
      refine WP_block ?_
      refine WP_seq ?_
      refine WP_reg [0, 1, 5, 7, 8] [] ?_
      refine WPO_f ?_
      refine WP_seq ?_
      refine WP_reg [0, 1, 5, 7, 8, 16] [] ?_
      refine WPO_f ?_
      obtain ⟨x3, hx3, h⟩ := bind_inv h
      refine And.intro (idx_nn hx3) ⟨_, idx_get by8 hx3, ?_⟩
      refine fun c4 hc4 => ?_
      replace h := letB_inv hc4 h
      refine WP_cond (b := c4) rfl (fun hb5 => ?_) (fun hb5 => ?_)
      · replace h := bif_t hb5 h
        refine WP_seq ?_
        refine WP_reg [4] [] ?_
        refine WPO_f ?_
        refine WP_ret ?_
        cases h
        exact ⟨_, rfl, rfl⟩
      · replace h := bif_f hb5 h
        refine WP_skip ?_
        refine WP_reg [0, 1, 7, 8] [] ?_
        refine WPO_f ?_
        cases h
        exact ⟨_, rfl, rfl⟩
    · replace h := bif_f hb2 h
      refine WP_exit ?_
      cases h
      exact ⟨_, rfl, rfl⟩
  rcases j6 with z7 | z8
  · cases h
    exact ⟨rfl, rfl, rfl, rfl, rfl⟩
  · refine WP_seq ?_
    refine WP_reg [4] [] ?_
    refine WPO_f ?_
    refine WP_ret ?_
    cases h
    exact ⟨rfl, rfl, rfl, rfl, rfl⟩
noncomputable def slices_Contains_40 (s_ : List Int) (v : Int) : Option Bool :=
  (slices_Index_51 s_ v).bind fun y1 =>
  letB (decide (y1 ≥ 0)) fun c2 =>
  some c2
set_option maxRecDepth 20000 in
theorem slices_Contains_40_ok {s_ : List Int} {v : Int} {r : Bool} (h : slices_Contains_40 s_ v = some r) : CallT true (RF ET) 40 [.sl false 1 (List.map by8 s_), .int .u8 v] [] (.bool r) [] := by
  refine CallT.quiet (con_low (af := a40) rfl rfl ?_) rfl
  unfold slices_Contains_40 at h
  refine WP_seq ?_
  refine WP_reg [0, 1] [] ?_
  refine WPO_f ?_
  refine WP_seq ?_
  refine WP_reg [4] [] ?_
  refine WPO_f ?_
  obtain ⟨y1, hy1, h⟩ := bind_inv h
  refine ⟨_, _, CallT.any (slices_Index_51_ok hy1) rfl _ rfl, ?_⟩
  refine fun c2 hc2 => ?_
  replace h := letB_inv hc2 h
  refine WP_ret ?_
  cases h
  exact ⟨rfl, rfl, rfl, rfl, rfl⟩
noncomputable def esc_Parser_behind (p : ParserM) (c : Int) : Option ParserM :=
  Option.bind (
    letB (decide (c < 48)) fun c1 =>
    Option.bind (
      bif c1 then (
        (esc_Parser_inter p c).bind fun y3 =>
        some (.inr y3))
      else (
        letB (decide (c = 91)) fun c4 =>
        (bif c4 then (
          letB (decide (p.act.Inter = [])) fun c6 =>
          some (c6)) else some false).bind fun g5 =>
        Option.bind (
          bif g5 then (
            (esc_Parser_begin p 2).bind fun y9 =>
            some (.inr y9))
          else (
            letB (decide (p.act.Inter = [])) fun c10 =>
            (bif c10 then (
              (slices_Contains_40 [93, 80, 88, 94, 95] c).bind fun y12 =>
              some (y12)) else some false).bind fun g11 =>
            Option.bind (
              bif g11 then (
                (esc_Parser_begin p 3).bind fun y15 =>
                some (.inr ({ y15 with act := { y15.act with Final := c } })))
              else (
                letB (decide (c < 127)) fun c16 =>
                (bif c16 then (
                  some ((!p.spoiled))) else some false).bind fun g17 =>
                Option.bind (
                  bif g17 then (
                    (esc_Parser_say p (Act.mk 3 0 c 0 p.act.Inter [] [])).bind fun y20 =>
                    some (y20))
                  else (
                    some (p)) : Option ParserM) fun j21 =>
                some (.inl j21)) : Option (ParserM ⊕ ParserM)) fun j22 =>
            match j22 with
            | .inl z23 => (
              some (.inl z23))
            | .inr z24 => (
              some (.inr z24))) : Option (ParserM ⊕ ParserM)) fun j25 =>
        match j25 with
        | .inl z26 => (
          some (.inl z26))
        | .inr z27 => (
          some (.inr z27))) : Option (ParserM ⊕ ParserM)) fun j28 =>
    match j28 with
    | .inl z29 => (
      some (.inl z29))
    | .inr z30 => (
      some (.inr z30)) : Option (ParserM ⊕ ParserM)) fun j31 =>
  match j31 with
  | .inl z32 => (
    some ({ z32 with in_ := 0 }))
  | .inr z33 => (
    some z33)
set_option maxRecDepth 20000 in
theorem esc_Parser_behind_ok {p : ParserM} {c : Int} {r : ParserM} (h : esc_Parser_behind p c = some r) : CallT false (RF ET) 32 [.ptr 0 0, .int .u8 c] [(ParserM.m p)] (.tuple []) [(ParserM.m r)] := by
  refine con_low (af := a32) rfl rfl ?_
  unfold esc_Parser_behind at h
  refine WP_seq ?_
  obtain ⟨j31, hj31, h⟩ := bind_inv h
  refine WP_cut j31 (fun r => match r with | .inl z => (.normal, [(0, .ptr 0 0)], [], [(ParserM.m z)]) | .inr z => (.ret, [], [], [(ParserM.m z)])) (fun e => match e with | .normal => [0] | .ret => [] | _ => []) (fun e => match e with | .normal => [] | .ret => [] | _ => []) ?_ ?_
  · clear h
    replace h := hj31
    clear hj31
    refine WP_block ?_
    refine WP_seq ?_
    refine WP_reg [0, 1, 4] [] ?_
    refine WPO_f ?_
    refine fun c1 hc1 => ?_
    replace h := letB_inv hc1 h
    obtain ⟨j28, hj28, h⟩ := bind_inv h
    refine WP_cut j28 (fun r => match r with | .inl z => (.normal, [(0, .ptr 0 0)], [], [(ParserM.m z)]) | .inr z => (.ret, [], [], [(ParserM.m z)])) (fun e => match e with | .normal => [0] | .ret => [] | _ => []) (fun e => match e with | .normal => [] | .ret => [] | _ => []) ?_ ?_
    · clear h
      replace h := hj28
      clear hj28
      refine WP_cond (b := c1) rfl (fun hb2 => ?_) (fun hb2 => ?_)
      · replace h := bif_t hb2 h
        refine WP_seq ?_
        refine WP_reg [] [] ?_
        refine WPO_f ?_
        obtain ⟨y3, hy3, h⟩ := bind_inv h
        refine ⟨_, _, CallT.sub (i := 0) (esc_Parser_inter_ok hy3) rfl _ rfl rfl (ParserM.flat _) (ParserM.flat _), ?_⟩
        refine WP_ret ?_
        cases h
        exact rfl
      · replace h := bif_f hb2 h
        refine WP_seq ?_
        refine WP_reg [0, 1, 10] [] ?_
        refine WPO_then 3 ?_
        refine WPO_f ?_
        refine fun c4 hc4 => ?_
        replace h := letB_inv hc4 h
        obtain ⟨g5, hg5, h⟩ := bind_inv h
        refine WPO_grp 7 20 [0, 1, 20] g5 ?_ ?_
        · clear h
          replace h := hg5
          clear hg5
          cases hb7 : c4 with
          | true =>
            replace h := bif_t hb7 h
            refine WPO_f ?_
            refine fun c6 hc6 => ?_
            replace h := letB_inv hc6 h
            cases h
            exact ⟨rfl, rfl, rfl⟩
          | false =>
            replace h := bif_f hb7 h
            cases h
            refine WPO_f ?_
            exact ⟨rfl, rfl, rfl⟩
        refine WPO_f ?_
        obtain ⟨j25, hj25, h⟩ := bind_inv h
        refine WP_cut j25 (fun r => match r with | .inl z => (.normal, [(0, .ptr 0 0)], [], [(ParserM.m z)]) | .inr z => (.ret, [], [], [(ParserM.m z)])) (fun e => match e with | .normal => [0] | .ret => [] | _ => []) (fun e => match e with | .normal => [] | .ret => [] | _ => []) ?_ ?_
        · clear h
          replace h := hj25
          clear hj25
          refine WP_cond (b := g5) rfl (fun hb8 => ?_) (fun hb8 => ?_)
          · replace h := bif_t hb8 h
            refine WP_seq ?_
            refine WP_reg [] [] ?_
            refine WPO_f ?_
            obtain ⟨y9, hy9, h⟩ := bind_inv h
            refine ⟨_, _, CallT.sub (i := 0) (esc_Parser_begin_ok hy9) rfl _ rfl rfl (ParserM.flat _) (ParserM.flat _), ?_⟩
            refine WP_ret ?_
            cases h
            exact rfl
          · replace h := bif_f hb8 h
            refine WP_seq ?_
            refine WP_reg [0, 1, 23] [] ?_
            refine WPO_then 7 ?_
            refine WPO_f ?_
            refine fun c10 hc10 => ?_
            replace h := letB_inv hc10 h
            obtain ⟨g11, hg11, h⟩ := bind_inv h
            refine WPO_grp 5 35 [0, 1, 35] g11 ?_ ?_
            · clear h
              replace h := hg11
              clear hg11
              cases hb13 : c10 with
              | true =>
                replace h := bif_t hb13 h
                refine WPO_f ?_
                refine ⟨List.map by8 ([93, 80, 88, 94, 95] : List Int), rfl, ?_⟩
                refine And.intro (by simp) ?_
                obtain ⟨y12, hy12, h⟩ := bind_inv h
                refine ⟨_, _, CallT.any (slices_Contains_40_ok hy12) rfl _ rfl, ?_⟩
                cases h
                exact ⟨rfl, rfl, rfl⟩
              | false =>
                replace h := bif_f hb13 h
                cases h
                refine WPO_f ?_
                exact ⟨rfl, rfl, rfl⟩
            refine WPO_f ?_
            obtain ⟨j22, hj22, h⟩ := bind_inv h
            refine WP_cut j22 (fun r => match r with | .inl z => (.normal, [(0, .ptr 0 0)], [], [(ParserM.m z)]) | .inr z => (.ret, [], [], [(ParserM.m z)])) (fun e => match e with | .normal => [0] | .ret => [] | _ => []) (fun e => match e with | .normal => [] | .ret => [] | _ => []) ?_ ?_
            · clear h
              replace h := hj22
              clear hj22
              refine WP_cond (b := g11) rfl (fun hb14 => ?_) (fun hb14 => ?_)
              · replace h := bif_t hb14 h
                refine WP_seq ?_
                refine WP_reg [0, 1] [] ?_
                refine WPO_f ?_
                obtain ⟨y15, hy15, h⟩ := bind_inv h
                refine ⟨_, _, CallT.sub (i := 0) (esc_Parser_begin_ok hy15) rfl _ rfl rfl (ParserM.flat _) (ParserM.flat _), ?_⟩
                refine WP_seq ?_
                refine WP_reg [] [] ?_
                refine WPO_f ?_
                refine WP_ret ?_
                cases h
                exact rfl
              · replace h := bif_f hb14 h
                refine WP_seq ?_
                refine WP_reg [0, 1, 43] [] ?_
                refine WPO_then 3 ?_
                refine WPO_f ?_
                refine fun c16 hc16 => ?_
                replace h := letB_inv hc16 h
                obtain ⟨g17, hg17, h⟩ := bind_inv h
                refine WPO_grp 6 52 [0, 1, 52] g17 ?_ ?_
                · clear h
                  replace h := hg17
                  clear hg17
                  cases hb18 : c16 with
                  | true =>
                    replace h := bif_t hb18 h
                    refine WPO_f ?_
                    cases h
                    exact ⟨rfl, rfl, rfl⟩
                  | false =>
                    replace h := bif_f hb18 h
                    cases h
                    refine WPO_f ?_
                    exact ⟨rfl, rfl, rfl⟩
                refine WPO_f ?_
                obtain ⟨j21, hj21, h⟩ := bind_inv h
                refine WP_cut j21 (fun z => (.normal, [(0, .ptr 0 0)], [], [(ParserM.m z)])) (fun _ => [0]) (fun _ => []) ?_ ?_
                · clear h
                  replace h := hj21
                  clear hj21
                  refine WP_cond (b := g17) rfl (fun hb19 => ?_) (fun hb19 => ?_)
                  · replace h := bif_t hb19 h
                    refine WP_reg [0] [] ?_
                    refine WPO_f ?_
                    refine ⟨.sl true 1 [], .sl _ _, ?_⟩
                    obtain ⟨y20, hy20, h⟩ := bind_inv h
                    refine ⟨_, _, CallT.sub (i := 0) (esc_Parser_say_ok hy20) rfl _ rfl rfl (ParserM.flat _) (ParserM.flat _), ?_⟩
                    cases h
                    exact rfl
                  · replace h := bif_f hb19 h
                    refine WP_skip ?_
                    cases h
                    exact rfl
                cases h
                exact rfl
            rcases j22 with z23 | z24
            · cases h
              exact rfl
            · cases h
              exact rfl
        rcases j25 with z26 | z27
        · cases h
          exact rfl
        · cases h
          exact rfl
    rcases j28 with z29 | z30
    · cases h
      exact rfl
    · cases h
      exact rfl
  rcases j31 with z32 | z33
  · refine WP_reg [] [] ?_
    refine WPO_f ?_
    cases h
    exact ⟨rfl, rfl, rfl, rfl, by simp only [flatM, List.all_cons, List.all_nil, ParserM.flat, Bool.and_self]⟩
  · cases h
    exact ⟨rfl, rfl, rfl, rfl, by simp only [flatM, List.all_cons, List.all_nil, ParserM.flat, Bool.and_self]⟩
noncomputable def esc_Parser_end (p : ParserM) (c : Int) : Option ParserM :=
  (p.act.Params).bind fun x1 =>
  Option.bind (
    bif (!p.spoiled) then (
      (esc_Parser_say ({ p with in_ := 0, act := { p.act with Kind := 4, Final := c, Params := none } }) ({ p.act with Kind := 4, Final := c, Params := x1 })).bind fun y3 =>
      some (y3))
    else (
      some ({ p with in_ := 0, act := { p.act with Params := some x1 } })) : Option ParserM) fun j4 =>
  some j4
set_option maxRecDepth 20000 in
theorem esc_Parser_end_ok {p : ParserM} {c : Int} {r : ParserM} (h : esc_Parser_end p c = some r) : CallT false (RF ET) 41 [.ptr 0 0, .int .u8 c] [(ParserM.m p)] (.tuple []) [(ParserM.m r)] := by
  refine con_low (af := a41) rfl rfl ?_
  unfold esc_Parser_end at h
  refine WP_seq ?_
  obtain ⟨x1, hx1, h⟩ := bind_inv h
  show T.WP _ _ _ _ [(ParserM.m p)] _
  rw [show ((ParserM.m p) : List TV) = [.sl false 1 (List.map by8 p.text.waits), .int .i64 p.in_, .bool p.spoiled, .bool p.first, .int .i64 p.act.Kind, .int .i32 p.act.R, .int .u8 p.act.Final, .int .u8 p.act.Priv, .str p.act.Inter, .sl true 1 (List.map ei64 x1), .str p.act.Text, .int .i64 p.count, .sl true 1 (List.map by8 p.payload), .sl true 7 (List.map Act.e p.out)] from by first | (simp only [ParserM.m]; rw [hx1]; rfl) | (rw [hx1]; rfl)]
  refine WP_reg [0, 1] [] ?_
  refine WPO_f ?_
  refine WP_seq ?_
  refine WP_reg [0, 1, 11] [] ?_
  refine WPO_f ?_
  obtain ⟨j4, hj4, h⟩ := bind_inv h
  refine WP_cut j4 (fun z => (.normal, [], [], [(ParserM.m z)])) (fun _ => []) (fun _ => []) ?_ ?_
  · clear h
    replace h := hj4
    clear hj4
    refine WP_cond (b := (!p.spoiled)) rfl (fun hb2 => ?_) (fun hb2 => ?_)
    · replace h := bif_t hb2 h
      refine WP_seq ?_
      refine WP_reg [0] [] ?_
      refine WPO_f ?_
      refine WP_reg [] [] ?_
      refine WPO_f ?_
      obtain ⟨y3, hy3, h⟩ := bind_inv h
      refine ⟨_, _, CallT.sub (i := 0) (esc_Parser_say_ok hy3) rfl _ rfl rfl (ParserM.flat _) (ParserM.flat _), ?_⟩
      cases h
      exact rfl
    · replace h := bif_f hb2 h
      refine WP_skip ?_
      cases h
      exact rfl
  cases h
  exact ⟨rfl, rfl, rfl, rfl, by simp only [flatM, List.all_cons, List.all_nil, ParserM.flat, Bool.and_self]⟩
noncomputable def esc_Parser_number (p : ParserM) (c : Int) : Option ParserM :=
  letB (decide (p.count = 0)) fun c1 =>
  Option.bind (
    bif c1 then (
      some ({ p with act := { p.act with Params := some [(-1)] }, count := 1 }))
    else (
      some (p)) : Option ParserM) fun j3 =>
  (j3.act.Params).bind fun x4 =>
  letB (decide (c = 59)) fun c5 =>
  bif c5 then (
    letB (decide ((w64 (j3.count + 1)) ≤ 16)) fun c7 =>
    Option.bind (
      bif c7 then (
        (app x4 [(-1)]).bind fun x9 =>
        some ({ j3 with act := { j3.act with Params := some x9 }, count := w64 (j3.count + 1) }))
      else (
        some ({ j3 with act := { j3.act with Params := some x4 }, count := w64 (j3.count + 1) })) : Option ParserM) fun j10 =>
    some j10)
  else (
    letB (decide (j3.count ≤ 16)) fun c11 =>
    Option.bind (
      bif c11 then (
        (idx x4 (w64 (j3.count - 1))).bind fun x13 =>
        some ({ j3 with act := { j3.act with Params := some (upI x4 (w64 (j3.count - 1)) (min (w64 ((w64 ((max x13 0) * 10)) + (w64 (w8 (c - 48))))) 9999)) } }))
      else (
        some ({ j3 with act := { j3.act with Params := some x4 } })) : Option ParserM) fun j14 =>
    some j14)
set_option maxRecDepth 20000 in
theorem esc_Parser_number_ok {p : ParserM} {c : Int} {r : ParserM} (h : esc_Parser_number p c = some r) : CallT false (RF ET) 42 [.ptr 0 0, .int .u8 c] [(ParserM.m p)] (.tuple []) [(ParserM.m r)] := by
  refine con_low (af := a42) rfl rfl ?_
  unfold esc_Parser_number at h
  refine WP_seq ?_
  refine WP_seq ?_
  refine WP_reg [0, 1, 9] [] ?_
  refine WPO_f ?_
  refine fun c1 hc1 => ?_
  replace h := letB_inv hc1 h
  obtain ⟨j3, hj3, h⟩ := bind_inv h
  refine WP_cut j3 (fun z => (.normal, [(0, .ptr 0 0), (1, .int .u8 c)], [], [(ParserM.m z)])) (fun _ => [0, 1]) (fun _ => []) ?_ ?_
  · clear h
    replace h := hj3
    clear hj3
    refine WP_cond (b := c1) rfl (fun hb2 => ?_) (fun hb2 => ?_)
    · replace h := bif_t hb2 h
      refine WP_seq ?_
      refine WP_reg [0, 1] [] ?_
      refine WPO_f ?_
      refine WP_reg [0, 1] [] ?_
      refine WPO_f ?_
      refine ⟨List.map ei64 ([(-1)] : List Int), rfl, ?_⟩
      cases h
      exact rfl
    · replace h := bif_f hb2 h
      refine WP_skip ?_
      cases h
      exact rfl
  refine WP_seq ?_
  refine WP_seq ?_
  obtain ⟨x4, hx4, h⟩ := bind_inv h
  show T.WP _ _ _ _ [(ParserM.m j3)] _
  rw [show ((ParserM.m j3) : List TV) = [.sl false 1 (List.map by8 j3.text.waits), .int .i64 j3.in_, .bool j3.spoiled, .bool j3.first, .int .i64 j3.act.Kind, .int .i32 j3.act.R, .int .u8 j3.act.Final, .int .u8 j3.act.Priv, .str j3.act.Inter, .sl true 1 (List.map ei64 x4), .str j3.act.Text, .int .i64 j3.count, .sl true 1 (List.map by8 j3.payload), .sl true 7 (List.map Act.e j3.out)] from by first | (simp only [ParserM.m]; rw [hx4]; rfl) | (rw [hx4]; rfl)]
  refine WP_reg [0, 1, 19] [] ?_
  refine WPO_f ?_
  refine fun c5 hc5 => ?_
  replace h := letB_inv hc5 h
  refine WP_cond (b := c5) rfl (fun hb6 => ?_) (fun hb6 => ?_)
  · replace h := bif_t hb6 h
    refine WP_seq ?_
    refine WP_reg [0] [] ?_
    refine WPO_f ?_
    refine WP_seq ?_
    refine WP_seq ?_
    refine WP_reg [0, 31] [] ?_
    refine WPO_f ?_
    refine fun c7 hc7 => ?_
    replace h := letB_inv hc7 h
    obtain ⟨j10, hj10, h⟩ := bind_inv h
    refine WP_cut j10 (fun z => (.normal, [], [], [(ParserM.m z)])) (fun _ => []) (fun _ => []) ?_ ?_
    · clear h
      replace h := hj10
      clear hj10
      refine WP_cond (b := c7) rfl (fun hb8 => ?_) (fun hb8 => ?_)
      · replace h := bif_t hb8 h
        refine WP_reg [] [] ?_
        refine WPO_f ?_
        refine ⟨List.map ei64 ([(-1)] : List Int), rfl, ?_⟩
        obtain ⟨x9, hx9, h⟩ := bind_inv h
        refine And.intro (app_le ei64 hx9) ⟨_, app_eq ei64 hx9, ?_⟩
        cases h
        exact rfl
      · replace h := bif_f hb8 h
        refine WP_skip ?_
        cases h
        exact rfl
    refine WP_ret ?_
    cases h
    exact ⟨rfl, rfl, rfl, rfl, by simp only [flatM, List.all_cons, List.all_nil, ParserM.flat, Bool.and_self]⟩
  · replace h := bif_f hb6 h
    refine WP_skip ?_
    refine WP_seq ?_
    refine WP_reg [0, 1, 47] [] ?_
    refine WPO_f ?_
    refine fun c11 hc11 => ?_
    replace h := letB_inv hc11 h
    obtain ⟨j14, hj14, h⟩ := bind_inv h
    refine WP_cut j14 (fun z => (.normal, [], [], [(ParserM.m z)])) (fun _ => []) (fun _ => []) ?_ ?_
    · clear h
      replace h := hj14
      clear hj14
      refine WP_cond (b := c11) rfl (fun hb12 => ?_) (fun hb12 => ?_)
      · replace h := bif_t hb12 h
        refine WP_seq ?_
        refine WP_reg [1, 4] [] ?_
        refine WPO_t ?_
        obtain ⟨x13, hx13, h⟩ := bind_inv h
        refine And.intro (idx_len ei64 hx13) ?_
        refine WP_reg [] [] ?_
        refine WPO_f ?_
        refine ⟨_, idx_get ei64 hx13, ?_⟩
        refine ⟨_, idx_get ei64 hx13, ?_⟩
        refine ⟨_, upI_map (e := ei64) (i := w64 (j3.count - 1)) (x := min (w64 ((w64 ((max x13 0) * 10)) + (w64 (w8 (c - 48))))) 9999) rfl, ?_⟩
        cases h
        exact rfl
      · replace h := bif_f hb12 h
        refine WP_skip ?_
        cases h
        exact rfl
    cases h
    exact ⟨rfl, rfl, rfl, rfl, by simp only [flatM, List.all_cons, List.all_nil, ParserM.flat, Bool.and_self]⟩
noncomputable def esc_Parser_sequence (p : ParserM) (c : Int) : Option ParserM :=
  Option.bind (
    letB (decide (c ≥ 128)) fun c1 =>
    Option.bind (
      bif c1 then (
        some ({ p with in_ := 0, first := false }))
      else (
        letB (decide (c < 48)) fun c3 =>
        Option.bind (
          bif c3 then (
            (esc_Parser_inter ({ p with first := false }) c).bind fun y5 =>
            some (y5))
          else (
            letB (decide (c ≥ 64)) fun c6 =>
            Option.bind (
              bif c6 then (
                (esc_Parser_end ({ p with first := false }) c).bind fun y8 =>
                some (y8))
              else (
                letB (decide (c ≥ 60)) fun c9 =>
                (bif c9 then (
                  some (p.first)) else some false).bind fun g10 =>
                Option.bind (
                  bif g10 then (
                    some ({ p with first := false, act := { p.act with Priv := c } }))
                  else (
                    letB (decide (c = 58)) fun c13 =>
                    (bif c13 then some true else (
                      letB (decide (c ≥ 60)) fun c15 =>
                      some (c15))).bind fun g14 =>
                    (bif g14 then some true else (
                      letB (decide (p.act.Inter ≠ [])) fun c18 =>
                      some (c18))).bind fun g17 =>
                    Option.bind (
                      bif g17 then (
                        some ({ p with spoiled := true, first := false }))
                      else (
                        (esc_Parser_number ({ p with first := false }) c).bind fun y21 =>
                        some (y21)) : Option ParserM) fun j22 =>
                    some (j22)) : Option ParserM) fun j23 =>
                some (j23)) : Option ParserM) fun j24 =>
            some (j24)) : Option ParserM) fun j25 =>
        some (j25)) : Option ParserM) fun j26 =>
    some (j26) : Option ParserM) fun j27 =>
  some j27
set_option maxRecDepth 20000 in
theorem esc_Parser_sequence_ok {p : ParserM} {c : Int} {r : ParserM} (h : esc_Parser_sequence p c = some r) : CallT false (RF ET) 33 [.ptr 0 0, .int .u8 c] [(ParserM.m p)] (.tuple []) [(ParserM.m r)] := by
  refine con_low (af := a33) rfl rfl ?_
  unfold esc_Parser_sequence at h
  refine WP_seq ?_
  refine WP_reg [0, 1, 4] [] ?_
  refine WPO_f ?_
  refine WP_seq ?_
  refine WP_reg [0, 1, 4] [] ?_
  refine WPO_f ?_
  obtain ⟨j27, hj27, h⟩ := bind_inv h
  refine WP_cut j27 (fun z => (.normal, [], [], [(ParserM.m z)])) (fun _ => []) (fun _ => []) ?_ ?_
  · clear h
    replace h := hj27
    clear hj27
    refine WP_block ?_
    refine WP_seq ?_
    refine WP_reg [0, 1, 4, 15] [] ?_
    refine WPO_f ?_
    refine fun c1 hc1 => ?_
    replace h := letB_inv hc1 h
    obtain ⟨j26, hj26, h⟩ := bind_inv h
    refine WP_cut j26 (fun z => (.normal, [], [], [(ParserM.m z)])) (fun _ => []) (fun _ => []) ?_ ?_
    · clear h
      replace h := hj26
      clear hj26
      refine WP_cond (b := c1) rfl (fun hb2 => ?_) (fun hb2 => ?_)
      · replace h := bif_t hb2 h
        refine WP_reg [] [] ?_
        refine WPO_f ?_
        cases h
        exact rfl
      · replace h := bif_f hb2 h
        refine WP_seq ?_
        refine WP_reg [0, 1, 4, 21] [] ?_
        refine WPO_f ?_
        refine fun c3 hc3 => ?_
        replace h := letB_inv hc3 h
        obtain ⟨j25, hj25, h⟩ := bind_inv h
        refine WP_cut j25 (fun z => (.normal, [], [], [(ParserM.m z)])) (fun _ => []) (fun _ => []) ?_ ?_
        · clear h
          replace h := hj25
          clear hj25
          refine WP_cond (b := c3) rfl (fun hb4 => ?_) (fun hb4 => ?_)
          · replace h := bif_t hb4 h
            refine WP_reg [] [] ?_
            refine WPO_f ?_
            obtain ⟨y5, hy5, h⟩ := bind_inv h
            refine ⟨_, _, CallT.sub (i := 0) (esc_Parser_inter_ok hy5) rfl _ rfl rfl (ParserM.flat _) (ParserM.flat _), ?_⟩
            cases h
            exact rfl
          · replace h := bif_f hb4 h
            refine WP_seq ?_
            refine WP_reg [0, 1, 4, 27] [] ?_
            refine WPO_f ?_
            refine fun c6 hc6 => ?_
            replace h := letB_inv hc6 h
            obtain ⟨j24, hj24, h⟩ := bind_inv h
            refine WP_cut j24 (fun z => (.normal, [], [], [(ParserM.m z)])) (fun _ => []) (fun _ => []) ?_ ?_
            · clear h
              replace h := hj24
              clear hj24
              refine WP_cond (b := c6) rfl (fun hb7 => ?_) (fun hb7 => ?_)
              · replace h := bif_t hb7 h
                refine WP_reg [] [] ?_
                refine WPO_f ?_
                obtain ⟨y8, hy8, h⟩ := bind_inv h
                refine ⟨_, _, CallT.sub (i := 0) (esc_Parser_end_ok hy8) rfl _ rfl rfl (ParserM.flat _) (ParserM.flat _), ?_⟩
                cases h
                exact rfl
              · replace h := bif_f hb7 h
                refine WP_seq ?_
                refine WP_reg [0, 1, 33] [] ?_
                refine WPO_then 3 ?_
                refine WPO_f ?_
                refine fun c9 hc9 => ?_
                replace h := letB_inv hc9 h
                obtain ⟨g10, hg10, h⟩ := bind_inv h
                refine WPO_grp 2 38 [0, 1, 38] g10 ?_ ?_
                · clear h
                  replace h := hg10
                  clear hg10
                  cases hb11 : c9 with
                  | true =>
                    replace h := bif_t hb11 h
                    refine WPO_f ?_
                    cases h
                    exact ⟨rfl, rfl, rfl⟩
                  | false =>
                    replace h := bif_f hb11 h
                    cases h
                    refine WPO_f ?_
                    exact ⟨rfl, rfl, rfl⟩
                refine WPO_f ?_
                obtain ⟨j23, hj23, h⟩ := bind_inv h
                refine WP_cut j23 (fun z => (.normal, [], [], [(ParserM.m z)])) (fun _ => []) (fun _ => []) ?_ ?_
                · clear h
                  replace h := hj23
                  clear hj23
                  refine WP_cond (b := g10) rfl (fun hb12 => ?_) (fun hb12 => ?_)
                  · replace h := bif_t hb12 h
                    refine WP_reg [] [] ?_
                    refine WPO_f ?_
                    cases h
                    exact rfl
                  · replace h := bif_f hb12 h
                    refine WP_seq ?_
                    refine WP_reg [0, 1, 44] [] ?_
                    refine WPO_then 3 ?_
                    refine WPO_f ?_
                    refine fun c13 hc13 => ?_
                    replace h := letB_inv hc13 h
                    obtain ⟨g14, hg14, h⟩ := bind_inv h
                    refine WPO_grp 3 50 [0, 1, 50] g14 ?_ ?_
                    · clear h
                      replace h := hg14
                      clear hg14
                      cases hb16 : c13 with
                      | false =>
                        replace h := bif_f hb16 h
                        refine WPO_f ?_
                        refine fun c15 hc15 => ?_
                        replace h := letB_inv hc15 h
                        cases h
                        exact ⟨rfl, rfl, rfl⟩
                      | true =>
                        replace h := bif_t hb16 h
                        cases h
                        refine WPO_f ?_
                        exact ⟨rfl, rfl, rfl⟩
                    refine WPO_then 1 ?_
                    refine WPO_f ?_
                    obtain ⟨g17, hg17, h⟩ := bind_inv h
                    refine WPO_grp 7 58 [0, 1, 58] g17 ?_ ?_
                    · clear h
                      replace h := hg17
                      clear hg17
                      cases hb19 : g14 with
                      | false =>
                        replace h := bif_f hb19 h
                        refine WPO_f ?_
                        refine fun c18 hc18 => ?_
                        replace h := letB_inv hc18 h
                        cases h
                        exact ⟨rfl, rfl, rfl⟩
                      | true =>
                        replace h := bif_t hb19 h
                        cases h
                        refine WPO_f ?_
                        exact ⟨rfl, rfl, rfl⟩
                    refine WPO_f ?_
                    obtain ⟨j22, hj22, h⟩ := bind_inv h
                    refine WP_cut j22 (fun z => (.normal, [], [], [(ParserM.m z)])) (fun _ => []) (fun _ => []) ?_ ?_
                    · clear h
                      replace h := hj22
                      clear hj22
                      refine WP_cond (b := g17) rfl (fun hb20 => ?_) (fun hb20 => ?_)
                      · replace h := bif_t hb20 h
                        refine WP_reg [] [] ?_
                        refine WPO_f ?_
                        cases h
                        exact rfl
                      · replace h := bif_f hb20 h
                        refine WP_reg [] [] ?_
                        refine WPO_f ?_
                        obtain ⟨y21, hy21, h⟩ := bind_inv h
                        refine ⟨_, _, CallT.sub (i := 0) (esc_Parser_number_ok hy21) rfl _ rfl rfl (ParserM.flat _) (ParserM.flat _), ?_⟩
                        cases h
                        exact rfl
                    cases h
                    exact rfl
                cases h
                exact rfl
            cases h
            exact rfl
        cases h
        exact rfl
    cases h
    exact rfl
  cases h
  exact ⟨rfl, rfl, rfl, rfl, by simp only [flatM, List.all_cons, List.all_nil, ParserM.flat, Bool.and_self]⟩
noncomputable def esc_Parser_endString (p : ParserM) : Option ParserM :=
  (bstr p.payload).bind fun x1 =>
  (esc_Parser_say ({ p with in_ := 0 }) (Act.mk 5 0 p.act.Final 0 [] [] x1)).bind fun y2 =>
  some y2
set_option maxRecDepth 20000 in
theorem esc_Parser_endString_ok {p : ParserM} {r : ParserM} (h : esc_Parser_endString p = some r) : CallT false (RF ET) 43 [.ptr 0 0] [(ParserM.m p)] (.tuple []) [(ParserM.m r)] := by
  refine con_low (af := a43) rfl rfl ?_
  unfold esc_Parser_endString at h
  refine WP_seq ?_
  refine WP_reg [0] [] ?_
  refine WPO_f ?_
  refine WP_reg [] [] ?_
  refine WPO_t ?_
  obtain ⟨x1, hx1, h⟩ := bind_inv h
  refine ⟨_, bstr_inv hx1, ?_⟩
  refine ⟨.sl true 1 [], .sl _ _, ?_⟩
  obtain ⟨y2, hy2, h⟩ := bind_inv h
  refine ⟨_, _, CallT.sub (i := 0) (esc_Parser_say_ok hy2) rfl _ rfl rfl (ParserM.flat _) (ParserM.flat _), ?_⟩
  cases h
  exact ⟨rfl, rfl, rfl, rfl, by simp only [flatM, List.all_cons, List.all_nil, ParserM.flat, Bool.and_self]⟩
noncomputable def esc_Parser_collect (p : ParserM) (c : Int) : Option ParserM :=
  Option.bind (
    letB (decide (c = 7)) fun c1 =>
    Option.bind (
      bif c1 then (
        (esc_Parser_endString p).bind fun y3 =>
        some (y3))
      else (
        letB (decide (c = 27)) fun c4 =>
        Option.bind (
          bif c4 then (
            some ({ p with in_ := 4 }))
          else (
            letB (decide (c = 24)) fun c6 =>
            (bif c6 then some true else (
              letB (decide (c = 26)) fun c8 =>
              some (c8))).bind fun g7 =>
            Option.bind (
              bif g7 then (
                some ({ p with in_ := 0 }))
              else (
                letB (decide (c ≥ 32)) fun c11 =>
                (bif c11 then (
                  letB (decide ((p.payload.length : Int) < 256)) fun c13 =>
                  some (c13)) else some false).bind fun g12 =>
                Option.bind (
                  bif g12 then (
                    (app p.payload [c]).bind fun x16 =>
                    some ({ p with payload := x16 }))
                  else (
                    some (p)) : Option ParserM) fun j17 =>
                some (j17)) : Option ParserM) fun j18 =>
            some (j18)) : Option ParserM) fun j19 =>
        some (j19)) : Option ParserM) fun j20 =>
    some (j20) : Option ParserM) fun j21 =>
  some j21
set_option maxRecDepth 20000 in
theorem esc_Parser_collect_ok {p : ParserM} {c : Int} {r : ParserM} (h : esc_Parser_collect p c = some r) : CallT false (RF ET) 34 [.ptr 0 0, .int .u8 c] [(ParserM.m p)] (.tuple []) [(ParserM.m r)] := by
  refine con_low (af := a34) rfl rfl ?_
  unfold esc_Parser_collect at h
  obtain ⟨j21, hj21, h⟩ := bind_inv h
  refine WP_cut j21 (fun z => (.normal, [], [], [(ParserM.m z)])) (fun _ => []) (fun _ => []) ?_ ?_
  · clear h
    replace h := hj21
    clear hj21
    refine WP_block ?_
    refine WP_seq ?_
    refine WP_reg [0, 1, 4] [] ?_
    refine WPO_f ?_
    refine fun c1 hc1 => ?_
    replace h := letB_inv hc1 h
    obtain ⟨j20, hj20, h⟩ := bind_inv h
    refine WP_cut j20 (fun z => (.normal, [], [], [(ParserM.m z)])) (fun _ => []) (fun _ => []) ?_ ?_
    · clear h
      replace h := hj20
      clear hj20
      refine WP_cond (b := c1) rfl (fun hb2 => ?_) (fun hb2 => ?_)
      · replace h := bif_t hb2 h
        refine WP_reg [] [] ?_
        refine WPO_f ?_
        obtain ⟨y3, hy3, h⟩ := bind_inv h
        refine ⟨_, _, CallT.sub (i := 0) (esc_Parser_endString_ok hy3) rfl _ rfl rfl (ParserM.flat _) (ParserM.flat _), ?_⟩
        cases h
        exact rfl
      · replace h := bif_f hb2 h
        refine WP_seq ?_
        refine WP_reg [0, 1, 9] [] ?_
        refine WPO_f ?_
        refine fun c4 hc4 => ?_
        replace h := letB_inv hc4 h
        obtain ⟨j19, hj19, h⟩ := bind_inv h
        refine WP_cut j19 (fun z => (.normal, [], [], [(ParserM.m z)])) (fun _ => []) (fun _ => []) ?_ ?_
        · clear h
          replace h := hj19
          clear hj19
          refine WP_cond (b := c4) rfl (fun hb5 => ?_) (fun hb5 => ?_)
          · replace h := bif_t hb5 h
            refine WP_reg [] [] ?_
            refine WPO_f ?_
            cases h
            exact rfl
          · replace h := bif_f hb5 h
            refine WP_seq ?_
            refine WP_reg [0, 1, 15] [] ?_
            refine WPO_then 3 ?_
            refine WPO_f ?_
            refine fun c6 hc6 => ?_
            replace h := letB_inv hc6 h
            obtain ⟨g7, hg7, h⟩ := bind_inv h
            refine WPO_grp 3 21 [0, 1, 21] g7 ?_ ?_
            · clear h
              replace h := hg7
              clear hg7
              cases hb9 : c6 with
              | false =>
                replace h := bif_f hb9 h
                refine WPO_f ?_
                refine fun c8 hc8 => ?_
                replace h := letB_inv hc8 h
                cases h
                exact ⟨rfl, rfl, rfl⟩
              | true =>
                replace h := bif_t hb9 h
                cases h
                refine WPO_f ?_
                exact ⟨rfl, rfl, rfl⟩
            refine WPO_f ?_
            obtain ⟨j18, hj18, h⟩ := bind_inv h
            refine WP_cut j18 (fun z => (.normal, [], [], [(ParserM.m z)])) (fun _ => []) (fun _ => []) ?_ ?_
            · clear h
              replace h := hj18
              clear hj18
              refine WP_cond (b := g7) rfl (fun hb10 => ?_) (fun hb10 => ?_)
              · replace h := bif_t hb10 h
                refine WP_reg [] [] ?_
                refine WPO_f ?_
                cases h
                exact rfl
              · replace h := bif_f hb10 h
                refine WP_seq ?_
                refine WP_reg [0, 1, 25] [] ?_
                refine WPO_then 3 ?_
                refine WPO_f ?_
                refine fun c11 hc11 => ?_
                replace h := letB_inv hc11 h
                obtain ⟨g12, hg12, h⟩ := bind_inv h
                refine WPO_grp 7 35 [0, 1, 35] g12 ?_ ?_
                · clear h
                  replace h := hg12
                  clear hg12
                  cases hb14 : c11 with
                  | true =>
                    replace h := bif_t hb14 h
                    refine WPO_f ?_
                    refine ⟨_, (List.length_map ..).symm, ?_⟩
                    refine fun c13 hc13 => ?_
                    replace h := letB_inv hc13 h
                    cases h
                    exact ⟨rfl, rfl, rfl⟩
                  | false =>
                    replace h := bif_f hb14 h
                    cases h
                    refine WPO_f ?_
                    exact ⟨rfl, rfl, rfl⟩
                refine WPO_f ?_
                obtain ⟨j17, hj17, h⟩ := bind_inv h
                refine WP_cut j17 (fun z => (.normal, [], [], [(ParserM.m z)])) (fun _ => []) (fun _ => []) ?_ ?_
                · clear h
                  replace h := hj17
                  clear hj17
                  refine WP_cond (b := g12) rfl (fun hb15 => ?_) (fun hb15 => ?_)
                  · replace h := bif_t hb15 h
                    refine WP_reg [] [] ?_
                    refine WPO_f ?_
                    refine ⟨List.map by8 ([c] : List Int), rfl, ?_⟩
                    obtain ⟨x16, hx16, h⟩ := bind_inv h
                    refine And.intro (app_le by8 hx16) ⟨_, app_eq by8 hx16, ?_⟩
                    cases h
                    exact rfl
                  · replace h := bif_f hb15 h
                    refine WP_skip ?_
                    cases h
                    exact rfl
                cases h
                exact rfl
            cases h
            exact rfl
        cases h
        exact rfl
    cases h
    exact rfl
  cases h
  exact ⟨rfl, rfl, rfl, rfl, by simp only [flatM, List.all_cons, List.all_nil, ParserM.flat, Bool.and_self]⟩
noncomputable def slices_Clone_52 (l : List Int) : Option (List Int) := app [] l
theorem slices_Clone_52_ok {l r : List Int} (h : slices_Clone_52 l = some r) : CallT true (RF ET) 52 [.sl false 1 (List.map by8 l)] [] (.sl true 1 (List.map by8 r)) [] := by
  refine CallT.quiet (con_low (af := a52) rfl rfl ?_) rfl
  unfold slices_Clone_52 at h
  refine WP_seq ?_
  refine WP_reg [0] [] ?_
  refine WPO_f ?_
  refine ⟨.sl true 1 [], .sl _ _, ?_⟩
  refine WP_seq ?_
  refine WP_seq ?_
  refine WP_reg [0, 4] [] ?_
  refine WPO_f ?_
  refine fun c hc => ?_
  refine WP_cond (b := c) rfl (fun hb => ?_) (fun hb => ?_)
  · have hl : l = [] := List.map_eq_nil_iff.1 (hc hb)
    subst hl
    have hr := app_is h
    simp only [List.append_nil] at hr
    subst hr
    refine WP_seq ?_
    refine WP_reg [2] [] ?_
    refine WPO_f ?_
    refine ⟨.sl true 1 [], .sl _ _, ?_⟩
    refine WP_ret ?_
    exact ⟨rfl, rfl, rfl, rfl, rfl⟩
  refine WP_skip ?_
  refine WP_seq ?_
  refine WP_reg [2] [] ?_
  refine WPO_f ?_
  refine ⟨List.map by8 ([] : List Int), rfl, ?_⟩
  refine And.intro (app_le by8 h) ⟨_, app_eq by8 h, ?_⟩
  refine WP_ret ?_
  exact ⟨rfl, rfl, rfl, rfl, rfl⟩
def tab1L : List Int := [240, 240, 240, 240, 240, 240, 240, 240, 240, 240, 240, 240, 240, 240, 240, 240, 240, 240, 240, 240, 240, 240, 240, 240, 240, 240, 240, 240, 240, 240, 240, 240, 240, 240, 240, 240, 240, 240, 240, 240, 240, 240, 240, 240, 240, 240, 240, 240, 240, 240, 240, 240, 240, 240, 240, 240, 240, 240, 240, 240, 240, 240, 240, 240, 240, 240, 240, 240, 240, 240, 240, 240, 240, 240, 240, 240, 240, 240, 240, 240, 240, 240, 240, 240, 240, 240, 240, 240, 240, 240, 240, 240, 240, 240, 240, 240, 240, 240, 240, 240, 240, 240, 240, 240, 240, 240, 240, 240, 240, 240, 240, 240, 240, 240, 240, 240, 240, 240, 240, 240, 240, 240, 240, 240, 240, 240, 240, 240, 241, 241, 241, 241, 241, 241, 241, 241, 241, 241, 241, 241, 241, 241, 241, 241, 241, 241, 241, 241, 241, 241, 241, 241, 241, 241, 241, 241, 241, 241, 241, 241, 241, 241, 241, 241, 241, 241, 241, 241, 241, 241, 241, 241, 241, 241, 241, 241, 241, 241, 241, 241, 241, 241, 241, 241, 241, 241, 241, 241, 241, 241, 241, 241, 241, 241, 2, 2, 2, 2, 2, 2, 2, 2, 2, 2, 2, 2, 2, 2, 2, 2, 2, 2, 2, 2, 2, 2, 2, 2, 2, 2, 2, 2, 2, 2, 19, 3, 3, 3, 3, 3, 3, 3, 3, 3, 3, 3, 3, 35, 3, 3, 52, 4, 4, 4, 68, 241, 241, 241, 241, 241, 241, 241, 241, 241, 241, 241]
set_option maxRecDepth 100000 in
theorem tab1_get {i : Int} {x : Int} (h : idx tab1L i = some x) : (tab1.map fun cs => cs.map cV0)[i.toNat]? = some (by8 x) := by
  rw [show (tab1.map fun cs => cs.map cV0) = tab1L.map by8 from rfl]
  exact idx_get by8 h
structure AcceptRange where
  lo : Int
  hi : Int
def AcceptRange.c (x : AcceptRange) : List TV := [.int .u8 x.lo, .int .u8 x.hi]
def tab2L : List AcceptRange := [⟨128, 191⟩, ⟨160, 191⟩, ⟨128, 159⟩, ⟨144, 191⟩, ⟨128, 143⟩, ⟨0, 0⟩, ⟨0, 0⟩, ⟨0, 0⟩, ⟨0, 0⟩, ⟨0, 0⟩, ⟨0, 0⟩, ⟨0, 0⟩, ⟨0, 0⟩, ⟨0, 0⟩, ⟨0, 0⟩, ⟨0, 0⟩]
set_option maxRecDepth 100000 in
theorem tab2_get {i : Int} {x : AcceptRange} (h : idx tab2L i = some x) : (tab2.map fun cs => cs.map cV0)[i.toNat]? = some (AcceptRange.c x) := by
  rw [show (tab2.map fun cs => cs.map cV0) = tab2L.map AcceptRange.c from rfl]
  exact idx_get AcceptRange.c h
noncomputable def unicode_utf8_FullRune (p : List Int) : Option Bool :=
  letB (decide ((p.length : Int) = 0)) fun c1 =>
  bif c1 then (
    some false)
  else (
    (idx p 0).bind fun x3 =>
    (idx tab1L x3).bind fun x4 =>
    letB (decide ((p.length : Int) ≥ (w64 (iAnd .u8 x4 7)))) fun c5 =>
    bif c5 then (
      some true)
    else (
      (idx tab2L (iShr .u8 x4 4)).bind fun x7 =>
      letB (decide ((p.length : Int) > 1)) fun c8 =>
      (bif c8 then (
        (idx p 1).bind fun x10 =>
        letB (decide (x10 < x7.lo)) fun c11 =>
        (bif c11 then some true else (
          (idx p 1).bind fun x13 =>
          letB (decide (x7.hi < x13)) fun c14 =>
          some (c14))).bind fun g12 =>
        some (g12)) else some false).bind fun g9 =>
      bif g9 then (
        some true)
      else (
        letB (decide ((p.length : Int) > 2)) fun c18 =>
        (bif c18 then (
          (idx p 2).bind fun x20 =>
          letB (decide (x20 < 128)) fun c21 =>
          (bif c21 then some true else (
            (idx p 2).bind fun x23 =>
            letB (decide (191 < x23)) fun c24 =>
            some (c24))).bind fun g22 =>
          some (g22)) else some false).bind fun g19 =>
        bif g19 then (
          some true)
        else (
          some false))))
set_option maxRecDepth 20000 in
theorem unicode_utf8_FullRune_ok {p : List Int} {r : Bool} (h : unicode_utf8_FullRune p = some r) : CallT true (RF ET) 53 [.sl false 1 (List.map by8 p)] [] (.bool r) [] := by
  refine CallT.quiet (con_low (af := a53) rfl rfl ?_) rfl
  unfold unicode_utf8_FullRune at h
  refine WP_seq ?_
  refine WP_reg [0] [] ?_
  refine WPO_f ?_
  refine WP_seq ?_
  refine WP_reg [0, 3] [] ?_
  refine WPO_f ?_
  refine ⟨_, (List.length_map ..).symm, ?_⟩
  refine WP_seq ?_
  refine WP_seq ?_
  refine WP_reg [0, 3, 9] [] ?_
  refine WPO_f ?_
  refine fun c1 hc1 => ?_
  replace h := letB_inv hc1 h
  refine WP_cond (b := c1) rfl (fun hb2 => ?_) (fun hb2 => ?_)
  · replace h := bif_t hb2 h
    refine WP_seq ?_
    refine WP_reg [2] [] ?_
    refine WPO_f ?_
    refine WP_ret ?_
    cases h
    exact ⟨rfl, rfl, rfl, rfl, rfl⟩
  · replace h := bif_f hb2 h
    refine WP_skip ?_
    refine WP_seq ?_
    refine WP_reg [0, 3, 4] [] ?_
    refine WPO_f ?_
    obtain ⟨x3, hx3, h⟩ := bind_inv h
    refine And.intro (idx_nn hx3) ⟨_, idx_get by8 hx3, ?_⟩
    obtain ⟨x4, hx4, h⟩ := bind_inv h
    refine And.intro (idx_nn hx4) ⟨_, tab1_get hx4, ?_⟩
    refine WP_seq ?_
    refine WP_seq ?_
    refine WP_reg [0, 3, 4, 19] [] ?_
    refine WPO_f ?_
    refine fun c5 hc5 => ?_
    replace h := letB_inv hc5 h
    refine WP_cond (b := c5) rfl (fun hb6 => ?_) (fun hb6 => ?_)
    · replace h := bif_t hb6 h
      refine WP_seq ?_
      refine WP_reg [2] [] ?_
      refine WPO_f ?_
      refine WP_ret ?_
      cases h
      exact ⟨rfl, rfl, rfl, rfl, rfl⟩
    · replace h := bif_f hb6 h
      refine WP_skip ?_
      refine WP_seq ?_
      refine WP_reg [0, 3, 5] [0] ?_
      refine WPO_f ?_
      refine And.intro (by decide) ?_
      obtain ⟨x7, hx7, h⟩ := bind_inv h
      refine And.intro (idx_nn hx7) ⟨_, tab2_get hx7, ?_⟩
      refine WP_seq ?_
      refine WP_seq ?_
      refine WP_reg [0, 3, 41] [0] ?_
      refine WPO_then 3 ?_
      refine WPO_t ?_
      refine fun c8 hc8 => ?_
      replace h := letB_inv hc8 h
      obtain ⟨g9, hg9, h⟩ := bind_inv h
      refine WPO_grp 15 41 [0, 3, 41] g9 ?_ ?_
      · clear h
        replace h := hg9
        clear hg9
        cases hb16 : c8 with
        | true =>
          replace h := bif_t hb16 h
          refine WPO_then 7 ?_
          refine WPO_t ?_
          obtain ⟨x10, hx10, h⟩ := bind_inv h
          refine And.intro (idx_nn hx10) ⟨_, idx_get by8 hx10, ?_⟩
          refine fun c11 hc11 => ?_
          replace h := letB_inv hc11 h
          obtain ⟨g12, hg12, h⟩ := bind_inv h
          refine WPO_grp 7 40 [0, 3, 26, 40] g12 ?_ ?_
          · clear h
            replace h := hg12
            clear hg12
            cases hb15 : c11 with
            | false =>
              replace h := bif_f hb15 h
              refine WPO_t ?_
              obtain ⟨x13, hx13, h⟩ := bind_inv h
              refine And.intro (idx_nn hx13) ⟨_, idx_get by8 hx13, ?_⟩
              refine fun c14 hc14 => ?_
              replace h := letB_inv hc14 h
              cases h
              exact ⟨rfl, rfl, rfl⟩
            | true =>
              replace h := bif_t hb15 h
              cases h
              refine WPO_t ?_
              exact ⟨rfl, rfl, rfl⟩
          refine WPO_t ?_
          cases h
          exact ⟨rfl, rfl, rfl⟩
        | false =>
          replace h := bif_f hb16 h
          cases h
          refine WPO_t ?_
          exact ⟨rfl, rfl, rfl⟩
      refine WPO_t ?_
      refine WP_cond (b := g9) rfl (fun hb17 => ?_) (fun hb17 => ?_)
      · replace h := bif_t hb17 h
        refine WP_seq ?_
        refine WP_reg [2] [0] ?_
        refine WPO_f ?_
        refine WP_ret ?_
        cases h
        exact ⟨rfl, rfl, rfl, rfl, rfl⟩
      · replace h := bif_f hb17 h
        refine WP_seq ?_
        refine WP_reg [55] [0] ?_
        refine WPO_then 3 ?_
        refine WPO_f ?_
        refine fun c18 hc18 => ?_
        replace h := letB_inv hc18 h
        obtain ⟨g19, hg19, h⟩ := bind_inv h
        refine WPO_grp 11 55 [55] g19 ?_ ?_
        · clear h
          replace h := hg19
          clear hg19
          cases hb26 : c18 with
          | true =>
            replace h := bif_t hb26 h
            refine WPO_then 5 ?_
            refine WPO_f ?_
            obtain ⟨x20, hx20, h⟩ := bind_inv h
            refine And.intro (idx_nn hx20) ⟨_, idx_get by8 hx20, ?_⟩
            refine fun c21 hc21 => ?_
            replace h := letB_inv hc21 h
            obtain ⟨g22, hg22, h⟩ := bind_inv h
            refine WPO_grp 5 54 [44, 54] g22 ?_ ?_
            · clear h
              replace h := hg22
              clear hg22
              cases hb25 : c21 with
              | false =>
                replace h := bif_f hb25 h
                refine WPO_f ?_
                obtain ⟨x23, hx23, h⟩ := bind_inv h
                refine And.intro (idx_nn hx23) ⟨_, idx_get by8 hx23, ?_⟩
                refine fun c24 hc24 => ?_
                replace h := letB_inv hc24 h
                cases h
                exact ⟨rfl, rfl, rfl⟩
              | true =>
                replace h := bif_t hb25 h
                cases h
                refine WPO_f ?_
                exact ⟨rfl, rfl, rfl⟩
            refine WPO_f ?_
            cases h
            exact ⟨rfl, rfl, rfl⟩
          | false =>
            replace h := bif_f hb26 h
            cases h
            refine WPO_f ?_
            exact ⟨rfl, rfl, rfl⟩
        refine WPO_f ?_
        refine WP_cond (b := g19) rfl (fun hb27 => ?_) (fun hb27 => ?_)
        · replace h := bif_t hb27 h
          refine WP_seq ?_
          refine WP_reg [2] [0] ?_
          refine WPO_f ?_
          refine WP_ret ?_
          cases h
          exact ⟨rfl, rfl, rfl, rfl, rfl⟩
        · replace h := bif_f hb27 h
          refine WP_skip ?_
          refine WP_seq ?_
          refine WP_reg [2] [0] ?_
          refine WPO_f ?_
          refine WP_ret ?_
          cases h
          exact ⟨rfl, rfl, rfl, rfl, rfl⟩
noncomputable def unicode_utf8_decodeRuneSlow (p : List Int) : Option (Int × Int) :=
  letB (decide ((p.length : Int) < 1)) fun c1 =>
  bif c1 then (
    some (65533, 0))
  else (
    (idx p 0).bind fun x3 =>
    (idx tab1L x3).bind fun x4 =>
    letB (decide (x4 ≥ 240)) fun c5 =>
    bif c5 then (
      (idx p 0).bind fun x7 =>
      some (iOr .i32 (iAndNot .i32 (w32 x7) (iShr .i32 (iShl .i32 (w32 x4) 31) 31)) (iAnd .i32 65533 (iShr .i32 (iShl .i32 (w32 x4) 31) 31)), 1))
    else (
      (idx tab2L (iShr .u8 x4 4)).bind fun x8 =>
      letB (decide ((p.length : Int) < (w64 (iAnd .u8 x4 7)))) fun c9 =>
      bif c9 then (
        some (65533, 1))
      else (
        (idx p 1).bind fun x11 =>
        letB (decide (x11 < x8.lo)) fun c12 =>
        (bif c12 then some true else (
          letB (decide (x8.hi < x11)) fun c14 =>
          some (c14))).bind fun g13 =>
        bif g13 then (
          some (65533, 1))
        else (
          letB (decide ((w64 (iAnd .u8 x4 7)) ≤ 2)) fun c17 =>
          bif c17 then (
            some (iOr .i32 (iShl .i32 (w32 (iAnd .u8 x3 31)) 6) (w32 (iAnd .u8 x11 63)), 2))
          else (
            (idx p 2).bind fun x19 =>
            letB (decide (x19 < 128)) fun c20 =>
            (bif c20 then some true else (
              letB (decide (191 < x19)) fun c22 =>
              some (c22))).bind fun g21 =>
            bif g21 then (
              some (65533, 1))
            else (
              letB (decide ((w64 (iAnd .u8 x4 7)) ≤ 3)) fun c25 =>
              bif c25 then (
                some (iOr .i32 (iOr .i32 (iShl .i32 (w32 (iAnd .u8 x3 15)) 12) (iShl .i32 (w32 (iAnd .u8 x11 63)) 6)) (w32 (iAnd .u8 x19 63)), 3))
              else (
                (idx p 3).bind fun x27 =>
                letB (decide (x27 < 128)) fun c28 =>
                (bif c28 then some true else (
                  letB (decide (191 < x27)) fun c30 =>
                  some (c30))).bind fun g29 =>
                bif g29 then (
                  some (65533, 1))
                else (
                  some (iOr .i32 (iOr .i32 (iOr .i32 (iShl .i32 (w32 (iAnd .u8 x3 7)) 18) (iShl .i32 (w32 (iAnd .u8 x11 63)) 12)) (iShl .i32 (w32 (iAnd .u8 x19 63)) 6)) (w32 (iAnd .u8 x27 63)), 4)))))))))
set_option maxRecDepth 20000 in
theorem unicode_utf8_decodeRuneSlow_ok {p : List Int} {r : Int × Int} (h : unicode_utf8_decodeRuneSlow p = some r) : CallT true (RF ET) 60 [.sl false 1 (List.map by8 p)] [] (.tuple [.int .i32 r.1, .int .i64 r.2]) [] := by
  refine CallT.quiet (con_low (af := a60) rfl rfl ?_) rfl
  unfold unicode_utf8_decodeRuneSlow at h
  refine WP_seq ?_
  refine WP_reg [0] [] ?_
  refine WPO_f ?_
  refine WP_seq ?_
  refine WP_reg [0, 4] [] ?_
  refine WPO_f ?_
  refine ⟨_, (List.length_map ..).symm, ?_⟩
  refine WP_seq ?_
  refine WP_seq ?_
  refine WP_reg [0, 4, 16] [] ?_
  refine WPO_f ?_
  refine fun c1 hc1 => ?_
  replace h := letB_inv hc1 h
  refine WP_cond (b := c1) rfl (fun hb2 => ?_) (fun hb2 => ?_)
  · replace h := bif_t hb2 h
    refine WP_seq ?_
    refine WP_reg [2, 3] [] ?_
    refine WPO_f ?_
    refine WP_ret ?_
    cases h
    exact ⟨rfl, rfl, rfl, rfl, rfl⟩
  · replace h := bif_f hb2 h
    refine WP_skip ?_
    refine WP_seq ?_
    refine WP_reg [0, 4, 5] [] ?_
    refine WPO_f ?_
    obtain ⟨x3, hx3, h⟩ := bind_inv h
    refine And.intro (idx_nn hx3) ⟨_, idx_get by8 hx3, ?_⟩
    refine WP_seq ?_
    refine WP_reg [0, 4, 5, 6] [] ?_
    refine WPO_f ?_
    obtain ⟨x4, hx4, h⟩ := bind_inv h
    refine And.intro (idx_nn hx4) ⟨_, tab1_get hx4, ?_⟩
    refine WP_seq ?_
    refine WP_seq ?_
    refine WP_reg [0, 4, 5, 6, 24] [] ?_
    refine WPO_f ?_
    refine fun c5 hc5 => ?_
    replace h := letB_inv hc5 h
    refine WP_cond (b := c5) rfl (fun hb6 => ?_) (fun hb6 => ?_)
    · replace h := bif_t hb6 h
      refine WP_seq ?_
      refine WP_reg [0, 7] [] ?_
      refine WPO_f ?_
      refine And.intro (by decide) ?_
      refine And.intro (by decide) ?_
      refine WP_seq ?_
      refine WP_reg [2, 3] [] ?_
      refine WPO_f ?_
      obtain ⟨x7, hx7, h⟩ := bind_inv h
      refine And.intro (idx_nn hx7) ⟨_, idx_get by8 hx7, ?_⟩
      refine WP_ret ?_
      cases h
      exact ⟨rfl, rfl, rfl, rfl, rfl⟩
    · replace h := bif_f hb6 h
      refine WP_skip ?_
      refine WP_seq ?_
      refine WP_reg [0, 4, 5, 6, 8] [] ?_
      refine WPO_f ?_
      refine WP_seq ?_
      refine WP_reg [0, 4, 5, 8, 9] [0] ?_
      refine WPO_f ?_
      refine And.intro (by decide) ?_
      obtain ⟨x8, hx8, h⟩ := bind_inv h
      refine And.intro (idx_nn hx8) ⟨_, tab2_get hx8, ?_⟩
      refine WP_seq ?_
      refine WP_seq ?_
      refine WP_reg [0, 5, 8, 9, 47] [0] ?_
      refine WPO_f ?_
      refine fun c9 hc9 => ?_
      replace h := letB_inv hc9 h
      refine WP_cond (b := c9) rfl (fun hb10 => ?_) (fun hb10 => ?_)
      · replace h := bif_t hb10 h
        refine WP_seq ?_
        refine WP_reg [2, 3] [0] ?_
        refine WPO_f ?_
        refine WP_ret ?_
        cases h
        exact ⟨rfl, rfl, rfl, rfl, rfl⟩
      · replace h := bif_f hb10 h
        refine WP_skip ?_
        refine WP_seq ?_
        refine WP_reg [0, 5, 8, 9, 10] [0] ?_
        refine WPO_f ?_
        obtain ⟨x11, hx11, h⟩ := bind_inv h
        refine And.intro (idx_nn hx11) ⟨_, idx_get by8 hx11, ?_⟩
        refine WP_seq ?_
        refine WP_seq ?_
        refine WP_reg [0, 5, 8, 10, 60] [0] ?_
        refine WPO_then 5 ?_
        refine WPO_f ?_
        refine fun c12 hc12 => ?_
        replace h := letB_inv hc12 h
        obtain ⟨g13, hg13, h⟩ := bind_inv h
        refine WPO_grp 5 60 [0, 5, 8, 10, 60] g13 ?_ ?_
        · clear h
          replace h := hg13
          clear hg13
          cases hb15 : c12 with
          | false =>
            replace h := bif_f hb15 h
            refine WPO_f ?_
            refine fun c14 hc14 => ?_
            replace h := letB_inv hc14 h
            cases h
            exact ⟨rfl, rfl, rfl⟩
          | true =>
            replace h := bif_t hb15 h
            cases h
            refine WPO_f ?_
            exact ⟨rfl, rfl, rfl⟩
        refine WPO_f ?_
        refine WP_cond (b := g13) rfl (fun hb16 => ?_) (fun hb16 => ?_)
        · replace h := bif_t hb16 h
          refine WP_seq ?_
          refine WP_reg [2, 3] [0] ?_
          refine WPO_f ?_
          refine WP_ret ?_
          cases h
          exact ⟨rfl, rfl, rfl, rfl, rfl⟩
        · replace h := bif_f hb16 h
          refine WP_skip ?_
          refine WP_seq ?_
          refine WP_seq ?_
          refine WP_reg [0, 5, 8, 10, 62] [0] ?_
          refine WPO_f ?_
          refine fun c17 hc17 => ?_
          replace h := letB_inv hc17 h
          refine WP_cond (b := c17) rfl (fun hb18 => ?_) (fun hb18 => ?_)
          · replace h := bif_t hb18 h
            refine WP_seq ?_
            refine WP_reg [2, 3] [0] ?_
            refine WPO_f ?_
            refine And.intro (by decide) ?_
            refine WP_ret ?_
            cases h
            exact ⟨rfl, rfl, rfl, rfl, rfl⟩
          · replace h := bif_f hb18 h
            refine WP_skip ?_
            refine WP_seq ?_
            refine WP_reg [0, 5, 8, 10, 11] [0] ?_
            refine WPO_f ?_
            obtain ⟨x19, hx19, h⟩ := bind_inv h
            refine And.intro (idx_nn hx19) ⟨_, idx_get by8 hx19, ?_⟩
            refine WP_seq ?_
            refine WP_seq ?_
            refine WP_reg [0, 5, 8, 10, 11, 79] [0] ?_
            refine WPO_then 3 ?_
            refine WPO_f ?_
            refine fun c20 hc20 => ?_
            replace h := letB_inv hc20 h
            obtain ⟨g21, hg21, h⟩ := bind_inv h
            refine WPO_grp 3 79 [0, 5, 8, 10, 11, 79] g21 ?_ ?_
            · clear h
              replace h := hg21
              clear hg21
              cases hb23 : c20 with
              | false =>
                replace h := bif_f hb23 h
                refine WPO_f ?_
                refine fun c22 hc22 => ?_
                replace h := letB_inv hc22 h
                cases h
                exact ⟨rfl, rfl, rfl⟩
              | true =>
                replace h := bif_t hb23 h
                cases h
                refine WPO_f ?_
                exact ⟨rfl, rfl, rfl⟩
            refine WPO_f ?_
            refine WP_cond (b := g21) rfl (fun hb24 => ?_) (fun hb24 => ?_)
            · replace h := bif_t hb24 h
              refine WP_seq ?_
              refine WP_reg [2, 3] [0] ?_
              refine WPO_f ?_
              refine WP_ret ?_
              cases h
              exact ⟨rfl, rfl, rfl, rfl, rfl⟩
            · replace h := bif_f hb24 h
              refine WP_skip ?_
              refine WP_seq ?_
              refine WP_seq ?_
              refine WP_reg [0, 5, 10, 11, 81] [0] ?_
              refine WPO_f ?_
              refine fun c25 hc25 => ?_
              replace h := letB_inv hc25 h
              refine WP_cond (b := c25) rfl (fun hb26 => ?_) (fun hb26 => ?_)
              · replace h := bif_t hb26 h
                refine WP_seq ?_
                refine WP_reg [2, 3] [0] ?_
                refine WPO_f ?_
                refine And.intro (by decide) ?_
                refine And.intro (by decide) ?_
                refine WP_ret ?_
                cases h
                exact ⟨rfl, rfl, rfl, rfl, rfl⟩
              · replace h := bif_f hb26 h
                refine WP_skip ?_
                refine WP_seq ?_
                refine WP_reg [5, 10, 11, 12] [0] ?_
                refine WPO_f ?_
                obtain ⟨x27, hx27, h⟩ := bind_inv h
                refine And.intro (idx_nn hx27) ⟨_, idx_get by8 hx27, ?_⟩
                refine WP_seq ?_
                refine WP_seq ?_
                refine WP_reg [5, 10, 11, 12, 103] [0] ?_
                refine WPO_then 3 ?_
                refine WPO_f ?_
                refine fun c28 hc28 => ?_
                replace h := letB_inv hc28 h
                obtain ⟨g29, hg29, h⟩ := bind_inv h
                refine WPO_grp 3 103 [5, 10, 11, 12, 103] g29 ?_ ?_
                · clear h
                  replace h := hg29
                  clear hg29
                  cases hb31 : c28 with
                  | false =>
                    replace h := bif_f hb31 h
                    refine WPO_f ?_
                    refine fun c30 hc30 => ?_
                    replace h := letB_inv hc30 h
                    cases h
                    exact ⟨rfl, rfl, rfl⟩
                  | true =>
                    replace h := bif_t hb31 h
                    cases h
                    refine WPO_f ?_
                    exact ⟨rfl, rfl, rfl⟩
                refine WPO_f ?_
                refine WP_cond (b := g29) rfl (fun hb32 => ?_) (fun hb32 => ?_)
                · replace h := bif_t hb32 h
                  refine WP_seq ?_
                  refine WP_reg [2, 3] [0] ?_
                  refine WPO_f ?_
                  refine WP_ret ?_
                  cases h
                  exact ⟨rfl, rfl, rfl, rfl, rfl⟩
                · replace h := bif_f hb32 h
                  refine WP_skip ?_
                  refine WP_seq ?_
                  refine WP_reg [2, 3] [0] ?_
                  refine WPO_f ?_
                  refine And.intro (by decide) ?_
                  refine And.intro (by decide) ?_
                  refine And.intro (by decide) ?_
                  refine WP_ret ?_
                  cases h
                  exact ⟨rfl, rfl, rfl, rfl, rfl⟩
noncomputable def unicode_utf8_DecodeRune_l2 (p : List Int) : Option (Unit ⊕ (Int ⊕ Unit)) :=
  letB (decide (0 < (p.length : Int))) fun c1 =>
  bif c1 then (
    (idx p 0).bind fun x3 =>
    letB (decide (x3 < 128)) fun c4 =>
    bif c4 then (
      some (.inr (.inl (w32 x3))))
    else (
      some (.inr (.inr ()))))
  else (
    some (.inr (.inr ())))
noncomputable def unicode_utf8_DecodeRune (p : List Int) : Option (Int × Int) :=
  Option.bind (
    (iter (fun _ => unicode_utf8_DecodeRune_l2 p : Unit → Option (Unit ⊕ (Int ⊕ Unit))) ()).bind fun j6 =>
    match j6 with
    | .inl z7 => (
      some (.inr z7))
    | .inr z8 => (
      some (.inl ())) : Option (Unit ⊕ Int)) fun j9 =>
  match j9 with
  | .inl z10 => (
    (unicode_utf8_decodeRuneSlow p).bind fun y12 =>
    some (y12.1, y12.2))
  | .inr z11 => (
    some (z11, 1))
set_option maxRecDepth 20000 in
theorem unicode_utf8_DecodeRune_ok {p : List Int} {r : Int × Int} (h : unicode_utf8_DecodeRune p = some r) : CallT true (RF ET) 54 [.sl false 1 (List.map by8 p)] [] (.tuple [.int .i32 r.1, .int .i64 r.2]) [] := by
  refine CallT.quiet (con_low (af := a54) rfl rfl ?_) rfl
  unfold unicode_utf8_DecodeRune at h
  refine WP_seq ?_
  refine WP_reg [0] [] ?_
  refine WPO_f ?_
  refine WP_seq ?_
  refine WP_seq ?_
  refine WP_reg [0, 6, 7, 8] [] ?_
  refine WPO_f ?_
  refine ⟨_, (List.length_map ..).symm, ?_⟩
  obtain ⟨j9, hj9, h⟩ := bind_inv h
  refine WP_cut j9 (fun r => match r with | .inl z => (.normal, [(0, .sl false 1 (List.map by8 p))], [], []) | .inr z => (.ret, [(2, .int .i32 z), (3, .int .i64 1)], [], [])) (fun e => match e with | .normal => [0] | .ret => [2, 3] | _ => []) (fun e => match e with | .normal => [] | .ret => [] | _ => []) ?_ ?_
  · clear h
    replace h := hj9
    clear hj9
    refine WP_block ?_
    obtain ⟨j6, hj6, h⟩ := bind_inv h
    refine WP_iter hj6 [] (fun s => ([(0, .sl false 1 (List.map by8 p)), (6, .sl false 1 (List.map by8 p)), (7, .int .i64 (p.length : Int)), (8, .int .i64 0)], [], [])) (fun e => match e with | .ret => [2, 3] | .exit 0 => [0] | _ => []) (fun e => match e with | .ret => [] | .exit 0 => [] | _ => []) (fun r => match r with | .inl z => (.ret, [(2, .int .i32 z), (3, .int .i64 1)], [], []) | .inr z => (.exit 0, [(0, .sl false 1 (List.map by8 p))], [], [])) ?_ ?_ ?_
    · exact rfl
    · clear h
      rintro _ x h
      replace h : unicode_utf8_DecodeRune_l2 p = some x := h
      unfold unicode_utf8_DecodeRune_l2 at h
      show T.WP _ _ [(0, .sl false 1 (List.map by8 p)), (6, .sl false 1 (List.map by8 p)), (7, .int .i64 (p.length : Int)), (8, .int .i64 0)] [] [] _
      refine WP_seq ?_
      refine WP_reg [0, 6, 8, 9] [] ?_
      refine WPO_f ?_
      refine fun c1 hc1 => ?_
      replace h := letB_inv hc1 h
      refine WP_seq ?_
      refine WP_cond (b := c1) rfl (fun hb2 => ?_) (fun hb2 => ?_)
      · replace h := bif_t hb2 h
        refine WP_skip ?_
        refine WP_seq ?_
        refine WP_block ?_
        refine WP_seq ?_
        refine WP_reg [0, 5] [] ?_
        refine WPO_f ?_
        obtain ⟨x3, hx3, h⟩ := bind_inv h
        refine And.intro (idx_nn hx3) ⟨_, idx_get by8 hx3, ?_⟩
        refine WP_seq ?_
        refine WP_seq ?_
        refine WP_reg [0, 5, 13] [] ?_
        refine WPO_f ?_
        refine fun c4 hc4 => ?_
        replace h := letB_inv hc4 h
        refine WP_cond (b := c4) rfl (fun hb5 => ?_) (fun hb5 => ?_)
        · replace h := bif_t hb5 h
          refine WP_seq ?_
          refine WP_reg [2, 3] [] ?_
          refine WPO_f ?_
          refine WP_ret ?_
          cases h
          exact ⟨_, rfl, rfl⟩
        · replace h := bif_f hb5 h
          refine WP_skip ?_
          refine WP_exit ?_
          cases h
          exact ⟨_, rfl, rfl⟩
      · replace h := bif_f hb2 h
        refine WP_exit ?_
        cases h
        exact ⟨_, rfl, rfl⟩
    rcases j6 with z7 | z8
    · cases h
      exact rfl
    · cases h
      exact rfl
  rcases j9 with z10 | z11
  · refine WP_seq ?_
    refine WP_reg [2, 3] [] ?_
    refine WPO_f ?_
    obtain ⟨y12, hy12, h⟩ := bind_inv h
    refine ⟨_, _, CallT.any (unicode_utf8_decodeRuneSlow_ok hy12) rfl _ rfl, ?_⟩
    refine WP_ret ?_
    cases h
    exact ⟨rfl, rfl, rfl, rfl, rfl⟩
  · cases h
    exact ⟨rfl, rfl, rfl, rfl, rfl⟩
noncomputable def glyph_Reader_Feed_in32_0_l1 (out : List Int) (all : List Int) : Option ((List Int × List Int) ⊕ (List Int × List Int)) :=
  (unicode_utf8_FullRune all).bind fun y3 =>
  bif y3 then (
    (unicode_utf8_DecodeRune all).bind fun y5 =>
    (app out [y5.1]).bind fun x6 =>
    (subA all y5.2).bind fun x7 =>
    some (.inl (x6, x7)))
  else (
    some (.inr (out, all)))
noncomputable def glyph_Reader_Feed_in32_0 (r_ : ParserM) (b : List Int) : Option (List Int × ParserM) :=
  (slices_Clone_52 r_.text.waits).bind fun y1 =>
  (app y1 b).bind fun x2 =>
  (iter (fun s => glyph_Reader_Feed_in32_0_l1 s.1 s.2 : (List Int × List Int) → Option ((List Int × List Int) ⊕ (List Int × List Int))) ([], x2)).bind fun j8 =>
  (slices_Clone_52 j8.2).bind fun y9 =>
  some (j8.1, { r_ with text := (Reader.mk y9) })
set_option maxRecDepth 20000 in
theorem glyph_Reader_Feed_in32_0_ok {r_ : ParserM} {b : List Int} {r : List Int × ParserM} (h : glyph_Reader_Feed_in32_0 r_ b = some r) : CallT false (RF ET) 44 [.ptr 0 0, .sl false 1 (List.map by8 b)] [(ParserM.m r_)] (.sl true 1 (List.map ei32 r.1)) [(ParserM.m r.2)] := by
  refine con_low (af := a44) rfl rfl ?_
  unfold glyph_Reader_Feed_in32_0 at h
  refine WP_seq ?_
  refine WP_reg [0, 1] [] ?_
  refine WPO_f ?_
  refine ⟨.sl false 1 [], .sl _ _, ?_⟩
  refine WP_seq ?_
  refine WP_reg [0, 1, 5] [] ?_
  refine WPO_f ?_
  refine ⟨.sl true 1 [], .sl _ _, ?_⟩
  refine WP_seq ?_
  refine WP_reg [0, 5, 6] [] ?_
  refine WPO_f ?_
  obtain ⟨y1, hy1, h⟩ := bind_inv h
  refine ⟨_, _, CallT.any (slices_Clone_52_ok hy1) rfl _ rfl, ?_⟩
  obtain ⟨x2, hx2, h⟩ := bind_inv h
  refine And.intro (app_le by8 hx2) ⟨_, app_eq by8 hx2, ?_⟩
  refine WP_seq ?_
  refine WP_block ?_
  obtain ⟨j8, hj8, h⟩ := bind_inv h
  refine WP_iter hj8 [] (fun s => ([(0, .ptr 0 0), (5, .sl true 1 (List.map ei32 s.1)), (6, .sl false 1 (List.map by8 s.2))], [], [(ParserM.m r_)])) (fun _ => [0, 5, 6]) (fun _ => []) (fun z => (.exit 0, [(0, .ptr 0 0), (5, .sl true 1 (List.map ei32 z.1)), (6, .sl false 1 (List.map by8 z.2))], [], [(ParserM.m r_)])) ?_ ?_ ?_
  · exact rfl
  · clear h
    rintro ⟨out, all⟩ x h
    replace h : glyph_Reader_Feed_in32_0_l1 out all = some x := h
    unfold glyph_Reader_Feed_in32_0_l1 at h
    show T.WP _ _ [(0, .ptr 0 0), (5, .sl true 1 (List.map ei32 out)), (6, .sl false 1 (List.map by8 all))] [] [(ParserM.m r_)] _
    refine WP_seq ?_
    refine WP_seq ?_
    refine WP_reg [0, 5, 6, 17] [] ?_
    refine WPO_f ?_
    obtain ⟨y3, hy3, h⟩ := bind_inv h
    refine ⟨_, _, CallT.any (unicode_utf8_FullRune_ok hy3) rfl _ rfl, ?_⟩
    refine WP_cond (b := y3) rfl (fun hb4 => ?_) (fun hb4 => ?_)
    · replace h := bif_t hb4 h
      refine WP_skip ?_
      refine WP_block ?_
      refine WP_seq ?_
      refine WP_reg [0, 5, 6, 7, 8] [] ?_
      refine WPO_f ?_
      obtain ⟨y5, hy5, h⟩ := bind_inv h
      refine ⟨_, _, CallT.any (unicode_utf8_DecodeRune_ok hy5) rfl _ rfl, ?_⟩
      refine WP_seq ?_
      refine WP_reg [0, 5, 6, 8] [] ?_
      refine WPO_f ?_
      refine ⟨List.map ei32 ([y5.1] : List Int), rfl, ?_⟩
      obtain ⟨x6, hx6, h⟩ := bind_inv h
      refine And.intro (app_le ei32 hx6) ⟨_, app_eq ei32 hx6, ?_⟩
      refine WP_reg [0, 5, 6] [] ?_
      refine WPO_f ?_
      obtain ⟨x7, hx7, h⟩ := bind_inv h
      refine And.intro (subA_a hx7) (And.intro (subA_le by8 hx7) ⟨_, subA_eq by8 hx7, ?_⟩)
      cases h
      exact ⟨_, rfl, rfl⟩
    · replace h := bif_f hb4 h
      refine WP_exit ?_
      cases h
      exact ⟨_, rfl, rfl⟩
  refine WP_seq ?_
  refine WP_reg [5] [] ?_
  refine WPO_f ?_
  obtain ⟨y9, hy9, h⟩ := bind_inv h
  refine ⟨_, _, CallT.any (slices_Clone_52_ok hy9) rfl _ rfl, ?_⟩
  refine WP_seq ?_
  refine WP_reg [4] [] ?_
  refine WPO_f ?_
  refine WP_ret ?_
  cases h
  exact ⟨rfl, rfl, rfl, rfl, by simp only [flatM, List.all_cons, List.all_nil, ParserM.flat, Bool.and_self]⟩
noncomputable def esc_Parser_plain (p : ParserM) (c : Int) : Option ParserM :=
  (glyph_Reader_Feed_in32_0 p [c]).bind fun y1 =>
  (esc_Parser_print y1.2 y1.1).bind fun y2 =>
  some y2
set_option maxRecDepth 20000 in
theorem esc_Parser_plain_ok {p : ParserM} {c : Int} {r : ParserM} (h : esc_Parser_plain p c = some r) : CallT false (RF ET) 36 [.ptr 0 0, .int .u8 c] [(ParserM.m p)] (.tuple []) [(ParserM.m r)] := by
  refine con_low (af := a36) rfl rfl ?_
  unfold esc_Parser_plain at h
  refine WP_reg [] [] ?_
  refine WPO_f ?_
  refine ⟨List.map by8 ([c] : List Int), rfl, ?_⟩
  obtain ⟨y1, hy1, h⟩ := bind_inv h
  refine ⟨_, _, CallT.sub (i := 0) (glyph_Reader_Feed_in32_0_ok hy1) rfl _ rfl rfl (ParserM.flat _) (ParserM.flat _), ?_⟩
  obtain ⟨y2, hy2, h⟩ := bind_inv h
  refine ⟨_, _, CallT.sub (i := 0) (esc_Parser_print_ok hy2) rfl _ rfl rfl (ParserM.flat _) (ParserM.flat _), ?_⟩
  cases h
  exact ⟨rfl, rfl, rfl, rfl, by simp only [flatM, List.all_cons, List.all_nil, ParserM.flat, Bool.and_self]⟩
noncomputable def glyph_Reader_Rest_in32_0 (r_ : ParserM) : Option (List Int × ParserM) :=
  (slices_Repeat_31 [65533] (r_.text.waits.length : Int)).bind fun y1 =>
  some (y1, { r_ with text := (Reader.mk []) })
set_option maxRecDepth 20000 in
theorem glyph_Reader_Rest_in32_0_ok {r_ : ParserM} {r : List Int × ParserM} (h : glyph_Reader_Rest_in32_0 r_ = some r) : CallT false (RF ET) 25 [.ptr 0 0] [(ParserM.m r_)] (.sl false 1 (List.map ei32 r.1)) [(ParserM.m r.2)] := by
  refine con_low (af := a25) rfl rfl ?_
  unfold glyph_Reader_Rest_in32_0 at h
  refine WP_seq ?_
  refine WP_reg [0] [] ?_
  refine WPO_f ?_
  refine ⟨.sl false 1 [], .sl _ _, ?_⟩
  refine WP_seq ?_
  refine WP_reg [0, 3] [] ?_
  refine WPO_f ?_
  refine ⟨List.map ei32 ([65533] : List Int), rfl, ?_⟩
  refine ⟨_, (List.length_map ..).symm, ?_⟩
  obtain ⟨y1, hy1, h⟩ := bind_inv h
  refine ⟨_, _, CallT.any (slices_Repeat_31_ok hy1) rfl _ rfl, ?_⟩
  refine WP_seq ?_
  refine WP_reg [3] [] ?_
  refine WPO_f ?_
  refine ⟨.sl false 1 [], .sl _ _, ?_⟩
  refine WP_seq ?_
  refine WP_reg [2] [] ?_
  refine WPO_f ?_
  refine WP_ret ?_
  cases h
  exact ⟨rfl, rfl, rfl, rfl, by simp only [flatM, List.all_cons, List.all_nil, ParserM.flat, Bool.and_self]⟩
noncomputable def esc_Parser_byteF (rec18 : ParserM → Int → Option ParserM) (rec35 : ParserM → Int → Option ParserM) (p : ParserM) (c : Int) : Option ParserM :=
  letB (decide (c < 32)) fun c1 =>
  (bif c1 then some true else (
    letB (decide (c = 127)) fun c3 =>
    some (c3))).bind fun g2 =>
  Option.bind (
    bif g2 then (
      (glyph_Reader_Rest_in32_0 p).bind fun y6 =>
      (esc_Parser_print y6.2 y6.1).bind fun y7 =>
      some (y7))
    else (
      some (p)) : Option ParserM) fun j8 =>
  Option.bind (
    letB (decide (j8.in_ = 3)) fun c9 =>
    (bif c9 then some true else (
      letB (decide (j8.in_ = 4)) fun c11 =>
      some (c11))).bind fun g10 =>
    Option.bind (
      bif g10 then (
        (esc_state_on j8.in_).bind fun y14 =>
        ((bif decide (y14 = 32) then esc_Parser_behind j8 c else bif decide (y14 = 33) then esc_Parser_sequence j8 c else bif decide (y14 = 34) then esc_Parser_collect j8 c else bif decide (y14 = 35) then rec35 j8 c else bif decide (y14 = 36) then esc_Parser_plain j8 c else none : Option ParserM)).bind fun y15 =>
        some (y15))
      else (
        letB (decide (c = 24)) fun c17 =>
        (bif c17 then some true else (
          letB (decide (c = 26)) fun c19 =>
          some (c19))).bind fun g18 =>
        Option.bind (
          bif g18 then (
            some ({ j8 with in_ := 0 }))
          else (
            letB (decide (c = 27)) fun c22 =>
            Option.bind (
              bif c22 then (
                (esc_Parser_begin j8 1).bind fun y24 =>
                some (y24))
              else (
                letB (decide (c < 32)) fun c25 =>
                Option.bind (
                  bif c25 then (
                    (esc_Parser_say j8 (Act.mk 2 0 c 0 [] [] [])).bind fun y27 =>
                    some (y27))
                  else (
                    letB (decide (c ≠ 127)) fun c28 =>
                    Option.bind (
                      bif c28 then (
                        (esc_state_on j8.in_).bind fun y30 =>
                        ((bif decide (y30 = 32) then esc_Parser_behind j8 c else bif decide (y30 = 33) then esc_Parser_sequence j8 c else bif decide (y30 = 34) then esc_Parser_collect j8 c else bif decide (y30 = 35) then rec35 j8 c else bif decide (y30 = 36) then esc_Parser_plain j8 c else none : Option ParserM)).bind fun y31 =>
                        some (y31))
                      else (
                        some (j8)) : Option ParserM) fun j33 =>
                    some (j33)) : Option ParserM) fun j34 =>
                some (j34)) : Option ParserM) fun j35 =>
            some (j35)) : Option ParserM) fun j36 =>
        some (j36)) : Option ParserM) fun j37 =>
    some (j37) : Option ParserM) fun j38 =>
  some j38
set_option maxRecDepth 20000 in
theorem esc_Parser_byteF_ok {rec18 : ParserM → Int → Option ParserM} {rec35 : ParserM → Int → Option ParserM} (rec18_ok : ∀ (a0 : ParserM) (a1 : Int) (r : ParserM), rec18 a0 a1 = some r → CallT false (RF ET) 18 [.ptr 0 0, .int .u8 a1] [(ParserM.m a0)] (.tuple []) [(ParserM.m r)]) (rec35_ok : ∀ (a0 : ParserM) (a1 : Int) (r : ParserM), rec35 a0 a1 = some r → CallT false (RF ET) 35 [.ptr 0 0, .int .u8 a1] [(ParserM.m a0)] (.tuple []) [(ParserM.m r)]) {p : ParserM} {c : Int} {r : ParserM} (h : esc_Parser_byteF rec18 rec35 p c = some r) : CallT false (RF ET) 18 [.ptr 0 0, .int .u8 c] [(ParserM.m p)] (.tuple []) [(ParserM.m r)] := by
  refine con_low (af := a18) rfl rfl ?_
  unfold esc_Parser_byteF at h
  refine WP_seq ?_
  refine WP_seq ?_
  refine WP_reg [0, 1, 9] [] ?_
  refine WPO_then 3 ?_
  refine WPO_f ?_
  refine fun c1 hc1 => ?_
  replace h := letB_inv hc1 h
  obtain ⟨g2, hg2, h⟩ := bind_inv h
  refine WPO_grp 3 9 [0, 1, 9] g2 ?_ ?_
  · clear h
    replace h := hg2
    clear hg2
    cases hb4 : c1 with
    | false =>
      replace h := bif_f hb4 h
      refine WPO_f ?_
      refine fun c3 hc3 => ?_
      replace h := letB_inv hc3 h
      cases h
      exact ⟨rfl, rfl, rfl⟩
    | true =>
      replace h := bif_t hb4 h
      cases h
      refine WPO_f ?_
      exact ⟨rfl, rfl, rfl⟩
  refine WPO_f ?_
  obtain ⟨j8, hj8, h⟩ := bind_inv h
  refine WP_cut j8 (fun z => (.normal, [(0, .ptr 0 0), (1, .int .u8 c)], [], [(ParserM.m z)])) (fun _ => [0, 1]) (fun _ => []) ?_ ?_
  · clear h
    replace h := hj8
    clear hj8
    refine WP_cond (b := g2) rfl (fun hb5 => ?_) (fun hb5 => ?_)
    · replace h := bif_t hb5 h
      refine WP_reg [0, 1] [] ?_
      refine WPO_f ?_
      obtain ⟨y6, hy6, h⟩ := bind_inv h
      refine ⟨_, _, CallT.sub (i := 0) (glyph_Reader_Rest_in32_0_ok hy6) rfl _ rfl rfl (ParserM.flat _) (ParserM.flat _), ?_⟩
      obtain ⟨y7, hy7, h⟩ := bind_inv h
      refine ⟨_, _, CallT.sub (i := 0) (esc_Parser_print_ok hy7) rfl _ rfl rfl (ParserM.flat _) (ParserM.flat _), ?_⟩
      cases h
      exact rfl
    · replace h := bif_f hb5 h
      refine WP_skip ?_
      cases h
      exact rfl
  obtain ⟨j38, hj38, h⟩ := bind_inv h
  refine WP_cut j38 (fun z => (.normal, [], [], [(ParserM.m z)])) (fun _ => []) (fun _ => []) ?_ ?_
  · clear h
    replace h := hj38
    clear hj38
    refine WP_block ?_
    refine WP_seq ?_
    refine WP_reg [0, 1, 16] [] ?_
    refine WPO_then 6 ?_
    refine WPO_f ?_
    refine fun c9 hc9 => ?_
    replace h := letB_inv hc9 h
    obtain ⟨g10, hg10, h⟩ := bind_inv h
    refine WPO_grp 6 28 [0, 1, 28] g10 ?_ ?_
    · clear h
      replace h := hg10
      clear hg10
      cases hb12 : c9 with
      | false =>
        replace h := bif_f hb12 h
        refine WPO_f ?_
        refine fun c11 hc11 => ?_
        replace h := letB_inv hc11 h
        cases h
        exact ⟨rfl, rfl, rfl⟩
      | true =>
        replace h := bif_t hb12 h
        cases h
        refine WPO_f ?_
        exact ⟨rfl, rfl, rfl⟩
    refine WPO_f ?_
    obtain ⟨j37, hj37, h⟩ := bind_inv h
    refine WP_cut j37 (fun z => (.normal, [], [], [(ParserM.m z)])) (fun _ => []) (fun _ => []) ?_ ?_
    · clear h
      replace h := hj37
      clear hj37
      refine WP_cond (b := g10) rfl (fun hb13 => ?_) (fun hb13 => ?_)
      · replace h := bif_t hb13 h
        refine WP_reg [] [] ?_
        refine WPO_f ?_
        obtain ⟨y14, hy14, h⟩ := bind_inv h
        refine ⟨_, _, CallT.any (esc_state_on_ok hy14) rfl _ rfl, ?_⟩
        refine And.intro rfl ?_
        obtain ⟨y15, hy15, h⟩ := bind_inv h
        have d16 : ∀ {r : ParserM}, (bif decide (y14 = 32) then esc_Parser_behind j8 c else bif decide (y14 = 33) then esc_Parser_sequence j8 c else bif decide (y14 = 34) then esc_Parser_collect j8 c else bif decide (y14 = 35) then rec35 j8 c else bif decide (y14 = 36) then esc_Parser_plain j8 c else none : Option ParserM) = some r → CallT false (RF ET) y14 [.ptr 0 0, .int .u8 c] [(ParserM.m j8)] (.tuple []) [(ParserM.m r)] := by
          intro r h
          by_cases hq : y14 = 32
          · rw [hq] at h ⊢
            exact esc_Parser_behind_ok h
          replace h := bif_f (decide_eq_false hq) h
          by_cases hq : y14 = 33
          · rw [hq] at h ⊢
            exact esc_Parser_sequence_ok h
          replace h := bif_f (decide_eq_false hq) h
          by_cases hq : y14 = 34
          · rw [hq] at h ⊢
            exact esc_Parser_collect_ok h
          replace h := bif_f (decide_eq_false hq) h
          by_cases hq : y14 = 35
          · rw [hq] at h ⊢
            exact rec35_ok _ _ _ h
          replace h := bif_f (decide_eq_false hq) h
          by_cases hq : y14 = 36
          · rw [hq] at h ⊢
            exact esc_Parser_plain_ok h
          replace h := bif_f (decide_eq_false hq) h
          cases h
        refine ⟨_, _, CallT.sub (i := 0) (d16 hy15) rfl _ rfl rfl (ParserM.flat _) (ParserM.flat _), ?_⟩
        cases h
        exact rfl
      · replace h := bif_f hb13 h
        refine WP_seq ?_
        refine WP_reg [0, 1, 37] [] ?_
        refine WPO_then 3 ?_
        refine WPO_f ?_
        refine fun c17 hc17 => ?_
        replace h := letB_inv hc17 h
        obtain ⟨g18, hg18, h⟩ := bind_inv h
        refine WPO_grp 3 43 [0, 1, 43] g18 ?_ ?_
        · clear h
          replace h := hg18
          clear hg18
          cases hb20 : c17 with
          | false =>
            replace h := bif_f hb20 h
            refine WPO_f ?_
            refine fun c19 hc19 => ?_
            replace h := letB_inv hc19 h
            cases h
            exact ⟨rfl, rfl, rfl⟩
          | true =>
            replace h := bif_t hb20 h
            cases h
            refine WPO_f ?_
            exact ⟨rfl, rfl, rfl⟩
        refine WPO_f ?_
        obtain ⟨j36, hj36, h⟩ := bind_inv h
        refine WP_cut j36 (fun z => (.normal, [], [], [(ParserM.m z)])) (fun _ => []) (fun _ => []) ?_ ?_
        · clear h
          replace h := hj36
          clear hj36
          refine WP_cond (b := g18) rfl (fun hb21 => ?_) (fun hb21 => ?_)
          · replace h := bif_t hb21 h
            refine WP_reg [] [] ?_
            refine WPO_f ?_
            cases h
            exact rfl
          · replace h := bif_f hb21 h
            refine WP_seq ?_
            refine WP_reg [0, 1, 47] [] ?_
            refine WPO_f ?_
            refine fun c22 hc22 => ?_
            replace h := letB_inv hc22 h
            obtain ⟨j35, hj35, h⟩ := bind_inv h
            refine WP_cut j35 (fun z => (.normal, [], [], [(ParserM.m z)])) (fun _ => []) (fun _ => []) ?_ ?_
            · clear h
              replace h := hj35
              clear hj35
              refine WP_cond (b := c22) rfl (fun hb23 => ?_) (fun hb23 => ?_)
              · replace h := bif_t hb23 h
                refine WP_reg [] [] ?_
                refine WPO_f ?_
                obtain ⟨y24, hy24, h⟩ := bind_inv h
                refine ⟨_, _, CallT.sub (i := 0) (esc_Parser_begin_ok hy24) rfl _ rfl rfl (ParserM.flat _) (ParserM.flat _), ?_⟩
                cases h
                exact rfl
              · replace h := bif_f hb23 h
                refine WP_seq ?_
                refine WP_reg [0, 1, 52] [] ?_
                refine WPO_f ?_
                refine fun c25 hc25 => ?_
                replace h := letB_inv hc25 h
                obtain ⟨j34, hj34, h⟩ := bind_inv h
                refine WP_cut j34 (fun z => (.normal, [], [], [(ParserM.m z)])) (fun _ => []) (fun _ => []) ?_ ?_
                · clear h
                  replace h := hj34
                  clear hj34
                  refine WP_cond (b := c25) rfl (fun hb26 => ?_) (fun hb26 => ?_)
                  · replace h := bif_t hb26 h
                    refine WP_reg [] [] ?_
                    refine WPO_f ?_
                    refine ⟨.sl true 1 [], .sl _ _, ?_⟩
                    obtain ⟨y27, hy27, h⟩ := bind_inv h
                    refine ⟨_, _, CallT.sub (i := 0) (esc_Parser_say_ok hy27) rfl _ rfl rfl (ParserM.flat _) (ParserM.flat _), ?_⟩
                    cases h
                    exact rfl
                  · replace h := bif_f hb26 h
                    refine WP_seq ?_
                    refine WP_reg [0, 1, 59] [] ?_
                    refine WPO_f ?_
                    refine fun c28 hc28 => ?_
                    replace h := letB_inv hc28 h
                    obtain ⟨j33, hj33, h⟩ := bind_inv h
                    refine WP_cut j33 (fun z => (.normal, [], [], [(ParserM.m z)])) (fun _ => []) (fun _ => []) ?_ ?_
                    · clear h
                      replace h := hj33
                      clear hj33
                      refine WP_cond (b := c28) rfl (fun hb29 => ?_) (fun hb29 => ?_)
                      · replace h := bif_t hb29 h
                        refine WP_reg [] [] ?_
                        refine WPO_f ?_
                        obtain ⟨y30, hy30, h⟩ := bind_inv h
                        refine ⟨_, _, CallT.any (esc_state_on_ok hy30) rfl _ rfl, ?_⟩
                        refine And.intro rfl ?_
                        obtain ⟨y31, hy31, h⟩ := bind_inv h
                        have d32 : ∀ {r : ParserM}, (bif decide (y30 = 32) then esc_Parser_behind j8 c else bif decide (y30 = 33) then esc_Parser_sequence j8 c else bif decide (y30 = 34) then esc_Parser_collect j8 c else bif decide (y30 = 35) then rec35 j8 c else bif decide (y30 = 36) then esc_Parser_plain j8 c else none : Option ParserM) = some r → CallT false (RF ET) y30 [.ptr 0 0, .int .u8 c] [(ParserM.m j8)] (.tuple []) [(ParserM.m r)] := by
                          intro r h
                          by_cases hq : y30 = 32
                          · rw [hq] at h ⊢
                            exact esc_Parser_behind_ok h
                          replace h := bif_f (decide_eq_false hq) h
                          by_cases hq : y30 = 33
                          · rw [hq] at h ⊢
                            exact esc_Parser_sequence_ok h
                          replace h := bif_f (decide_eq_false hq) h
                          by_cases hq : y30 = 34
                          · rw [hq] at h ⊢
                            exact esc_Parser_collect_ok h
                          replace h := bif_f (decide_eq_false hq) h
                          by_cases hq : y30 = 35
                          · rw [hq] at h ⊢
                            exact rec35_ok _ _ _ h
                          replace h := bif_f (decide_eq_false hq) h
                          by_cases hq : y30 = 36
                          · rw [hq] at h ⊢
                            exact esc_Parser_plain_ok h
                          replace h := bif_f (decide_eq_false hq) h
                          cases h
                        refine ⟨_, _, CallT.sub (i := 0) (d32 hy31) rfl _ rfl rfl (ParserM.flat _) (ParserM.flat _), ?_⟩
                        cases h
                        exact rfl
                      · replace h := bif_f hb29 h
                        refine WP_skip ?_
                        cases h
                        exact rfl
                    cases h
                    exact rfl
                cases h
                exact rfl
            cases h
            exact rfl
        cases h
        exact rfl
    cases h
    exact rfl
  cases h
  exact ⟨rfl, rfl, rfl, rfl, by simp only [flatM, List.all_cons, List.all_nil, ParserM.flat, Bool.and_self]⟩
noncomputable def esc_Parser_endsF (rec18 : ParserM → Int → Option ParserM) (rec35 : ParserM → Int → Option ParserM) (p : ParserM) (c : Int) : Option ParserM :=
  letB (decide (c = 92)) fun c1 =>
  bif c1 then (
    (esc_Parser_endString p).bind fun y3 =>
    some y3)
  else (
    (esc_Parser_begin p 1).bind fun y4 =>
    (rec18 y4 c).bind fun y5 =>
    some y5)
set_option maxRecDepth 20000 in
theorem esc_Parser_endsF_ok {rec18 : ParserM → Int → Option ParserM} {rec35 : ParserM → Int → Option ParserM} (rec18_ok : ∀ (a0 : ParserM) (a1 : Int) (r : ParserM), rec18 a0 a1 = some r → CallT false (RF ET) 18 [.ptr 0 0, .int .u8 a1] [(ParserM.m a0)] (.tuple []) [(ParserM.m r)]) (rec35_ok : ∀ (a0 : ParserM) (a1 : Int) (r : ParserM), rec35 a0 a1 = some r → CallT false (RF ET) 35 [.ptr 0 0, .int .u8 a1] [(ParserM.m a0)] (.tuple []) [(ParserM.m r)]) {p : ParserM} {c : Int} {r : ParserM} (h : esc_Parser_endsF rec18 rec35 p c = some r) : CallT false (RF ET) 35 [.ptr 0 0, .int .u8 c] [(ParserM.m p)] (.tuple []) [(ParserM.m r)] := by
  refine con_low (af := a35) rfl rfl ?_
  unfold esc_Parser_endsF at h
  refine WP_seq ?_
  refine WP_seq ?_
  refine WP_reg [0, 1, 5] [] ?_
  refine WPO_f ?_
  refine fun c1 hc1 => ?_
  replace h := letB_inv hc1 h
  refine WP_cond (b := c1) rfl (fun hb2 => ?_) (fun hb2 => ?_)
  · replace h := bif_t hb2 h
    refine WP_seq ?_
    refine WP_reg [] [] ?_
    refine WPO_f ?_
    obtain ⟨y3, hy3, h⟩ := bind_inv h
    refine ⟨_, _, CallT.sub (i := 0) (esc_Parser_endString_ok hy3) rfl _ rfl rfl (ParserM.flat _) (ParserM.flat _), ?_⟩
    refine WP_ret ?_
    cases h
    exact ⟨rfl, rfl, rfl, rfl, by simp only [flatM, List.all_cons, List.all_nil, ParserM.flat, Bool.and_self]⟩
  · replace h := bif_f hb2 h
    refine WP_skip ?_
    refine WP_seq ?_
    refine WP_reg [0, 1] [] ?_
    refine WPO_f ?_
    obtain ⟨y4, hy4, h⟩ := bind_inv h
    refine ⟨_, _, CallT.sub (i := 0) (esc_Parser_begin_ok hy4) rfl _ rfl rfl (ParserM.flat _) (ParserM.flat _), ?_⟩
    refine WP_reg [] [] ?_
    refine WPO_f ?_
    obtain ⟨y5, hy5, h⟩ := bind_inv h
    refine ⟨_, _, CallT.sub (i := 0) (rec18_ok _ _ _ hy5) rfl _ rfl rfl (ParserM.flat _) (ParserM.flat _), ?_⟩
    cases h
    exact ⟨rfl, rfl, rfl, rfl, by simp only [flatM, List.all_cons, List.all_nil, ParserM.flat, Bool.and_self]⟩
noncomputable def esc_Parser_byteG : Nat → (ParserM → Int → Option ParserM) × (ParserM → Int → Option ParserM)
  | 0 => (fun _ _ => none, fun _ _ => none)
  | k + 1 => (esc_Parser_byteF ((esc_Parser_byteG k).1) ((esc_Parser_byteG k).2), esc_Parser_endsF ((esc_Parser_byteG k).1) ((esc_Parser_byteG k).2))
theorem esc_Parser_byteG_ok : ∀ k, (∀ (a0 : ParserM) (a1 : Int) (r : ParserM), ((esc_Parser_byteG k).1) a0 a1 = some r → CallT false (RF ET) 18 [.ptr 0 0, .int .u8 a1] [(ParserM.m a0)] (.tuple []) [(ParserM.m r)]) ∧ (∀ (a0 : ParserM) (a1 : Int) (r : ParserM), ((esc_Parser_byteG k).2) a0 a1 = some r → CallT false (RF ET) 35 [.ptr 0 0, .int .u8 a1] [(ParserM.m a0)] (.tuple []) [(ParserM.m r)])
  | 0 => ⟨(fun _ _ _ h => by cases h), (fun _ _ _ h => by cases h)⟩
  | k + 1 => ⟨(fun _ _ _ h => esc_Parser_byteF_ok ((esc_Parser_byteG_ok k).1) ((esc_Parser_byteG_ok k).2) h), (fun _ _ _ h => esc_Parser_endsF_ok ((esc_Parser_byteG_ok k).1) ((esc_Parser_byteG_ok k).2) h)⟩
noncomputable def esc_Parser_byte (a0 : ParserM) (a1 : Int) : Option ParserM := (esc_Parser_byteG 3).1 a0 a1
theorem esc_Parser_byte_ok {a0 : ParserM} {a1 : Int} {r : ParserM} (h : esc_Parser_byte a0 a1 = some r) : CallT false (RF ET) 18 [.ptr 0 0, .int .u8 a1] [(ParserM.m a0)] (.tuple []) [(ParserM.m r)] := (esc_Parser_byteG_ok 3).1 a0 a1 r h
noncomputable def esc_Parser_Feed_l1 (b : List Int) (t13 : Int) (p' : ParserM) : Option ((Int × ParserM) ⊕ ParserM) :=
  letB (decide (t13 < (b.length : Int))) fun c1 =>
  bif c1 then (
    (idx b t13).bind fun x3 =>
    (esc_Parser_byte p' x3).bind fun y4 =>
    some (.inl (w64 (t13 + 1), y4)))
  else (
    some (.inr p'))
noncomputable def esc_Parser_Feed (p : ParserM) (b : List Int) : Option (List Act × ParserM) :=
  (iter (fun s => esc_Parser_Feed_l1 b s.1 s.2 : (Int × ParserM) → Option ((Int × ParserM) ⊕ ParserM)) (0, { p with out := [] })).bind fun j5 =>
  some (j5.out, { j5 with out := [] })
set_option maxRecDepth 20000 in
theorem esc_Parser_Feed_ok {p : ParserM} {b : List Int} {r : List Act × ParserM} (h : esc_Parser_Feed p b = some r) : CallT false (RF ET) 10 [.ptr 0 0, .sl false 1 (List.map by8 b)] [(ParserM.m p)] (.sl false 7 (List.map Act.e r.1)) [(ParserM.m r.2)] := by
  refine con_low (af := a10) rfl rfl ?_
  unfold esc_Parser_Feed at h
  refine WP_seq ?_
  refine WP_reg [0, 1] [] ?_
  refine WPO_f ?_
  refine ⟨.sl false 7 [], .sl _ _, ?_⟩
  refine WP_seq ?_
  refine WP_reg [0, 1] [] ?_
  refine WPO_f ?_
  refine ⟨.sl true 7 [], .sl _ _, ?_⟩
  refine WP_seq ?_
  refine WP_seq ?_
  refine WP_reg [0, 11, 12, 13] [] ?_
  refine WPO_f ?_
  refine ⟨_, (List.length_map ..).symm, ?_⟩
  refine WP_block ?_
  obtain ⟨j5, hj5, h⟩ := bind_inv h
  refine WP_iter hj5 [] (fun s => ([(0, .ptr 0 0), (11, .sl false 1 (List.map by8 b)), (12, .int .i64 (b.length : Int)), (13, .int .i64 s.1)], [], [(ParserM.m s.2)])) (fun _ => [0]) (fun _ => []) (fun z => (.exit 0, [(0, .ptr 0 0)], [], [(ParserM.m z)])) ?_ ?_ ?_
  · exact rfl
  · clear h
    rintro ⟨t13, p'⟩ x h
    replace h : esc_Parser_Feed_l1 b t13 p' = some x := h
    unfold esc_Parser_Feed_l1 at h
    show T.WP _ _ [(0, .ptr 0 0), (11, .sl false 1 (List.map by8 b)), (12, .int .i64 (b.length : Int)), (13, .int .i64 t13)] [] [(ParserM.m p')] _
    refine WP_seq ?_
    refine WP_reg [0, 11, 12, 13, 14] [] ?_
    refine WPO_f ?_
    refine fun c1 hc1 => ?_
    replace h := letB_inv hc1 h
    refine WP_seq ?_
    refine WP_cond (b := c1) rfl (fun hb2 => ?_) (fun hb2 => ?_)
    · replace h := bif_t hb2 h
      refine WP_skip ?_
      refine WP_seq ?_
      refine WP_block ?_
      refine WP_seq ?_
      refine WP_reg [0, 6, 11, 12, 13] [] ?_
      refine WPO_f ?_
      obtain ⟨x3, hx3, h⟩ := bind_inv h
      refine And.intro (idx_nn hx3) ⟨_, idx_get by8 hx3, ?_⟩
      refine WP_reg [0, 11, 12, 13] [] ?_
      refine WPO_f ?_
      obtain ⟨y4, hy4, h⟩ := bind_inv h
      refine ⟨_, _, CallT.sub (i := 0) (esc_Parser_byte_ok hy4) rfl _ rfl rfl (ParserM.flat _) (ParserM.flat _), ?_⟩
      refine WP_reg [0, 11, 12, 13] [] ?_
      refine WPO_f ?_
      cases h
      exact ⟨_, rfl, rfl⟩
    · replace h := bif_f hb2 h
      refine WP_exit ?_
      cases h
      exact ⟨_, rfl, rfl⟩
  refine WP_seq ?_
  refine WP_reg [0, 7] [] ?_
  refine WPO_f ?_
  refine WP_seq ?_
  refine WP_reg [7] [] ?_
  refine WPO_f ?_
  refine ⟨.sl true 7 [], .sl _ _, ?_⟩
  refine WP_seq ?_
  refine WP_reg [4] [] ?_
  refine WPO_f ?_
  refine WP_ret ?_
  cases h
  exact ⟨rfl, rfl, rfl, rfl, by simp only [flatM, List.all_cons, List.all_nil, ParserM.flat, Bool.and_self]⟩
noncomputable def glyph_Reader_Waits_in32_0 (r_ : ParserM) : Option Int :=
  some (r_.text.waits.length : Int)
set_option maxRecDepth 20000 in
theorem glyph_Reader_Waits_in32_0_ok {r_ : ParserM} {r : Int} (h : glyph_Reader_Waits_in32_0 r_ = some r) : CallT false (RF ET) 19 [.ptr 0 0] [(ParserM.m r_)] (.int .i64 r) [(ParserM.m r_)] := by
  refine con_low (af := a19) rfl rfl ?_
  unfold glyph_Reader_Waits_in32_0 at h
  refine WP_seq ?_
  refine WP_reg [0] [] ?_
  refine WPO_f ?_
  refine WP_seq ?_
  refine WP_reg [2] [] ?_
  refine WPO_f ?_
  refine ⟨_, (List.length_map ..).symm, ?_⟩
  refine WP_ret ?_
  cases h
  exact ⟨rfl, rfl, rfl, rfl, by simp only [flatM, List.all_cons, List.all_nil, ParserM.flat, Bool.and_self]⟩
noncomputable def esc_Parser_Idle (p : ParserM) : Option Bool :=
  letB (decide (p.in_ = 0)) fun c1 =>
  (bif c1 then (
    (glyph_Reader_Waits_in32_0 p).bind fun y3 =>
    letB (decide (y3 = 0)) fun c4 =>
    some (c4)) else some false).bind fun g2 =>
  some g2
set_option maxRecDepth 20000 in
theorem esc_Parser_Idle_ok {p : ParserM} {r : Bool} (h : esc_Parser_Idle p = some r) : CallT false (RF ET) 12 [.ptr 0 0] [(ParserM.m p)] (.bool r) [(ParserM.m p)] := by
  refine con_low (af := a12) rfl rfl ?_
  unfold esc_Parser_Idle at h
  refine WP_seq ?_
  refine WP_reg [0] [] ?_
  refine WPO_f ?_
  refine WP_seq ?_
  refine WP_reg [2] [] ?_
  refine WPO_then 6 ?_
  refine WPO_f ?_
  refine fun c1 hc1 => ?_
  replace h := letB_inv hc1 h
  obtain ⟨g2, hg2, h⟩ := bind_inv h
  refine WPO_grp 6 14 [14] g2 ?_ ?_
  · clear h
    replace h := hg2
    clear hg2
    cases hb5 : c1 with
    | true =>
      replace h := bif_t hb5 h
      refine WPO_f ?_
      obtain ⟨y3, hy3, h⟩ := bind_inv h
      refine ⟨_, _, CallT.sub (i := 0) (glyph_Reader_Waits_in32_0_ok hy3) rfl _ rfl rfl (ParserM.flat _) (ParserM.flat _), ?_⟩
      refine fun c4 hc4 => ?_
      replace h := letB_inv hc4 h
      cases h
      exact ⟨rfl, rfl, rfl⟩
    | false =>
      replace h := bif_f hb5 h
      cases h
      refine WPO_f ?_
      exact ⟨rfl, rfl, rfl⟩
  refine WPO_f ?_
  refine WP_ret ?_
  cases h
  exact ⟨rfl, rfl, rfl, rfl, by simp only [flatM, List.all_cons, List.all_nil, ParserM.flat, Bool.and_self]⟩
noncomputable def internal_strconv_AppendInt (dst : List Int) (i : Int) (base : Int) : Option (List Int) :=
  letB (decide (i < 0)) fun c1 =>
  Option.bind (
    bif c1 then (
      (app dst [45]).bind fun x3 =>
      some ((x3, wu64 (0 - (wu64 i)))))
    else (
      some ((dst, wu64 i))) : Option (List Int × Int)) fun j4 =>
  (strconv_AppendUint j4.1 j4.2 base).bind fun y5 =>
  some y5
set_option maxRecDepth 20000 in
theorem internal_strconv_AppendInt_ok {dst : List Int} {i : Int} {base : Int} {r : List Int} (h : internal_strconv_AppendInt dst i base = some r) : CallT true (RF ET) 29 [.sl true 1 (List.map by8 dst), .int .i64 i, .int .i64 base] [] (.sl true 1 (List.map by8 r)) [] := by
  refine CallT.quiet (con_low (af := a29) rfl rfl ?_) rfl
  unfold internal_strconv_AppendInt at h
  refine WP_seq ?_
  refine WP_reg [0, 1, 2] [] ?_
  refine WPO_f ?_
  refine ⟨.sl false 1 [], .sl _ _, ?_⟩
  refine WP_seq ?_
  refine WP_reg [0, 1, 2, 7] [] ?_
  refine WPO_f ?_
  refine WP_seq ?_
  refine WP_seq ?_
  refine WP_reg [0, 2, 7, 11] [] ?_
  refine WPO_f ?_
  refine fun c1 hc1 => ?_
  replace h := letB_inv hc1 h
  obtain ⟨j4, hj4, h⟩ := bind_inv h
  refine WP_cut j4 (fun z => (.normal, [(0, .sl true 1 (List.map by8 z.1)), (2, .int .i64 base), (7, .int .u64 z.2)], [], [])) (fun _ => [0, 2, 7]) (fun _ => []) ?_ ?_
  · clear h
    replace h := hj4
    clear hj4
    refine WP_cond (b := c1) rfl (fun hb2 => ?_) (fun hb2 => ?_)
    · replace h := bif_t hb2 h
      refine WP_seq ?_
      refine WP_reg [0, 2, 7] [] ?_
      refine WPO_f ?_
      refine ⟨List.map by8 ([45] : List Int), rfl, ?_⟩
      obtain ⟨x3, hx3, h⟩ := bind_inv h
      refine And.intro (app_le by8 hx3) ⟨_, app_eq by8 hx3, ?_⟩
      refine WP_reg [0, 2, 7] [] ?_
      refine WPO_f ?_
      cases h
      exact rfl
    · replace h := bif_f hb2 h
      refine WP_skip ?_
      cases h
      exact rfl
  refine WP_seq ?_
  refine WP_reg [6] [] ?_
  refine WPO_f ?_
  obtain ⟨y5, hy5, h⟩ := bind_inv h
  refine ⟨_, _, CallT.any (strconv_AppendUint_ok hy5) rfl _ rfl, ?_⟩
  refine WP_ret ?_
  cases h
  exact ⟨rfl, rfl, rfl, rfl, rfl⟩
noncomputable def strconv_AppendInt (dst : List Int) (i : Int) (base : Int) : Option (List Int) :=
  (internal_strconv_AppendInt dst i base).bind fun y1 =>
  some y1
set_option maxRecDepth 20000 in
theorem strconv_AppendInt_ok {dst : List Int} {i : Int} {base : Int} {r : List Int} (h : strconv_AppendInt dst i base = some r) : CallT true (RF ET) 20 [.sl true 1 (List.map by8 dst), .int .i64 i, .int .i64 base] [] (.sl true 1 (List.map by8 r)) [] := by
  refine CallT.quiet (con_low (af := a20) rfl rfl ?_) rfl
  unfold strconv_AppendInt at h
  refine WP_seq ?_
  refine WP_reg [0, 1, 2] [] ?_
  refine WPO_f ?_
  refine ⟨.sl false 1 [], .sl _ _, ?_⟩
  refine WP_seq ?_
  refine WP_reg [6] [] ?_
  refine WPO_f ?_
  obtain ⟨y1, hy1, h⟩ := bind_inv h
  refine ⟨_, _, CallT.any (internal_strconv_AppendInt_ok hy1) rfl _ rfl, ?_⟩
  refine WP_ret ?_
  cases h
  exact ⟨rfl, rfl, rfl, rfl, rfl⟩
noncomputable def esc_Csi_l1 (x5 : List Int) (out : List Int) (t23 : Int) : Option ((List Int × Int) ⊕ List Int) :=
  letB (decide (t23 < (x5.length : Int))) fun c6 =>
  bif c6 then (
    Option.bind (
      (idx x5 t23).bind fun x8 =>
      letB (decide (t23 > 0)) fun c9 =>
      Option.bind (
        bif c9 then (
          (app out [59]).bind fun x11 =>
          some (x11))
        else (
          some (out)) : Option (List Int)) fun j12 =>
      letB (decide (x8 ≥ 0)) fun c13 =>
      Option.bind (
        bif c13 then (
          (strconv_AppendInt j12 (min x8 9999) 10).bind fun y15 =>
          some (y15))
        else (
          some (j12)) : Option (List Int)) fun j16 =>
      some (j16) : Option (List Int)) fun j17 =>
    some (.inl (j17, w64 (t23 + 1))))
  else (
    some (.inr out))
noncomputable def esc_Csi (priv : Int) (params : List Int) (final : Int) : Option (List Int) :=
  letB (decide (priv ≠ 0)) fun c1 =>
  Option.bind (
    bif c1 then (
      (app [27, 91] [priv]).bind fun x3 =>
      some (x3))
    else (
      some ([27, 91])) : Option (List Int)) fun j4 =>
  (subB params (min (params.length : Int) 16)).bind fun x5 =>
  (iter (fun s => esc_Csi_l1 x5 s.1 s.2 : (List Int × Int) → Option ((List Int × Int) ⊕ List Int)) (j4, 0)).bind fun j18 =>
  (app j18 [final]).bind fun x19 =>
  some x19
set_option maxRecDepth 20000 in
theorem esc_Csi_ok {priv : Int} {params : List Int} {final : Int} {r : List Int} (h : esc_Csi priv params final = some r) : CallT true (RF ET) 13 [.int .u8 priv, .sl false 1 (List.map ei64 params), .int .u8 final] [] (.sl true 1 (List.map by8 r)) [] := by
  refine CallT.quiet (con_low (af := a13) rfl rfl ?_) rfl
  unfold esc_Csi at h
  refine WP_seq ?_
  refine WP_reg [0, 1, 2] [] ?_
  refine WPO_f ?_
  refine ⟨.sl false 1 [], .sl _ _, ?_⟩
  refine WP_seq ?_
  refine WP_reg [0, 1, 2, 7] [] ?_
  refine WPO_f ?_
  refine ⟨List.map by8 ([27, 91] : List Int), rfl, ?_⟩
  refine WP_seq ?_
  refine WP_seq ?_
  refine WP_reg [0, 1, 2, 7, 12] [] ?_
  refine WPO_f ?_
  refine fun c1 hc1 => ?_
  replace h := letB_inv hc1 h
  obtain ⟨j4, hj4, h⟩ := bind_inv h
  refine WP_cut j4 (fun z => (.normal, [(1, .sl false 1 (List.map ei64 params)), (2, .int .u8 final), (7, .sl true 1 (List.map by8 z))], [], [])) (fun _ => [1, 2, 7]) (fun _ => []) ?_ ?_
  · clear h
    replace h := hj4
    clear hj4
    refine WP_cond (b := c1) rfl (fun hb2 => ?_) (fun hb2 => ?_)
    · replace h := bif_t hb2 h
      refine WP_reg [1, 2, 7] [] ?_
      refine WPO_f ?_
      refine ⟨List.map by8 ([priv] : List Int), rfl, ?_⟩
      obtain ⟨x3, hx3, h⟩ := bind_inv h
      refine And.intro (app_le by8 hx3) ⟨_, app_eq by8 hx3, ?_⟩
      cases h
      exact rfl
    · replace h := bif_f hb2 h
      refine WP_skip ?_
      cases h
      exact rfl
  refine WP_seq ?_
  refine WP_seq ?_
  refine WP_reg [2, 7, 21, 22, 23] [] ?_
  refine WPO_f ?_
  refine ⟨_, (List.length_map ..).symm, ?_⟩
  obtain ⟨x5, hx5, h⟩ := bind_inv h
  refine And.intro (subB_b hx5) (And.intro (subB_le ei64 hx5) ⟨_, subB_eq ei64 hx5, ?_⟩)
  refine ⟨_, (List.length_map ..).symm, ?_⟩
  refine WP_block ?_
  obtain ⟨j18, hj18, h⟩ := bind_inv h
  refine WP_iter hj18 [] (fun s => ([(2, .int .u8 final), (7, .sl true 1 (List.map by8 s.1)), (21, .sl false 1 (List.map ei64 x5)), (22, .int .i64 (x5.length : Int)), (23, .int .i64 s.2)], [], [])) (fun _ => [2, 7]) (fun _ => []) (fun z => (.exit 0, [(2, .int .u8 final), (7, .sl true 1 (List.map by8 z))], [], [])) ?_ ?_ ?_
  · exact rfl
  · clear h
    rintro ⟨out, t23⟩ x h
    replace h : esc_Csi_l1 x5 out t23 = some x := h
    unfold esc_Csi_l1 at h
    show T.WP _ _ [(2, .int .u8 final), (7, .sl true 1 (List.map by8 out)), (21, .sl false 1 (List.map ei64 x5)), (22, .int .i64 (x5.length : Int)), (23, .int .i64 t23)] [] [] _
    refine WP_seq ?_
    refine WP_reg [2, 7, 21, 22, 23, 24] [] ?_
    refine WPO_f ?_
    refine fun c6 hc6 => ?_
    replace h := letB_inv hc6 h
    refine WP_seq ?_
    refine WP_cond (b := c6) rfl (fun hb7 => ?_) (fun hb7 => ?_)
    · replace h := bif_t hb7 h
      refine WP_skip ?_
      refine WP_seq ?_
      obtain ⟨j17, hj17, h⟩ := bind_inv h
      refine WP_cut j17 (fun z => (.normal, [(2, .int .u8 final), (7, .sl true 1 (List.map by8 z)), (21, .sl false 1 (List.map ei64 x5)), (22, .int .i64 (x5.length : Int)), (23, .int .i64 t23)], [], [])) (fun _ => [2, 7, 21, 22, 23]) (fun _ => []) ?_ ?_
      · clear h
        replace h := hj17
        clear hj17
        refine WP_block ?_
        refine WP_seq ?_
        refine WP_reg [2, 7, 8, 9, 21, 22, 23] [] ?_
        refine WPO_f ?_
        obtain ⟨x8, hx8, h⟩ := bind_inv h
        refine And.intro (idx_nn hx8) ⟨_, idx_get ei64 hx8, ?_⟩
        refine WP_seq ?_
        refine WP_seq ?_
        refine WP_reg [2, 7, 9, 21, 22, 23, 29] [] ?_
        refine WPO_f ?_
        refine fun c9 hc9 => ?_
        replace h := letB_inv hc9 h
        obtain ⟨j12, hj12, h⟩ := bind_inv h
        refine WP_cut j12 (fun z => (.normal, [(2, .int .u8 final), (7, .sl true 1 (List.map by8 z)), (9, .int .i64 x8), (21, .sl false 1 (List.map ei64 x5)), (22, .int .i64 (x5.length : Int)), (23, .int .i64 t23)], [], [])) (fun _ => [2, 7, 9, 21, 22, 23]) (fun _ => []) ?_ ?_
        · clear h
          replace h := hj12
          clear hj12
          refine WP_cond (b := c9) rfl (fun hb10 => ?_) (fun hb10 => ?_)
          · replace h := bif_t hb10 h
            refine WP_reg [2, 7, 9, 21, 22, 23] [] ?_
            refine WPO_f ?_
            refine ⟨List.map by8 ([59] : List Int), rfl, ?_⟩
            obtain ⟨x11, hx11, h⟩ := bind_inv h
            refine And.intro (app_le by8 hx11) ⟨_, app_eq by8 hx11, ?_⟩
            cases h
            exact rfl
          · replace h := bif_f hb10 h
            refine WP_skip ?_
            cases h
            exact rfl
        refine WP_seq ?_
        refine WP_reg [2, 7, 9, 21, 22, 23, 34] [] ?_
        refine WPO_f ?_
        refine fun c13 hc13 => ?_
        replace h := letB_inv hc13 h
        obtain ⟨j16, hj16, h⟩ := bind_inv h
        refine WP_cut j16 (fun z => (.normal, [(2, .int .u8 final), (7, .sl true 1 (List.map by8 z)), (21, .sl false 1 (List.map ei64 x5)), (22, .int .i64 (x5.length : Int)), (23, .int .i64 t23)], [], [])) (fun _ => [2, 7, 21, 22, 23]) (fun _ => []) ?_ ?_
        · clear h
          replace h := hj16
          clear hj16
          refine WP_cond (b := c13) rfl (fun hb14 => ?_) (fun hb14 => ?_)
          · replace h := bif_t hb14 h
            refine WP_reg [2, 7, 21, 22, 23] [] ?_
            refine WPO_f ?_
            obtain ⟨y15, hy15, h⟩ := bind_inv h
            refine ⟨_, _, CallT.any (strconv_AppendInt_ok hy15) rfl _ rfl, ?_⟩
            cases h
            exact rfl
          · replace h := bif_f hb14 h
            refine WP_skip ?_
            cases h
            exact rfl
        cases h
        exact rfl
      refine WP_reg [2, 7, 21, 22, 23] [] ?_
      refine WPO_f ?_
      cases h
      exact ⟨_, rfl, rfl⟩
    · replace h := bif_f hb7 h
      refine WP_exit ?_
      cases h
      exact ⟨_, rfl, rfl⟩
  refine WP_seq ?_
  refine WP_reg [6] [] ?_
  refine WPO_f ?_
  refine ⟨List.map by8 ([final] : List Int), rfl, ?_⟩
  obtain ⟨x19, hx19, h⟩ := bind_inv h
  refine And.intro (app_le by8 hx19) ⟨_, app_eq by8 hx19, ?_⟩
  refine WP_ret ?_
  cases h
  exact ⟨rfl, rfl, rfl, rfl, rfl⟩
noncomputable def casementref01_SameInts_l1 (a : List Int) (b : List Int) (i : Int) : Option (Int ⊕ (Unit ⊕ Unit)) :=
  letB (decide (i < (a.length : Int))) fun c3 =>
  bif c3 then (
    (idx a i).bind fun x5 =>
    (idx b i).bind fun x6 =>
    letB (decide (x5 ≠ x6)) fun c7 =>
    bif c7 then (
      some (.inr (.inl ())))
    else (
      some (.inl (w64 (i + 1)))))
  else (
    some (.inr (.inr ())))
noncomputable def casementref01_SameInts (a : List Int) (b : List Int) : Option Bool :=
  letB (decide ((a.length : Int) ≠ (b.length : Int))) fun c1 =>
  bif c1 then (
    some false)
  else (
    (iter (fun s => casementref01_SameInts_l1 a b s : Int → Option (Int ⊕ (Unit ⊕ Unit))) 0).bind fun j9 =>
    match j9 with
    | .inl z10 => (
      some false)
    | .inr z11 => (
      some true))
set_option maxRecDepth 20000 in
theorem casementref01_SameInts_ok {a : List Int} {b : List Int} {r : Bool} (h : casementref01_SameInts a b = some r) : CallT true (RF ET) 16 [.sl false 1 (List.map ei64 a), .sl false 1 (List.map ei64 b)] [] (.bool r) [] := by
  refine CallT.quiet (con_low (af := a16) rfl rfl ?_) rfl
  unfold casementref01_SameInts at h
  refine WP_seq ?_
  refine WP_reg [0, 1] [] ?_
  refine WPO_f ?_
  refine WP_seq ?_
  refine WP_seq ?_
  refine WP_reg [0, 1, 10] [] ?_
  refine WPO_f ?_
  refine ⟨_, (List.length_map ..).symm, ?_⟩
  refine ⟨_, (List.length_map ..).symm, ?_⟩
  refine fun c1 hc1 => ?_
  replace h := letB_inv hc1 h
  refine WP_cond (b := c1) rfl (fun hb2 => ?_) (fun hb2 => ?_)
  · replace h := bif_t hb2 h
    refine WP_seq ?_
    refine WP_reg [4] [] ?_
    refine WPO_f ?_
    refine WP_ret ?_
    cases h
    exact ⟨rfl, rfl, rfl, rfl, rfl⟩
  · replace h := bif_f hb2 h
    refine WP_skip ?_
    refine WP_seq ?_
    refine WP_seq ?_
    refine WP_reg [0, 1, 5] [] ?_
    refine WPO_f ?_
    refine WP_block ?_
    obtain ⟨j9, hj9, h⟩ := bind_inv h
    refine WP_iter hj9 [] (fun s => ([(0, .sl false 1 (List.map ei64 a)), (1, .sl false 1 (List.map ei64 b)), (5, .int .i64 s)], [], [])) (fun e => match e with | .ret => [4] | .exit 0 => [] | _ => []) (fun e => match e with | .ret => [] | .exit 0 => [] | _ => []) (fun r => match r with | .inl z => (.ret, [(4, .bool false)], [], []) | .inr z => (.exit 0, [], [], [])) ?_ ?_ ?_
    · exact rfl
    · clear h
      rintro i x h
      replace h : casementref01_SameInts_l1 a b i = some x := h
      unfold casementref01_SameInts_l1 at h
      show T.WP _ _ [(0, .sl false 1 (List.map ei64 a)), (1, .sl false 1 (List.map ei64 b)), (5, .int .i64 i)] [] [] _
      refine WP_seq ?_
      refine WP_seq ?_
      refine WP_reg [0, 1, 5, 14] [] ?_
      refine WPO_f ?_
      refine ⟨_, (List.length_map ..).symm, ?_⟩
      refine fun c3 hc3 => ?_
      replace h := letB_inv hc3 h
      refine WP_cond (b := c3) rfl (fun hb4 => ?_) (fun hb4 => ?_)
      · replace h := bif_t hb4 h
        refine WP_skip ?_
        refine WP_seq ?_
        refine WP_block ?_
        refine WP_seq ?_
        refine WP_reg [0, 1, 5, 25] [] ?_
        refine WPO_t ?_
        obtain ⟨x5, hx5, h⟩ := bind_inv h
        refine And.intro (idx_nn hx5) ⟨_, idx_get ei64 hx5, ?_⟩
        obtain ⟨x6, hx6, h⟩ := bind_inv h
        refine And.intro (idx_nn hx6) ⟨_, idx_get ei64 hx6, ?_⟩
        refine fun c7 hc7 => ?_
        replace h := letB_inv hc7 h
        refine WP_cond (b := c7) rfl (fun hb8 => ?_) (fun hb8 => ?_)
        · replace h := bif_t hb8 h
          refine WP_seq ?_
          refine WP_reg [4] [] ?_
          refine WPO_f ?_
          refine WP_ret ?_
          cases h
          exact ⟨_, rfl, rfl⟩
        · replace h := bif_f hb8 h
          refine WP_skip ?_
          refine WP_reg [0, 1, 5] [] ?_
          refine WPO_f ?_
          cases h
          exact ⟨_, rfl, rfl⟩
      · replace h := bif_f hb4 h
        refine WP_exit ?_
        cases h
        exact ⟨_, rfl, rfl⟩
    rcases j9 with z10 | z11
    · cases h
      exact ⟨rfl, rfl, rfl, rfl, rfl⟩
    · refine WP_seq ?_
      refine WP_reg [4] [] ?_
      refine WPO_f ?_
      refine WP_ret ?_
      cases h
      exact ⟨rfl, rfl, rfl, rfl, rfl⟩
noncomputable def casementlaw04_alive : Option Bool :=
  (esc_Parser_Feed (ParserM.mk (Reader.mk []) 0 false false (ActM.mk 0 0 0 0 [] (some []) []) 0 [] []) [97, 27, 91, 49, 59, 59, 53, 72]).bind fun y1 =>
  (esc_Parser_Feed y1.2 [27, 93, 48, 59, 104, 105, 7]).bind fun y2 =>
  (esc_Parser_Feed y2.2 [27, 40, 66]).bind fun y3 =>
  (esc_Parser_Feed y3.2 [195, 27, 91, 109]).bind fun y4 =>
  letB (decide ((y1.1.length : Int) ≠ 2)) fun c5 =>
  (bif c5 then some true else (
    letB (decide ((y2.1.length : Int) ≠ 1)) fun c7 =>
    some (c7))).bind fun g6 =>
  (bif g6 then some true else (
    letB (decide ((y3.1.length : Int) ≠ 1)) fun c10 =>
    some (c10))).bind fun g9 =>
  (bif g9 then some true else (
    letB (decide ((y4.1.length : Int) ≠ 2)) fun c13 =>
    some (c13))).bind fun g12 =>
  bif g12 then (
    some false)
  else (
    (idx y1.1 0).bind fun x16 =>
    letB (decide (x16.R = 97)) fun c17 =>
    (bif c17 then (
      (idx y1.1 1).bind fun x19 =>
      (casementref01_SameInts x19.Params [1, (-1), 5]).bind fun y20 =>
      some (y20)) else some false).bind fun g18 =>
    (bif g18 then (
      (idx y1.1 1).bind fun x23 =>
      letB (decide (x23.Final = 72)) fun c24 =>
      some (c24)) else some false).bind fun g22 =>
    (bif g22 then (
      (idx y2.1 0).bind fun x27 =>
      letB (decide (x27.Text = [48, 59, 104, 105])) fun c28 =>
      some (c28)) else some false).bind fun g26 =>
    (bif g26 then (
      (idx y2.1 0).bind fun x31 =>
      letB (decide (x31.Final = 93)) fun c32 =>
      some (c32)) else some false).bind fun g30 =>
    (bif g30 then (
      (idx y3.1 0).bind fun x35 =>
      letB (decide (x35.Inter = [40])) fun c36 =>
      some (c36)) else some false).bind fun g34 =>
    (bif g34 then (
      (idx y4.1 0).bind fun x39 =>
      letB (decide (x39.R = 65533)) fun c40 =>
      some (c40)) else some false).bind fun g38 =>
    (bif g38 then (
      (idx y4.1 1).bind fun x43 =>
      letB (decide (x43.Kind = 4)) fun c44 =>
      some (c44)) else some false).bind fun g42 =>
    (bif g42 then (
      (esc_Parser_Idle y4.2).bind fun y47 =>
      some (y47)) else some false).bind fun g46 =>
    (bif g46 then (
      (esc_Csi 63 [25] 104).bind fun y50 =>
      (bstr y50).bind fun x51 =>
      letB (decide (x51 = [27, 91, 63, 50, 53, 104])) fun c52 =>
      some (c52)) else some false).bind fun g49 =>
    some g49)
set_option maxRecDepth 20000 in
theorem casementlaw04_alive_ok {r : Bool} (h : casementlaw04_alive = some r) : CallT true (RF ET) 9 [] [] (.bool r) [] := by
  refine CallT.quiet (con_low (af := a9) rfl rfl ?_) rfl
  unfold casementlaw04_alive at h
  refine WP_seq ?_
  refine WP_reg [] [] ?_
  refine WPO_f ?_
  refine WP_seq ?_
  refine WP_reg [1] [] ?_
  refine WPO_f ?_
  refine ⟨.sl false 1 [], .sl _ _, ?_⟩
  refine ⟨.sl true 1 [], .sl _ _, ?_⟩
  refine ⟨.sl true 1 [], .sl _ _, ?_⟩
  refine ⟨.sl true 7 [], .sl _ _, ?_⟩
  refine WP_seq ?_
  refine WP_reg [1, 2] [] ?_
  refine WPO_f ?_
  refine ⟨List.map by8 ([97, 27, 91, 49, 59, 59, 53, 72] : List Int), rfl, ?_⟩
  refine And.intro (by simp) ?_
  obtain ⟨y1, hy1, h⟩ := bind_inv h
  refine ⟨_, _, CallT.sub (i := 0) (esc_Parser_Feed_ok hy1) rfl _ rfl rfl (ParserM.flat _) (ParserM.flat _), ?_⟩
  refine WP_seq ?_
  refine WP_reg [1, 2, 3] [] ?_
  refine WPO_f ?_
  refine ⟨List.map by8 ([27, 93, 48, 59, 104, 105, 7] : List Int), rfl, ?_⟩
  refine And.intro (by simp) ?_
  obtain ⟨y2, hy2, h⟩ := bind_inv h
  refine ⟨_, _, CallT.sub (i := 0) (esc_Parser_Feed_ok hy2) rfl _ rfl rfl (ParserM.flat _) (ParserM.flat _), ?_⟩
  refine WP_seq ?_
  refine WP_reg [1, 2, 3, 4] [] ?_
  refine WPO_f ?_
  refine ⟨List.map by8 ([27, 40, 66] : List Int), rfl, ?_⟩
  refine And.intro (by simp) ?_
  obtain ⟨y3, hy3, h⟩ := bind_inv h
  refine ⟨_, _, CallT.sub (i := 0) (esc_Parser_Feed_ok hy3) rfl _ rfl rfl (ParserM.flat _) (ParserM.flat _), ?_⟩
  refine WP_seq ?_
  refine WP_reg [1, 2, 3, 4, 5] [] ?_
  refine WPO_f ?_
  refine ⟨List.map by8 ([195, 27, 91, 109] : List Int), rfl, ?_⟩
  refine And.intro (by simp) ?_
  obtain ⟨y4, hy4, h⟩ := bind_inv h
  refine ⟨_, _, CallT.sub (i := 0) (esc_Parser_Feed_ok hy4) rfl _ rfl rfl (ParserM.flat _) (ParserM.flat _), ?_⟩
  refine WP_seq ?_
  refine WP_seq ?_
  refine WP_reg [1, 2, 3, 4, 5, 35] [] ?_
  refine WPO_then 4 ?_
  refine WPO_f ?_
  refine ⟨_, (List.length_map ..).symm, ?_⟩
  refine fun c5 hc5 => ?_
  replace h := letB_inv hc5 h
  obtain ⟨g6, hg6, h⟩ := bind_inv h
  refine WPO_grp 4 25 [1, 2, 3, 4, 5, 25] g6 ?_ ?_
  · clear h
    replace h := hg6
    clear hg6
    cases hb8 : c5 with
    | false =>
      replace h := bif_f hb8 h
      refine WPO_f ?_
      refine ⟨_, (List.length_map ..).symm, ?_⟩
      refine fun c7 hc7 => ?_
      replace h := letB_inv hc7 h
      cases h
      exact ⟨rfl, rfl, rfl⟩
    | true =>
      replace h := bif_t hb8 h
      cases h
      refine WPO_f ?_
      exact ⟨rfl, rfl, rfl⟩
  refine WPO_then 1 ?_
  refine WPO_f ?_
  obtain ⟨g9, hg9, h⟩ := bind_inv h
  refine WPO_grp 4 30 [1, 2, 3, 4, 5, 30] g9 ?_ ?_
  · clear h
    replace h := hg9
    clear hg9
    cases hb11 : g6 with
    | false =>
      replace h := bif_f hb11 h
      refine WPO_f ?_
      refine ⟨_, (List.length_map ..).symm, ?_⟩
      refine fun c10 hc10 => ?_
      replace h := letB_inv hc10 h
      cases h
      exact ⟨rfl, rfl, rfl⟩
    | true =>
      replace h := bif_t hb11 h
      cases h
      refine WPO_f ?_
      exact ⟨rfl, rfl, rfl⟩
  refine WPO_then 1 ?_
  refine WPO_f ?_
  obtain ⟨g12, hg12, h⟩ := bind_inv h
  refine WPO_grp 4 35 [1, 2, 3, 4, 5, 35] g12 ?_ ?_
  · clear h
    replace h := hg12
    clear hg12
    cases hb14 : g9 with
    | false =>
      replace h := bif_f hb14 h
      refine WPO_f ?_
      refine ⟨_, (List.length_map ..).symm, ?_⟩
      refine fun c13 hc13 => ?_
      replace h := letB_inv hc13 h
      cases h
      exact ⟨rfl, rfl, rfl⟩
    | true =>
      replace h := bif_t hb14 h
      cases h
      refine WPO_f ?_
      exact ⟨rfl, rfl, rfl⟩
  refine WPO_f ?_
  refine WP_cond (b := g12) rfl (fun hb15 => ?_) (fun hb15 => ?_)
  · replace h := bif_t hb15 h
    refine WP_seq ?_
    refine WP_reg [0] [] ?_
    refine WPO_f ?_
    refine WP_ret ?_
    cases h
    exact ⟨rfl, rfl, rfl, rfl, rfl⟩
  · replace h := bif_f hb15 h
    refine WP_skip ?_
    refine WP_seq ?_
    refine WP_reg [0] [] ?_
    refine WPO_then 6 ?_
    refine WPO_f ?_
    obtain ⟨x16, hx16, h⟩ := bind_inv h
    refine And.intro (idx_nn hx16) ⟨_, idx_get Act.e hx16, ?_⟩
    refine fun c17 hc17 => ?_
    replace h := letB_inv hc17 h
    obtain ⟨g18, hg18, h⟩ := bind_inv h
    refine WPO_grp 7 48 [1, 2, 3, 4, 5, 48] g18 ?_ ?_
    · clear h
      replace h := hg18
      clear hg18
      cases hb21 : c17 with
      | true =>
        replace h := bif_t hb21 h
        refine WPO_f ?_
        obtain ⟨x19, hx19, h⟩ := bind_inv h
        refine And.intro (idx_nn hx19) ⟨_, idx_get Act.e hx19, ?_⟩
        refine ⟨List.map ei64 ([1, (-1), 5] : List Int), rfl, ?_⟩
        obtain ⟨y20, hy20, h⟩ := bind_inv h
        refine ⟨_, _, CallT.any (casementref01_SameInts_ok hy20) rfl _ rfl, ?_⟩
        cases h
        exact ⟨rfl, rfl, rfl⟩
      | false =>
        replace h := bif_f hb21 h
        cases h
        refine WPO_f ?_
        exact ⟨rfl, rfl, rfl⟩
    refine WPO_then 1 ?_
    refine WPO_f ?_
    obtain ⟨g22, hg22, h⟩ := bind_inv h
    refine WPO_grp 6 55 [1, 3, 4, 5, 55] g22 ?_ ?_
    · clear h
      replace h := hg22
      clear hg22
      cases hb25 : g18 with
      | true =>
        replace h := bif_t hb25 h
        refine WPO_f ?_
        obtain ⟨x23, hx23, h⟩ := bind_inv h
        refine And.intro (idx_nn hx23) ⟨_, idx_get Act.e hx23, ?_⟩
        refine fun c24 hc24 => ?_
        replace h := letB_inv hc24 h
        cases h
        exact ⟨rfl, rfl, rfl⟩
      | false =>
        replace h := bif_f hb25 h
        cases h
        refine WPO_f ?_
        exact ⟨rfl, rfl, rfl⟩
    refine WPO_then 1 ?_
    refine WPO_f ?_
    obtain ⟨g26, hg26, h⟩ := bind_inv h
    refine WPO_grp 6 62 [1, 3, 4, 5, 62] g26 ?_ ?_
    · clear h
      replace h := hg26
      clear hg26
      cases hb29 : g22 with
      | true =>
        replace h := bif_t hb29 h
        refine WPO_f ?_
        obtain ⟨x27, hx27, h⟩ := bind_inv h
        refine And.intro (idx_nn hx27) ⟨_, idx_get Act.e hx27, ?_⟩
        refine fun c28 hc28 => ?_
        replace h := letB_inv hc28 h
        cases h
        exact ⟨rfl, rfl, rfl⟩
      | false =>
        replace h := bif_f hb29 h
        cases h
        refine WPO_f ?_
        exact ⟨rfl, rfl, rfl⟩
    refine WPO_then 1 ?_
    refine WPO_f ?_
    obtain ⟨g30, hg30, h⟩ := bind_inv h
    refine WPO_grp 6 69 [1, 4, 5, 69] g30 ?_ ?_
    · clear h
      replace h := hg30
      clear hg30
      cases hb33 : g26 with
      | true =>
        replace h := bif_t hb33 h
        refine WPO_f ?_
        obtain ⟨x31, hx31, h⟩ := bind_inv h
        refine And.intro (idx_nn hx31) ⟨_, idx_get Act.e hx31, ?_⟩
        refine fun c32 hc32 => ?_
        replace h := letB_inv hc32 h
        cases h
        exact ⟨rfl, rfl, rfl⟩
      | false =>
        replace h := bif_f hb33 h
        cases h
        refine WPO_f ?_
        exact ⟨rfl, rfl, rfl⟩
    refine WPO_then 1 ?_
    refine WPO_f ?_
    obtain ⟨g34, hg34, h⟩ := bind_inv h
    refine WPO_grp 6 76 [1, 5, 76] g34 ?_ ?_
    · clear h
      replace h := hg34
      clear hg34
      cases hb37 : g30 with
      | true =>
        replace h := bif_t hb37 h
        refine WPO_f ?_
        obtain ⟨x35, hx35, h⟩ := bind_inv h
        refine And.intro (idx_nn hx35) ⟨_, idx_get Act.e hx35, ?_⟩
        refine fun c36 hc36 => ?_
        replace h := letB_inv hc36 h
        cases h
        exact ⟨rfl, rfl, rfl⟩
      | false =>
        replace h := bif_f hb37 h
        cases h
        refine WPO_f ?_
        exact ⟨rfl, rfl, rfl⟩
    refine WPO_then 1 ?_
    refine WPO_f ?_
    obtain ⟨g38, hg38, h⟩ := bind_inv h
    refine WPO_grp 6 83 [1, 5, 83] g38 ?_ ?_
    · clear h
      replace h := hg38
      clear hg38
      cases hb41 : g34 with
      | true =>
        replace h := bif_t hb41 h
        refine WPO_f ?_
        obtain ⟨x39, hx39, h⟩ := bind_inv h
        refine And.intro (idx_nn hx39) ⟨_, idx_get Act.e hx39, ?_⟩
        refine fun c40 hc40 => ?_
        replace h := letB_inv hc40 h
        cases h
        exact ⟨rfl, rfl, rfl⟩
      | false =>
        replace h := bif_f hb41 h
        cases h
        refine WPO_f ?_
        exact ⟨rfl, rfl, rfl⟩
    refine WPO_then 1 ?_
    refine WPO_f ?_
    obtain ⟨g42, hg42, h⟩ := bind_inv h
    refine WPO_grp 6 90 [1, 90] g42 ?_ ?_
    · clear h
      replace h := hg42
      clear hg42
      cases hb45 : g38 with
      | true =>
        replace h := bif_t hb45 h
        refine WPO_f ?_
        obtain ⟨x43, hx43, h⟩ := bind_inv h
        refine And.intro (idx_nn hx43) ⟨_, idx_get Act.e hx43, ?_⟩
        refine fun c44 hc44 => ?_
        replace h := letB_inv hc44 h
        cases h
        exact ⟨rfl, rfl, rfl⟩
      | false =>
        replace h := bif_f hb45 h
        cases h
        refine WPO_f ?_
        exact ⟨rfl, rfl, rfl⟩
    refine WPO_then 1 ?_
    refine WPO_f ?_
    obtain ⟨g46, hg46, h⟩ := bind_inv h
    refine WPO_grp 2 93 [93] g46 ?_ ?_
    · clear h
      replace h := hg46
      clear hg46
      cases hb48 : g42 with
      | true =>
        replace h := bif_t hb48 h
        refine WPO_f ?_
        obtain ⟨y47, hy47, h⟩ := bind_inv h
        refine ⟨_, _, CallT.sub (i := 0) (esc_Parser_Idle_ok hy47) rfl _ rfl rfl (ParserM.flat _) (ParserM.flat _), ?_⟩
        cases h
        exact ⟨rfl, rfl, rfl⟩
      | false =>
        replace h := bif_f hb48 h
        cases h
        refine WPO_f ?_
        exact ⟨rfl, rfl, rfl⟩
    refine WPO_then 1 ?_
    refine WPO_f ?_
    obtain ⟨g49, hg49, h⟩ := bind_inv h
    refine WPO_grp 5 99 [99] g49 ?_ ?_
    · clear h
      replace h := hg49
      clear hg49
      cases hb53 : g46 with
      | true =>
        replace h := bif_t hb53 h
        refine WPO_f ?_
        refine ⟨List.map ei64 ([25] : List Int), rfl, ?_⟩
        obtain ⟨y50, hy50, h⟩ := bind_inv h
        refine ⟨_, _, CallT.any (esc_Csi_ok hy50) rfl _ rfl, ?_⟩
        obtain ⟨x51, hx51, h⟩ := bind_inv h
        refine ⟨_, bstr_inv hx51, ?_⟩
        refine fun c52 hc52 => ?_
        replace h := letB_inv hc52 h
        cases h
        exact ⟨rfl, rfl, rfl⟩
      | false =>
        replace h := bif_f hb53 h
        cases h
        refine WPO_f ?_
        exact ⟨rfl, rfl, rfl⟩
    refine WPO_f ?_
    refine WP_ret ?_
    cases h
    exact ⟨rfl, rfl, rfl, rfl, rfl⟩
noncomputable def casementref01_SameBytes_l1 (a : List Int) (b : List Int) (i : Int) : Option (Int ⊕ (Unit ⊕ Unit)) :=
  letB (decide (i < (a.length : Int))) fun c3 =>
  bif c3 then (
    (idx a i).bind fun x5 =>
    (idx b i).bind fun x6 =>
    letB (decide (x5 ≠ x6)) fun c7 =>
    bif c7 then (
      some (.inr (.inl ())))
    else (
      some (.inl (w64 (i + 1)))))
  else (
    some (.inr (.inr ())))
noncomputable def casementref01_SameBytes (a : List Int) (b : List Int) : Option Bool :=
  letB (decide ((a.length : Int) ≠ (b.length : Int))) fun c1 =>
  bif c1 then (
    some false)
  else (
    (iter (fun s => casementref01_SameBytes_l1 a b s : Int → Option (Int ⊕ (Unit ⊕ Unit))) 0).bind fun j9 =>
    match j9 with
    | .inl z10 => (
      some false)
    | .inr z11 => (
      some true))
set_option maxRecDepth 20000 in
theorem casementref01_SameBytes_ok {a : List Int} {b : List Int} {r : Bool} (h : casementref01_SameBytes a b = some r) : CallT true (RF ET) 14 [.sl false 1 (List.map by8 a), .sl false 1 (List.map by8 b)] [] (.bool r) [] := by
  refine CallT.quiet (con_low (af := a14) rfl rfl ?_) rfl
  unfold casementref01_SameBytes at h
  refine WP_seq ?_
  refine WP_reg [0, 1] [] ?_
  refine WPO_f ?_
  refine WP_seq ?_
  refine WP_seq ?_
  refine WP_reg [0, 1, 10] [] ?_
  refine WPO_f ?_
  refine ⟨_, (List.length_map ..).symm, ?_⟩
  refine ⟨_, (List.length_map ..).symm, ?_⟩
  refine fun c1 hc1 => ?_
  replace h := letB_inv hc1 h
  refine WP_cond (b := c1) rfl (fun hb2 => ?_) (fun hb2 => ?_)
  · replace h := bif_t hb2 h
    refine WP_seq ?_
    refine WP_reg [4] [] ?_
    refine WPO_f ?_
    refine WP_ret ?_
    cases h
    exact ⟨rfl, rfl, rfl, rfl, rfl⟩
  · replace h := bif_f hb2 h
    refine WP_skip ?_
    refine WP_seq ?_
    refine WP_seq ?_
    refine WP_reg [0, 1, 5] [] ?_
    refine WPO_f ?_
    refine WP_block ?_
    obtain ⟨j9, hj9, h⟩ := bind_inv h
    refine WP_iter hj9 [] (fun s => ([(0, .sl false 1 (List.map by8 a)), (1, .sl false 1 (List.map by8 b)), (5, .int .i64 s)], [], [])) (fun e => match e with | .ret => [4] | .exit 0 => [] | _ => []) (fun e => match e with | .ret => [] | .exit 0 => [] | _ => []) (fun r => match r with | .inl z => (.ret, [(4, .bool false)], [], []) | .inr z => (.exit 0, [], [], [])) ?_ ?_ ?_
    · exact rfl
    · clear h
      rintro i x h
      replace h : casementref01_SameBytes_l1 a b i = some x := h
      unfold casementref01_SameBytes_l1 at h
      show T.WP _ _ [(0, .sl false 1 (List.map by8 a)), (1, .sl false 1 (List.map by8 b)), (5, .int .i64 i)] [] [] _
      refine WP_seq ?_
      refine WP_seq ?_
      refine WP_reg [0, 1, 5, 14] [] ?_
      refine WPO_f ?_
      refine ⟨_, (List.length_map ..).symm, ?_⟩
      refine fun c3 hc3 => ?_
      replace h := letB_inv hc3 h
      refine WP_cond (b := c3) rfl (fun hb4 => ?_) (fun hb4 => ?_)
      · replace h := bif_t hb4 h
        refine WP_skip ?_
        refine WP_seq ?_
        refine WP_block ?_
        refine WP_seq ?_
        refine WP_reg [0, 1, 5, 25] [] ?_
        refine WPO_t ?_
        obtain ⟨x5, hx5, h⟩ := bind_inv h
        refine And.intro (idx_nn hx5) ⟨_, idx_get by8 hx5, ?_⟩
        obtain ⟨x6, hx6, h⟩ := bind_inv h
        refine And.intro (idx_nn hx6) ⟨_, idx_get by8 hx6, ?_⟩
        refine fun c7 hc7 => ?_
        replace h := letB_inv hc7 h
        refine WP_cond (b := c7) rfl (fun hb8 => ?_) (fun hb8 => ?_)
        · replace h := bif_t hb8 h
          refine WP_seq ?_
          refine WP_reg [4] [] ?_
          refine WPO_f ?_
          refine WP_ret ?_
          cases h
          exact ⟨_, rfl, rfl⟩
        · replace h := bif_f hb8 h
          refine WP_skip ?_
          refine WP_reg [0, 1, 5] [] ?_
          refine WPO_f ?_
          cases h
          exact ⟨_, rfl, rfl⟩
      · replace h := bif_f hb4 h
        refine WP_exit ?_
        cases h
        exact ⟨_, rfl, rfl⟩
    rcases j9 with z10 | z11
    · cases h
      exact ⟨rfl, rfl, rfl, rfl, rfl⟩
    · refine WP_seq ?_
      refine WP_reg [4] [] ?_
      refine WPO_f ?_
      refine WP_ret ?_
      cases h
      exact ⟨rfl, rfl, rfl, rfl, rfl⟩
noncomputable def casementref01_Decimal_l1 (n' : Int) (out : List Int) : Option ((Int × List Int) ⊕ List Int) :=
  letB (decide (n' ≠ 0)) fun c4 =>
  bif c4 then (
    Option.bind (
      letB (decide ((Int.tmod n' 10) < 0)) fun c6 =>
      Option.bind (
        bif c6 then (
          some (w64 (0 - (Int.tmod n' 10))))
        else (
          some (Int.tmod n' 10)) : Option Int) fun j8 =>
      (bstr [w8 (w64 (48 + j8))]).bind fun x9 =>
      (sadd x9 out).bind fun x10 =>
      some (x10) : Option (List Int)) fun j11 =>
    some (.inl (w64 (Int.tdiv n' 10), j11)))
  else (
    some (.inr out))
noncomputable def casementref01_Decimal (n : Int) : Option (List Int) :=
  letB (decide (n = 0)) fun c1 =>
  bif c1 then (
    some [48])
  else (
    letB (decide (n < 0)) fun c3 =>
    (iter (fun s => casementref01_Decimal_l1 s.1 s.2 : (Int × List Int) → Option ((Int × List Int) ⊕ List Int)) (n, [])).bind fun j12 =>
    bif c3 then (
      (sadd [45] j12).bind fun x14 =>
      some x14)
    else (
      some j12))
set_option maxRecDepth 20000 in
theorem casementref01_Decimal_ok {n : Int} {r : List Int} (h : casementref01_Decimal n = some r) : CallT true (RF ET) 21 [.int .i64 n] [] (.str r) [] := by
  refine CallT.quiet (con_low (af := a21) rfl rfl ?_) rfl
  unfold casementref01_Decimal at h
  refine WP_seq ?_
  refine WP_reg [0] [] ?_
  refine WPO_f ?_
  refine WP_seq ?_
  refine WP_seq ?_
  refine WP_reg [0, 7] [] ?_
  refine WPO_f ?_
  refine fun c1 hc1 => ?_
  replace h := letB_inv hc1 h
  refine WP_cond (b := c1) rfl (fun hb2 => ?_) (fun hb2 => ?_)
  · replace h := bif_t hb2 h
    refine WP_seq ?_
    refine WP_reg [2] [] ?_
    refine WPO_f ?_
    refine WP_ret ?_
    cases h
    exact ⟨rfl, rfl, rfl, rfl, rfl⟩
  · replace h := bif_f hb2 h
    refine WP_skip ?_
    refine WP_seq ?_
    refine WP_reg [0, 3] [] ?_
    refine WPO_f ?_
    refine fun c3 hc3 => ?_
    replace h := letB_inv hc3 h
    refine WP_seq ?_
    refine WP_reg [0, 3, 4] [] ?_
    refine WPO_f ?_
    refine WP_seq ?_
    refine WP_block ?_
    obtain ⟨j12, hj12, h⟩ := bind_inv h
    refine WP_iter hj12 [] (fun s => ([(0, .int .i64 s.1), (3, .bool c3), (4, .str s.2)], [], [])) (fun _ => [3, 4]) (fun _ => []) (fun z => (.exit 0, [(3, .bool c3), (4, .str z)], [], [])) ?_ ?_ ?_
    · exact rfl
    · clear h
      rintro ⟨n', out⟩ x h
      replace h : casementref01_Decimal_l1 n' out = some x := h
      unfold casementref01_Decimal_l1 at h
      show T.WP _ _ [(0, .int .i64 n'), (3, .bool c3), (4, .str out)] [] [] _
      refine WP_seq ?_
      refine WP_seq ?_
      refine WP_reg [0, 3, 4, 11] [] ?_
      refine WPO_f ?_
      refine fun c4 hc4 => ?_
      replace h := letB_inv hc4 h
      refine WP_cond (b := c4) rfl (fun hb5 => ?_) (fun hb5 => ?_)
      · replace h := bif_t hb5 h
        refine WP_skip ?_
        obtain ⟨j11, hj11, h⟩ := bind_inv h
        refine WP_cut j11 (fun z => (.normal, [(0, .int .i64 (w64 (Int.tdiv n' 10))), (3, .bool c3), (4, .str z)], [], [])) (fun _ => [0, 3, 4]) (fun _ => []) ?_ ?_
        · clear h
          replace h := hj11
          clear hj11
          refine WP_block ?_
          refine WP_seq ?_
          refine WP_reg [0, 3, 4, 5] [] ?_
          refine WPO_f ?_
          refine And.intro (by decide) ?_
          refine WP_seq ?_
          refine WP_seq ?_
          refine WP_reg [0, 3, 4, 5, 15] [] ?_
          refine WPO_f ?_
          refine fun c6 hc6 => ?_
          replace h := letB_inv hc6 h
          obtain ⟨j8, hj8, h⟩ := bind_inv h
          refine WP_cut j8 (fun z => (.normal, [(0, .int .i64 n'), (3, .bool c3), (4, .str out), (5, .int .i64 z)], [], [])) (fun _ => [0, 3, 4, 5]) (fun _ => []) ?_ ?_
          · clear h
            replace h := hj8
            clear hj8
            refine WP_cond (b := c6) rfl (fun hb7 => ?_) (fun hb7 => ?_)
            · replace h := bif_t hb7 h
              refine WP_reg [0, 3, 4, 5] [] ?_
              refine WPO_f ?_
              cases h
              exact rfl
            · replace h := bif_f hb7 h
              refine WP_skip ?_
              cases h
              exact rfl
          refine WP_seq ?_
          refine WP_reg [0, 3, 4] [] ?_
          refine WPO_f ?_
          refine ⟨List.map by8 ([w8 (w64 (48 + j8))] : List Int), rfl, ?_⟩
          obtain ⟨x9, hx9, h⟩ := bind_inv h
          refine ⟨_, bstr_inv hx9, ?_⟩
          obtain ⟨x10, hx10, h⟩ := bind_inv h
          refine And.intro (sadd_le hx10) ⟨_, sadd_eq hx10, ?_⟩
          refine WP_reg [0, 3, 4] [] ?_
          refine WPO_f ?_
          refine And.intro (by decide) ?_
          cases h
          exact rfl
        cases h
        exact ⟨_, rfl, rfl⟩
      · replace h := bif_f hb5 h
        refine WP_exit ?_
        cases h
        exact ⟨_, rfl, rfl⟩
    refine WP_seq ?_
    refine WP_seq ?_
    refine WP_reg [4, 27] [] ?_
    refine WPO_f ?_
    refine WP_cond (b := c3) rfl (fun hb13 => ?_) (fun hb13 => ?_)
    · replace h := bif_t hb13 h
      refine WP_seq ?_
      refine WP_reg [2] [] ?_
      refine WPO_f ?_
      obtain ⟨x14, hx14, h⟩ := bind_inv h
      refine And.intro (sadd_le hx14) ⟨_, sadd_eq hx14, ?_⟩
      refine WP_ret ?_
      cases h
      exact ⟨rfl, rfl, rfl, rfl, rfl⟩
    · replace h := bif_f hb13 h
      refine WP_skip ?_
      refine WP_seq ?_
      refine WP_reg [2] [] ?_
      refine WPO_f ?_
      refine WP_ret ?_
      cases h
      exact ⟨rfl, rfl, rfl, rfl, rfl⟩
noncomputable def casementref01_Between (n : Int) (lo : Int) (hi : Int) : Option Int :=
  letB (decide (n < lo)) fun c1 =>
  bif c1 then (
    some lo)
  else (
    letB (decide (n > hi)) fun c3 =>
    bif c3 then (
      some hi)
    else (
      some n))
set_option maxRecDepth 20000 in
theorem casementref01_Between_ok {n : Int} {lo : Int} {hi : Int} {r : Int} (h : casementref01_Between n lo hi = some r) : CallT true (RF ET) 22 [.int .i64 n, .int .i64 lo, .int .i64 hi] [] (.int .i64 r) [] := by
  refine CallT.quiet (con_low (af := a22) rfl rfl ?_) rfl
  unfold casementref01_Between at h
  refine WP_seq ?_
  refine WP_reg [0, 1, 2] [] ?_
  refine WPO_f ?_
  refine WP_seq ?_
  refine WP_seq ?_
  refine WP_reg [0, 1, 2, 9] [] ?_
  refine WPO_f ?_
  refine fun c1 hc1 => ?_
  replace h := letB_inv hc1 h
  refine WP_cond (b := c1) rfl (fun hb2 => ?_) (fun hb2 => ?_)
  · replace h := bif_t hb2 h
    refine WP_seq ?_
    refine WP_reg [6] [] ?_
    refine WPO_f ?_
    refine WP_ret ?_
    cases h
    exact ⟨rfl, rfl, rfl, rfl, rfl⟩
  · replace h := bif_f hb2 h
    refine WP_skip ?_
    refine WP_seq ?_
    refine WP_seq ?_
    refine WP_reg [0, 2, 13] [] ?_
    refine WPO_f ?_
    refine fun c3 hc3 => ?_
    replace h := letB_inv hc3 h
    refine WP_cond (b := c3) rfl (fun hb4 => ?_) (fun hb4 => ?_)
    · replace h := bif_t hb4 h
      refine WP_seq ?_
      refine WP_reg [6] [] ?_
      refine WPO_f ?_
      refine WP_ret ?_
      cases h
      exact ⟨rfl, rfl, rfl, rfl, rfl⟩
    · replace h := bif_f hb4 h
      refine WP_skip ?_
      refine WP_seq ?_
      refine WP_reg [6] [] ?_
      refine WPO_f ?_
      refine WP_ret ?_
      cases h
      exact ⟨rfl, rfl, rfl, rfl, rfl⟩
noncomputable def casementref04_Csi_l1 (params : List Int) (out : List Int) (i : Int) : Option ((List Int × Int) ⊕ List Int) :=
  letB (decide (i < (params.length : Int))) fun c6 =>
  (bif c6 then (
    letB (decide (i < 16)) fun c8 =>
    some (c8)) else some false).bind fun g7 =>
  bif g7 then (
    Option.bind (
      letB (decide (i > 0)) fun c11 =>
      Option.bind (
        bif c11 then (
          (sadd out [59]).bind fun x13 =>
          some (x13))
        else (
          some (out)) : Option (List Int)) fun j14 =>
      (idx params i).bind fun x15 =>
      letB (decide (x15 ≥ 0)) fun c16 =>
      Option.bind (
        bif c16 then (
          (idx params i).bind fun x18 =>
          (casementref01_Between x18 0 9999).bind fun y19 =>
          (casementref01_Decimal y19).bind fun y20 =>
          (sadd j14 y20).bind fun x21 =>
          some (x21))
        else (
          some (j14)) : Option (List Int)) fun j22 =>
      some (j22) : Option (List Int)) fun j23 =>
    some (.inl (j23, w64 (i + 1))))
  else (
    some (.inr out))
noncomputable def casementref04_Csi (priv : Int) (params : List Int) (final : Int) : Option (List Int) :=
  letB (decide (priv ≠ 0)) fun c1 =>
  Option.bind (
    bif c1 then (
      (bstr [priv]).bind fun x3 =>
      (sadd [27, 91] x3).bind fun x4 =>
      some (x4))
    else (
      some ([27, 91])) : Option (List Int)) fun j5 =>
  (iter (fun s => casementref04_Csi_l1 params s.1 s.2 : (List Int × Int) → Option ((List Int × Int) ⊕ List Int)) (j5, 0)).bind fun j24 =>
  (app j24 [final]).bind fun x25 =>
  some x25
set_option maxRecDepth 20000 in
theorem casementref04_Csi_ok {priv : Int} {params : List Int} {final : Int} {r : List Int} (h : casementref04_Csi priv params final = some r) : CallT true (RF ET) 15 [.int .u8 priv, .sl false 1 (List.map ei64 params), .int .u8 final] [] (.sl true 1 (List.map by8 r)) [] := by
  refine CallT.quiet (con_low (af := a15) rfl rfl ?_) rfl
  unfold casementref04_Csi at h
  refine WP_seq ?_
  refine WP_reg [0, 1, 2] [] ?_
  refine WPO_f ?_
  refine ⟨.sl false 1 [], .sl _ _, ?_⟩
  refine WP_seq ?_
  refine WP_reg [0, 1, 2, 7] [] ?_
  refine WPO_f ?_
  refine WP_seq ?_
  refine WP_seq ?_
  refine WP_reg [0, 1, 2, 7, 10] [] ?_
  refine WPO_f ?_
  refine fun c1 hc1 => ?_
  replace h := letB_inv hc1 h
  obtain ⟨j5, hj5, h⟩ := bind_inv h
  refine WP_cut j5 (fun z => (.normal, [(1, .sl false 1 (List.map ei64 params)), (2, .int .u8 final), (7, .str z)], [], [])) (fun _ => [1, 2, 7]) (fun _ => []) ?_ ?_
  · clear h
    replace h := hj5
    clear hj5
    refine WP_cond (b := c1) rfl (fun hb2 => ?_) (fun hb2 => ?_)
    · replace h := bif_t hb2 h
      refine WP_reg [1, 2, 7] [] ?_
      refine WPO_f ?_
      refine ⟨List.map by8 ([priv] : List Int), rfl, ?_⟩
      obtain ⟨x3, hx3, h⟩ := bind_inv h
      refine ⟨_, bstr_inv hx3, ?_⟩
      obtain ⟨x4, hx4, h⟩ := bind_inv h
      refine And.intro (sadd_le hx4) ⟨_, sadd_eq hx4, ?_⟩
      cases h
      exact rfl
    · replace h := bif_f hb2 h
      refine WP_skip ?_
      cases h
      exact rfl
  refine WP_seq ?_
  refine WP_seq ?_
  refine WP_reg [1, 2, 7, 8] [] ?_
  refine WPO_f ?_
  refine WP_block ?_
  obtain ⟨j24, hj24, h⟩ := bind_inv h
  refine WP_iter hj24 [] (fun s => ([(1, .sl false 1 (List.map ei64 params)), (2, .int .u8 final), (7, .str s.1), (8, .int .i64 s.2)], [], [])) (fun _ => [2, 7]) (fun _ => []) (fun z => (.exit 0, [(2, .int .u8 final), (7, .str z)], [], [])) ?_ ?_ ?_
  · exact rfl
  · clear h
    rintro ⟨out, i⟩ x h
    replace h : casementref04_Csi_l1 params out i = some x := h
    unfold casementref04_Csi_l1 at h
    show T.WP _ _ [(1, .sl false 1 (List.map ei64 params)), (2, .int .u8 final), (7, .str out), (8, .int .i64 i)] [] [] _
    refine WP_seq ?_
    refine WP_seq ?_
    refine WP_reg [1, 2, 7, 8, 23] [] ?_
    refine WPO_then 5 ?_
    refine WPO_f ?_
    refine ⟨_, (List.length_map ..).symm, ?_⟩
    refine fun c6 hc6 => ?_
    replace h := letB_inv hc6 h
    obtain ⟨g7, hg7, h⟩ := bind_inv h
    refine WPO_grp 3 23 [1, 2, 7, 8, 23] g7 ?_ ?_
    · clear h
      replace h := hg7
      clear hg7
      cases hb9 : c6 with
      | true =>
        replace h := bif_t hb9 h
        refine WPO_f ?_
        refine fun c8 hc8 => ?_
        replace h := letB_inv hc8 h
        cases h
        exact ⟨rfl, rfl, rfl⟩
      | false =>
        replace h := bif_f hb9 h
        cases h
        refine WPO_f ?_
        exact ⟨rfl, rfl, rfl⟩
    refine WPO_f ?_
    refine WP_cond (b := g7) rfl (fun hb10 => ?_) (fun hb10 => ?_)
    · replace h := bif_t hb10 h
      refine WP_skip ?_
      refine WP_seq ?_
      obtain ⟨j23, hj23, h⟩ := bind_inv h
      refine WP_cut j23 (fun z => (.normal, [(1, .sl false 1 (List.map ei64 params)), (2, .int .u8 final), (7, .str z), (8, .int .i64 i)], [], [])) (fun _ => [1, 2, 7, 8]) (fun _ => []) ?_ ?_
      · clear h
        replace h := hj23
        clear hj23
        refine WP_block ?_
        refine WP_seq ?_
        refine WP_seq ?_
        refine WP_reg [1, 2, 7, 8, 27] [] ?_
        refine WPO_f ?_
        refine fun c11 hc11 => ?_
        replace h := letB_inv hc11 h
        obtain ⟨j14, hj14, h⟩ := bind_inv h
        refine WP_cut j14 (fun z => (.normal, [(1, .sl false 1 (List.map ei64 params)), (2, .int .u8 final), (7, .str z), (8, .int .i64 i)], [], [])) (fun _ => [1, 2, 7, 8]) (fun _ => []) ?_ ?_
        · clear h
          replace h := hj14
          clear hj14
          refine WP_cond (b := c11) rfl (fun hb12 => ?_) (fun hb12 => ?_)
          · replace h := bif_t hb12 h
            refine WP_reg [1, 2, 7, 8] [] ?_
            refine WPO_f ?_
            obtain ⟨x13, hx13, h⟩ := bind_inv h
            refine And.intro (sadd_le hx13) ⟨_, sadd_eq hx13, ?_⟩
            cases h
            exact rfl
          · replace h := bif_f hb12 h
            refine WP_skip ?_
            cases h
            exact rfl
        refine WP_seq ?_
        refine WP_reg [1, 2, 7, 8, 34] [] ?_
        refine WPO_f ?_
        obtain ⟨x15, hx15, h⟩ := bind_inv h
        refine And.intro (idx_nn hx15) ⟨_, idx_get ei64 hx15, ?_⟩
        refine fun c16 hc16 => ?_
        replace h := letB_inv hc16 h
        obtain ⟨j22, hj22, h⟩ := bind_inv h
        refine WP_cut j22 (fun z => (.normal, [(1, .sl false 1 (List.map ei64 params)), (2, .int .u8 final), (7, .str z), (8, .int .i64 i)], [], [])) (fun _ => [1, 2, 7, 8]) (fun _ => []) ?_ ?_
        · clear h
          replace h := hj22
          clear hj22
          refine WP_cond (b := c16) rfl (fun hb17 => ?_) (fun hb17 => ?_)
          · replace h := bif_t hb17 h
            refine WP_reg [1, 2, 7, 8] [] ?_
            refine WPO_f ?_
            obtain ⟨x18, hx18, h⟩ := bind_inv h
            refine And.intro (idx_nn hx18) ⟨_, idx_get ei64 hx18, ?_⟩
            obtain ⟨y19, hy19, h⟩ := bind_inv h
            refine ⟨_, _, CallT.any (casementref01_Between_ok hy19) rfl _ rfl, ?_⟩
            obtain ⟨y20, hy20, h⟩ := bind_inv h
            refine ⟨_, _, CallT.any (casementref01_Decimal_ok hy20) rfl _ rfl, ?_⟩
            obtain ⟨x21, hx21, h⟩ := bind_inv h
            refine And.intro (sadd_le hx21) ⟨_, sadd_eq hx21, ?_⟩
            cases h
            exact rfl
          · replace h := bif_f hb17 h
            refine WP_skip ?_
            cases h
            exact rfl
        cases h
        exact rfl
      refine WP_reg [1, 2, 7, 8] [] ?_
      refine WPO_f ?_
      cases h
      exact ⟨_, rfl, rfl⟩
    · replace h := bif_f hb10 h
      refine WP_exit ?_
      cases h
      exact ⟨_, rfl, rfl⟩
  refine WP_seq ?_
  refine WP_reg [6] [] ?_
  refine WPO_f ?_
  refine ⟨List.map by8 ([final] : List Int), rfl, ?_⟩
  obtain ⟨x25, hx25, h⟩ := bind_inv h
  refine And.intro (app_le by8 hx25) ⟨_, app_eq by8 hx25, ?_⟩
  refine WP_ret ?_
  cases h
  exact ⟨rfl, rfl, rfl, rfl, rfl⟩
noncomputable def casementlaw04_EscNumbers_l1 (params : List Int) (want : List Int) (t63 : Int) : Option ((List Int × Int) ⊕ List Int) :=
  letB (decide (t63 < (params.length : Int))) fun c28 =>
  bif c28 then (
    Option.bind (
      (idx params t63).bind fun x30 =>
      letB (decide (t63 < 16)) fun c31 =>
      Option.bind (
        bif c31 then (
          (app want [max (-1) (min x30 9999)]).bind fun x33 =>
          some (x33))
        else (
          some (want)) : Option (List Int)) fun j34 =>
      some (j34) : Option (List Int)) fun j35 =>
    some (.inl (j35, w64 (t63 + 1))))
  else (
    some (.inr want))
noncomputable def casementlaw04_EscNumbers (priv : Int) (params : List Int) (final : Int) (text : List Int) : Option Bool :=
  (casementlaw04_alive).bind fun y1 =>
  bif (!y1) then (
    some false)
  else (
    (esc_Csi priv params final).bind fun y3 =>
    (casementref04_Csi priv params final).bind fun y4 =>
    (casementref01_SameBytes y3 y4).bind fun y5 =>
    bif (!y5) then (
      some false)
    else (
      letB (decide (priv = 0)) fun c7 =>
      (bif c7 then some true else (
        letB (decide (priv ≥ 60)) fun c9 =>
        (bif c9 then (
          letB (decide (priv ≤ 63)) fun c11 =>
          some (c11)) else some false).bind fun g10 =>
        some (g10))).bind fun g8 =>
      (bif (!g8) then some true else (
        letB (decide (final < 64)) fun c15 =>
        some (c15))).bind fun g14 =>
      (bif g14 then some true else (
        letB (decide (final > 126)) fun c18 =>
        some (c18))).bind fun g17 =>
      (bif g17 then some true else (
        letB (decide ((params.length : Int) = 1)) fun c21 =>
        (bif c21 then (
          (idx params 0).bind fun x23 =>
          letB (decide (x23 < 0)) fun c24 =>
          some (c24)) else some false).bind fun g22 =>
        some (g22))).bind fun g20 =>
      bif g20 then (
        some true)
      else (
        (iter (fun s => casementlaw04_EscNumbers_l1 params s.1 s.2 : (List Int × Int) → Option ((List Int × Int) ⊕ List Int)) ([], 0)).bind fun j36 =>
        (esc_Parser_Feed (ParserM.mk (Reader.mk []) 0 false false (ActM.mk 0 0 0 0 [] (some []) []) 0 [] []) text).bind fun y37 =>
        (esc_Parser_Feed y37.2 [24]).bind fun y38 =>
        (esc_Parser_Feed y38.2 y3).bind fun y39 =>
        letB (decide ((y39.1.length : Int) = 1)) fun c40 =>
        (bif c40 then (
          (idx y39.1 0).bind fun x42 =>
          letB (decide (x42.Kind = 4)) fun c43 =>
          some (c43)) else some false).bind fun g41 =>
        (bif g41 then (
          (idx y39.1 0).bind fun x46 =>
          letB (decide (x46.Priv = priv)) fun c47 =>
          some (c47)) else some false).bind fun g45 =>
        (bif g45 then (
          (idx y39.1 0).bind fun x50 =>
          letB (decide (x50.Final = final)) fun c51 =>
          some (c51)) else some false).bind fun g49 =>
        (bif g49 then (
          (idx y39.1 0).bind fun x54 =>
          letB (decide (x54.Inter = [])) fun c55 =>
          some (c55)) else some false).bind fun g53 =>
        (bif g53 then (
          (idx y39.1 0).bind fun x58 =>
          (casementref01_SameInts x58.Params j36).bind fun y59 =>
          some (y59)) else some false).bind fun g57 =>
        (bif g57 then (
          (esc_Parser_Idle y39.2).bind fun y62 =>
          some (y62)) else some false).bind fun g61 =>
        some g61)))
set_option maxRecDepth 20000 in
theorem casementlaw04_EscNumbers_ok {priv : Int} {params : List Int} {final : Int} {text : List Int} {r : Bool} (h : casementlaw04_EscNumbers priv params final text = some r) : CallT true (RF ET) 5 [.int .u8 priv, .sl false 1 (List.map ei64 params), .int .u8 final, .sl false 1 (List.map by8 text)] [] (.bool r) [] := by
  refine CallT.quiet (con_low (af := a5) rfl rfl ?_) rfl
  unfold casementlaw04_EscNumbers at h
  refine WP_seq ?_
  refine WP_reg [0, 1, 2, 3] [] ?_
  refine WPO_f ?_
  refine WP_seq ?_
  refine WP_seq ?_
  refine WP_reg [0, 1, 2, 3, 17] [] ?_
  refine WPO_f ?_
  obtain ⟨y1, hy1, h⟩ := bind_inv h
  refine ⟨_, _, CallT.any (casementlaw04_alive_ok hy1) rfl _ rfl, ?_⟩
  refine WP_cond (b := (!y1)) rfl (fun hb2 => ?_) (fun hb2 => ?_)
  · replace h := bif_t hb2 h
    refine WP_seq ?_
    refine WP_reg [8] [] ?_
    refine WPO_f ?_
    refine WP_ret ?_
    cases h
    exact ⟨rfl, rfl, rfl, rfl, rfl⟩
  · replace h := bif_f hb2 h
    refine WP_skip ?_
    refine WP_seq ?_
    refine WP_reg [0, 1, 2, 3, 9] [] ?_
    refine WPO_f ?_
    obtain ⟨y3, hy3, h⟩ := bind_inv h
    refine ⟨_, _, CallT.any (esc_Csi_ok hy3) rfl _ rfl, ?_⟩
    refine WP_seq ?_
    refine WP_seq ?_
    refine WP_reg [0, 1, 2, 3, 9, 28] [] ?_
    refine WPO_f ?_
    obtain ⟨y4, hy4, h⟩ := bind_inv h
    refine ⟨_, _, CallT.any (casementref04_Csi_ok hy4) rfl _ rfl, ?_⟩
    obtain ⟨y5, hy5, h⟩ := bind_inv h
    refine ⟨_, _, CallT.any (casementref01_SameBytes_ok hy5) rfl _ rfl, ?_⟩
    refine WP_cond (b := (!y5)) rfl (fun hb6 => ?_) (fun hb6 => ?_)
    · replace h := bif_t hb6 h
      refine WP_seq ?_
      refine WP_reg [8] [] ?_
      refine WPO_f ?_
      refine WP_ret ?_
      cases h
      exact ⟨rfl, rfl, rfl, rfl, rfl⟩
    · replace h := bif_f hb6 h
      refine WP_skip ?_
      refine WP_seq ?_
      refine WP_reg [0, 1, 2, 3, 9, 10] [] ?_
      refine WPO_then 3 ?_
      refine WPO_f ?_
      refine fun c7 hc7 => ?_
      replace h := letB_inv hc7 h
      obtain ⟨g8, hg8, h⟩ := bind_inv h
      refine WPO_grp 7 38 [0, 1, 2, 3, 9, 38] g8 ?_ ?_
      · clear h
        replace h := hg8
        clear hg8
        cases hb13 : c7 with
        | false =>
          replace h := bif_f hb13 h
          refine WPO_then 3 ?_
          refine WPO_f ?_
          refine fun c9 hc9 => ?_
          replace h := letB_inv hc9 h
          obtain ⟨g10, hg10, h⟩ := bind_inv h
          refine WPO_grp 3 37 [0, 1, 2, 3, 9, 31, 37] g10 ?_ ?_
          · clear h
            replace h := hg10
            clear hg10
            cases hb12 : c9 with
            | true =>
              replace h := bif_t hb12 h
              refine WPO_f ?_
              refine fun c11 hc11 => ?_
              replace h := letB_inv hc11 h
              cases h
              exact ⟨rfl, rfl, rfl⟩
            | false =>
              replace h := bif_f hb12 h
              cases h
              refine WPO_f ?_
              exact ⟨rfl, rfl, rfl⟩
          refine WPO_f ?_
          cases h
          exact ⟨rfl, rfl, rfl⟩
        | true =>
          replace h := bif_t hb13 h
          cases h
          refine WPO_f ?_
          exact ⟨rfl, rfl, rfl⟩
      refine WPO_f ?_
      refine WP_seq ?_
      refine WP_seq ?_
      refine WP_reg [0, 1, 2, 3, 9, 59] [] ?_
      refine WPO_then 3 ?_
      refine WPO_f ?_
      obtain ⟨g14, hg14, h⟩ := bind_inv h
      refine WPO_grp 3 44 [0, 1, 2, 3, 9, 44] g14 ?_ ?_
      · clear h
        replace h := hg14
        clear hg14
        cases hb16 : (!g8) with
        | false =>
          replace h := bif_f hb16 h
          refine WPO_f ?_
          refine fun c15 hc15 => ?_
          replace h := letB_inv hc15 h
          cases h
          exact ⟨rfl, rfl, rfl⟩
        | true =>
          replace h := bif_t hb16 h
          cases h
          refine WPO_f ?_
          exact ⟨rfl, rfl, rfl⟩
      refine WPO_then 1 ?_
      refine WPO_f ?_
      obtain ⟨g17, hg17, h⟩ := bind_inv h
      refine WPO_grp 3 48 [0, 1, 2, 3, 9, 48] g17 ?_ ?_
      · clear h
        replace h := hg17
        clear hg17
        cases hb19 : g14 with
        | false =>
          replace h := bif_f hb19 h
          refine WPO_f ?_
          refine fun c18 hc18 => ?_
          replace h := letB_inv hc18 h
          cases h
          exact ⟨rfl, rfl, rfl⟩
        | true =>
          replace h := bif_t hb19 h
          cases h
          refine WPO_f ?_
          exact ⟨rfl, rfl, rfl⟩
      refine WPO_then 1 ?_
      refine WPO_f ?_
      obtain ⟨g20, hg20, h⟩ := bind_inv h
      refine WPO_grp 10 59 [0, 1, 2, 3, 9, 59] g20 ?_ ?_
      · clear h
        replace h := hg20
        clear hg20
        cases hb26 : g17 with
        | false =>
          replace h := bif_f hb26 h
          refine WPO_then 4 ?_
          refine WPO_f ?_
          refine ⟨_, (List.length_map ..).symm, ?_⟩
          refine fun c21 hc21 => ?_
          replace h := letB_inv hc21 h
          obtain ⟨g22, hg22, h⟩ := bind_inv h
          refine WPO_grp 5 58 [0, 1, 2, 3, 9, 49, 58] g22 ?_ ?_
          · clear h
            replace h := hg22
            clear hg22
            cases hb25 : c21 with
            | true =>
              replace h := bif_t hb25 h
              refine WPO_f ?_
              obtain ⟨x23, hx23, h⟩ := bind_inv h
              refine And.intro (idx_nn hx23) ⟨_, idx_get ei64 hx23, ?_⟩
              refine fun c24 hc24 => ?_
              replace h := letB_inv hc24 h
              cases h
              exact ⟨rfl, rfl, rfl⟩
            | false =>
              replace h := bif_f hb25 h
              cases h
              refine WPO_f ?_
              exact ⟨rfl, rfl, rfl⟩
          refine WPO_f ?_
          cases h
          exact ⟨rfl, rfl, rfl⟩
        | true =>
          replace h := bif_t hb26 h
          cases h
          refine WPO_f ?_
          exact ⟨rfl, rfl, rfl⟩
      refine WPO_f ?_
      refine WP_cond (b := g20) rfl (fun hb27 => ?_) (fun hb27 => ?_)
      · replace h := bif_t hb27 h
        refine WP_seq ?_
        refine WP_reg [8] [] ?_
        refine WPO_f ?_
        refine WP_ret ?_
        cases h
        exact ⟨rfl, rfl, rfl, rfl, rfl⟩
      · replace h := bif_f hb27 h
        refine WP_skip ?_
        refine WP_seq ?_
        refine WP_reg [0, 1, 2, 3, 9, 11] [] ?_
        refine WPO_f ?_
        refine ⟨List.map ei64 ([] : List Int), rfl, ?_⟩
        refine WP_seq ?_
        refine WP_seq ?_
        refine WP_reg [0, 2, 3, 9, 11, 61, 62, 63] [] ?_
        refine WPO_f ?_
        refine ⟨_, (List.length_map ..).symm, ?_⟩
        refine WP_block ?_
        obtain ⟨j36, hj36, h⟩ := bind_inv h
        refine WP_iter hj36 [] (fun s => ([(0, .int .u8 priv), (2, .int .u8 final), (3, .sl false 1 (List.map by8 text)), (9, .sl false 1 (List.map by8 y3)), (11, .sl true 1 (List.map ei64 s.1)), (61, .sl false 1 (List.map ei64 params)), (62, .int .i64 (params.length : Int)), (63, .int .i64 s.2)], [], [])) (fun _ => [0, 2, 3, 9, 11]) (fun _ => []) (fun z => (.exit 0, [(0, .int .u8 priv), (2, .int .u8 final), (3, .sl false 1 (List.map by8 text)), (9, .sl false 1 (List.map by8 y3)), (11, .sl true 1 (List.map ei64 z))], [], [])) ?_ ?_ ?_
        · exact rfl
        · clear h
          rintro ⟨want, t63⟩ x h
          replace h : casementlaw04_EscNumbers_l1 params want t63 = some x := h
          unfold casementlaw04_EscNumbers_l1 at h
          show T.WP _ _ [(0, .int .u8 priv), (2, .int .u8 final), (3, .sl false 1 (List.map by8 text)), (9, .sl false 1 (List.map by8 y3)), (11, .sl true 1 (List.map ei64 want)), (61, .sl false 1 (List.map ei64 params)), (62, .int .i64 (params.length : Int)), (63, .int .i64 t63)] [] [] _
          refine WP_seq ?_
          refine WP_reg [0, 2, 3, 9, 11, 61, 62, 63, 64] [] ?_
          refine WPO_f ?_
          refine fun c28 hc28 => ?_
          replace h := letB_inv hc28 h
          refine WP_seq ?_
          refine WP_cond (b := c28) rfl (fun hb29 => ?_) (fun hb29 => ?_)
          · replace h := bif_t hb29 h
            refine WP_skip ?_
            refine WP_seq ?_
            obtain ⟨j35, hj35, h⟩ := bind_inv h
            refine WP_cut j35 (fun z => (.normal, [(0, .int .u8 priv), (2, .int .u8 final), (3, .sl false 1 (List.map by8 text)), (9, .sl false 1 (List.map by8 y3)), (11, .sl true 1 (List.map ei64 z)), (61, .sl false 1 (List.map ei64 params)), (62, .int .i64 (params.length : Int)), (63, .int .i64 t63)], [], [])) (fun _ => [0, 2, 3, 9, 11, 61, 62, 63]) (fun _ => []) ?_ ?_
            · clear h
              replace h := hj35
              clear hj35
              refine WP_block ?_
              refine WP_seq ?_
              refine WP_reg [0, 2, 3, 9, 11, 12, 13, 61, 62, 63] [] ?_
              refine WPO_f ?_
              obtain ⟨x30, hx30, h⟩ := bind_inv h
              refine And.intro (idx_nn hx30) ⟨_, idx_get ei64 hx30, ?_⟩
              refine WP_seq ?_
              refine WP_reg [0, 2, 3, 9, 11, 13, 61, 62, 63, 69] [] ?_
              refine WPO_f ?_
              refine fun c31 hc31 => ?_
              replace h := letB_inv hc31 h
              obtain ⟨j34, hj34, h⟩ := bind_inv h
              refine WP_cut j34 (fun z => (.normal, [(0, .int .u8 priv), (2, .int .u8 final), (3, .sl false 1 (List.map by8 text)), (9, .sl false 1 (List.map by8 y3)), (11, .sl true 1 (List.map ei64 z)), (61, .sl false 1 (List.map ei64 params)), (62, .int .i64 (params.length : Int)), (63, .int .i64 t63)], [], [])) (fun _ => [0, 2, 3, 9, 11, 61, 62, 63]) (fun _ => []) ?_ ?_
              · clear h
                replace h := hj34
                clear hj34
                refine WP_cond (b := c31) rfl (fun hb32 => ?_) (fun hb32 => ?_)
                · replace h := bif_t hb32 h
                  refine WP_reg [0, 2, 3, 9, 11, 61, 62, 63] [] ?_
                  refine WPO_f ?_
                  refine ⟨List.map ei64 ([max (-1) (min x30 9999)] : List Int), rfl, ?_⟩
                  obtain ⟨x33, hx33, h⟩ := bind_inv h
                  refine And.intro (app_le ei64 hx33) ⟨_, app_eq ei64 hx33, ?_⟩
                  cases h
                  exact rfl
                · replace h := bif_f hb32 h
                  refine WP_skip ?_
                  cases h
                  exact rfl
              cases h
              exact rfl
            refine WP_reg [0, 2, 3, 9, 11, 61, 62, 63] [] ?_
            refine WPO_f ?_
            cases h
            exact ⟨_, rfl, rfl⟩
          · replace h := bif_f hb29 h
            refine WP_exit ?_
            cases h
            exact ⟨_, rfl, rfl⟩
        refine WP_seq ?_
        refine WP_reg [0, 2, 3, 9, 11, 14] [] ?_
        refine WPO_f ?_
        refine ⟨.sl false 1 [], .sl _ _, ?_⟩
        refine ⟨.sl true 1 [], .sl _ _, ?_⟩
        refine ⟨.sl true 1 [], .sl _ _, ?_⟩
        refine ⟨.sl true 7 [], .sl _ _, ?_⟩
        refine WP_seq ?_
        refine WP_reg [0, 2, 9, 11, 14] [] ?_
        refine WPO_f ?_
        obtain ⟨y37, hy37, h⟩ := bind_inv h
        refine ⟨_, _, CallT.sub (i := 0) (esc_Parser_Feed_ok hy37) rfl _ rfl rfl (ParserM.flat _) (ParserM.flat _), ?_⟩
        refine WP_seq ?_
        refine WP_reg [0, 2, 9, 11, 14] [] ?_
        refine WPO_f ?_
        refine ⟨List.map by8 ([24] : List Int), rfl, ?_⟩
        obtain ⟨y38, hy38, h⟩ := bind_inv h
        refine ⟨_, _, CallT.sub (i := 0) (esc_Parser_Feed_ok hy38) rfl _ rfl rfl (ParserM.flat _) (ParserM.flat _), ?_⟩
        refine WP_seq ?_
        refine WP_reg [0, 2, 11, 14, 15] [] ?_
        refine WPO_f ?_
        obtain ⟨y39, hy39, h⟩ := bind_inv h
        refine ⟨_, _, CallT.sub (i := 0) (esc_Parser_Feed_ok hy39) rfl _ rfl rfl (ParserM.flat _) (ParserM.flat _), ?_⟩
        refine WP_seq ?_
        refine WP_reg [8] [] ?_
        refine WPO_then 4 ?_
        refine WPO_f ?_
        refine ⟨_, (List.length_map ..).symm, ?_⟩
        refine fun c40 hc40 => ?_
        replace h := letB_inv hc40 h
        obtain ⟨g41, hg41, h⟩ := bind_inv h
        refine WPO_grp 6 92 [0, 2, 11, 14, 15, 92] g41 ?_ ?_
        · clear h
          replace h := hg41
          clear hg41
          cases hb44 : c40 with
          | true =>
            replace h := bif_t hb44 h
            refine WPO_f ?_
            obtain ⟨x42, hx42, h⟩ := bind_inv h
            refine And.intro (idx_nn hx42) ⟨_, idx_get Act.e hx42, ?_⟩
            refine fun c43 hc43 => ?_
            replace h := letB_inv hc43 h
            cases h
            exact ⟨rfl, rfl, rfl⟩
          | false =>
            replace h := bif_f hb44 h
            cases h
            refine WPO_f ?_
            exact ⟨rfl, rfl, rfl⟩
        refine WPO_then 1 ?_
        refine WPO_f ?_
        obtain ⟨g45, hg45, h⟩ := bind_inv h
        refine WPO_grp 7 100 [2, 11, 14, 15, 100] g45 ?_ ?_
        · clear h
          replace h := hg45
          clear hg45
          cases hb48 : g41 with
          | true =>
            replace h := bif_t hb48 h
            refine WPO_f ?_
            obtain ⟨x46, hx46, h⟩ := bind_inv h
            refine And.intro (idx_nn hx46) ⟨_, idx_get Act.e hx46, ?_⟩
            refine fun c47 hc47 => ?_
            replace h := letB_inv hc47 h
            cases h
            exact ⟨rfl, rfl, rfl⟩
          | false =>
            replace h := bif_f hb48 h
            cases h
            refine WPO_f ?_
            exact ⟨rfl, rfl, rfl⟩
        refine WPO_then 1 ?_
        refine WPO_f ?_
        obtain ⟨g49, hg49, h⟩ := bind_inv h
        refine WPO_grp 7 108 [11, 14, 15, 108] g49 ?_ ?_
        · clear h
          replace h := hg49
          clear hg49
          cases hb52 : g45 with
          | true =>
            replace h := bif_t hb52 h
            refine WPO_f ?_
            obtain ⟨x50, hx50, h⟩ := bind_inv h
            refine And.intro (idx_nn hx50) ⟨_, idx_get Act.e hx50, ?_⟩
            refine fun c51 hc51 => ?_
            replace h := letB_inv hc51 h
            cases h
            exact ⟨rfl, rfl, rfl⟩
          | false =>
            replace h := bif_f hb52 h
            cases h
            refine WPO_f ?_
            exact ⟨rfl, rfl, rfl⟩
        refine WPO_then 1 ?_
        refine WPO_f ?_
        obtain ⟨g53, hg53, h⟩ := bind_inv h
        refine WPO_grp 6 115 [11, 14, 15, 115] g53 ?_ ?_
        · clear h
          replace h := hg53
          clear hg53
          cases hb56 : g49 with
          | true =>
            replace h := bif_t hb56 h
            refine WPO_f ?_
            obtain ⟨x54, hx54, h⟩ := bind_inv h
            refine And.intro (idx_nn hx54) ⟨_, idx_get Act.e hx54, ?_⟩
            refine fun c55 hc55 => ?_
            replace h := letB_inv hc55 h
            cases h
            exact ⟨rfl, rfl, rfl⟩
          | false =>
            replace h := bif_f hb56 h
            cases h
            refine WPO_f ?_
            exact ⟨rfl, rfl, rfl⟩
        refine WPO_then 1 ?_
        refine WPO_f ?_
        obtain ⟨g57, hg57, h⟩ := bind_inv h
        refine WPO_grp 7 123 [14, 123] g57 ?_ ?_
        · clear h
          replace h := hg57
          clear hg57
          cases hb60 : g53 with
          | true =>
            replace h := bif_t hb60 h
            refine WPO_f ?_
            obtain ⟨x58, hx58, h⟩ := bind_inv h
            refine And.intro (idx_nn hx58) ⟨_, idx_get Act.e hx58, ?_⟩
            obtain ⟨y59, hy59, h⟩ := bind_inv h
            refine ⟨_, _, CallT.any (casementref01_SameInts_ok hy59) rfl _ rfl, ?_⟩
            cases h
            exact ⟨rfl, rfl, rfl⟩
          | false =>
            replace h := bif_f hb60 h
            cases h
            refine WPO_f ?_
            exact ⟨rfl, rfl, rfl⟩
        refine WPO_then 1 ?_
        refine WPO_f ?_
        obtain ⟨g61, hg61, h⟩ := bind_inv h
        refine WPO_grp 2 126 [126] g61 ?_ ?_
        · clear h
          replace h := hg61
          clear hg61
          cases hb63 : g57 with
          | true =>
            replace h := bif_t hb63 h
            refine WPO_f ?_
            obtain ⟨y62, hy62, h⟩ := bind_inv h
            refine ⟨_, _, CallT.sub (i := 0) (esc_Parser_Idle_ok hy62) rfl _ rfl rfl (ParserM.flat _) (ParserM.flat _), ?_⟩
            cases h
            exact ⟨rfl, rfl, rfl⟩
          | false =>
            replace h := bif_f hb63 h
            cases h
            refine WPO_f ?_
            exact ⟨rfl, rfl, rfl⟩
        refine WPO_f ?_
        refine WP_ret ?_
        cases h
        exact ⟨rfl, rfl, rfl, rfl, rfl⟩
end Go.Proofs.YtggbcchebiedjaaDoor.Am.Esc

set_option linter.all false
namespace Go.Proofs.YtggbcchebiedjaaDoor.Am.Esc
open Go.Proofs.YtggbcchebiedjaaDoor.Am.T
theorem w64_id {n : Int} (h1 : -9223372036854775808 ≤ n) (h2 : n ≤ 9223372036854775807) : w64 n = n := by
  show IntKind.wrap .i64 n = n
  rw [IntKind.wrap_i64]; omega
def Byts (l : List Int) : Prop := ∀ x ∈ l, 0 ≤ x ∧ x < 256
theorem Byts.get {l : List Int} (h : Byts l) (i : Nat) : 0 ≤ l.getD i 0 ∧ l.getD i 0 < 256 := by
  rw [List.getD_eq_getElem?_getD]
  cases hi : l[i]? with
  | none => exact ⟨Int.le_refl _, by decide⟩
  | some x => exact h x (List.mem_of_getElem? hi)
theorem Byts.drop {l : List Int} (h : Byts l) (n : Nat) : Byts (l.drop n) := fun x hx => h x (List.mem_of_mem_drop hx)
theorem Byts.append {l l' : List Int} (h : Byts l) (h' : Byts l') : Byts (l ++ l') := fun x hx => by
  rcases List.mem_append.1 hx with h1 | h1
  · exact h x h1
  · exact h' x h1
theorem idx_is {α : Type} {d : α} {l : List α} {i : Int} (h0 : 0 ≤ i) (h : i < l.length) : idx l i = some (l.getD i.toNat d) := by
  unfold idx
  rw [if_pos h0, List.getD_eq_getElem?_getD, List.getElem?_eq_getElem (by omega)]; rfl
def firstOk (x : Int) : Bool := decide (0 ≤ iAnd .u8 x 7) && decide (iAnd .u8 x 7 ≤ 4) && decide (0 ≤ iShr .u8 x 4) && decide (iShr .u8 x 4 < 16) && (decide (x ≥ 240) || decide (2 ≤ iAnd .u8 x 7))
theorem first_all : tab1L.all firstOk = true := by decide +kernel
theorem first_len : tab1L.length = 256 := by decide +kernel
theorem second_len : tab2L.length = 16 := by decide +kernel
theorem first_at {b : Int} (h : 0 ≤ b ∧ b < 256) : ∃ x, idx tab1L b = some x ∧ (0 ≤ iAnd .u8 x 7 ∧ iAnd .u8 x 7 ≤ 4) ∧ (0 ≤ iShr .u8 x 4 ∧ iShr .u8 x 4 < 16) ∧ (x ≥ 240 ∨ 2 ≤ iAnd .u8 x 7) := by
  refine ⟨_, idx_is (d := 0) h.1 (by have := first_len; omega), ?_⟩
  have hm : tab1L.getD b.toNat 0 ∈ tab1L := by
    rw [List.getD_eq_getElem?_getD, List.getElem?_eq_getElem (by rw [first_len]; omega)]
    exact List.getElem_mem _
  have := List.all_eq_true.1 first_all _ hm
  clear hm
  generalize tab1L.getD b.toNat 0 = x at this ⊢
  simp only [firstOk, Bool.and_eq_true, Bool.or_eq_true, decide_eq_true_eq] at this
  obtain ⟨⟨⟨⟨h1, h2⟩, h3⟩, h4⟩, h5⟩ := this
  exact ⟨⟨h1, h2⟩, ⟨h3, h4⟩, h5⟩
theorem second_at {i : Int} (h : 0 ≤ i ∧ i < 16) : ∃ x, idx tab2L i = some x := ⟨_, idx_is (d := ⟨0, 0⟩) h.1 (by have := second_len; omega)⟩
theorem full_some {b : List Int} (hb : Byts b) : ∃ t, unicode_utf8_FullRune b = some t ∧ (t = true → b ≠ []) ∧ (t = false → b.length ≤ 3) := by
  unfold unicode_utf8_FullRune
  simp only [letB]
  by_cases h0 : b.length = 0
  · refine ⟨false, ?_, by simp, fun _ => by omega⟩
    rw [show decide ((b.length : Int) = 0) = true from decide_eq_true (by omega)]; rfl
  · rw [show decide ((b.length : Int) = 0) = false from decide_eq_false (by omega)]
    have hn : b ≠ [] := fun h => h0 (by rw [h]; rfl)
    obtain ⟨x, hx, hs, hr, _⟩ := first_at (hb.get 0)
    obtain ⟨y, hy⟩ := second_at hr
    simp only [cond_false]
    rw [idx_is (d := 0) (Int.le_refl 0) (by omega)]
    simp only [Option.bind_some, Int.toNat_zero]
    rw [hx]
    simp only [Option.bind_some]
    rw [w64_id (by omega) (by omega)]
    by_cases hl : (b.length : Int) ≥ iAnd .u8 x 7
    · exact ⟨true, by rw [decide_eq_true hl]; rfl, fun _ => hn, fun h => by cases h⟩
    · rw [decide_eq_false hl, hy]
      simp only [cond_false, Option.bind_some]
      have hl3 : b.length ≤ 3 := by omega
      have key : ∀ o : Option Bool, (∃ t, o = some t) → ∃ t, o = some t ∧ (t = true → b ≠ []) ∧ (t = false → b.length ≤ 3) := fun o ⟨t, h⟩ => ⟨t, h, fun _ => hn, fun _ => hl3⟩
      apply key
      by_cases h1 : (b.length : Int) > 1
      · rw [decide_eq_true h1, idx_is (d := 0) (i := 1) (by omega) (by omega)]
        simp only [cond_true, Option.bind_some]
        cases decide (b.getD (Int.toNat 1) 0 < y.lo) <;> cases decide (y.hi < b.getD (Int.toNat 1) 0) <;> simp only [cond_true, cond_false, Option.bind_some] <;> first | exact ⟨_, rfl⟩ | skip
        by_cases h2 : (b.length : Int) > 2
        · rw [decide_eq_true h2, idx_is (d := 0) (i := 2) (by omega) (by omega)]
          simp only [cond_true, Option.bind_some]
          cases decide (b.getD (Int.toNat 2) 0 < 128) <;> cases decide (191 < b.getD (Int.toNat 2) 0) <;> exact ⟨_, rfl⟩
        · rw [decide_eq_false h2]; exact ⟨_, rfl⟩
      · rw [decide_eq_false h1]
        simp only [cond_false, Option.bind_some]
        rw [decide_eq_false (show ¬ (b.length : Int) > 2 by omega)]; exact ⟨_, rfl⟩
theorem dec_some {b : List Int} (hb : Byts b) (hn : b ≠ []) : ∃ r n, unicode_utf8_DecodeRune b = some (r, n) ∧ 1 ≤ n ∧ n ≤ (b.length : Int) := by
  have h0 : 0 < b.length := List.length_pos_iff.2 hn
  have slow : ∃ r n, unicode_utf8_decodeRuneSlow b = some (r, n) ∧ 1 ≤ n ∧ n ≤ (b.length : Int) := by
    unfold unicode_utf8_decodeRuneSlow
    simp only [letB]
    rw [show decide ((b.length : Int) < 1) = false from decide_eq_false (by omega)]
    simp only [cond_false]
    obtain ⟨x, hx, hs, hr, hh⟩ := first_at (hb.get 0)
    obtain ⟨y, hy⟩ := second_at hr
    rw [idx_is (d := 0) (i := 0) (by omega) (by omega)]
    simp only [Option.bind_some, Int.toNat_zero]
    rw [hx]
    simp only [Option.bind_some]
    by_cases h240 : x ≥ 240
    · rw [decide_eq_true h240]; exact ⟨_, _, rfl, by omega, by omega⟩
    · rw [decide_eq_false h240, hy]
      have h2 : 2 ≤ iAnd .u8 x 7 := hh.resolve_left h240
      simp only [cond_false, Option.bind_some]
      rw [w64_id (n := iAnd .u8 x 7) (by omega) (by omega)]
      by_cases hl : (b.length : Int) < iAnd .u8 x 7
      · rw [decide_eq_true hl]; exact ⟨_, _, rfl, by omega, by omega⟩
      · rw [decide_eq_false hl, idx_is (d := 0) (i := 1) (by omega) (by omega)]
        simp only [cond_false, Option.bind_some]
        have bad : ∃ r n, (some (65533, 1) : Option (Int × Int)) = some (r, n) ∧ 1 ≤ n ∧ n ≤ (b.length : Int) := ⟨_, _, rfl, by omega, by omega⟩
        cases decide (b.getD (Int.toNat 1) 0 < y.lo) <;> cases decide (y.hi < b.getD (Int.toNat 1) 0) <;> simp only [cond_true, cond_false, Option.bind_some] <;> first | exact bad | skip
        by_cases hs2 : iAnd .u8 x 7 ≤ 2
        · rw [decide_eq_true hs2]; exact ⟨_, _, rfl, by omega, by omega⟩
        · rw [decide_eq_false hs2, idx_is (d := 0) (i := 2) (by omega) (by omega)]
          simp only [cond_false, Option.bind_some]
          cases decide (b.getD (Int.toNat 2) 0 < 128) <;> cases decide (191 < b.getD (Int.toNat 2) 0) <;> simp only [cond_true, cond_false, Option.bind_some] <;> first | exact bad | skip
          by_cases hs3 : iAnd .u8 x 7 ≤ 3
          · rw [decide_eq_true hs3]; exact ⟨_, _, rfl, by omega, by omega⟩
          · rw [decide_eq_false hs3, idx_is (d := 0) (i := 3) (by omega) (by omega)]
            simp only [cond_false, Option.bind_some]
            cases decide (b.getD (Int.toNat 3) 0 < 128) <;> cases decide (191 < b.getD (Int.toNat 3) 0) <;> simp only [cond_true, cond_false, Option.bind_some] <;> first | exact bad | exact ⟨_, _, rfl, by omega, by omega⟩
  unfold unicode_utf8_DecodeRune
  have hl : unicode_utf8_DecodeRune_l2 b = some (.inr (if b.getD 0 0 < 128 then .inl (w32 (b.getD 0 0)) else .inr ())) := by
    unfold unicode_utf8_DecodeRune_l2
    simp only [letB]
    rw [show decide (0 < (b.length : Int)) = true from decide_eq_true (by omega), idx_is (d := 0) (i := 0) (by omega) (by omega)]
    simp only [cond_true, Option.bind_some, Int.toNat_zero]
    by_cases h : b.getD 0 0 < 128
    · rw [decide_eq_true h, if_pos h]; rfl
    · rw [decide_eq_false h, if_neg h]; rfl
  rw [iter_inr hl]
  simp only [Option.bind_some]
  by_cases h : b.getD 0 0 < 128
  · rw [if_pos h]; exact ⟨_, _, rfl, by omega, by omega⟩
  · rw [if_neg h]
    obtain ⟨r, n, h1, h2, h3⟩ := slow
    exact ⟨r, n, by simp only [Option.bind_some, h1], h2, h3⟩
theorem feed_some : ∀ (k : Nat) {all : List Int} {out : List Int}, Byts all → all.length ≤ k → out.length + all.length ≤ most →
    ∃ rs rest, iter (fun s => glyph_Reader_Feed_in32_0_l1 s.1 s.2 : (List Int × List Int) → Option ((List Int × List Int) ⊕ (List Int × List Int))) (out, all) = some (out ++ rs, rest) ∧ rest.length ≤ 3 ∧ rs.length + rest.length ≤ all.length ∧ Byts rest
  | k, all, out, hb, hk, hm => by
    obtain ⟨t, ht, h1, h2⟩ := full_some hb
    cases t with
    | false =>
      refine ⟨[], all, ?_, h2 rfl, by simp, hb⟩
      rw [iter_inr (r := (out, all)) (by simp only [glyph_Reader_Feed_in32_0_l1, ht, Option.bind_some]; rfl), List.append_nil]
    | true =>
      obtain ⟨r, n, hd, hn1, hn2⟩ := dec_some hb (h1 rfl)
      have hl : 0 < all.length := List.length_pos_iff.2 (h1 rfl)
      have hstep : glyph_Reader_Feed_in32_0_l1 out all = some (.inl (out ++ [r], all.drop n.toNat)) := by
        unfold glyph_Reader_Feed_in32_0_l1
        rw [ht]
        simp only [Option.bind_some, cond_true, hd]
        rw [app_some (by simp; omega)]
        simp only [Option.bind_some]
        unfold subA
        rw [if_pos ⟨by omega, hn2⟩]; rfl
      match k with
      | 0 => omega
      | k + 1 =>
        obtain ⟨rs, rest, e, e1, e2, e3⟩ := feed_some k (all := all.drop n.toNat) (out := out ++ [r]) (hb.drop _) (by simp; omega) (by simp; omega)
        refine ⟨r :: rs, rest, ?_, e1, by simp at e2 ⊢; omega, e3⟩
        rw [iter_inl (s' := (out ++ [r], all.drop n.toNat)) (by exact hstep), e]
        simp
end Go.Proofs.YtggbcchebiedjaaDoor.Am.Esc

set_option linter.all false
namespace Go.Proofs.YtggbcchebiedjaaDoor.Am.Esc
open Go.Proofs.YtggbcchebiedjaaDoor.Am.T
def pr (r : Int) : Act := ⟨1, r, 0, 0, [], [], []⟩
def putE (p : ParserM) (zs : List Act) : ParserM := { p with out := p.out ++ zs }
theorem print_loop (rs : List Int) (hr : rs.length ≤ most) : ∀ (k : Nat) (i : Nat) (p : ParserM), i + k = rs.length → p.out.length + k ≤ most →
    iter (fun s => esc_Parser_print_l1 rs s.1 s.2 : (Int × ParserM) → Option ((Int × ParserM) ⊕ ParserM)) ((i : Int), p) = some (putE p ((rs.drop i).map pr))
  | 0, i, p, hi, ho => by
    have hm : most = 4294967296 := rfl
    rw [iter_inr (r := p) (by
      simp only [esc_Parser_print_l1, letB]
      rw [decide_eq_false (by omega)]; rfl)]
    rw [List.drop_of_length_le (by omega)]
    simp [putE]
  | k + 1, i, p, hi, ho => by
    have hm : most = 4294967296 := rfl
    have hd : rs.drop i = rs.getD i 0 :: rs.drop (i + 1) := by
      rw [List.getD_eq_getElem?_getD, List.getElem?_eq_getElem (by omega)]; exact List.drop_eq_getElem_cons (by omega)
    rw [iter_inl (s' := (((i + 1 : Nat) : Int), putE p [pr (rs.getD i 0)])) (by
      simp only [esc_Parser_print_l1, letB]
      rw [decide_eq_true (by omega), idx_is (d := 0) (by omega) (by omega)]
      simp only [cond_true, Option.bind_some, Int.toNat_natCast, esc_Parser_say]
      rw [app_some (by simp; omega)]
      simp only [Option.bind_some]
      rw [w64_id (by omega) (by omega)]; rfl)]
    rw [print_loop rs hr k (i + 1) _ (by omega) (by simp [putE]; omega), hd]
    simp [putE]
theorem print_is {p : ParserM} {rs : List Int} (h : p.out.length + rs.length ≤ most) : esc_Parser_print p rs = some (putE p (rs.map pr)) := by
  unfold esc_Parser_print
  have := print_loop rs (by omega) rs.length 0 p (by omega) h
  rw [List.drop_zero] at this
  have e : iter (fun s => esc_Parser_print_l1 rs s.1 s.2 : (Int × ParserM) → Option ((Int × ParserM) ⊕ ParserM)) (0, p) = some (putE p (rs.map pr)) := this
  rw [e]; rfl
noncomputable def gF (all : List Int) : List Int × List Int := (iter (fun s => glyph_Reader_Feed_in32_0_l1 s.1 s.2 : (List Int × List Int) → Option ((List Int × List Int) ⊕ (List Int × List Int))) ([], all)).getD ([], all)
theorem gF_is {all : List Int} (hb : Byts all) (hl : all.length ≤ most) :
    iter (fun s => glyph_Reader_Feed_in32_0_l1 s.1 s.2 : (List Int × List Int) → Option ((List Int × List Int) ⊕ (List Int × List Int))) ([], all) = some (gF all) ∧ (gF all).2.length ≤ 3 ∧ (gF all).1.length + (gF all).2.length ≤ all.length ∧ Byts (gF all).2 := by
  obtain ⟨rs, rest, e, h1, h2, h3⟩ := feed_some all.length (all := all) (out := []) hb (Nat.le_refl _) (by simpa using hl)
  have hg : gF all = (rs, rest) := by unfold gF; rw [e]; rfl
  rw [hg]
  exact ⟨by rw [e]; rfl, h1, h2, h3⟩
noncomputable def plainE (p : ParserM) (c : Int) : ParserM := putE { p with text := ⟨(gF (p.text.waits ++ [c])).2⟩ } ((gF (p.text.waits ++ [c])).1.map pr)
def restE (p : ParserM) : ParserM := putE { p with text := ⟨[]⟩ } ((List.replicate p.text.waits.length 65533).map pr)
def beginE (p : ParserM) (s : Int) : ParserM := ⟨p.text, s, false, true, ⟨0, 0, 0, 0, [], some [], []⟩, 0, [], p.out⟩
def interE (p : ParserM) (c : Int) : ParserM := if p.act.Inter.length = 2 then { p with spoiled := true } else { p with act := { p.act with Inter := p.act.Inter ++ [c] } }
def behindE (p : ParserM) (c : Int) : ParserM :=
  if c < 48 then interE p c else if c = 91 ∧ p.act.Inter = [] then beginE p 2
  else if p.act.Inter = [] ∧ c ∈ [93, 80, 88, 94, 95] then { beginE p 3 with act := { (beginE p 3).act with Final := c } }
  else { (if c < 127 ∧ p.spoiled = false then putE p [⟨3, 0, c, 0, p.act.Inter, [], []⟩] else p) with in_ := 0 }
def endE (p : ParserM) (c : Int) : ParserM :=
  if p.spoiled = false then putE { p with in_ := 0, act := { p.act with Kind := 4, Final := c, Params := none } } [{ p.act with Kind := 4, Final := c, Params := p.act.Params.getD [] }] else { p with in_ := 0 }
def num1 (p : ParserM) : ParserM := if p.count = 0 then { p with act := { p.act with Params := some [-1] }, count := 1 } else p
def numberE (p : ParserM) (c : Int) : ParserM :=
  let q := num1 p
  let ps := q.act.Params.getD []
  if c = 59 then { q with act := { q.act with Params := some (if q.count + 1 ≤ 16 then ps ++ [-1] else ps) }, count := q.count + 1 }
  else { q with act := { q.act with Params := some (if q.count ≤ 16 then upI ps (q.count - 1) (min (w64 ((w64 ((max (ps.getD (q.count - 1).toNat 0) 0) * 10)) + (w64 (w8 (c - 48))))) 9999) else ps) } }
def sequenceE (p : ParserM) (c : Int) : ParserM :=
  if c ≥ 128 then { p with in_ := 0, first := false } else if c < 48 then interE { p with first := false } c else if c ≥ 64 then endE { p with first := false } c
  else if c ≥ 60 ∧ p.first = true then { p with first := false, act := { p.act with Priv := c } }
  else if c = 58 ∨ c ≥ 60 ∨ p.act.Inter ≠ [] then { p with spoiled := true, first := false } else numberE { p with first := false } c
def endStringE (p : ParserM) : ParserM := putE { p with in_ := 0 } [⟨5, 0, p.act.Final, 0, [], [], p.payload⟩]
def collectE (p : ParserM) (c : Int) : ParserM :=
  if c = 7 then endStringE p else if c = 27 then { p with in_ := 4 } else if c = 24 ∨ c = 26 then { p with in_ := 0 }
  else if c ≥ 32 ∧ p.payload.length < 256 then { p with payload := p.payload ++ [c] } else p
noncomputable def onE (p : ParserM) (c : Int) : ParserM := if p.in_ = 1 then behindE p c else if p.in_ = 2 then sequenceE p c else plainE p c
def flushE (p : ParserM) (c : Int) : ParserM := if c < 32 ∨ c = 127 then restE p else p
noncomputable def outE (q : ParserM) (c : Int) : ParserM :=
  if c = 24 ∨ c = 26 then { q with in_ := 0 } else if c = 27 then beginE q 1 else if c < 32 then putE q [⟨2, 0, c, 0, [], [], []⟩] else if c ≠ 127 then onE q c else q
noncomputable def endsE (q : ParserM) (c : Int) : ParserM := if c = 92 then endStringE q else outE (flushE (beginE q 1) c) c
noncomputable def byteE (p : ParserM) (c : Int) : ParserM :=
  if (flushE p c).in_ = 3 then collectE (flushE p c) c else if (flushE p c).in_ = 4 then endsE (flushE p c) c else outE (flushE p c) c
structure Ok (n : Nat) (p : ParserM) : Prop where
  inn : 0 ≤ p.in_ ∧ p.in_ ≤ 4
  wts : Byts p.text.waits ∧ p.text.waits.length ≤ 3
  pay : Byts p.payload ∧ p.payload.length ≤ 256
  int : p.act.Inter.length ≤ 2
  num : p.in_ = 2 → ∃ ps, p.act.Params = some ps ∧ 0 ≤ p.count ∧ p.count ≤ n ∧ ps.length = min p.count.toNat 16
theorem flush_in {p : ParserM} {c : Int} : (flushE p c).in_ = p.in_ := by unfold flushE restE putE; split <;> rfl
theorem Ok.flush {n : Nat} {p : ParserM} {c : Int} (h : Ok n p) : Ok n (flushE p c) := by
  unfold flushE restE putE
  split
  · exact ⟨h.inn, ⟨fun _ hx => (by cases hx), Nat.zero_le _⟩, h.pay, h.int, h.num⟩
  · exact h
theorem flush_out {n : Nat} {p : ParserM} {c : Int} (h : Ok n p) : (flushE p c).out.length ≤ p.out.length + 3 := by
  unfold flushE restE putE
  split
  · simp; exact h.wts.2
  · omega
theorem most_is : most = 4294967296 := rfl
theorem rest_is {n : Nat} {p : ParserM} (h : Ok n p) (ho : p.out.length + 3 ≤ most) : ((glyph_Reader_Rest_in32_0 p).bind fun y6 => (esc_Parser_print y6.2 y6.1).bind fun y7 => some y7) = some (restE p) := by
  have hw := h.wts.2
  have hr : slices_Repeat_31 [65533] (p.text.waits.length : Int) = some (List.replicate p.text.waits.length 65533) := by
    show (if 0 ≤ (p.text.waits.length : Int) ∧ (p.text.waits.length : Int) ≤ 3 then some (List.replicate (p.text.waits.length : Int).toNat 65533) else none) = _
    rw [if_pos ⟨by omega, by omega⟩]; rfl
  unfold glyph_Reader_Rest_in32_0
  rw [hr]
  simp only [Option.bind_some, Int.toNat_natCast]
  rw [print_is (by simp; omega)]; rfl
end Go.Proofs.YtggbcchebiedjaaDoor.Am.Esc

set_option linter.all false
namespace Go.Proofs.YtggbcchebiedjaaDoor.Am.Esc
open Go.Proofs.YtggbcchebiedjaaDoor.Am.T
theorem rune_small : ∀ k : Nat, k < 16 → runeT (w32 ((32 + k : Nat) : Int)) = [((32 + k : Nat) : Int)] := by decide +kernel
theorem inter_is {p : ParserM} {c : Int} (hi : p.act.Inter.length ≤ 2) (hc : 32 ≤ c ∧ c < 48) : esc_Parser_inter p c = some (interE p c) := by
  have hr : runeT (w32 c) = [c] := by
    have := rune_small (c - 32).toNat (by omega)
    rwa [show ((32 + (c - 32).toNat : Nat) : Int) = c by omega] at this
  unfold interE
  simp only [esc_Parser_inter, letB, hr]
  by_cases h : p.act.Inter.length = 2
  · rw [if_pos h, decide_eq_true (by omega)]; rfl
  · rw [if_neg h, decide_eq_false (by omega)]
    simp only [cond_false, sadd]
    rw [if_pos (by simp; omega)]; rfl
theorem index_loop (l : List Int) (v : Int) (hl : l.length ≤ most) : ∀ (k i : Nat), i + k = l.length →
    ∃ j, iter (fun s => slices_Index_51_l1 l v s : Int → Option (Int ⊕ (Int ⊕ Unit))) (i : Int) = some j ∧ (match j with | .inl n => 0 ≤ n ∧ v ∈ l.drop i | .inr _ => v ∉ l.drop i)
  | 0, i, hi => by
    refine ⟨.inr (), iter_inr ?_, ?_⟩
    · simp only [slices_Index_51_l1, letB]
      rw [decide_eq_false (by omega)]; rfl
    · rw [List.drop_of_length_le (by omega)]; simp
  | k + 1, i, hi => by
    have hm := most_is
    have hd : l.drop i = l.getD i 0 :: l.drop (i + 1) := by
      rw [List.getD_eq_getElem?_getD, List.getElem?_eq_getElem (by omega)]; exact List.drop_eq_getElem_cons (by omega)
    by_cases he : v = l.getD i 0
    · refine ⟨.inl (i : Int), iter_inr ?_, ?_⟩
      · simp only [slices_Index_51_l1, letB]
        rw [decide_eq_true (by omega), idx_is (d := 0) (by omega) (by omega)]
        simp only [cond_true, Option.bind_some, Int.toNat_natCast]
        rw [decide_eq_true he]; rfl
      · exact ⟨by omega, by rw [hd, he]; exact List.mem_cons_self⟩
    · obtain ⟨j, e, hj⟩ := index_loop l v hl k (i + 1) (by omega)
      refine ⟨j, ?_, ?_⟩
      · rw [iter_inl (s' := ((i + 1 : Nat) : Int)) (by
          simp only [slices_Index_51_l1, letB]
          rw [decide_eq_true (by omega), idx_is (d := 0) (by omega) (by omega)]
          simp only [cond_true, Option.bind_some, Int.toNat_natCast]
          rw [decide_eq_false he, w64_id (by omega) (by omega)]; rfl), e]
      · rw [hd]
        cases j with
        | inl n => exact ⟨hj.1, .tail _ hj.2⟩
        | inr _ => intro hh; rcases List.mem_cons.1 hh with h | h; exact he h; exact hj h
theorem contains_is {l : List Int} {v : Int} (hl : l.length ≤ most) : slices_Contains_40 l v = some (decide (v ∈ l)) := by
  obtain ⟨j, e, hj⟩ := index_loop l v hl l.length 0 (by omega)
  have e : iter (fun s => slices_Index_51_l1 l v s : Int → Option (Int ⊕ (Int ⊕ Unit))) 0 = some j := e
  simp only [slices_Contains_40, slices_Index_51, e, Option.bind_some, letB]
  cases j with
  | inl n =>
    have hj : 0 ≤ n ∧ v ∈ l := hj
    simp only [Option.bind_some]
    rw [decide_eq_true (by omega : n ≥ 0), decide_eq_true hj.2]
  | inr _ =>
    have hj : v ∉ l := hj
    simp only [Option.bind_some]
    rw [decide_eq_false hj]; rfl
theorem say_is {p : ParserM} {a : Act} (h : p.out.length + 1 ≤ most) : esc_Parser_say p a = some (putE p [a]) := by
  unfold esc_Parser_say
  rw [app_some (by simpa using h)]; rfl
theorem begin_is {p : ParserM} {s : Int} : esc_Parser_begin p s = some (beginE p s) := rfl
theorem behind_is {p : ParserM} {c : Int} (hi : p.act.Inter.length ≤ 2) (hc : 32 ≤ c) (ho : p.out.length + 1 ≤ most) : esc_Parser_behind p c = some (behindE p c) := by
  unfold esc_Parser_behind behindE
  simp only [letB]
  by_cases h1 : c < 48
  · rw [decide_eq_true h1, if_pos h1, inter_is hi ⟨hc, h1⟩]; rfl
  rw [decide_eq_false h1, if_neg h1, contains_is (by simp [most_is])]
  simp only [cond_false, Option.bind_some, begin_is]
  by_cases h2 : c = 91
  · rw [decide_eq_true h2]
    by_cases h3 : p.act.Inter = []
    · rw [decide_eq_true h3, if_pos ⟨h2, h3⟩]; rfl
    · rw [decide_eq_false h3, if_neg (by simp [h3]), if_neg (by simp [h3])]
      simp only [cond_true, cond_false, Option.bind_some]
      by_cases h4 : c < 127
      · rw [decide_eq_true h4]
        cases h5 : p.spoiled with
        | true => rw [if_neg (by simp)]; rfl
        | false =>
          rw [if_pos ⟨h4, rfl⟩]
          simp only [cond_true, Option.bind_some, Bool.not_false, say_is ho]
      · rw [decide_eq_false h4, if_neg (by simp [h4])]; rfl
  · rw [decide_eq_false h2, if_neg (by simp [h2])]
    simp only [cond_false, Option.bind_some]
    by_cases h3 : p.act.Inter = []
    · rw [decide_eq_true h3]
      by_cases h6 : c ∈ ([93, 80, 88, 94, 95] : List Int)
      · rw [decide_eq_true h6, if_pos ⟨h3, h6⟩]; rfl
      · rw [decide_eq_false h6, if_neg (by simp [h6])]
        simp only [cond_true, cond_false, Option.bind_some]
        by_cases h4 : c < 127
        · rw [decide_eq_true h4]
          cases h5 : p.spoiled with
          | true => rw [if_neg (by simp)]; rfl
          | false =>
            rw [if_pos ⟨h4, rfl⟩]
            simp only [cond_true, Option.bind_some, Bool.not_false, say_is ho]
        · rw [decide_eq_false h4, if_neg (by simp [h4])]; rfl
    · rw [decide_eq_false h3, if_neg (by simp [h3])]
      simp only [cond_false, Option.bind_some]
      by_cases h4 : c < 127
      · rw [decide_eq_true h4]
        cases h5 : p.spoiled with
        | true => rw [if_neg (by simp)]; rfl
        | false =>
          rw [if_pos ⟨h4, rfl⟩]
          simp only [cond_true, Option.bind_some, Bool.not_false, say_is ho]
      · rw [decide_eq_false h4, if_neg (by simp [h4])]; rfl
theorem end_is {p : ParserM} {c : Int} {ps : List Int} (hp : p.act.Params = some ps) (ho : p.out.length + 1 ≤ most) : esc_Parser_end p c = some (endE p c) := by
  unfold esc_Parser_end endE
  rw [hp]
  simp only [Option.bind_some, Option.getD_some]
  cases h5 : p.spoiled with
  | true =>
    rw [if_neg (by simp)]
    simp only [Bool.not_true, cond_false, Option.bind_some, ← hp]
  | false =>
    rw [if_pos rfl]
    simp only [Bool.not_false, cond_true]
    rw [say_is (by exact ho)]
    simp only [Option.bind_some]
theorem endString_is {p : ParserM} (hp : Byts p.payload) (ho : p.out.length + 1 ≤ most) : esc_Parser_endString p = some (endStringE p) := by
  unfold esc_Parser_endString endStringE bstr
  rw [show (p.payload.all fun b => decide (0 ≤ b ∧ b < 256)) = true from List.all_eq_true.2 fun x hx => decide_eq_true (hp x hx)]
  simp only [cond_true, Option.bind_some]
  rw [say_is (by exact ho)]; rfl
theorem collect_is {p : ParserM} {c : Int} (hp : Byts p.payload) (hl : p.payload.length ≤ 256) (ho : p.out.length + 1 ≤ most) : esc_Parser_collect p c = some (collectE p c) := by
  unfold esc_Parser_collect collectE
  simp only [letB]
  by_cases h1 : c = 7
  · rw [decide_eq_true h1, if_pos h1, endString_is hp ho]; rfl
  rw [decide_eq_false h1, if_neg h1]
  by_cases h2 : c = 27
  · rw [decide_eq_true h2, if_pos h2]; rfl
  rw [decide_eq_false h2, if_neg h2]
  simp only [cond_false]
  by_cases h3 : c = 24
  · rw [decide_eq_true h3, if_pos (.inl h3)]; rfl
  rw [decide_eq_false h3]
  simp only [cond_false]
  by_cases h4 : c = 26
  · rw [decide_eq_true h4, if_pos (.inr h4)]; rfl
  rw [decide_eq_false h4, if_neg (by simp [h3, h4])]
  simp only [cond_false, Option.bind_some]
  by_cases h5 : c ≥ 32
  · rw [decide_eq_true h5]
    simp only [cond_true, Option.bind_some]
    by_cases h6 : p.payload.length < 256
    · rw [decide_eq_true (by omega), if_pos ⟨h5, h6⟩]
      simp only [cond_true, Option.bind_some]
      rw [app_some (by simp [most_is]; omega)]; rfl
    · rw [decide_eq_false (by omega), if_neg (by simp [h6])]; rfl
  · rw [decide_eq_false h5, if_neg (by simp [h5])]; rfl
theorem number_is {n : Nat} {p : ParserM} {c : Int} {ps : List Int} (hp : p.act.Params = some ps) (h0 : 0 ≤ p.count) (hn : p.count ≤ n) (hN : n ≤ 4611686018427387904) (hl : ps.length = min p.count.toNat 16) :
    esc_Parser_number p c = some (numberE p c) ∧ (numberE p c).out = p.out ∧ (numberE p c).text = p.text ∧ (numberE p c).payload = p.payload ∧ (numberE p c).in_ = p.in_ ∧ (numberE p c).act.Inter = p.act.Inter ∧
      ∃ qs, (numberE p c).act.Params = some qs ∧ 0 ≤ (numberE p c).count ∧ (numberE p c).count ≤ (n + 1 + 1 : Nat) ∧ qs.length = min (numberE p c).count.toNat 16 := by
  obtain ⟨q, hq⟩ : ∃ q, q = num1 p := ⟨_, rfl⟩
  have hq1 : ∃ qs, q.act.Params = some qs ∧ 1 ≤ q.count ∧ q.count ≤ (n + 1 : Nat) ∧ qs.length = min q.count.toNat 16 ∧ q.out = p.out ∧ q.text = p.text ∧ q.payload = p.payload ∧ q.in_ = p.in_ ∧ q.act.Inter = p.act.Inter := by
    rw [hq]
    unfold num1
    by_cases h : p.count = 0
    · rw [if_pos h]; exact ⟨[-1], rfl, by show (1 : Int) ≤ 1; omega, by show (1 : Int) ≤ _; omega, rfl, rfl, rfl, rfl, rfl, rfl⟩
    · rw [if_neg h]; exact ⟨ps, hp, by omega, by omega, hl, rfl, rfl, rfl, rfl, rfl⟩
  have hj : (bif decide (p.count = 0) then some ({ p with act := { p.act with Params := some [(-1)] }, count := 1 }) else some p : Option ParserM) = some q := by
    rw [hq]; unfold num1
    by_cases h : p.count = 0
    · rw [decide_eq_true h, if_pos h]; rfl
    · rw [decide_eq_false h, if_neg h]; rfl
  obtain ⟨qs, h1, h2, h3, h4, h5, h6, h7, h8, h9⟩ := hq1
  have hm := most_is
  unfold esc_Parser_number numberE
  simp only [letB]
  rw [hj, ← hq]
  simp only [Option.bind_some, h1, Option.getD_some]
  by_cases c1 : c = 59
  · rw [decide_eq_true c1, if_pos c1, w64_id (by omega) (by omega)]
    simp only [cond_true]
    by_cases c2 : q.count + 1 ≤ 16
    · rw [decide_eq_true c2, if_pos c2]
      simp only [cond_true]
      rw [app_some (by simp; omega)]
      exact ⟨rfl, h5, h6, h7, h8, h9, _, rfl, by (try simp only); omega, by (try simp only); omega, by (try simp only); simp only [List.length_append, List.length_cons, List.length_nil]; omega⟩
    · rw [decide_eq_false c2, if_neg c2]
      exact ⟨rfl, h5, h6, h7, h8, h9, _, rfl, by (try simp only); omega, by (try simp only); omega, by (try simp only); omega⟩
  · rw [decide_eq_false c1, if_neg c1]
    simp only [cond_false]
    by_cases c2 : q.count ≤ 16
    · rw [decide_eq_true c2, if_pos c2]
      simp only [cond_true]
      rw [w64_id (n := q.count - 1) (by omega) (by omega), idx_is (d := 0) (by omega) (by omega)]
      exact ⟨rfl, h5, h6, h7, h8, h9, _, rfl, by (try simp only); omega, by (try simp only); omega, by simp only [upI, List.length_set]; omega⟩
    · rw [decide_eq_false c2, if_neg c2]
      exact ⟨rfl, h5, h6, h7, h8, h9, _, rfl, by (try simp only); omega, by (try simp only); omega, by (try simp only); omega⟩
theorem sequence_is {n : Nat} {p : ParserM} {c : Int} (hk : Ok n p) (h2 : p.in_ = 2) (hN : n ≤ 4611686018427387904) (hc : 32 ≤ c) (ho : p.out.length + 1 ≤ most) : esc_Parser_sequence p c = some (sequenceE p c) := by
  obtain ⟨ps, hp, k0, k1, k2⟩ := hk.num h2
  unfold esc_Parser_sequence sequenceE
  simp only [letB]
  by_cases c1 : c ≥ 128
  · rw [decide_eq_true c1, if_pos c1]; rfl
  rw [decide_eq_false c1, if_neg c1]
  by_cases c2 : c < 48
  · rw [decide_eq_true c2, if_pos c2, inter_is (p := { p with first := false }) hk.int ⟨hc, c2⟩]; rfl
  rw [decide_eq_false c2, if_neg c2]
  by_cases c3 : c ≥ 64
  · rw [decide_eq_true c3, if_pos c3, end_is (p := { p with first := false }) hp ho]; rfl
  rw [decide_eq_false c3, if_neg c3]
  simp only [cond_false]
  have hnum := (number_is (p := { p with first := false }) (c := c) hp k0 k1 hN k2).1
  by_cases c4 : c ≥ 60
  · rw [decide_eq_true c4]
    cases hf : p.first with
    | true => rw [if_pos ⟨c4, rfl⟩]; rfl
    | false =>
      rw [if_neg (by simp), if_pos (.inr (.inl c4))]
      simp only [cond_true, cond_false, Option.bind_some]
      by_cases c5 : c = 58
      · rw [decide_eq_true c5]; rfl
      · rw [decide_eq_false c5]; rfl
  · rw [decide_eq_false c4, if_neg (by simp [c4])]
    simp only [cond_false, Option.bind_some]
    by_cases c5 : c = 58
    · rw [decide_eq_true c5, if_pos (.inl c5)]; rfl
    · rw [decide_eq_false c5]
      simp only [cond_false, Option.bind_some]
      by_cases c6 : p.act.Inter = []
      · rw [decide_eq_false (by simpa using c6), if_neg (by simp [c4, c5, c6]), hnum]; rfl
      · rw [decide_eq_true c6, if_pos (.inr (.inr c6))]; rfl
theorem plain_is {n : Nat} {p : ParserM} {c : Int} (hk : Ok n p) (hc : 0 ≤ c ∧ c < 256) (ho : p.out.length + 4 ≤ most) : esc_Parser_plain p c = some (plainE p c) := by
  have hm := most_is
  have hw := hk.wts
  have hb : Byts (p.text.waits ++ [c]) := hw.1.append (fun x hx => by simp at hx; subst hx; exact hc)
  obtain ⟨e, e1, e2, e3⟩ := gF_is hb (by simp; omega)
  have h1 : slices_Clone_52 p.text.waits = some p.text.waits := by unfold slices_Clone_52; rw [app_some (by simp; omega)]; rfl
  have h2 : slices_Clone_52 (gF (p.text.waits ++ [c])).2 = some (gF (p.text.waits ++ [c])).2 := by unfold slices_Clone_52; rw [app_some (by simp; omega)]; rfl
  unfold esc_Parser_plain glyph_Reader_Feed_in32_0
  rw [h1]
  simp only [Option.bind_some]
  rw [app_some (by simp; omega)]
  simp only [Option.bind_some]
  rw [e]
  simp only [Option.bind_some]
  rw [h2]
  simp only [Option.bind_some]
  rw [print_is (by simp at e2 ⊢; omega)]; rfl
end Go.Proofs.YtggbcchebiedjaaDoor.Am.Esc

set_option linter.all false
namespace Go.Proofs.YtggbcchebiedjaaDoor.Am.Esc
open Go.Proofs.YtggbcchebiedjaaDoor.Am.T
theorem on_is {s : Int} : esc_state_on s = some (if s = 1 then 32 else if s = 2 then 33 else if s = 3 then 34 else if s = 4 then 35 else 36) := by
  unfold esc_state_on
  simp only [letB]
  by_cases h1 : s = 1
  · rw [decide_eq_true h1, if_pos h1]; rfl
  rw [decide_eq_false h1, if_neg h1]
  by_cases h2 : s = 2
  · rw [decide_eq_true h2, if_pos h2]; rfl
  rw [decide_eq_false h2, if_neg h2]
  by_cases h3 : s = 3
  · rw [decide_eq_true h3, if_pos h3]; rfl
  rw [decide_eq_false h3, if_neg h3]
  by_cases h4 : s = 4
  · rw [decide_eq_true h4, if_pos h4]; rfl
  rw [decide_eq_false h4, if_neg h4]; rfl
noncomputable def dispE (rec35 : ParserM → Int → Option ParserM) (q : ParserM) (c : Int) : Option ParserM :=
  (esc_state_on q.in_).bind fun y => ((bif decide (y = 32) then esc_Parser_behind q c else bif decide (y = 33) then esc_Parser_sequence q c else bif decide (y = 34) then esc_Parser_collect q c else bif decide (y = 35) then rec35 q c else bif decide (y = 36) then esc_Parser_plain q c else none : Option ParserM)).bind fun y15 => some (y15)
theorem disp_is {rec35 : ParserM → Int → Option ParserM} {n : Nat} {q : ParserM} {c : Int} (hk : Ok n q) (hN : n ≤ 4611686018427387904) (hc : 32 ≤ c ∧ c < 256) (h3 : q.in_ ≠ 3) (h4 : q.in_ ≠ 4) (ho : q.out.length + 4 ≤ most) :
    dispE rec35 q c = some (onE q c) := by
  unfold dispE onE
  rw [on_is]
  by_cases h1 : q.in_ = 1
  · rw [if_pos h1, if_pos h1]
    simp only [Option.bind_some]
    show ((esc_Parser_behind q c).bind fun y => some y) = _
    rw [behind_is hk.int hc.1 (by omega)]; rfl
  rw [if_neg h1, if_neg h1]
  by_cases h2 : q.in_ = 2
  · rw [if_pos h2, if_pos h2]
    show ((esc_Parser_sequence q c).bind fun y => some y) = _
    rw [sequence_is hk h2 hN hc.1 (by omega)]; rfl
  rw [if_neg h2, if_neg h2, if_neg h3, if_neg h4]
  show ((esc_Parser_plain q c).bind fun y => some y) = _
  rw [plain_is hk ⟨by omega, hc.2⟩ ho]; rfl
theorem byteF_is {rec18 rec35 : ParserM → Int → Option ParserM} {n : Nat} {p : ParserM} {c : Int} (hk : Ok n p) (hN : n ≤ 4611686018427387904) (hc : 0 ≤ c ∧ c < 256) (ho : p.out.length + 8 ≤ most) {r : ParserM}
    (h4 : p.in_ = 4 → rec35 (flushE p c) c = some r) : esc_Parser_byteF rec18 rec35 p c = some (if p.in_ = 4 then r else byteE p c) := by
  have hq := hk.flush (c := c)
  have hqo := flush_out (c := c) hk
  have hqi := flush_in (p := p) (c := c)
  have first : (((bif decide (c < 32) then some true else some (decide (c = 127)) : Option Bool).bind fun g2 =>
      (bif g2 then ((glyph_Reader_Rest_in32_0 p).bind fun y6 => (esc_Parser_print y6.2 y6.1).bind fun y7 => some y7) else some p : Option ParserM)) : Option ParserM) = some (flushE p c) := by
    unfold flushE
    by_cases h1 : c < 32
    · rw [decide_eq_true h1, if_pos (.inl h1)]
      exact rest_is hk (by omega)
    · rw [decide_eq_false h1]
      by_cases h2 : c = 127
      · rw [decide_eq_true h2, if_pos (.inr h2)]
        exact rest_is hk (by omega)
      · rw [decide_eq_false h2, if_neg (by simp [h1, h2])]; rfl
  have second : ∀ q : ParserM, Ok n q → q.in_ = p.in_ → q.out.length + 5 ≤ most → (p.in_ = 4 → rec35 q c = some r) → (Option.bind (
    letB (decide (q.in_ = 3)) fun c9 =>
    (bif c9 then some true else (
      letB (decide (q.in_ = 4)) fun c11 =>
      some (c11))).bind fun g10 =>
    Option.bind (
      bif g10 then (dispE rec35 q c)
      else (
        letB (decide (c = 24)) fun c17 =>
        (bif c17 then some true else (
          letB (decide (c = 26)) fun c19 =>
          some (c19))).bind fun g18 =>
        Option.bind (
          bif g18 then (
            some ({ q with in_ := 0 }))
          else (
            letB (decide (c = 27)) fun c22 =>
            Option.bind (
              bif c22 then (
                (esc_Parser_begin q 1).bind fun y24 =>
                some (y24))
              else (
                letB (decide (c < 32)) fun c25 =>
                Option.bind (
                  bif c25 then (
                    (esc_Parser_say q (Act.mk 2 0 c 0 [] [] [])).bind fun y27 =>
                    some (y27))
                  else (
                    letB (decide (c ≠ 127)) fun c28 =>
                    Option.bind (
                      bif c28 then (dispE rec35 q c)
                      else (
                        some (q)) : Option ParserM) fun j33 =>
                    some (j33)) : Option ParserM) fun j34 =>
                some (j34)) : Option ParserM) fun j35 =>
            some (j35)) : Option ParserM) fun j36 =>
        some (j36)) : Option ParserM) fun j37 =>
    some (j37) : Option ParserM) fun j38 =>
      some j38) = some (if q.in_ = 4 then r else if q.in_ = 3 then collectE q c else outE q c) := by
    intro q hq hqi hqo h4
    by_cases i3 : q.in_ = 3
    · have hd : dispE rec35 q c = some (collectE q c) := by
        unfold dispE
        rw [on_is, i3]
        show ((esc_Parser_collect q c).bind fun y => some y) = _
        rw [collect_is hq.pay.1 hq.pay.2 (by omega)]; rfl
      rw [hd, if_neg (by omega), if_pos i3, i3]; rfl
    by_cases i4 : q.in_ = 4
    · have hd : dispE rec35 q c = some r := by
        unfold dispE
        rw [on_is, i4]
        show ((rec35 q c).bind fun y => some y) = _
        rw [h4 (by omega)]; rfl
      rw [hd, if_pos i4, i4]; rfl
    rw [if_neg i4, if_neg i3]
    simp only [letB]
    rw [decide_eq_false i3, decide_eq_false i4]
    unfold outE
    by_cases c24 : c = 24
    · rw [if_pos (.inl c24), decide_eq_true c24]; rfl
    by_cases c26 : c = 26
    · rw [if_pos (.inr c26), decide_eq_false c24, decide_eq_true c26]; rfl
    rw [if_neg (by omega), decide_eq_false c24, decide_eq_false c26]
    by_cases c27 : c = 27
    · rw [if_pos c27, decide_eq_true c27]; rfl
    rw [if_neg c27, decide_eq_false c27]
    by_cases c32 : c < 32
    · rw [if_pos c32, decide_eq_true c32, say_is (by omega)]; rfl
    rw [if_neg c32, decide_eq_false c32]
    by_cases c127 : c = 127
    · rw [if_neg (by omega), decide_eq_false (by omega)]; rfl
    · rw [if_pos c127, decide_eq_true c127, disp_is hq hN (by omega) i3 i4 (by omega)]; rfl
  have e := second (flushE p c) hq hqi (by omega) h4
  have e' : esc_Parser_byteF rec18 rec35 p c = some (if (flushE p c).in_ = 4 then r else if (flushE p c).in_ = 3 then collectE (flushE p c) c else outE (flushE p c) c) := by
    rw [← e]
    unfold esc_Parser_byteF
    simp only [letB] at first ⊢
    rw [← Option.bind_assoc]
    rw [first]
    rfl
  rw [e', hqi]
  unfold byteE
  by_cases i4 : p.in_ = 4
  · rw [if_pos i4, if_pos i4]
  · rw [if_neg i4, if_neg i4, hqi]
    by_cases i3 : p.in_ = 3
    · rw [if_pos i3, if_pos i3]
    · rw [if_neg i3, if_neg i3, if_neg i4]
end Go.Proofs.YtggbcchebiedjaaDoor.Am.Esc

set_option linter.all false
namespace Go.Proofs.YtggbcchebiedjaaDoor.Am.Esc
open Go.Proofs.YtggbcchebiedjaaDoor.Am.T
structure St (n m : Nat) (p : ParserM) : Prop where
  ok : Ok n p
  len : p.out.length ≤ m
  par : ∀ a ∈ p.out, a.Params.length ≤ 16
theorem Ok.mono {n n' : Nat} {p : ParserM} (h : Ok n p) (hn : n ≤ n') : Ok n' p :=
  ⟨h.inn, h.wts, h.pay, h.int, fun e => let ⟨ps, a, b, c, d⟩ := h.num e; ⟨ps, a, b, by omega, d⟩⟩
theorem St.mono {n n' m m' : Nat} {p : ParserM} (h : St n m p) (hn : n ≤ n') (hm : m ≤ m') : St n' m' p :=
  ⟨h.ok.mono hn, Nat.le_trans h.len hm, h.par⟩
theorem St.put {n m k : Nat} {p : ParserM} {zs : List Act} (h : St n m p) (hz : zs.length ≤ k) (hp : ∀ a ∈ zs, a.Params.length ≤ 16) : St n (m + k) (putE p zs) :=
  ⟨⟨h.ok.inn, h.ok.wts, h.ok.pay, h.ok.int, h.ok.num⟩, by have := h.len; simp [putE]; omega, fun a ha => by
    rcases List.mem_append.1 ha with ha | ha
    · exact h.par a ha
    · exact hp a ha⟩
theorem pr_par {rs : List Int} : ∀ a ∈ rs.map pr, a.Params.length ≤ 16 := by
  intro a ha
  obtain ⟨r, _, e⟩ := List.mem_map.1 ha
  subst e; exact Nat.zero_le _
theorem St.flush {n m : Nat} {p : ParserM} {c : Int} (h : St n m p) : St n (m + 3) (flushE p c) := by
  unfold flushE restE
  split
  · refine St.put (p := { p with text := ⟨[]⟩ }) ⟨⟨h.ok.inn, ⟨fun _ hx => (by cases hx), Nat.zero_le _⟩, h.ok.pay, h.ok.int, h.ok.num⟩, h.len, h.par⟩ ?_ pr_par
    simp; exact h.ok.wts.2
  · exact h.mono (Nat.le_refl _) (by omega)
theorem St.begin {n m : Nat} {p : ParserM} {s : Int} (h : St n m p) (hs : 0 ≤ s ∧ s ≤ 4) : St n m (beginE p s) :=
  ⟨⟨hs, h.ok.wts, ⟨fun _ hx => (by cases hx), Nat.zero_le _⟩, Nat.zero_le _, fun _ => ⟨[], rfl, Int.le_refl _, by show (0 : Int) ≤ _; omega, rfl⟩⟩, h.len, h.par⟩
theorem St.ground {n m : Nat} {p : ParserM} (h : St n m p) : St n m { p with in_ := 0 } :=
  ⟨⟨⟨Int.le_refl _, by show (0 : Int) ≤ 4; omega⟩, h.ok.wts, h.ok.pay, h.ok.int, fun e => by exact absurd e (show ¬((0 : Int) = 2) by omega)⟩, h.len, h.par⟩
theorem St.inter {n m : Nat} {p : ParserM} {c : Int} (h : St n m p) : St n m (interE p c) := by
  unfold interE
  split
  · exact ⟨⟨h.ok.inn, h.ok.wts, h.ok.pay, h.ok.int, h.ok.num⟩, h.len, h.par⟩
  · refine ⟨⟨h.ok.inn, h.ok.wts, h.ok.pay, ?_, h.ok.num⟩, h.len, h.par⟩
    have := h.ok.int
    simp; omega
theorem one_par {a : Act} (h : a.Params.length ≤ 16) : ∀ b ∈ [a], b.Params.length ≤ 16 := by
  intro b hb; simp at hb; subst hb; exact h
theorem St.behind {n m : Nat} {p : ParserM} {c : Int} (h : St n m p) : St n (m + 1) (behindE p c) := by
  unfold behindE
  split
  · exact h.inter.mono (Nat.le_refl _) (by omega)
  split
  · exact (h.begin ⟨by omega, by omega⟩).mono (Nat.le_refl _) (by omega)
  split
  · have := h.begin (s := 3) ⟨by omega, by omega⟩
    exact ⟨⟨this.ok.inn, this.ok.wts, this.ok.pay, this.ok.int, this.ok.num⟩, Nat.le_succ_of_le this.len, this.par⟩
  refine St.ground ?_
  split
  · exact h.put (by simp) (one_par (Nat.zero_le _))
  · exact h.mono (Nat.le_refl _) (by omega)
theorem St.end_ {n m : Nat} {p : ParserM} {c : Int} (h : St n m p) (h2 : p.in_ = 2) : St n (m + 1) (endE p c) := by
  unfold endE
  obtain ⟨ps, hp, _, _, hl⟩ := h.ok.num h2
  split
  · refine St.put (p := { p with in_ := 0, act := { p.act with Kind := 4, Final := c, Params := none } }) ⟨⟨h.ground.ok.inn, h.ok.wts, h.ok.pay, h.ok.int, fun e => by exact absurd e (show ¬((0 : Int) = 2) by omega)⟩, h.len, h.par⟩ (by simp) (one_par ?_)
    rw [hp]; simp; omega
  · exact h.ground.mono (Nat.le_refl _) (by omega)
theorem St.sequence {n m : Nat} {p : ParserM} {c : Int} (h : St n m p) (h2 : p.in_ = 2) (hN : n ≤ 4611686018427387904) : St (n + 2) (m + 1) (sequenceE p c) := by
  have h' : St n m { p with first := false } := ⟨⟨h.ok.inn, h.ok.wts, h.ok.pay, h.ok.int, h.ok.num⟩, h.len, h.par⟩
  unfold sequenceE
  split
  · exact h'.ground.mono (by omega) (by omega)
  split
  · exact h'.inter.mono (by omega) (by omega)
  split
  · exact (h'.end_ h2).mono (by omega) (by omega)
  split
  · exact ⟨⟨h.ok.inn, h.ok.wts, h.ok.pay, h.ok.int, (h'.ok.mono (by omega : n ≤ n + 2)).num⟩, Nat.le_succ_of_le h.len, h.par⟩
  split
  · exact ⟨⟨h.ok.inn, h.ok.wts, h.ok.pay, h.ok.int, (h'.ok.mono (by omega : n ≤ n + 2)).num⟩, Nat.le_succ_of_le h.len, h.par⟩
  · obtain ⟨ps, hp, k0, k1, k2⟩ := h'.ok.num h2
    obtain ⟨_, e1, e2, e3, e4, e5, qs, q1, q2, q3, q4⟩ := number_is (p := { p with first := false }) (c := c) hp k0 k1 hN k2
    refine ⟨⟨by rw [e4]; exact h.ok.inn, by rw [e2]; exact h.ok.wts, by rw [e3]; exact h.ok.pay, by rw [e5]; exact h.ok.int, fun _ => ⟨qs, q1, q2, q3, q4⟩⟩, by rw [e1]; exact Nat.le_succ_of_le h.len, by rw [e1]; exact h.par⟩
theorem St.endString {n m : Nat} {p : ParserM} (h : St n m p) : St n (m + 1) (endStringE p) := by
  unfold endStringE
  exact St.put h.ground (by simp) (one_par (Nat.zero_le _))
theorem St.collect {n m : Nat} {p : ParserM} {c : Int} (h : St n m p) (h3 : p.in_ = 3) (hc : 0 ≤ c ∧ c < 256) : St n (m + 1) (collectE p c) := by
  unfold collectE
  split
  · exact h.endString
  split
  · exact ⟨⟨⟨by show (0 : Int) ≤ 4; omega, by show (4 : Int) ≤ 4; omega⟩, h.ok.wts, h.ok.pay, h.ok.int, fun e => by exact absurd e (show ¬((4 : Int) = 2) by omega)⟩, Nat.le_succ_of_le h.len, h.par⟩
  split
  · exact h.ground.mono (Nat.le_refl _) (by omega)
  split
  · rename_i hh
    refine ⟨⟨h.ok.inn, h.ok.wts, ⟨h.ok.pay.1.append (fun x hx => by simp at hx; subst hx; exact hc), ?_⟩, h.ok.int, h.ok.num⟩, Nat.le_succ_of_le h.len, h.par⟩
    simp; omega
  · exact h.mono (Nat.le_refl _) (by omega)
theorem St.plain {n m : Nat} {p : ParserM} {c : Int} (h : St n m p) (hc : 0 ≤ c ∧ c < 256) : St n (m + 4) (plainE p c) := by
  unfold plainE
  have hm := most_is
  have hw := h.ok.wts
  have hb : Byts (p.text.waits ++ [c]) := hw.1.append (fun x hx => by simp at hx; subst hx; exact hc)
  obtain ⟨e, e1, e2, e3⟩ := gF_is hb (by simp; omega)
  refine St.put (p := { p with text := ⟨(gF (p.text.waits ++ [c])).2⟩ }) ⟨⟨h.ok.inn, ⟨e3, e1⟩, h.ok.pay, h.ok.int, h.ok.num⟩, h.len, h.par⟩ ?_ pr_par
  simp at e2 ⊢; omega
theorem St.on {n m : Nat} {p : ParserM} {c : Int} (h : St n m p) (hc : 0 ≤ c ∧ c < 256) (hN : n ≤ 4611686018427387904) : St (n + 2) (m + 4) (onE p c) := by
  unfold onE
  split
  · exact h.behind.mono (by omega) (by omega)
  split
  · rename_i h2; exact (h.sequence h2 hN).mono (by omega) (by omega)
  · exact (h.plain hc).mono (by omega) (by omega)
theorem St.outer {n m : Nat} {p : ParserM} {c : Int} (h : St n m p) (hc : 0 ≤ c ∧ c < 256) (hN : n ≤ 4611686018427387904) : St (n + 2) (m + 4) (outE p c) := by
  unfold outE
  split
  · exact h.ground.mono (by omega) (by omega)
  split
  · exact (h.begin ⟨by omega, by omega⟩).mono (by omega) (by omega)
  split
  · exact (h.put (k := 1) (by simp) (one_par (Nat.zero_le _))).mono (by omega) (by omega)
  split
  · exact h.on hc hN
  · exact h.mono (by omega) (by omega)
theorem St.ends {n m : Nat} {p : ParserM} {c : Int} (h : St n m p) (hc : 0 ≤ c ∧ c < 256) (hN : n ≤ 4611686018427387904) : St (n + 2) (m + 7) (endsE p c) := by
  unfold endsE
  split
  · exact h.endString.mono (by omega) (by omega)
  · exact ((h.begin (s := 1) ⟨by omega, by omega⟩).flush (c := c)).outer hc hN
theorem St.byte {n m : Nat} {p : ParserM} {c : Int} (h : St n m p) (hc : 0 ≤ c ∧ c < 256) (hN : n ≤ 4611686018427387904) : St (n + 2) (m + 10) (byteE p c) := by
  have hf := h.flush (c := c)
  unfold byteE
  split
  · rename_i h3; exact (hf.collect h3 hc).mono (by omega) (by omega)
  split
  · exact hf.ends hc hN
  · exact (hf.outer hc hN).mono (by omega) (by omega)
theorem byte_is {n m : Nat} {p : ParserM} {c : Int} (h : St n m p) (hc : 0 ≤ c ∧ c < 256) (hN : n ≤ 4611686018427387904) (hm : m + 20 ≤ most) : esc_Parser_byte p c = some (byteE p c) := by
  have base : ∀ (k : Nat) (q : ParserM) (m' : Nat), St n m' q → m' + 8 ≤ most → q.in_ ≠ 4 → (esc_Parser_byteG (k + 1)).1 q c = some (byteE q c) := by
    intro k q m' hq hm' h4
    have hlen := hq.len
    have := byteF_is (rec18 := (esc_Parser_byteG k).1) (rec35 := (esc_Parser_byteG k).2) (r := q) hq.ok hN hc (by omega) (fun e => absurd e h4)
    rw [if_neg h4] at this
    exact this
  have hlen := h.len
  by_cases h4 : p.in_ = 4
  · have hf := h.flush (c := c)
    have hflen := hf.len
    have e1 : (esc_Parser_byteG 2).2 (flushE p c) c = some (endsE (flushE p c) c) := by
      show esc_Parser_endsF ((esc_Parser_byteG 1).1) ((esc_Parser_byteG 1).2) (flushE p c) c = _
      unfold esc_Parser_endsF endsE
      simp only [letB]
      by_cases h92 : c = 92
      · rw [decide_eq_true h92, if_pos h92, endString_is hf.ok.pay.1 (by omega)]; rfl
      · rw [decide_eq_false h92, if_neg h92]
        simp only [cond_false, begin_is, Option.bind_some]
        rw [base 0 (beginE (flushE p c) 1) (m + 3) (hf.begin ⟨by omega, by omega⟩) (by omega) (by show ¬((1 : Int) = 4); omega)]
        simp only [Option.bind_some]
        congr 1
        unfold byteE
        have hi : (flushE (beginE (flushE p c) 1) c).in_ = 1 := flush_in
        rw [if_neg (by rw [hi]; omega), if_neg (by rw [hi]; omega)]
    have := byteF_is (rec18 := (esc_Parser_byteG 2).1) (rec35 := (esc_Parser_byteG 2).2) (r := endsE (flushE p c) c) h.ok hN hc (by omega) (fun _ => e1)
    rw [if_pos h4] at this
    have e2 : byteE p c = endsE (flushE p c) c := by
      unfold byteE
      rw [if_neg (by rw [flush_in, h4]; omega), if_pos (by rw [flush_in, h4])]
    rw [e2]; exact this
  · exact base 2 p m h (by omega) h4
def S (x : List Act) (p : ParserM) : ParserM := { p with out := x ++ p.out }
end Go.Proofs.YtggbcchebiedjaaDoor.Am.Esc

set_option linter.all false
namespace Go.Proofs.YtggbcchebiedjaaDoor.Am.Esc
open Go.Proofs.YtggbcchebiedjaaDoor.Am.T
noncomputable def runE (p : ParserM) (b : List Int) : ParserM := b.foldl byteE p
def Z (p : ParserM) : ParserM := { p with out := [] }
theorem St.Z {n m : Nat} {p : ParserM} (h : St n m p) : St n 0 (Z p) :=
  ⟨⟨h.ok.inn, h.ok.wts, h.ok.pay, h.ok.int, h.ok.num⟩, Nat.le_refl _, fun a ha => by cases ha⟩
theorem feed_loop (b : List Int) (hb : Byts b) (hl : b.length ≤ 100000000) : ∀ (k i : Nat) (p : ParserM) (n m : Nat), i + k = b.length → St n m p → n + 2 * k ≤ 4611686018427387904 → m + 10 * k + 20 ≤ most →
    iter (fun s => esc_Parser_Feed_l1 b s.1 s.2 : (Int × ParserM) → Option ((Int × ParserM) ⊕ ParserM)) ((i : Int), p) = some (runE p (b.drop i)) ∧ St (n + 2 * k) (m + 10 * k) (runE p (b.drop i))
  | 0, i, p, n, m, hi, h, hN, hm => by
    rw [List.drop_of_length_le (by omega)]
    refine ⟨iter_inr ?_, h⟩
    simp only [esc_Parser_Feed_l1, letB]
    rw [decide_eq_false (by omega)]; rfl
  | k + 1, i, p, n, m, hi, h, hN, hm => by
    have hd : b.drop i = b.getD i 0 :: b.drop (i + 1) := by
      rw [List.getD_eq_getElem?_getD, List.getElem?_eq_getElem (by omega)]; exact List.drop_eq_getElem_cons (by omega)
    obtain ⟨e, s⟩ := feed_loop b hb hl k (i + 1) (byteE p (b.getD i 0)) (n + 2) (m + 10) (by omega) (h.byte (hb.get i) (by omega)) (by omega) (by omega)
    rw [hd]
    refine ⟨?_, s.mono (by omega) (by omega)⟩
    rw [iter_inl (s' := (((i + 1 : Nat) : Int), byteE p (b.getD i 0))) (by
      simp only [esc_Parser_Feed_l1, letB]
      rw [decide_eq_true (by omega), idx_is (d := 0) (by omega) (by omega)]
      simp only [cond_true, Option.bind_some, Int.toNat_natCast]
      rw [byte_is h (hb.get i) (by omega) (by omega), w64_id (by omega) (by omega)]; rfl), e]
    rfl
theorem Feed_is {n m : Nat} {p : ParserM} {b : List Int} (h : St n m p) (hb : Byts b) (hl : b.length ≤ 100000000) (hN : n + 2 * b.length ≤ 4611686018427387904) :
    esc_Parser_Feed p b = some ((runE (Z p) b).out, Z (runE (Z p) b)) ∧ St (n + 2 * b.length) (10 * b.length) (runE (Z p) b) := by
  have hmost := most_is
  obtain ⟨e, s⟩ := feed_loop b hb hl b.length 0 (Z p) n 0 (by omega) h.Z (by omega) (by omega)
  rw [List.drop_zero] at e s
  refine ⟨?_, s.mono (by omega) (by omega)⟩
  unfold esc_Parser_Feed
  have e' : iter (fun s => esc_Parser_Feed_l1 b s.1 s.2 : (Int × ParserM) → Option ((Int × ParserM) ⊕ ParserM)) (0, { p with out := [] }) = some (runE (Z p) b) := e
  rw [e']; rfl
theorem idle_is {p : ParserM} : esc_Parser_Idle p = some (decide (p.in_ = 0) && decide (p.text.waits.length = 0)) := by
  unfold esc_Parser_Idle glyph_Reader_Waits_in32_0
  simp only [letB, Option.bind_some]
  by_cases h : p.in_ = 0
  · rw [decide_eq_true h]
    by_cases h2 : p.text.waits.length = 0
    · rw [decide_eq_true h2, decide_eq_true (by omega : (p.text.waits.length : Int) = 0)]; rfl
    · rw [decide_eq_false h2, decide_eq_false (by omega : ¬ (p.text.waits.length : Int) = 0)]; rfl
  · rw [decide_eq_false h]; rfl
theorem sameInts_loop (a : List Int) (hl : a.length ≤ most) : ∀ (k i : Nat), i + k = a.length →
    iter (fun s => casementref01_SameInts_l1 a a s : Int → Option (Int ⊕ (Unit ⊕ Unit))) (i : Int) = some (.inr ())
  | 0, i, hi => iter_inr (by
      simp only [casementref01_SameInts_l1, letB]
      rw [decide_eq_false (by omega)]; rfl)
  | k + 1, i, hi => by
    have hm := most_is
    rw [iter_inl (s' := ((i + 1 : Nat) : Int)) (by
      simp only [casementref01_SameInts_l1, letB]
      rw [decide_eq_true (by omega), idx_is (d := 0) (by omega) (by omega)]
      simp only [cond_true, Option.bind_some, Int.toNat_natCast]
      rw [decide_eq_false (by simp), w64_id (by omega) (by omega)]; rfl)]
    exact sameInts_loop a hl k (i + 1) (by omega)
theorem sameInts_self {a : List Int} (hl : a.length ≤ most) : casementref01_SameInts a a = some true := by
  unfold casementref01_SameInts
  simp only [letB]
  rw [decide_eq_false (by simp)]
  have := sameInts_loop a hl a.length 0 (by omega)
  simp only [cond_false]
  have e : iter (fun s => casementref01_SameInts_l1 a a s : Int → Option (Int ⊕ (Unit ⊕ Unit))) 0 = some (.inr ()) := this
  rw [e]; rfl
def p0 : ParserM := ParserM.mk (Reader.mk []) 0 false false (ActM.mk 0 0 0 0 [] (some []) []) 0 [] []
theorem St.zero : St 0 0 p0 :=
  ⟨⟨⟨Int.le_refl _, by decide⟩, ⟨fun _ hx => (by cases hx), Nat.zero_le _⟩, ⟨fun _ hx => (by cases hx), Nat.zero_le _⟩, Nat.zero_le _, fun e => by exact absurd e (show ¬((0 : Int) = 2) by omega)⟩, Nat.le_refl _, fun _ ha => by cases ha⟩
theorem gF_97 : gF [97] = ([97], []) := by
  have h1 : unicode_utf8_FullRune [97] = some true := by decide +kernel
  have h2 : unicode_utf8_DecodeRune [97] = some (97, 1) := by
    unfold unicode_utf8_DecodeRune
    rw [iter_inr (r := .inl 97) (by decide +kernel)]; rfl
  have h3 : unicode_utf8_FullRune [] = some false := by decide +kernel
  unfold gF
  rw [iter_inl (s' := ([97], [])) (by simp only [glyph_Reader_Feed_in32_0_l1, h1, h2, Option.bind_some]; rfl)]
  rw [iter_inr (r := ([97], [])) (by simp only [glyph_Reader_Feed_in32_0_l1, h3, Option.bind_some]; rfl)]; rfl
theorem gF_195 : gF [195] = ([], [195]) := by
  have h3 : unicode_utf8_FullRune [195] = some false := by decide +kernel
  unfold gF
  rw [iter_inr (r := ([], [195])) (by simp only [glyph_Reader_Feed_in32_0_l1, h3, Option.bind_some]; rfl)]; rfl
theorem byts_of {l : List Int} (h : (l.all fun x => decide (0 ≤ x ∧ x < 256)) = true) : Byts l := fun x hx => of_decide_eq_true (List.all_eq_true.1 h x hx)
theorem plain_of {p : ParserM} {c : Int} {rs w : List Int} (h : gF (p.text.waits ++ [c]) = (rs, w)) : plainE p c = putE { p with text := ⟨w⟩ } (rs.map pr) := by
  unfold plainE; rw [h]
end Go.Proofs.YtggbcchebiedjaaDoor.Am.Esc

set_option linter.all false
namespace Go.Proofs.YtggbcchebiedjaaDoor.Am.Esc
open Go.Proofs.YtggbcchebiedjaaDoor.Am.T
deriving instance DecidableEq for Reader, ActM, Act, ParserM
def q1 : ParserM := ⟨⟨[]⟩, 0, false, false, ⟨4, 0, 72, 0, [], none, []⟩, 3, [], []⟩
def q2 : ParserM := ⟨⟨[]⟩, 0, false, true, ⟨0, 0, 93, 0, [], some [], []⟩, 0, [48, 59, 104, 105], []⟩
def q3 : ParserM := ⟨⟨[]⟩, 0, false, true, ⟨0, 0, 0, 0, [40], some [], []⟩, 0, [], []⟩
def q4 : ParserM := ⟨⟨[]⟩, 0, false, false, ⟨4, 0, 109, 0, [], none, []⟩, 0, [], []⟩
def as1 : List Act := [⟨1, 97, 0, 0, [], [], []⟩, ⟨4, 0, 72, 0, [], [1, -1, 5], []⟩]
def as2 : List Act := [⟨5, 0, 93, 0, [], [], [48, 59, 104, 105]⟩]
def as3 : List Act := [⟨3, 0, 66, 0, [40], [], []⟩]
def as4 : List Act := [⟨1, 65533, 0, 0, [], [], []⟩, ⟨4, 0, 109, 0, [], [], []⟩]
theorem run_cons {p : ParserM} {c : Int} {l : List Int} : runE p (c :: l) = runE (byteE p c) l := rfl
theorem run1 : runE (Z p0) [97, 27, 91, 49, 59, 59, 53, 72] = { q1 with out := as1 } := by
  have h : byteE (Z p0) 97 = putE p0 [pr 97] := by
    show plainE (Z p0) 97 = _
    rw [plain_of (p := Z p0) (c := 97) (rs := [97]) (w := []) gF_97]; rfl
  rw [run_cons, h]; decide +kernel
theorem run2 : runE (Z q1) [27, 93, 48, 59, 104, 105, 7] = { q2 with out := as2 } := by decide +kernel
theorem run3 : runE (Z q2) [27, 40, 66] = { q3 with out := as3 } := by decide +kernel
theorem run4 : runE (Z q3) [195, 27, 91, 109] = { q4 with out := as4 } := by
  have h : byteE (Z q3) 195 = { q3 with text := ⟨[195]⟩ } := by
    show plainE (Z q3) 195 = _
    rw [plain_of (p := Z q3) (c := 195) (rs := []) (w := [195]) gF_195]; rfl
  rw [run_cons, h]; decide +kernel
theorem feed_ex {n m : Nat} {p q : ParserM} {b : List Int} {zs : List Act} (h : St n m p) (hn : n ≤ 1000) (hb : (b.all fun x => decide (0 ≤ x ∧ x < 256)) = true) (hl : b.length ≤ 1000) (hq : runE (Z p) b = { q with out := zs }) (hz : q.out = []) :
    esc_Parser_Feed p b = some (zs, q) ∧ St (n + 2 * b.length) (10 * b.length) q := by
  obtain ⟨e, s⟩ := Feed_is h (byts_of hb) (by omega) (by omega)
  rw [hq] at e s
  have hq' : Z { q with out := zs } = q := by
    show { q with out := [] } = q
    rw [← hz]
  refine ⟨by rw [e, hq'], ?_⟩
  have := s.Z
  rw [hq'] at this
  exact this.mono (Nat.le_refl _) (by omega)
theorem csi_ex : esc_Csi 63 [25] 104 = some [27, 91, 63, 50, 53, 104] := by
  have h1 : app ([27, 91] : List Int) [63] = some [27, 91, 63] := app_some (by simp [most_is])
  have h2 : subB ([25] : List Int) (min (([25] : List Int).length : Int) 16) = some [25] := by decide +kernel
  have h3 : esc_Csi_l1 [25] [27, 91, 63] 0 = some (.inl ([27, 91, 63, 50, 53], 1)) := by decide +kernel
  have h4 : esc_Csi_l1 [25] [27, 91, 63, 50, 53] 1 = some (.inr [27, 91, 63, 50, 53]) := by decide +kernel
  have h5 : iter (fun s => esc_Csi_l1 [25] s.1 s.2 : (List Int × Int) → Option ((List Int × Int) ⊕ List Int)) ([27, 91, 63], 0) = some [27, 91, 63, 50, 53] := by
    revert h3 h4
    generalize esc_Csi_l1 [25] = f
    intro h3 h4
    rw [iter_inl (s' := ([27, 91, 63, 50, 53], 1)) (by exact h3), iter_inr (by exact h4)]
  have h6 : app ([27, 91, 63, 50, 53] : List Int) [104] = some [27, 91, 63, 50, 53, 104] := app_some (by simp [most_is])
  unfold esc_Csi
  simp only [letB]
  show ((app [27, 91] [63]).bind fun x3 => some x3).bind _ = _
  rw [h1]
  simp only [Option.bind_some, h2, h5, h6]
theorem alive_is : casementlaw04_alive = some true := by
  obtain ⟨e1, s1⟩ := feed_ex (q := q1) (zs := as1) St.zero (by omega) (by decide) (by decide) run1 rfl
  obtain ⟨e2, s2⟩ := feed_ex (q := q2) (zs := as2) s1 (by decide) (by decide) (by decide) run2 rfl
  obtain ⟨e3, s3⟩ := feed_ex (q := q3) (zs := as3) s2 (by decide) (by decide) (by decide) run3 rfl
  obtain ⟨e4, s4⟩ := feed_ex (q := q4) (zs := as4) s3 (by decide) (by decide) (by decide) run4 rfl
  unfold casementlaw04_alive
  rw [show (ParserM.mk (Reader.mk []) 0 false false (ActM.mk 0 0 0 0 [] (some []) []) 0 [] []) = p0 from rfl, e1]
  simp only [Option.bind_some]
  rw [e2]
  simp only [Option.bind_some]
  rw [e3]
  simp only [Option.bind_some]
  rw [e4]
  simp only [Option.bind_some]
  have i1 : idx as1 0 = some ⟨1, 97, 0, 0, [], [], []⟩ := rfl
  have i2 : idx as1 1 = some ⟨4, 0, 72, 0, [], [1, -1, 5], []⟩ := rfl
  have i3 : idx as2 0 = some ⟨5, 0, 93, 0, [], [], [48, 59, 104, 105]⟩ := rfl
  have i4 : idx as3 0 = some ⟨3, 0, 66, 0, [40], [], []⟩ := rfl
  have i5 : idx as4 0 = some ⟨1, 65533, 0, 0, [], [], []⟩ := rfl
  have i6 : idx as4 1 = some ⟨4, 0, 109, 0, [], [], []⟩ := rfl
  have hs : casementref01_SameInts [1, -1, 5] [1, -1, 5] = some true := sameInts_self (by decide)
  have hb : bstr [27, 91, 63, 50, 53, 104] = some [27, 91, 63, 50, 53, 104] := rfl
  simp only [i1, i2, i3, i4, i5, i6, Option.bind_some, hs, csi_ex, hb, idle_is, letB]
  decide +kernel
end Go.Proofs.YtggbcchebiedjaaDoor.Am.Esc

set_option linter.all false
namespace Go.Proofs.YtggbcchebiedjaaDoor.Am.Esc
open Go.Proofs.YtggbcchebiedjaaDoor.Am.T
theorem run_app {p : ParserM} {a b : List Int} : runE p (a ++ b) = runE (runE p a) b := List.foldl_append
theorem ZZ {p : ParserM} : Z (Z p) = Z p := rfl
theorem St.run {b : List Int} : ∀ {p : ParserM} {n m : Nat}, St n m p → Byts b → n + 2 * b.length ≤ 4611686018427387904 → St (n + 2 * b.length) (m + 10 * b.length) (runE p b) := by
  induction b with
  | nil => intro p n m h _ _; exact h
  | cons c b ih =>
    intro p n m h hb hN
    rw [List.length_cons] at hN ⊢
    rw [run_cons]
    exact (ih (h.byte (hb c List.mem_cons_self) (by omega)) (fun x hx => hb x (.tail _ hx)) (by omega)).mono (by omega) (by omega)
theorem Byts.take {l : List Int} (h : Byts l) (n : Nat) : Byts (l.take n) := fun x hx => h x (List.mem_of_mem_take hx)
def Sim (p q : ParserM) : Prop := p.text = q.text ∧ p.in_ = q.in_ ∧ p.out = q.out ∧ (p.in_ ≠ 0 → p = q)
theorem Sim.refl {p : ParserM} : Sim p p := ⟨rfl, rfl, rfl, fun _ => rfl⟩
theorem Sim.byte {p q : ParserM} {c : Int} (h : Sim p q) : Sim (byteE p c) (byteE q c) := by
  by_cases h0 : p.in_ = 0
  case neg => rw [h.2.2.2 h0]; exact .refl
  have hf : Sim (flushE p c) (flushE q c) ∧ (flushE p c).in_ = 0 := by
    unfold flushE restE putE
    split
    · exact ⟨⟨rfl, h.2.1, by show _ ++ _ = _ ++ _; rw [h.1, h.2.2.1], fun hn => absurd h0 hn⟩, h0⟩
    · exact ⟨h, h0⟩
  obtain ⟨hf, h0⟩ := hf
  have h0' : (flushE q c).in_ = 0 := by rw [← hf.2.1]; exact h0
  unfold byteE
  rw [if_neg (by omega), if_neg (by omega), if_neg (by omega), if_neg (by omega)]
  revert hf h0 h0'
  generalize flushE p c = p
  generalize flushE q c = q
  intro h h0 h0'
  unfold outE
  split
  · exact ⟨h.1, rfl, h.2.2.1, fun hn => absurd rfl hn⟩
  split
  · have : beginE p 1 = beginE q 1 := by unfold beginE; rw [h.1, h.2.2.1]
    rw [this]; exact .refl
  split
  · exact ⟨h.1, h.2.1, by show _ ++ _ = _ ++ _; rw [h.2.2.1], fun hn => absurd h0 hn⟩
  split
  · unfold onE
    rw [if_neg (by omega), if_neg (by omega), if_neg (by omega), if_neg (by omega)]
    unfold plainE putE
    exact ⟨by show Reader.mk _ = Reader.mk _; rw [h.1], h.2.1, by show _ ++ _ = _ ++ _; rw [h.1, h.2.2.1], fun hn => absurd h0 hn⟩
  · exact h
theorem Sim.run {b : List Int} : ∀ {p q : ParserM}, Sim p q → Sim (runE p b) (runE q b) := by
  induction b with
  | nil => intro p q h; exact h
  | cons c b ih => intro p q h; rw [run_cons, run_cons]; exact ih h.byte
theorem abort_is {p : ParserM} : (byteE p 24).in_ = 0 ∧ (byteE p 24).text = ⟨[]⟩ := by
  have hf : flushE p 24 = restE p := by unfold flushE; rw [if_pos (.inl (by omega))]
  have ht : (restE p).text = ⟨[]⟩ := rfl
  unfold byteE
  rw [hf]
  split
  · unfold collectE
    rw [if_neg (by omega), if_neg (by omega), if_pos (.inl rfl)]
    exact ⟨rfl, rfl⟩
  split
  · unfold endsE outE
    rw [if_neg (by omega), if_pos (.inl rfl)]
    refine ⟨rfl, ?_⟩
    show (flushE (beginE (restE p) 1) 24).text = _
    unfold flushE
    rw [if_pos (.inl (by omega))]; rfl
  · unfold outE
    rw [if_pos (.inl rfl)]
    exact ⟨rfl, rfl⟩
end Go.Proofs.YtggbcchebiedjaaDoor.Am.Esc

set_option linter.all false
namespace Go.Proofs.YtggbcchebiedjaaDoor.Am.Esc
open Go.Proofs.YtggbcchebiedjaaDoor.Am.T
def low (x : Int) : Int := w8 (32 + (iAnd .u8 x 15))
end Go.Proofs.YtggbcchebiedjaaDoor.Am.Esc

namespace Go.Proofs.YtggbcchebiedjaaDoor.Am
section
variable {P : Program} {W : World}
inductive ArgOK (W : World) : V → Value → Prop
  | leaf {x : V} {v : Value} (h : RB (blocksOf W) W x v) : ArgOK W x v
  | agg (cs : List V) (arr : Array Value) (hs : arr.size = cs.length) (h : ∀ k, k < cs.length → RB (blocksOf W) W (cs.getD k .undef) (arr.getD k undef)) : ArgOK W (.agg cs) (.agg arr)
def g0 (W : World) : G := ⟨id, id, fun _ => False, blocksOf W⟩
theorem RB.toR1 {x : V} {v : Value} (h : RB (blocksOf W) W x v) : R1 (g0 W) W 0 x v := by
  cases h with
  | func f => exact ⟨#[], rfl, rfl, fun k hk => absurd hk (by simp)⟩
  | bool b => exact RB.bool b
  | int k n => exact RB.int k n
  | str b => exact RB.str b
  | nilp => exact RB.nilp
  | nils => exact RB.nils
  | nilf => exact RB.nilf
  | nili => exact RB.nili
  | slice sz xs a cap vs hs hp hc hz hv hr => exact RB.slice sz xs a cap vs hs hp hc hz hv hr
theorem RB.ok0 {x : V} {v : Value} (h : RB (blocksOf W) W x v) : x.ok0 = true := by
  cases h <;> rfl
theorem RB.cnt {x : V} {v : Value} (h : RB (blocksOf W) W x v) (c : Nat) : cnt0 c x v = 0 := by
  cases h <;> rfl
theorem ArgOK.r3 {x : V} {v : Value} (h : ArgOK W x v) (τ : Nat → Value) : R3 (g0 W) W 0 τ x v := by
  cases h with
  | leaf h =>
    have h1 := h.toR1
    cases h <;> exact h1
  | agg cs arr hs h => exact ⟨arr, rfl, hs, fun k hk => ⟨.inl (h k hk).ok0, (h k hk).toR1⟩⟩
theorem ArgOK.okArg {x : V} {v : Value} (h : ArgOK W x v) : x.okArg = true := by
  cases h with
  | leaf h => cases h <;> rfl
  | agg cs arr hs h =>
    simp only [V.okArg, List.all_eq_true]
    intro y hy
    obtain ⟨k, hk, rfl⟩ := List.getElem_of_mem hy
    have := (h k hk).ok0
    rwa [List.getD_eq_getElem?_getD, List.getElem?_eq_getElem hk] at this
theorem ArgOK.cnt {x : V} {v : Value} (h : ArgOK W x v) (c : Nat) : cnt2 c x v = 0 := by
  cases h with
  | leaf h =>
    have h1 := h.cnt c
    cases h <;> exact h1
  | agg cs arr hs h => exact sumTo_zero fun k hk => (h k hk).cnt c
theorem start {args : List V} {vs : Array Value} (hl : args.length = vs.toList.length) (ha : ∀ k, k < args.length → ArgOK W (args.getD k .undef) (vs.toList.getD k undef)) :
    SR (g0 W) W 0 (fun _ => 0) (fun _ => false) ⟨fun _ => .undef, fun _ => [], []⟩ #[] (args.zip vs.toList) := by
  have hmem : ∀ p ∈ args.zip vs.toList, ArgOK W p.1 p.2 := fun p hp => by
    obtain ⟨k, hk, rfl⟩ := List.getElem_of_mem hp
    have hk' : k < args.length := by simp at hk; omega
    have h1 := ha k hk'
    simp only [List.getElem_zip]
    rw [List.getD_eq_getElem?_getD, List.getElem?_eq_getElem hk', List.getD_eq_getElem?_getD, List.getElem?_eq_getElem (by omega)] at h1
    exact h1
  have hcP : ∀ c, cntP c (args.zip vs.toList) = 0 := fun c => by
    rw [cntP_zip hl]; exact sumTo_zero fun k hk => (ha k hk).cnt c
  have hT : ∀ c, total (g0 W) W 0 (fun _ => 0) ⟨fun _ => .undef, fun _ => [], []⟩ #[] (args.zip vs.toList) c = persOf (g0 W) c := fun c => by
    have e1 : cntT c (fun _ => V.undef) #[] = 0 := rfl
    have e2 : cntB (g0 W) W c 0 (fun _ => []) = 0 := rfl
    have e3 : cntM (g0 W) W c [] = 0 := rfl
    unfold total
    simp only [e1, e2, e3, hcP]
    omega
  refine ⟨fun s => trivial, fun s _ => rfl, fun s d hd => (by cases hd), fun p hp => (hmem p hp).r3 _, fun p hp d hd => ?_, fun j => by simp [g0], fun j hj => absurd rfl hj, fun b hb => absurd hb (by simp), fun c => ?_, fun c hc => ?_⟩
  · obtain ⟨b, o, e⟩ := okArg_root (hmem p hp).okArg hd; cases e
  · rw [hT]; unfold persOf; split <;> omega
  · rw [hT]; unfold persOf
    rw [if_neg]
    show ¬ (c < W.heap.size)
    omega
theorem law_calls [Lay P] {T : Table} (hLd : Laid P (g0 W) W) (hT : TableOK P T) {f : Nat} {args : List V} {m' : List (List V)} {vs : Array Value} {b : Bool} (hret : RF T f args [] = some (.bool b, m')) (hl : args.length = vs.toList.length)
    (ha : ∀ k, k < args.length → ArgOK W (args.getD k .undef) (vs.toList.getD k undef)) : Calls P f vs W fun e W' => e = .returned (.bool b) ∧ RowKit.Below W.heap.size W W' := by
  obtain ⟨_, hcall⟩ := ret_sound hT (RF_ret.1 hret)
  have hok : args.all V.okArg = true := List.all_eq_true.2 fun y hy => by
    obtain ⟨k, hk, rfl⟩ := List.getElem_of_mem hy
    have := (ha k hk).okArg
    rwa [List.getD_eq_getElem?_getD, List.getElem?_eq_getElem hk] at this
  refine (hcall (g0 W) W (fun _ => 0) vs (by simpa using hl.symm) hok hLd (start hl ha)).mono fun e W' ⟨v, g', he, hS, hE, _⟩ => ?_
  have hv : v = .bool b := R3.bool (hS.pend _ (.head _))
  exact ⟨by rw [he, hv], hE.os, hE.tape, hE.output, hE.size, fun k hk => (hE.pers k hk).2⟩
def FitsV (P : Program) (t : TypeId) (x : V) : Prop :=
  match P.underlying t with
  | some (.struct _) | some (.array _ _) => ∃ cs, x = .agg cs ∧ Fits P t cs
  | _ => Fits P t [x]
section
variable {H : Type} {enc : TypeId × Value → H}
theorem arg_of {d : Nat} {t : TypeId} (hsup : supT P d t = true) {v : Value} {dd : DataW H} {ps : List MemPlace} {base : Nat} (hval : Value.okWide P W .any base t v) (h : DataW.Trod enc P W 0 (fun _ => true) true t v dd ps) :
    ∃ x, FitsV P t x ∧ ArgOK W x v := by
  obtain ⟨fuel, h⟩ := h
  obtain ⟨cs, hfit, hr⟩ := reads_iff.1 (reads_of hsup h)
  have agg : ∀ arr : Array Value, v = .agg arr → ArgOK W (.agg cs) v := fun arr e => by
    subst e
    have hc : (Value.agg arr).cells = arr := rfl
    rw [hc] at hr
    refine .agg cs arr (by have := hr.1; simpa using this.symm) fun k hk => ?_
    have := hr.2 k (by rw [← hr.1]; exact hk)
    rwa [array_toList_getD] at this
  have leaf : (∀ arr, v ≠ .agg arr) → cs.length = 1 → ∃ x, cs = [x] ∧ ArgOK W x v := fun hv h1 => by
    match cs, h1 with
    | [x], _ =>
      refine ⟨x, rfl, .leaf ?_⟩
      rw [cells_leaf hv] at hr
      exact hr.2 0 (by simp)
  unfold FitsV
  unfold Value.okWide at hval
  cases hu : P.underlying t with
  | none => cases hfit <;> simp_all
  | some ud =>
    rw [hu] at hval
    cases ud with
    | struct fs => obtain ⟨arr, e, _⟩ := hval; exact ⟨.agg cs, ⟨cs, rfl, hfit⟩, agg arr e⟩
    | array n e => obtain ⟨arr, e, _⟩ := hval; exact ⟨.agg cs, ⟨cs, rfl, hfit⟩, agg arr e⟩
    | _ =>
      simp only at hval ⊢
      have h1 : cs.length = 1 := by cases hfit <;> first | rfl | simp_all
      have h2 : ∀ arr, v ≠ .agg arr := fun arr e => by
        subst e
        simp only [Cell.okWide, Cell.ok, hu] at hval
      obtain ⟨x, rfl, hx⟩ := leaf h2 h1
      exact ⟨x, hfit, hx⟩
theorem args_of {d : Nat} : ∀ {ts : List TypeId} {vs : List Value} {ds : List (DataW H)} {ps : List MemPlace} {base : Nat}, ts.all (supT P d) = true → (∀ (j : Nat) (t : TypeId) (v : Value), ts[j]? = some t → vs[j]? = some v → Value.okWide P W .any base t v) →
    DataW.TrodAll enc P W 0 (fun _ => true) true ts vs ds ps → ∃ args : List V, args.length = vs.length ∧ ts.length = vs.length ∧ (∀ (j : Nat) (t : TypeId), ts[j]? = some t → FitsV P t (args.getD j .undef)) ∧ ∀ k, k < args.length → ArgOK W (args.getD k .undef) (vs.getD k undef)
  | [], vs, ds, ps, base, _, _, h => by
    obtain ⟨rfl, rfl, rfl⟩ := ChangeShapes.trodAll_nil h
    exact ⟨[], rfl, rfl, fun j t hj => by simp at hj, fun k hk => absurd hk (by simp)⟩
  | t :: ts, vs, ds, ps, base, hsup, hval, h => by
    obtain ⟨v, vs', dd, ds', p, q, rfl, rfl, rfl, h0, r0⟩ := ChangeShapes.trodAll_cons h
    simp only [List.all_cons, Bool.and_eq_true] at hsup
    obtain ⟨x, hx1, hx2⟩ := arg_of hsup.1 (hval 0 t v rfl rfl) h0
    obtain ⟨args, h1, h2, h3, h4⟩ := args_of hsup.2 (fun j t v hj hv => hval (j + 1) t v hj hv) r0
    refine ⟨x :: args, by simp [h1], by simp [h2], fun j t' hj => ?_, fun k hk => ?_⟩
    · cases j with
      | zero => simp only [List.getElem?_cons_zero, Option.some.injEq] at hj; subst hj; exact hx1
      | succ j => exact h3 j t' hj
    · cases k with
      | zero => exact hx2
      | succ k => exact h4 k (by simpa using hk)
theorem args_stay (hl : laidOutB P = true) {W' : World} {sp : Nat → Bool} : ∀ {ts : List TypeId} {vs : List Value} {ds : List (DataW H)} {ps : List MemPlace}, (ts.all fun t => P.readableRec t && decide (t < P.types.size)) = true →
    DataW.TrodAll enc P W 0 (fun _ => true) true ts vs ds ps → (∀ p ∈ ps, W.sameAt W' p) → (∀ p ∈ ps, sp p.block = true) → DataW.TrodAll enc P W' 0 sp true ts vs ds ps
  | [], vs, ds, ps, _, h, _, _ => by
    obtain ⟨rfl, rfl, rfl⟩ := ChangeShapes.trodAll_nil h
    exact rfl
  | t :: ts, vs, ds, ps, hr, h, hs, hsp => by
    obtain ⟨v, vs', dd, ds', p, q, rfl, rfl, rfl, h0, r0⟩ := ChangeShapes.trodAll_cons h
    simp only [List.all_cons, Bool.and_eq_true, decide_eq_true_eq] at hr
    exact trodAll_cons_mk (WideElems.Trod_stays hl hr.1.1 hr.1.2 h0 (fun x hx => hs x (List.mem_append_left _ hx)) (fun x hx => hsp x (List.mem_append_left _ hx)))
      (args_stay hl hr.2 r0 (fun x hx => hs x (List.mem_append_right _ hx)) (fun x hx => hsp x (List.mem_append_right _ hx)))
theorem trodAll_len : ∀ {ts : List TypeId} {vs : List Value} {ds : List (DataW H)} {ps : List MemPlace}, DataW.TrodAll enc P W 0 (fun _ => true) true ts vs ds ps → ds.length = ts.length
  | [], vs, ds, ps, h => by obtain ⟨rfl, rfl, rfl⟩ := ChangeShapes.trodAll_nil h; rfl
  | t :: ts, vs, ds, ps, h => by
    obtain ⟨v, vs', dd, ds', p, q, rfl, rfl, rfl, h0, r0⟩ := ChangeShapes.trodAll_cons h
    simp [trodAll_len r0]
open ChangeShapes in
theorem post_of_below {f : Func} {s : ChangeSpec} {apart fresh handsOn again : Bool} {W W' : World} {args : Array Value} {v : Value} {ds gs : List (DataW H)} {before pa pv : List MemPlace}
    (hW : DataW.Whole enc P f.params.toList s.vars apart W args.toList ds gs before)
    (hres : ∀ (b : Nat) (sp : Nat → Bool) (hd : Bool), DataW.TrodAll enc P W' b sp hd f.resultTypes.toList (v.resultList f.resultTypes.size) (s.fn H (ds ++ gs)).results [])
    (hargs : ∀ sp : Nat → Bool, (∀ p ∈ before, sp p.block = true) → DataW.TrodAll enc P W' 0 sp true f.params.toList args.toList (s.fn H (ds ++ gs)).args pa)
    (hvars : ∀ sp : Nat → Bool, (∀ p ∈ before, sp p.block = true) → DataW.TrodVars enc P W' sp s.vars (s.fn H (ds ++ gs)).vars pv)
    (hps : before = pa ++ pv) (hb : RowKit.Below W.heap.size W W')
    (hok : ∀ (j : Nat) (t : TypeId) (r : Value), f.resultTypes[j]? = some t → (v.resultList f.resultTypes.size)[j]? = some r → Value.okWide P W' .any 0 t r) :
    s.post enc P f apart fresh handsOn again W args v W' := by
  have hlt : ∀ p ∈ before, p.block < W.heap.size := fun p hp => hW.lt p hp
  have hold : ∀ p ∈ before, (fun b => decide (b < W.heap.size)) p.block = true := fun p hp => by simpa using hlt p hp
  refine ⟨ds, gs, before, [], pa, pv, hW, hres _ _ _, hargs _ hold, hvars _ hold, World.keptBut_mono (fun p hp => ⟨hp, ?_⟩) (hb.frame (· ∈ before)), fun _ => ?_⟩
  · rw [hps, List.mem_append] at hp
    exact Or.inr hp
  · obtain ⟨_, _, _, _, _, hz, hn⟩ := hW
    refine ⟨hok, _, _, ([] ++ pa) ++ pv, ⟨[] ++ pa, pv, trodAll_append (hargs _ (fun _ _ => rfl)) (hres _ _ _), hvars _ (fun _ _ => rfl), rfl, ?_, ?_⟩, ?_⟩
    · intro b off hp
      have hp' : MemPlace.cell b off ∈ before := by rw [hps]; simpa using hp
      rw [hb.frozen (p := ⟨b, off, none⟩) (hlt _ hp')]
      exact hz b off hp'
    · intro ha
      have := hn ha
      rw [hps] at this
      simpa using this
    · intro p hp _
      rw [hps]
      simpa using hp
end
end
end Go.Proofs.YtggbcchebiedjaaDoor.Am

set_option linter.all false
namespace Go.Proofs.YtggbcchebiedjaaDoor.Am.Esc
open Go.Proofs
theorem gl2 : Tryd.prog.globalNamed "unicode/utf8.acceptRanges" = some 2 := by kernel_rfl
theorem gl1 : Tryd.prog.globalNamed "unicode/utf8.first" = some 1 := by kernel_rfl
theorem gt2 : (Tryd.prog.globals[2]?).map (·.type) = some 95 := by kernel_rfl
theorem gt1 : (Tryd.prog.globals[1]?).map (·.type) = some 92 := by kernel_rfl
noncomputable def eT (t : TypeId) : TypeId := match Tryd.prog.underlying t with | some (.array _ e) => e | _ => 0
noncomputable def fsT (t : TypeId) : Array Field := match Tryd.prog.underlying t with | some (.struct fs) => fs | _ => #[]
theorem ut1 : Tryd.prog.underlying 92 = some (.array 256 (eT 92)) := by kernel_rfl
theorem ut2 : Tryd.prog.underlying 95 = some (.array 16 (eT 95)) := by kernel_rfl
theorem ue1 : Tryd.prog.underlying (eT 92) = some (.int .u8) := by kernel_rfl
theorem ue2 : Tryd.prog.underlying (eT 95) = some (.struct (fsT (eT 95))) := by kernel_rfl
theorem uf0 : ((fsT (eT 95))[0]?.map fun f => (f.type, f.offset)) = some (5, 0) := by kernel_rfl
theorem uf1 : ((fsT (eT 95))[1]?.map fun f => (f.type, f.offset)) = some (5, 1) := by kernel_rfl
theorem u5 : Tryd.prog.underlying 5 = some (.int .u8) := by kernel_rfl
theorem kc1 : Tryd.prog.cellsOf (eT 92) = 1 := by kernel_rfl
theorem kc2 : Tryd.prog.cellsOf (eT 95) = 2 := by kernel_rfl
theorem kc5 : Tryd.prog.cellsOf 5 = 1 := by kernel_rfl
theorem gl0 : Tryd.prog.globalNamed "internal/strconv.uint64pow10" = some 0 := by kernel_rfl
noncomputable def gT (g : Nat) : TypeId := ((Tryd.prog.globals[g]?).map (·.type)).getD 0
theorem gt0 : (Tryd.prog.globals[0]?).map (·.type) = some (gT 0) := by kernel_rfl
theorem ut0 : Tryd.prog.underlying (gT 0) = some (.array 20 (eT (gT 0))) := by kernel_rfl
theorem ue0 : Tryd.prog.underlying (eT (gT 0)) = some (.int .u64) := by kernel_rfl
theorem kc0 : Tryd.prog.cellsOf (eT (gT 0)) = 1 := by kernel_rfl
theorem kc0' : Tryd.prog.cellsOf (gT 0) = 20 := by kernel_rfl
theorem laid_one {l : List (String × DataW Unit)} {W : World} {n : String} {d : DataW Unit} {g : Nat} {t : TypeId} (h : laidMetH Tryd.prog l W)
    (hf : (l.filter fun x => x.2.handleName?.isNone).filter (fun x => x.1 == n) = [(n, d)]) (hg : Tryd.prog.globalNamed n = some g) (hty : (Tryd.prog.globals[g]?).map (·.type) = some t) :
    ∃ (cs : Array Value) (fuel : Nat) (p : List MemPlace), (∀ i, W.cell? ⟨g, i, none⟩ = cs[i]?) ∧ g < W.heap.size ∧ DataW.trod (fun _ => ()) Tryd.prog W 0 (fun _ => true) false fuel t cs.toList = some (d, p) ∧ W.var? Tryd.prog n = some cs := by
  have h2 := (laidMetH_iff.1 h).1.filter (fun x => x.1 == n)
  rw [hf] at h2
  obtain ⟨ps, ⟨g', t', cs, fuel, p, q, hg', ht', hvar, hd, _, _⟩, _⟩ := h2
  obtain rfl := Option.some.inj (hg.symm.trans hg')
  obtain rfl := Option.some.inj (hty.symm.trans ht')
  have hv := hvar
  refine ⟨cs, fuel, p, fun i => World.var?_cell hg hvar i, ?_, hd, hv⟩
  clear hv
  unfold World.var? at hvar
  rw [hg] at hvar
  simp only [Option.bind_some] at hvar
  cases hh : W.heap[g]? with
  | none => rw [hh] at hvar; cases hvar
  | some o => exact (Array.getElem?_eq_some_iff.1 hh).1
noncomputable def lst (x : List V) : DataW Unit := match x with
  | [.int k n] => .lit (.int k n)
  | [.int k n, .int k' n'] => .agg [.lit (.int k n), .lit (.int k' n')]
  | _ => .nil
theorem first_rows {W : World} {cs : Array Value} {fuel : Nat} {p : List MemPlace} (h : DataW.trod (fun _ => ()) Tryd.prog W 0 (fun _ => true) false fuel 92 cs.toList = some (.agg (tab1.map lst), p)) (i : Nat) (hi : i < 256) :
    ∃ n, tab1[i]? = some [.int .u8 n] ∧ cs[i]? = some (.int .u8 n) := by
  obtain ⟨xs, m, _, hx, hl, hlen, hr⟩ := DataW.trod_array ut1 h
  have hxs : tab1.map lst = xs.map (·.1) := by
    have := congrArg Prod.fst hx
    simpa using this
  have h1 := hr i hi
  rw [kc1, List.getElem?_eq_getElem (by omega)] at h1
  obtain ⟨n, hc, hy, _⟩ := DataW.trod_int ue1 h1
  have h2 : (tab1.map lst)[i]? = some (.lit (.int .u8 n)) := by
    rw [hxs, List.getElem?_map, List.getElem?_eq_getElem (by omega), hy]; rfl
  refine ⟨n, ?_, ?_⟩
  · rw [List.getElem?_map] at h2
    obtain ⟨x, hx1, hx2⟩ := Option.map_eq_some_iff.1 h2
    rw [hx1]
    have hk : ∀ y ∈ tab1, ∃ z, y = [.int .u8 z] := by
      have : tab1.all (fun y => match y with | [.int .u8 _] => true | _ => false) = true := by decide +kernel
      intro y hy
      have := List.all_eq_true.1 this y hy
      split at this
      · exact ⟨_, rfl⟩
      · cases this
    obtain ⟨z, rfl⟩ := hk x (List.mem_of_getElem? hx1)
    simp only [lst, DataW.lit.injEq, Lit.int.injEq, true_and] at hx2
    rw [hx2]
  · have := congrArg (·[0]?) hc
    simpa [List.getElem?_take, List.getElem?_drop] using this
theorem second_rows {W : World} {cs : Array Value} {fuel : Nat} {p : List MemPlace} (h : DataW.trod (fun _ => ()) Tryd.prog W 0 (fun _ => true) false fuel 95 cs.toList = some (.agg (tab2.map lst), p)) (i : Nat) (hi : i < 16) :
    ∃ a b, tab2[i]? = some [.int .u8 a, .int .u8 b] ∧ cs[i * 2]? = some (.int .u8 a) ∧ cs[i * 2 + 1]? = some (.int .u8 b) := by
  obtain ⟨xs, m, _, hx, hl, hlen, hr⟩ := DataW.trod_array ut2 h
  have hxs : tab2.map lst = xs.map (·.1) := by
    have := congrArg Prod.fst hx
    simpa using this
  have h1 := hr i hi
  rw [kc2, List.getElem?_eq_getElem (by omega)] at h1
  obtain ⟨ys, m2, _, hy, hl2, hlen2, hr2⟩ := DataW.trod_struct ue2 h1
  have hsz : (fsT (eT 95)).size = 2 := by kernel_rfl
  obtain ⟨g0, hg0, hq0⟩ := Option.map_eq_some_iff.1 uf0
  obtain ⟨g1, hg1, hq1⟩ := Option.map_eq_some_iff.1 uf1
  have f0 := hr2 0 _ hg0
  have f1 := hr2 1 _ hg1
  rw [show g0.type = 5 from congrArg Prod.fst hq0, show g0.offset = 0 from congrArg Prod.snd hq0, kc5] at f0
  rw [show g1.type = 5 from congrArg Prod.fst hq1, show g1.offset = 1 from congrArg Prod.snd hq1, kc5] at f1
  rw [List.getElem?_eq_getElem (by omega)] at f0 f1
  obtain ⟨a, ha, hya, _⟩ := DataW.trod_int u5 f0
  obtain ⟨b, hb, hyb, _⟩ := DataW.trod_int u5 f1
  have hys : ys.map (·.1) = [.lit (.int .u8 a), .lit (.int .u8 b)] := by
    match ys, hlen2.trans hsz with
    | [y0, y1], _ =>
      simp only [List.getElem_cons_zero, List.getElem_cons_succ] at hya hyb
      rw [hya, hyb]; rfl
  have h2 : (tab2.map lst)[i]? = some (.agg [.lit (.int .u8 a), .lit (.int .u8 b)]) := by
    rw [hxs, List.getElem?_map, List.getElem?_eq_getElem (by omega), hy, ← hys]; rfl
  refine ⟨a, b, ?_, ?_, ?_⟩
  · rw [List.getElem?_map] at h2
    obtain ⟨x, hx1, hx2⟩ := Option.map_eq_some_iff.1 h2
    rw [hx1]
    have hk : ∀ y ∈ tab2, ∃ z z', y = [.int .u8 z, .int .u8 z'] := by
      have : tab2.all (fun y => match y with | [.int .u8 _, .int .u8 _] => true | _ => false) = true := by decide +kernel
      intro y hy
      have := List.all_eq_true.1 this y hy
      split at this
      · exact ⟨_, _, rfl⟩
      · cases this
    obtain ⟨z, z', rfl⟩ := hk x (List.mem_of_getElem? hx1)
    simp only [lst, DataW.agg.injEq, List.cons.injEq, DataW.lit.injEq, Lit.int.injEq, true_and, and_true] at hx2
    rw [hx2.1, hx2.2]
  · have := congrArg (·[0]?) ha
    simpa [List.getElem?_take, List.getElem?_drop] using this
  · have := congrArg (·[0]?) hb
    simpa [List.getElem?_take, List.getElem?_drop] using this
theorem laid_of {l : List (String × DataW Unit)} {W : World} (h : laidMetH Tryd.prog l W)
    (h0 : (l.filter fun x => x.2.handleName?.isNone).filter (fun x => x.1 == "internal/strconv.uint64pow10") = [("internal/strconv.uint64pow10", Lib.tabData .u64 Lib.pow10Tab)])
    (h1 : (l.filter fun x => x.2.handleName?.isNone).filter (fun x => x.1 == "unicode/utf8.first") = [("unicode/utf8.first", .agg (tab1.map lst))])
    (h2 : (l.filter fun x => x.2.handleName?.isNone).filter (fun x => x.1 == "unicode/utf8.acceptRanges") = [("unicode/utf8.acceptRanges", .agg (tab2.map lst))]) : Laid Tryd.prog (g0 W) W := by
  obtain ⟨cs0, f0, p0, _, s0, t0, v0⟩ := laid_one h h0 gl0 gt0
  obtain ⟨cs1, f1, p1, e1, s1, t1, _⟩ := laid_one h h1 gl1 gt1
  obtain ⟨cs2, f2, p2, e2, s2, t2, _⟩ := laid_one h h2 gl2 gt2
  have len1 : tab1.length = 256 := by decide +kernel
  have len2 : tab2.length = 16 := by decide +kernel
  refine ⟨fun t ht => ?_, fun t ht => ?_⟩
  case refine_2 =>
    have ht : t ∈ [(0, "internal/strconv.uint64pow10", IntKind.u64, Lib.pow10Tab)] := ht
    obtain rfl := List.mem_singleton.1 ht
    refine ⟨s0, gl0, ?_⟩
    have e0 := Lib.cells_of_tab ut0 ue0 kc0 kc0' t0
    show W.var? Tryd.prog "internal/strconv.uint64pow10" = some (Lib.pow10Tab.map fun z => Value.int .u64 z).toArray
    rw [v0, ← e0]
  have ht : t ∈ [(1, 1, tab1), (2, 2, tab2)] := ht
  rcases List.mem_cons.1 ht with rfl | ht
  · refine ⟨s1, fun i hi => ?_, fun i k hi hk => ?_⟩
    · have hi : i < tab1.length := hi
      obtain ⟨n, a, _⟩ := first_rows t1 i (by omega)
      show (tab1.getD i []).length = 1
      rw [List.getD_eq_getElem?_getD, a]; rfl
    · have hi : i < tab1.length := hi
      have hk : k < 1 := hk
      obtain ⟨n, a, b⟩ := first_rows t1 i (by omega)
      obtain rfl : k = 0 := by omega
      refine ⟨.int .u8 n, ?_, ?_⟩
      · show W.cell? ⟨1, 0 + (i * 1 + 0), none⟩ = _
        rw [show 0 + (i * 1 + 0) = i by omega, e1, b]
      · show RB _ W ((tab1.getD i []).getD 0 .undef) _
        rw [show tab1.getD i [] = _ from List.getD_eq_getElem?_getD, a]; exact RB.int _ _
  · obtain rfl := List.mem_singleton.1 ht
    refine ⟨s2, fun i hi => ?_, fun i k hi hk => ?_⟩
    · have hi : i < tab2.length := hi
      obtain ⟨n, n', a, _⟩ := second_rows t2 i (by omega)
      show (tab2.getD i []).length = 2
      rw [List.getD_eq_getElem?_getD, a]; rfl
    · have hi : i < tab2.length := hi
      have hk : k < 2 := hk
      obtain ⟨n, n', a, b, c⟩ := second_rows t2 i (by omega)
      match k, hk with
      | 0, _ =>
        refine ⟨.int .u8 n, ?_, ?_⟩
        · show W.cell? ⟨2, 0 + (i * 2 + 0), none⟩ = _
          rw [show 0 + (i * 2 + 0) = i * 2 by omega, e2, b]
        · show RB _ W ((tab2.getD i []).getD 0 .undef) _
          rw [show tab2.getD i [] = _ from List.getD_eq_getElem?_getD, a]; exact RB.int _ _
      | 1, _ =>
        refine ⟨.int .u8 n', ?_, ?_⟩
        · show W.cell? ⟨2, 0 + (i * 2 + 1), none⟩ = _
          rw [show 0 + (i * 2 + 1) = i * 2 + 1 by omega, e2, c]
        · show RB _ W ((tab2.getD i []).getD 1 .undef) _
          rw [show tab2.getD i [] = _ from List.getD_eq_getElem?_getD, a]; exact RB.int _ _
end Go.Proofs.YtggbcchebiedjaaDoor.Am.Esc

namespace Go.Proofs.YtggbcchebiedjaaDoor.Am
def ints (xs : List Int) : List (List V) := xs.map fun n => [.int .i64 n]
inductive IV : V → List Int → Prop
  | nil : IV .nils []
  | sl (xs : List Int) : IV (.slice false 1 (ints xs)) xs
def boolL (xs : List Bool) : List (List V) := xs.map fun b => [.bool b]
inductive BV : V → List Bool → Prop
  | nil : BV .nils []
  | sl (xs : List Bool) : BV (.slice false 1 (boolL xs)) xs
section
variable {P : Program}
theorem fits_int {t : TypeId} {k : IntKind} (ht : P.underlying t = some (.int k)) {vs : List V} (h : Fits P t vs) : ∃ n, vs = [.int k n] ∧ (Lit.int k n).wf = true := by
  cases h <;> simp_all
theorem fits_slice {t e : TypeId} (ht : P.underlying t = some (.slice e)) {vs : List V} (h : Fits P t vs) : vs = [.nils] ∨ ∃ xs, vs = [.slice false (P.cellsOf e) xs] ∧ xs.length ≤ maxLen ∧ ∀ x ∈ xs, Fits P e x := by
  cases h with
  | nils => exact .inl rfl
  | slice xs h hl hx =>
    rw [ht] at h
    cases h
    refine .inr ⟨xs, rfl, hl, fun x hm => ?_⟩
    obtain ⟨i, hi, rfl⟩ := List.getElem_of_mem hm
    have := hx i hi
    rwa [List.getD_eq_getElem?_getD, List.getElem?_eq_getElem hi] at this
  | _ => simp_all
theorem list_of {α β : Type} {f : α → β} {Q : α → Prop} : ∀ {xs : List β}, (∀ x ∈ xs, ∃ a, f a = x ∧ Q a) → ∃ l : List α, xs = l.map f ∧ ∀ a ∈ l, Q a
  | [], _ => ⟨[], rfl, fun a h => (nomatch h)⟩
  | x :: xs, h => by
    obtain ⟨a, ha, hq⟩ := h x (.head _)
    obtain ⟨l, has, hqs⟩ := list_of (f := f) (Q := Q) fun y hy => h y (.tail _ hy)
    exact ⟨a :: l, by rw [List.map_cons, ha, has], fun b hb => by cases hb with | head => exact hq | tail _ hb => exact hqs b hb⟩
theorem fitsV_leaf {t : TypeId} {x : V} {d : TypeDesc} (ht : P.underlying t = some d) (h : FitsV P t x) (hs : ∀ fs, d ≠ .struct fs) (ha : ∀ n e, d ≠ .array n e) : Fits P t [x] := by
  unfold FitsV at h
  rw [ht] at h
  cases d <;> first | exact h | exact absurd rfl (hs _) | exact absurd rfl (ha _ _)
end
end Go.Proofs.YtggbcchebiedjaaDoor.Am

namespace Go.Proofs.YtggbcchebiedjaaDoor.Am
inductive LT where
  | bool
  | int (k : IntKind)
  | str
  | slice (e : TypeId)
  deriving DecidableEq
def LV (P : Program) (l : LT) (v : V) : Prop :=
  match l with
  | .bool => ∃ b, v = .bool b
  | .int k => ∃ n, v = .int k n ∧ (Lit.int k n).wf = true
  | .str => ∃ s, v = .str s ∧ s.length ≤ maxLen
  | .slice e => v = .nils ∨ ∃ xs, v = .slice false (P.cellsOf e) xs ∧ xs.length ≤ maxLen ∧ ∀ x ∈ xs, Fits P e x
def LVs (P : Program) : List LT → List V → Prop
  | [], [] => True
  | l :: ls, v :: vs => LV P l v ∧ LVs P ls vs
  | _, _ => False
section
variable {P : Program}
theorem LVs.append : ∀ {ls ks : List LT} {vs us : List V}, LVs P ls vs → LVs P ks us → LVs P (ls ++ ks) (vs ++ us)
  | [], _, [], _, _, h => h
  | _ :: _, _, _ :: _, _, h, k => ⟨h.1, LVs.append h.2 k⟩
  | [], _, _ :: _, _, h, _ => h.elim
  | _ :: _, _, [], _, h, _ => h.elim
theorem LVs.len : ∀ {ls : List LT} {vs : List V}, LVs P ls vs → vs.length = ls.length
  | [], [], _ => rfl
  | _ :: _, _ :: _, h => by rw [List.length_cons, List.length_cons, LVs.len h.2]
  | [], _ :: _, h => h.elim
  | _ :: _, [], h => h.elim
end
end Go.Proofs.YtggbcchebiedjaaDoor.Am

namespace Go.Proofs.YtggbcchebiedjaaDoor.Am
section
variable {P : Program} {W : World} {H : Type} {enc : TypeId × Value → H}
def AsLong (x : V) (d : DataW H) : Prop := ∀ o z xs, x = .slice o z xs → ∃ elems spare, d = .slice elems spare ∧ elems.length = xs.length
theorem asLong {x : V} {v : Value} {t : TypeId} {d : DataW H} {ps : List MemPlace} (hf : FitsV P t x) (ha : ArgOK W x v) (h : DataW.Trod enc P W 0 (fun _ => true) true t v d ps) : AsLong x d := by
  intro o z xs hx
  subst hx
  have hs : ∃ e, P.underlying t = some (.slice e) := by
    unfold FitsV at hf
    split at hf
    · obtain ⟨cs, e, _⟩ := hf; cases e
    · obtain ⟨cs, e, _⟩ := hf; cases e
    · cases hf <;> first | exact ⟨_, by assumption⟩ | simp_all
  obtain ⟨e, ht⟩ := hs
  have hv : ∃ a cap, v = .slice (some a) xs.length cap := by
    cases ha with
    | leaf h => cases h with | slice _ _ a cap _ _ _ _ _ _ _ => exact ⟨a, cap, rfl⟩
  obtain ⟨a, cap, rfl⟩ := hv
  obtain ⟨fuel, h⟩ := h
  rcases DataW.trod_slice ht h with ⟨h1, _⟩ | ⟨a', len, cap', elems, rest, n, _, h1, h2, _, _, _, hel, _⟩
  · simp [Value.cells] at h1
  · simp only [Prod.mk.injEq] at h2
    refine ⟨_, _, h2.1, ?_⟩
    have e1 : len = xs.length := by
      have : (Value.slice (some a) xs.length cap).cells.toList = [.slice (some a) xs.length cap] := rfl
      rw [this] at h1
      injection h1 with h1 _
      injection h1 with _ h1 _
      exact h1.symm
    rw [List.length_map, hel, e1]
theorem asLongs : ∀ {ts : List TypeId} {vs : List Value} {ds : List (DataW H)} {ps : List MemPlace} {args : List V}, DataW.TrodAll enc P W 0 (fun _ => true) true ts vs ds ps → args.length = vs.length → (∀ (j : Nat) (t : TypeId), ts[j]? = some t → FitsV P t (args.getD j .undef)) → (∀ k, k < args.length → ArgOK W (args.getD k .undef) (vs.getD k undef)) →
    ∀ (j : Nat) (d : DataW H), ds[j]? = some d → AsLong (args.getD j .undef) d
  | [], vs, ds, ps, args, h, _, _, _, j, d, hd => by
    obtain ⟨rfl, rfl, rfl⟩ := ChangeShapes.trodAll_nil h
    simp at hd
  | t :: ts, vs, ds, ps, args, h, hl, hf, ha, j, d, hd => by
    obtain ⟨v, vs', dd, ds', p, q, rfl, rfl, rfl, h0, r0⟩ := ChangeShapes.trodAll_cons h
    match args, hl with
    | x :: args, hl =>
      cases j with
      | zero =>
        simp only [List.getElem?_cons_zero, Option.some.injEq] at hd
        subst hd
        exact asLong (hf 0 t rfl) (ha 0 (by simp)) h0
      | succ j =>
        exact asLongs r0 (by simpa using hl) (fun i t' hi => hf (i + 1) t' hi) (fun k hk => ha (k + 1) (by simpa using hk)) j d hd
theorem law_contractU [Lay P] {T : Table} (hLd : Laid P (g0 W) W) (hT : TableOK P T) {f : Nat} {fn : Func} {tb : TypeId} {s : ChangeSpec} {apart fresh handsOn again : Bool} {d : Nat} (hbool : P.underlying tb = some .bool) (hres : fn.resultTypes = #[tb]) (hvars : s.vars = [])
    (hspec : ∀ ds : List (DataW H), ds.length = fn.params.toList.length → s.fn H ds = { results := [.lit (.bool true)], args := ds }) (hl : laidOutB P = true) (hr : (fn.params.toList.all fun t => P.readableRec t && decide (t < P.types.size)) = true)
    (hsup : fn.params.toList.all (supT P d) = true) {base : Nat} {args : Array Value} {ds gs : List (DataW H)} {before : List MemPlace}
    (law : ds.length = fn.params.toList.length → ∀ zs9 : List V, zs9.length = fn.params.toList.length → (∀ (j : Nat) (t : TypeId), fn.params.toList[j]? = some t → FitsV P t (zs9.getD j .undef)) → (∀ (j : Nat) (d : DataW H), ds[j]? = some d → AsLong (zs9.getD j .undef) d) → ∃ m', RF T f zs9 [] = some (.bool true, m'))
    (hval : ∀ (j : Nat) t v, fn.params[j]? = some t → args[j]? = some v → Value.okWide P W .any base t v) (hW : DataW.Whole enc P fn.params.toList s.vars apart W args.toList ds gs before) :
    Calls P f args W fun e W' => ∃ v, e = .returned v ∧ s.post enc P fn apart fresh handsOn again W args v W' := by
  have hW' := hW
  obtain ⟨p, q, hA, hV, rfl, hfz, hnd⟩ := hW
  rw [hvars] at hV
  obtain ⟨rfl, rfl⟩ := ChangeShapes.trodVars_none hV
  obtain ⟨zs9, h1, h2, h3, h4⟩ := args_of (base := base) hsup (fun j t v hj hv => hval j t v (by simpa using hj) (by simpa using hv)) hA
  obtain ⟨m', hm⟩ := law (trodAll_len hA) zs9 (by rw [h1, h2]) h3 (asLongs hA h1 h3 h4)
  have hds : ds.length = fn.params.toList.length := trodAll_len hA
  refine (law_calls hLd hT hm h1 h4).mono fun e W' ⟨he, hb⟩ => ?_
  subst he
  have hsp : s.fn H (ds ++ []) = { results := [.lit (.bool true)], args := ds } := by rw [List.append_nil]; exact hspec ds hds
  refine ⟨_, rfl, post_of_below (pa := p) (pv := []) hW' (fun b sp hd => ?_) (fun sp hspb => ?_) (fun sp _ => ?_) rfl hb (RowKit.ok_one hres rfl (RowKit.okWide_bool_mk hbool _))⟩
  · rw [hsp, hres]
    exact trodAll_cons_mk (RowKit.shut_bool hbool true) rfl
  · rw [hsp]
    exact args_stay hl hr hA (fun x hx => hb.same (hW'.lt x (by simpa using hx))) (fun x hx => hspb x (by simpa using hx))
  · rw [hsp, hvars]; exact rfl
end
end Go.Proofs.YtggbcchebiedjaaDoor.Am

set_option linter.all false
namespace Go.Proofs.YtggbcchebiedjaaDoor.Am.Esc
open Go.Proofs.YtggbcchebiedjaaDoor.Am.T
theorem wf8 {n : Int} (h : (Lit.int .u8 n).wf = true) : 0 ≤ n ∧ n < 256 := by
  simp [Lit.wf, IntKind.min, IntKind.max, IntKind.signed, IntKind.bits] at h
  omega
theorem den_one {k : IntKind} (l : List Int) : Pw (Pw Den0) (l.map fun n => [TV.int k n]) (l.map fun n => [V.int k n]) := by
  induction l with
  | nil => exact .nil
  | cons x l ih => exact .cons (.cons (.int _ _) .nil) ih
theorem fits_bytes {P : Program} {t e : TypeId} (ht : P.underlying t = some (.slice e)) (he : P.underlying e = some (.int .u8)) (hc : P.cellsOf e = 1) {x : V} (h : Fits P t [x]) :
    ∃ l : List Int, Den [] (.sl false 1 (l.map by8)) x ∧ Byts l ∧ l.length ≤ maxLen := by
  rcases fits_slice ht h with h | ⟨xs, h, hl, hx⟩
  · injection h with h _; subst h; exact ⟨[], .base (.sln false 1), (fun _ h => by cases h), Nat.zero_le _⟩
  · injection h with h _; subst h
    obtain ⟨l, rfl, hb⟩ := list_of (f := fun n : Int => [V.int .u8 n]) (Q := fun n => 0 ≤ n ∧ n < 256) fun x hm => by
      obtain ⟨n, rfl, hw⟩ := fits_int he (hx x hm)
      exact ⟨n, rfl, wf8 hw⟩
    rw [hc]
    exact ⟨l, .base (.sl false 1 (den_one l)), hb, by simpa using hl⟩
theorem fits_ints64 {P : Program} {t e : TypeId} (ht : P.underlying t = some (.slice e)) (he : P.underlying e = some (.int .i64)) (hc : P.cellsOf e = 1) {x : V} (h : Fits P t [x]) :
    ∃ l : List Int, Den [] (.sl false 1 (l.map ei64)) x := by
  rcases fits_slice ht h with h | ⟨xs, h, hl, hx⟩
  · injection h with h _; subst h; exact ⟨[], .base (.sln false 1)⟩
  · injection h with h _; subst h
    obtain ⟨l, rfl, _⟩ := list_of (f := fun n : Int => [V.int .i64 n]) (Q := fun _ => True) fun x hm => by
      obtain ⟨n, rfl, _⟩ := fits_int he (hx x hm)
      exact ⟨n, rfl, trivial⟩
    rw [hc]
    exact ⟨l, .base (.sl false 1 (den_one l))⟩
theorem den_long {H : Type} {ρ : List Nat} {w : Bool} {z : Nat} {ys : List (List TV)} {x : V} {d : DataW H} (h : Den ρ (.sl w z ys) x) (ha : AsLong x d) : ys.length = 0 ∨ ∃ elems spare, d = .slice elems spare ∧ elems.length = ys.length := by
  rcases den_sl h with ⟨_, rfl⟩ | ⟨zs, rfl, hp⟩
  · exact .inl rfl
  · obtain ⟨elems, spare, e, hl⟩ := ha _ _ _ rfl
    exact .inr ⟨elems, spare, e, by rw [hl, hp.length]⟩
end Go.Proofs.YtggbcchebiedjaaDoor.Am.Esc
