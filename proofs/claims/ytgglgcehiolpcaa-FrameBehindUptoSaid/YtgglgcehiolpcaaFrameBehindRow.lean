/-
FrameBehind answers true where the input is of bounded bulk; the input reads as it did.
-/
import Derived.Test.YtgglgcehiolpcaaAmFrameBehindRow4
import Derived.Test.YtgglgcehiolpcaaProg
import Derived.RangeFuncFrom
import Derived.RangeFuncLeaves
import Derived.WalkKit
import Derived.OwnWalkIn
import Derived.TacticsInMore
import Derived.RegionIn
import Derived.LoopNIn
import Derived.LoopIn
import Derived.Shelf.AbstractIn
import Derived.Shelf.RegionOpen
import Derived.ChangeReads
import Derived.ChangeArms
import Derived.Carry
import Derived.OpenShut
import Derived.ChangeSame
import Derived.RowKit
import Derived.Test.YtgglgcehiolpcaaRows
import Derived.ProofKit
import Derived.Handed
import Derived.JoinedOf
set_option linter.all false
namespace Go.Proofs.Ytgglgcehiolpcaa.Am.Frame
open Go.Proofs.Ytgglgcehiolpcaa.Am.T
def FE : Table := tableOf codes (fun _ _ _ => none)
theorem FE_ok : TableOK Go.Proofs.Try.prog FE := tableOf_ok codes_ok (fun _ _ _ _ _ h => by cases h)
theorem slices_Clone_20_okE {l r : List Int} (h : slices_Clone_20 l = some r) : CallT true (RF FE) 20 [.sl false 1 (List.map by8 l)] [] (.sl true 1 (List.map by8 r)) [] := by
  refine CallT.quiet (con_low (af := a20) rfl rfl ?_) rfl
  unfold slices_Clone_20 at h
  refine WP_seq ?_
  refine WP_reg [0] [] ?_
  refine WPO_f ?_
  refine ⟨.sl true 1 [], .sl _ _, ?_⟩
  refine WP_seq ?_
  refine WP_seq ?_
  refine WP_reg [0, 4] [] ?_
  refine WPO_f ?_
  refine fun c hc => ?_
  refine WP_cond (b := c) rfl (fun hb => ?_) (fun hb => ?_)
  · have hl : l = [] := List.map_eq_nil_iff.1 (hc hb)
    subst hl
    have hr := app_is h
    simp only [List.append_nil] at hr
    subst hr
    refine WP_seq ?_
    refine WP_reg [2] [] ?_
    refine WPO_f ?_
    refine ⟨.sl true 1 [], .sl _ _, ?_⟩
    refine WP_ret ?_
    exact ⟨rfl, rfl, rfl, rfl, rfl⟩
  refine WP_skip ?_
  refine WP_seq ?_
  refine WP_reg [2] [] ?_
  refine WPO_f ?_
  refine ⟨List.map by8 ([] : List Int), rfl, ?_⟩
  refine And.intro (app_le by8 h) ⟨_, app_eq by8 h, ?_⟩
  refine WP_ret ?_
  exact ⟨rfl, rfl, rfl, rfl, rfl⟩
set_option maxRecDepth 20000 in
theorem frame_lengths_okE {kind : Int} {r : Int × Int × Bool} (h : frame_lengths kind = some r) : CallT true (RF FE) 25 [.int .i64 kind] [] (.tuple [.int .i64 r.1, .int .i64 r.2.1, .bool r.2.2]) [] := by
  refine CallT.quiet (con_low (af := a25) rfl rfl ?_) rfl
  unfold frame_lengths at h
  refine WP_seq ?_
  refine WP_reg [0] [] ?_
  refine WPO_f ?_
  refine WP_seq ?_
  refine WP_seq ?_
  refine WP_reg [5] [] ?_
  refine WPO_f ?_
  obtain ⟨j25, hj25, h⟩ := bind_inv h
  refine WP_cut j25 (fun r => match r with | .inl z => (.normal, [], [], []) | .inr z => (.ret, [(2, .int .i64 z.1), (3, .int .i64 z.2), (4, .bool true)], [], [])) (fun e => match e with | .normal => [] | .ret => [2, 3, 4] | _ => []) (fun e => match e with | .normal => [] | .ret => [] | _ => []) ?_ ?_
  · clear h
    replace h := hj25
    clear hj25
    refine WP_block ?_
    refine WP_seq ?_
    refine WP_seq ?_
    refine WP_reg [5, 6] [] ?_
    refine WPO_f ?_
    refine fun c1 hc1 => ?_
    replace h := letB_inv hc1 h
    obtain ⟨j4, hj4, h⟩ := bind_inv h
    refine WP_cut j4 (fun z => (.normal, [(5, .int .i64 kind), (6, .bool z)], [], [])) (fun _ => [5, 6]) (fun _ => []) ?_ ?_
    · clear h
      replace h := hj4
      clear hj4
      refine WP_cond (b := c1) rfl (fun hb2 => ?_) (fun hb2 => ?_)
      · replace h := bif_t hb2 h
        refine WP_skip ?_
        cases h
        exact rfl
      · replace h := bif_f hb2 h
        refine WP_reg [5, 6] [] ?_
        refine WPO_f ?_
        refine fun c3 hc3 => ?_
        replace h := letB_inv hc3 h
        cases h
        exact rfl
    obtain ⟨j22, hj22, h⟩ := bind_inv h
    refine WP_cut j22 (fun r => match r with | .inl z => (.normal, [], [], []) | .inr z => (.ret, [(2, .int .i64 z.1), (3, .int .i64 z.2), (4, .bool true)], [], [])) (fun e => match e with | .normal => [] | .ret => [2, 3, 4] | _ => []) (fun e => match e with | .normal => [] | .ret => [] | _ => []) ?_ ?_
    · clear h
      replace h := hj22
      clear hj22
      refine WP_cond (b := j4) rfl (fun hb5 => ?_) (fun hb5 => ?_)
      · replace h := bif_t hb5 h
        refine WP_seq ?_
        refine WP_reg [2, 3, 4] [] ?_
        refine WPO_f ?_
        refine WP_ret ?_
        cases h
        exact rfl
      · replace h := bif_f hb5 h
        refine WP_seq ?_
        refine WP_reg [5, 9] [] ?_
        refine WPO_f ?_
        refine fun c6 hc6 => ?_
        replace h := letB_inv hc6 h
        obtain ⟨j19, hj19, h⟩ := bind_inv h
        refine WP_cut j19 (fun r => match r with | .inl z => (.normal, [], [], []) | .inr z => (.ret, [(2, .int .i64 z.1), (3, .int .i64 z.2), (4, .bool true)], [], [])) (fun e => match e with | .normal => [] | .ret => [2, 3, 4] | _ => []) (fun e => match e with | .normal => [] | .ret => [] | _ => []) ?_ ?_
        · clear h
          replace h := hj19
          clear hj19
          refine WP_cond (b := c6) rfl (fun hb7 => ?_) (fun hb7 => ?_)
          · replace h := bif_t hb7 h
            refine WP_seq ?_
            refine WP_reg [2, 3, 4] [] ?_
            refine WPO_f ?_
            refine WP_ret ?_
            cases h
            exact rfl
          · replace h := bif_f hb7 h
            refine WP_seq ?_
            refine WP_seq ?_
            refine WP_reg [5, 11] [] ?_
            refine WPO_f ?_
            refine fun c8 hc8 => ?_
            replace h := letB_inv hc8 h
            obtain ⟨j11, hj11, h⟩ := bind_inv h
            refine WP_cut j11 (fun z => (.normal, [(5, .int .i64 kind), (11, .bool z)], [], [])) (fun _ => [5, 11]) (fun _ => []) ?_ ?_
            · clear h
              replace h := hj11
              clear hj11
              refine WP_cond (b := c8) rfl (fun hb9 => ?_) (fun hb9 => ?_)
              · replace h := bif_t hb9 h
                refine WP_skip ?_
                cases h
                exact rfl
              · replace h := bif_f hb9 h
                refine WP_reg [5, 11] [] ?_
                refine WPO_f ?_
                refine fun c10 hc10 => ?_
                replace h := letB_inv hc10 h
                cases h
                exact rfl
            refine WP_cond (b := j11) rfl (fun hb12 => ?_) (fun hb12 => ?_)
            · replace h := bif_t hb12 h
              refine WP_seq ?_
              refine WP_reg [2, 3, 4] [] ?_
              refine WPO_f ?_
              refine WP_ret ?_
              cases h
              exact rfl
            · replace h := bif_f hb12 h
              refine WP_seq ?_
              refine WP_reg [5, 14] [] ?_
              refine WPO_f ?_
              refine fun c13 hc13 => ?_
              replace h := letB_inv hc13 h
              refine WP_cond (b := c13) rfl (fun hb14 => ?_) (fun hb14 => ?_)
              · replace h := bif_t hb14 h
                refine WP_seq ?_
                refine WP_reg [2, 3, 4] [] ?_
                refine WPO_f ?_
                refine WP_ret ?_
                cases h
                exact rfl
              · replace h := bif_f hb14 h
                refine WP_seq ?_
                refine WP_reg [5, 16] [] ?_
                refine WPO_f ?_
                refine fun c15 hc15 => ?_
                replace h := letB_inv hc15 h
                refine WP_cond (b := c15) rfl (fun hb16 => ?_) (fun hb16 => ?_)
                · replace h := bif_t hb16 h
                  refine WP_seq ?_
                  refine WP_reg [2, 3, 4] [] ?_
                  refine WPO_f ?_
                  refine WP_ret ?_
                  cases h
                  exact rfl
                · replace h := bif_f hb16 h
                  refine WP_seq ?_
                  refine WP_reg [18] [] ?_
                  refine WPO_f ?_
                  refine fun c17 hc17 => ?_
                  replace h := letB_inv hc17 h
                  refine WP_cond (b := c17) rfl (fun hb18 => ?_) (fun hb18 => ?_)
                  · replace h := bif_t hb18 h
                    refine WP_seq ?_
                    refine WP_reg [2, 3, 4] [] ?_
                    refine WPO_f ?_
                    refine WP_ret ?_
                    cases h
                    exact rfl
                  · replace h := bif_f hb18 h
                    refine WP_skip ?_
                    cases h
                    exact rfl
        rcases j19 with z20 | z21
        · cases h
          exact rfl
        · cases h
          exact rfl
    rcases j22 with z23 | z24
    · cases h
      exact rfl
    · cases h
      exact rfl
  rcases j25 with z26 | z27
  · refine WP_seq ?_
    refine WP_reg [2, 3, 4] [] ?_
    refine WPO_f ?_
    refine WP_ret ?_
    cases h
    exact ⟨rfl, rfl, rfl, rfl, rfl⟩
  · cases h
    exact ⟨rfl, rfl, rfl, rfl, rfl⟩
set_option maxRecDepth 20000 in
theorem frame_two_okE {b : List Int} {r : Int} (h : frame_two b = some r) : CallT true (RF FE) 30 [.sl false 1 (List.map by8 b)] [] (.int .i64 r) [] := by
  refine CallT.quiet (con_low (af := a30) rfl rfl ?_) rfl
  unfold frame_two at h
  refine WP_seq ?_
  refine WP_reg [0] [] ?_
  refine WPO_f ?_
  refine WP_seq ?_
  refine WP_reg [2] [] ?_
  refine WPO_t ?_
  obtain ⟨x1, hx1, h⟩ := bind_inv h
  refine And.intro (idx_nn hx1) ⟨_, idx_get by8 hx1, ?_⟩
  obtain ⟨x2, hx2, h⟩ := bind_inv h
  refine And.intro (idx_nn hx2) ⟨_, idx_get by8 hx2, ?_⟩
  refine And.intro (by decide) ?_
  refine WP_ret ?_
  cases h
  exact ⟨rfl, rfl, rfl, rfl, rfl⟩
set_option maxRecDepth 20000 in
theorem frame_side_okE {n : Int} {r : Bool} (h : frame_side n = some r) : CallT true (RF FE) 31 [.int .i64 n] [] (.bool r) [] := by
  refine CallT.quiet (con_low (af := a31) rfl rfl ?_) rfl
  unfold frame_side at h
  refine WP_seq ?_
  refine WP_reg [0] [] ?_
  refine WPO_f ?_
  refine WP_seq ?_
  refine WP_reg [2] [] ?_
  refine WPO_then 3 ?_
  refine WPO_f ?_
  refine fun c1 hc1 => ?_
  replace h := letB_inv hc1 h
  obtain ⟨g2, hg2, h⟩ := bind_inv h
  refine WPO_grp 3 8 [8] g2 ?_ ?_
  · clear h
    replace h := hg2
    clear hg2
    cases hb4 : c1 with
    | true =>
      replace h := bif_t hb4 h
      refine WPO_f ?_
      refine fun c3 hc3 => ?_
      replace h := letB_inv hc3 h
      cases h
      exact ⟨rfl, rfl, rfl⟩
    | false =>
      replace h := bif_f hb4 h
      cases h
      refine WPO_f ?_
      exact ⟨rfl, rfl, rfl⟩
  refine WPO_f ?_
  refine WP_ret ?_
  cases h
  exact ⟨rfl, rfl, rfl, rfl, rfl⟩
set_option maxRecDepth 20000 in
theorem frame_message_okE {kind : Int} {b : List Int} {r : Msg × Bool} (h : frame_message kind b = some r) : CallT true (RF FE) 22 [.int .i64 kind, .sl false 1 (List.map by8 b)] [] (.tuple [.agg (Msg.c r.1), .bool r.2]) [] := by
  refine CallT.quiet (con_low (af := a22) rfl rfl ?_) rfl
  unfold frame_message at h
  refine WP_seq ?_
  refine WP_reg [0, 1, 4] [0] ?_
  refine WPO_f ?_
  refine ⟨.sl false 1 [], .sl _ _, ?_⟩
  refine WP_seq ?_
  refine WP_reg [0, 1, 4, 6] [0, 1] ?_
  refine WPO_f ?_
  refine ⟨.sl false 1 [], .sl _ _, ?_⟩
  refine ⟨.sl false 1 [], .sl _ _, ?_⟩
  refine WP_seq ?_
  refine WP_seq ?_
  refine WP_reg [1, 4, 6, 9] [0, 1] ?_
  refine WPO_f ?_
  obtain ⟨j36, hj36, h⟩ := bind_inv h
  refine WP_cut j36 (fun r => match r with | .inl z => (.normal, [(4, .loc 0 0), (6, .loc 1 0)], [(0, [.int .i64 0, .int .i64 0, .int .i64 0, .int .i64 0, .sl false 1 (List.map by8 [])]), (1, (Msg.c z))], []) | .inr z => (.ret, [(4, .loc 0 0), (5, .bool z.1)], [(0, (Msg.c z.2.1)), (1, (Msg.c z.2.2))], [])) (fun e => match e with | .normal => [4, 6] | .ret => [4, 5] | _ => []) (fun e => match e with | .normal => [0, 1] | .ret => [0, 1] | _ => []) ?_ ?_
  · clear h
    replace h := hj36
    clear hj36
    refine WP_block ?_
    refine WP_seq ?_
    refine WP_seq ?_
    refine WP_reg [1, 4, 6, 9, 10] [0, 1] ?_
    refine WPO_f ?_
    refine fun c1 hc1 => ?_
    replace h := letB_inv hc1 h
    obtain ⟨j4, hj4, h⟩ := bind_inv h
    refine WP_cut j4 (fun z => (.normal, [(1, .sl false 1 (List.map by8 b)), (4, .loc 0 0), (6, .loc 1 0), (9, .int .i64 kind), (10, .bool z)], [(0, [.int .i64 0, .int .i64 0, .int .i64 0, .int .i64 0, .sl false 1 (List.map by8 [])]), (1, [.int .i64 kind, .int .i64 0, .int .i64 0, .int .i64 0, .sl false 1 (List.map by8 [])])], [])) (fun _ => [1, 4, 6, 9, 10]) (fun _ => [0, 1]) ?_ ?_
    · clear h
      replace h := hj4
      clear hj4
      refine WP_cond (b := c1) rfl (fun hb2 => ?_) (fun hb2 => ?_)
      · replace h := bif_t hb2 h
        refine WP_skip ?_
        cases h
        exact rfl
      · replace h := bif_f hb2 h
        refine WP_reg [1, 4, 6, 9, 10] [0, 1] ?_
        refine WPO_f ?_
        refine fun c3 hc3 => ?_
        replace h := letB_inv hc3 h
        cases h
        exact rfl
    obtain ⟨j33, hj33, h⟩ := bind_inv h
    refine WP_cut j33 (fun r => match r with | .inl z => (.normal, [(4, .loc 0 0), (6, .loc 1 0)], [(0, [.int .i64 0, .int .i64 0, .int .i64 0, .int .i64 0, .sl false 1 (List.map by8 [])]), (1, (Msg.c z))], []) | .inr z => (.ret, [(4, .loc 0 0), (5, .bool z.1)], [(0, (Msg.c z.2.1)), (1, (Msg.c z.2.2))], [])) (fun e => match e with | .normal => [4, 6] | .ret => [4, 5] | _ => []) (fun e => match e with | .normal => [0, 1] | .ret => [0, 1] | _ => []) ?_ ?_
    · clear h
      replace h := hj33
      clear hj33
      refine WP_cond (b := j4) rfl (fun hb5 => ?_) (fun hb5 => ?_)
      · replace h := bif_t hb5 h
        refine WP_seq ?_
        refine WP_reg [4, 6] [0, 1] ?_
        refine WPO_t ?_
        obtain ⟨y6, hy6, h⟩ := bind_inv h
        refine ⟨_, _, CallT.any (frame_two_okE hy6) rfl _ rfl, ?_⟩
        obtain ⟨x7, hx7, h⟩ := bind_inv h
        refine And.intro (subA_a hx7) (And.intro (subA_le by8 hx7) ⟨_, subA_eq by8 hx7, ?_⟩)
        obtain ⟨y8, hy8, h⟩ := bind_inv h
        refine ⟨_, _, CallT.any (frame_two_okE hy8) rfl _ rfl, ?_⟩
        refine WP_seq ?_
        refine WP_reg [4, 5] [0, 1] ?_
        refine WPO_then 5 ?_
        refine WPO_t ?_
        obtain ⟨y9, hy9, h⟩ := bind_inv h
        refine ⟨_, _, CallT.any (frame_side_okE hy9) rfl _ rfl, ?_⟩
        obtain ⟨g10, hg10, h⟩ := bind_inv h
        refine WPO_grp 4 28 [4, 20, 28] g10 ?_ ?_
        · clear h
          replace h := hg10
          clear hg10
          cases hb12 : y9 with
          | true =>
            replace h := bif_t hb12 h
            refine WPO_t ?_
            obtain ⟨y11, hy11, h⟩ := bind_inv h
            refine ⟨_, _, CallT.any (frame_side_okE hy11) rfl _ rfl, ?_⟩
            cases h
            exact ⟨rfl, rfl, rfl⟩
          | false =>
            replace h := bif_f hb12 h
            cases h
            refine WPO_t ?_
            exact ⟨rfl, rfl, rfl⟩
        refine WPO_t ?_
        refine WP_ret ?_
        cases h
        exact rfl
      · replace h := bif_f hb5 h
        refine WP_seq ?_
        refine WP_reg [1, 4, 6, 9, 29] [0, 1] ?_
        refine WPO_f ?_
        refine fun c13 hc13 => ?_
        replace h := letB_inv hc13 h
        obtain ⟨j30, hj30, h⟩ := bind_inv h
        refine WP_cut j30 (fun r => match r with | .inl z => (.normal, [(4, .loc 0 0), (6, .loc 1 0)], [(0, [.int .i64 0, .int .i64 0, .int .i64 0, .int .i64 0, .sl false 1 (List.map by8 [])]), (1, (Msg.c z))], []) | .inr z => (.ret, [(4, .loc 0 0), (5, .bool z.1)], [(0, (Msg.c z.2.1)), (1, (Msg.c z.2.2))], [])) (fun e => match e with | .normal => [4, 6] | .ret => [4, 5] | _ => []) (fun e => match e with | .normal => [0, 1] | .ret => [0, 1] | _ => []) ?_ ?_
        · clear h
          replace h := hj30
          clear hj30
          refine WP_cond (b := c13) rfl (fun hb14 => ?_) (fun hb14 => ?_)
          · replace h := bif_t hb14 h
            refine WP_seq ?_
            refine WP_reg [4, 6] [0, 1] ?_
            refine WPO_f ?_
            obtain ⟨y15, hy15, h⟩ := bind_inv h
            refine ⟨_, _, CallT.any (frame_two_okE hy15) rfl _ rfl, ?_⟩
            refine WP_seq ?_
            refine WP_reg [4, 5] [0, 1] ?_
            refine WPO_then 5 ?_
            refine WPO_t ?_
            refine fun c16 hc16 => ?_
            replace h := letB_inv hc16 h
            obtain ⟨g17, hg17, h⟩ := bind_inv h
            refine WPO_grp 4 42 [4, 34, 42] g17 ?_ ?_
            · clear h
              replace h := hg17
              clear hg17
              cases hb19 : c16 with
              | true =>
                replace h := bif_t hb19 h
                refine WPO_t ?_
                refine fun c18 hc18 => ?_
                replace h := letB_inv hc18 h
                cases h
                exact ⟨rfl, rfl, rfl⟩
              | false =>
                replace h := bif_f hb19 h
                cases h
                refine WPO_t ?_
                exact ⟨rfl, rfl, rfl⟩
            refine WPO_t ?_
            refine WP_ret ?_
            cases h
            exact rfl
          · replace h := bif_f hb14 h
            refine WP_seq ?_
            refine WP_seq ?_
            refine WP_reg [1, 4, 6, 9, 43] [0, 1] ?_
            refine WPO_f ?_
            refine fun c20 hc20 => ?_
            replace h := letB_inv hc20 h
            obtain ⟨j26, hj26, h⟩ := bind_inv h
            refine WP_cut j26 (fun z => (.normal, [(1, .sl false 1 (List.map by8 b)), (4, .loc 0 0), (6, .loc 1 0), (43, .bool z)], [(0, [.int .i64 0, .int .i64 0, .int .i64 0, .int .i64 0, .sl false 1 (List.map by8 [])]), (1, [.int .i64 kind, .int .i64 0, .int .i64 0, .int .i64 0, .sl false 1 (List.map by8 [])])], [])) (fun _ => [1, 4, 6, 43]) (fun _ => [0, 1]) ?_ ?_
            · clear h
              replace h := hj26
              clear hj26
              refine WP_cond (b := c20) rfl (fun hb21 => ?_) (fun hb21 => ?_)
              · replace h := bif_t hb21 h
                refine WP_skip ?_
                cases h
                exact rfl
              · replace h := bif_f hb21 h
                refine WP_seq ?_
                refine WP_reg [1, 4, 6, 9, 43] [0, 1] ?_
                refine WPO_f ?_
                refine fun c22 hc22 => ?_
                replace h := letB_inv hc22 h
                obtain ⟨j25, hj25, h⟩ := bind_inv h
                refine WP_cut j25 (fun z => (.normal, [(1, .sl false 1 (List.map by8 b)), (4, .loc 0 0), (6, .loc 1 0), (43, .bool z)], [(0, [.int .i64 0, .int .i64 0, .int .i64 0, .int .i64 0, .sl false 1 (List.map by8 [])]), (1, [.int .i64 kind, .int .i64 0, .int .i64 0, .int .i64 0, .sl false 1 (List.map by8 [])])], [])) (fun _ => [1, 4, 6, 43]) (fun _ => [0, 1]) ?_ ?_
                · clear h
                  replace h := hj25
                  clear hj25
                  refine WP_cond (b := c22) rfl (fun hb23 => ?_) (fun hb23 => ?_)
                  · replace h := bif_t hb23 h
                    refine WP_skip ?_
                    cases h
                    exact rfl
                  · replace h := bif_f hb23 h
                    refine WP_reg [1, 4, 6, 43] [0, 1] ?_
                    refine WPO_f ?_
                    refine fun c24 hc24 => ?_
                    replace h := letB_inv hc24 h
                    cases h
                    exact rfl
                cases h
                exact rfl
            obtain ⟨j29, hj29, h⟩ := bind_inv h
            refine WP_cut j29 (fun z => (.normal, [(4, .loc 0 0), (6, .loc 1 0)], [(0, [.int .i64 0, .int .i64 0, .int .i64 0, .int .i64 0, .sl false 1 (List.map by8 [])]), (1, (Msg.c z))], [])) (fun _ => [4, 6]) (fun _ => [0, 1]) ?_ ?_
            · clear h
              replace h := hj29
              clear hj29
              refine WP_cond (b := j26) rfl (fun hb27 => ?_) (fun hb27 => ?_)
              · replace h := bif_t hb27 h
                refine WP_reg [4, 6] [0, 1] ?_
                refine WPO_f ?_
                obtain ⟨y28, hy28, h⟩ := bind_inv h
                refine ⟨_, _, CallT.any (slices_Clone_20_okE hy28) rfl _ rfl, ?_⟩
                cases h
                exact rfl
              · replace h := bif_f hb27 h
                refine WP_skip ?_
                cases h
                exact rfl
            cases h
            exact rfl
        rcases j30 with z31 | z32
        · cases h
          exact rfl
        · cases h
          exact rfl
    rcases j33 with z34 | z35
    · cases h
      exact rfl
    · cases h
      exact rfl
  rcases j36 with z37 | z38
  · refine WP_seq ?_
    refine WP_reg [4, 5] [0, 1] ?_
    refine WPO_f ?_
    refine WP_ret ?_
    cases h
    exact ⟨rfl, rfl, rfl, rfl, rfl⟩
  · cases h
    exact ⟨rfl, rfl, rfl, rfl, rfl⟩
set_option maxRecDepth 20000 in
theorem frame_sum_okE {b : List Int} {r : Int} (h : frame_sum b = some r) : CallT true (RF FE) 23 [.sl false 1 (List.map by8 b)] [] (.int .u8 r) [] := by
  refine CallT.quiet (con_low (af := a23) rfl rfl ?_) rfl
  unfold frame_sum at h
  refine WP_seq ?_
  refine WP_reg [0] [] ?_
  refine WPO_f ?_
  refine WP_seq ?_
  refine WP_reg [0, 3] [] ?_
  refine WPO_f ?_
  refine WP_seq ?_
  refine WP_seq ?_
  refine WP_reg [3, 6, 7, 8] [] ?_
  refine WPO_f ?_
  refine ⟨_, (List.length_map ..).symm, ?_⟩
  refine WP_block ?_
  obtain ⟨j4, hj4, h⟩ := bind_inv h
  refine WP_iter hj4 [] (fun s => ([(3, .int .u8 s.1), (6, .sl false 1 (List.map by8 b)), (7, .int .i64 (b.length : Int)), (8, .int .i64 s.2)], [], [])) (fun _ => [3]) (fun _ => []) (fun z => (.exit 0, [(3, .int .u8 z)], [], [])) ?_ ?_ ?_
  · exact rfl
  · clear h
    rintro ⟨n, t8⟩ x h
    replace h : frame_sum_l1 b n t8 = some x := h
    unfold frame_sum_l1 at h
    show T.WP _ _ [(3, .int .u8 n), (6, .sl false 1 (List.map by8 b)), (7, .int .i64 (b.length : Int)), (8, .int .i64 t8)] [] [] _
    refine WP_seq ?_
    refine WP_reg [3, 6, 7, 8, 9] [] ?_
    refine WPO_f ?_
    refine fun c1 hc1 => ?_
    replace h := letB_inv hc1 h
    refine WP_seq ?_
    refine WP_cond (b := c1) rfl (fun hb2 => ?_) (fun hb2 => ?_)
    · replace h := bif_t hb2 h
      refine WP_skip ?_
      refine WP_seq ?_
      refine WP_block ?_
      refine WP_seq ?_
      refine WP_reg [3, 5, 6, 7, 8] [] ?_
      refine WPO_f ?_
      obtain ⟨x3, hx3, h⟩ := bind_inv h
      refine And.intro (idx_nn hx3) ⟨_, idx_get by8 hx3, ?_⟩
      refine WP_reg [3, 6, 7, 8] [] ?_
      refine WPO_f ?_
      refine WP_reg [3, 6, 7, 8] [] ?_
      refine WPO_f ?_
      cases h
      exact ⟨_, rfl, rfl⟩
    · replace h := bif_f hb2 h
      refine WP_exit ?_
      cases h
      exact ⟨_, rfl, rfl⟩
  refine WP_seq ?_
  refine WP_reg [2] [] ?_
  refine WPO_f ?_
  refine WP_ret ?_
  cases h
  exact ⟨rfl, rfl, rfl, rfl, rfl⟩
set_option maxRecDepth 20000 in
theorem frame_Encode_okE {m : Msg} {r : List Int × Int} (h : frame_Encode m = some r) : CallT true (RF FE) 14 [.agg (Msg.c m)] [] (.tuple [.sl false 1 (List.map by8 r.1), .int .i64 r.2]) [] := by
  refine CallT.quiet (con_low (af := a14) rfl rfl ?_) rfl
  unfold frame_Encode at h
  refine WP_seq ?_
  refine WP_reg [1] [0] ?_
  refine WPO_f ?_
  refine ⟨.sl false 1 [], .sl _ _, ?_⟩
  refine WP_seq ?_
  refine WP_reg [1, 4, 5, 6] [0] ?_
  refine WPO_f ?_
  obtain ⟨y1, hy1, h⟩ := bind_inv h
  refine ⟨_, _, CallT.any (frame_lengths_okE hy1) rfl _ rfl, ?_⟩
  refine WP_seq ?_
  refine WP_reg [1, 4, 5, 6] [0] ?_
  refine WPO_f ?_
  refine ⟨.sl false 1 [], .sl _ _, ?_⟩
  refine WP_seq ?_
  refine WP_seq ?_
  refine WP_reg [1, 4, 5, 6, 18] [0] ?_
  refine WPO_f ?_
  obtain ⟨j11, hj11, h⟩ := bind_inv h
  refine WP_cut j11 (fun z => (.normal, [(1, .loc 0 0), (4, .int .i64 y1.1), (5, .int .i64 y1.2.1), (6, .bool y1.2.2), (7, .sl false 1 (List.map by8 z))], [(0, (Msg.c m))], [])) (fun _ => [1, 4, 5, 6, 7]) (fun _ => [0]) ?_ ?_
  · clear h
    replace h := hj11
    clear hj11
    refine WP_block ?_
    refine WP_seq ?_
    refine WP_seq ?_
    refine WP_reg [1, 4, 5, 6, 18, 21] [0] ?_
    refine WPO_f ?_
    refine fun c2 hc2 => ?_
    replace h := letB_inv hc2 h
    obtain ⟨j5, hj5, h⟩ := bind_inv h
    refine WP_cut j5 (fun z => (.normal, [(1, .loc 0 0), (4, .int .i64 y1.1), (5, .int .i64 y1.2.1), (6, .bool y1.2.2), (18, .int .i64 m.Kind), (21, .bool z)], [(0, (Msg.c m))], [])) (fun _ => [1, 4, 5, 6, 18, 21]) (fun _ => [0]) ?_ ?_
    · clear h
      replace h := hj5
      clear hj5
      refine WP_cond (b := c2) rfl (fun hb3 => ?_) (fun hb3 => ?_)
      · replace h := bif_t hb3 h
        refine WP_skip ?_
        cases h
        exact rfl
      · replace h := bif_f hb3 h
        refine WP_reg [1, 4, 5, 6, 18, 21] [0] ?_
        refine WPO_f ?_
        refine fun c4 hc4 => ?_
        replace h := letB_inv hc4 h
        cases h
        exact rfl
    obtain ⟨j10, hj10, h⟩ := bind_inv h
    refine WP_cut j10 (fun z => (.normal, [(1, .loc 0 0), (4, .int .i64 y1.1), (5, .int .i64 y1.2.1), (6, .bool y1.2.2), (7, .sl false 1 (List.map by8 z))], [(0, (Msg.c m))], [])) (fun _ => [1, 4, 5, 6, 7]) (fun _ => [0]) ?_ ?_
    · clear h
      replace h := hj10
      clear hj10
      refine WP_cond (b := j5) rfl (fun hb6 => ?_) (fun hb6 => ?_)
      · replace h := bif_t hb6 h
        refine WP_reg [1, 4, 5, 6, 7] [0] ?_
        refine WPO_f ?_
        refine And.intro (by decide) ?_
        refine And.intro (by decide) ?_
        refine ⟨List.map by8 ([w8 m.W, w8 (iShr .i64 m.W 8), w8 m.H, w8 (iShr .i64 m.H 8)] : List Int), rfl, ?_⟩
        cases h
        exact rfl
      · replace h := bif_f hb6 h
        refine WP_seq ?_
        refine WP_reg [1, 4, 5, 6, 39] [0] ?_
        refine WPO_f ?_
        refine fun c7 hc7 => ?_
        replace h := letB_inv hc7 h
        obtain ⟨j9, hj9, h⟩ := bind_inv h
        refine WP_cut j9 (fun z => (.normal, [(1, .loc 0 0), (4, .int .i64 y1.1), (5, .int .i64 y1.2.1), (6, .bool y1.2.2), (7, .sl false 1 (List.map by8 z))], [(0, (Msg.c m))], [])) (fun _ => [1, 4, 5, 6, 7]) (fun _ => [0]) ?_ ?_
        · clear h
          replace h := hj9
          clear hj9
          refine WP_cond (b := c7) rfl (fun hb8 => ?_) (fun hb8 => ?_)
          · replace h := bif_t hb8 h
            refine WP_reg [1, 4, 5, 6, 7] [0] ?_
            refine WPO_f ?_
            refine And.intro (by decide) ?_
            refine ⟨List.map by8 ([w8 m.Code, w8 (iShr .i64 m.Code 8)] : List Int), rfl, ?_⟩
            cases h
            exact rfl
          · replace h := bif_f hb8 h
            refine WP_reg [1, 4, 5, 6, 7] [0] ?_
            refine WPO_f ?_
            cases h
            exact rfl
        cases h
        exact rfl
    cases h
    exact rfl
  refine WP_seq ?_
  refine WP_seq ?_
  refine WP_reg [1, 7, 62] [0] ?_
  refine WPO_then 3 ?_
  refine WPO_f ?_
  obtain ⟨g12, hg12, h⟩ := bind_inv h
  refine WPO_grp 5 56 [1, 5, 7, 56] g12 ?_ ?_
  · clear h
    replace h := hg12
    clear hg12
    cases hb14 : (!y1.2.2) with
    | false =>
      replace h := bif_f hb14 h
      refine WPO_f ?_
      refine ⟨_, (List.length_map ..).symm, ?_⟩
      refine fun c13 hc13 => ?_
      replace h := letB_inv hc13 h
      cases h
      exact ⟨rfl, rfl, rfl⟩
    | true =>
      replace h := bif_t hb14 h
      cases h
      refine WPO_f ?_
      exact ⟨rfl, rfl, rfl⟩
  refine WPO_then 1 ?_
  refine WPO_f ?_
  obtain ⟨g15, hg15, h⟩ := bind_inv h
  refine WPO_grp 5 62 [1, 7, 62] g15 ?_ ?_
  · clear h
    replace h := hg15
    clear hg15
    cases hb17 : g12 with
    | false =>
      replace h := bif_f hb17 h
      refine WPO_f ?_
      refine ⟨_, (List.length_map ..).symm, ?_⟩
      refine fun c16 hc16 => ?_
      replace h := letB_inv hc16 h
      cases h
      exact ⟨rfl, rfl, rfl⟩
    | true =>
      replace h := bif_t hb17 h
      cases h
      refine WPO_f ?_
      exact ⟨rfl, rfl, rfl⟩
  refine WPO_f ?_
  refine WP_cond (b := g15) rfl (fun hb18 => ?_) (fun hb18 => ?_)
  · replace h := bif_t hb18 h
    refine WP_seq ?_
    refine WP_reg [2, 3] [0] ?_
    refine WPO_f ?_
    refine ⟨.sl false 1 [], .sl _ _, ?_⟩
    refine WP_ret ?_
    cases h
    exact ⟨rfl, rfl, rfl, rfl, rfl⟩
  · replace h := bif_f hb18 h
    refine WP_skip ?_
    refine WP_seq ?_
    refine WP_reg [1, 6, 7, 8] [0, 1] ?_
    refine WPO_f ?_
    obtain ⟨y19, hy19, h⟩ := bind_inv h
    refine ⟨_, _, CallT.any (frame_message_okE hy19) rfl _ rfl, ?_⟩
    refine ⟨.sl false 1 [], .sl _ _, ?_⟩
    refine WP_seq ?_
    refine WP_seq ?_
    refine WP_reg [1, 7, 101] [0, 1] ?_
    refine WPO_then 3 ?_
    refine WPO_f ?_
    obtain ⟨g20, hg20, h⟩ := bind_inv h
    refine WPO_grp 6 78 [1, 7, 8, 78] g20 ?_ ?_
    · clear h
      replace h := hg20
      clear hg20
      cases hb22 : (!y19.2) with
      | false =>
        replace h := bif_f hb22 h
        refine WPO_f ?_
        refine fun c21 hc21 => ?_
        replace h := letB_inv hc21 h
        cases h
        exact ⟨rfl, rfl, rfl⟩
      | true =>
        replace h := bif_t hb22 h
        cases h
        refine WPO_f ?_
        exact ⟨rfl, rfl, rfl⟩
    refine WPO_then 1 ?_
    refine WPO_f ?_
    obtain ⟨g23, hg23, h⟩ := bind_inv h
    refine WPO_grp 6 85 [1, 7, 8, 85] g23 ?_ ?_
    · clear h
      replace h := hg23
      clear hg23
      cases hb25 : g20 with
      | false =>
        replace h := bif_f hb25 h
        refine WPO_f ?_
        refine fun c24 hc24 => ?_
        replace h := letB_inv hc24 h
        cases h
        exact ⟨rfl, rfl, rfl⟩
      | true =>
        replace h := bif_t hb25 h
        cases h
        refine WPO_f ?_
        exact ⟨rfl, rfl, rfl⟩
    refine WPO_then 1 ?_
    refine WPO_f ?_
    obtain ⟨g26, hg26, h⟩ := bind_inv h
    refine WPO_grp 6 92 [1, 7, 8, 92] g26 ?_ ?_
    · clear h
      replace h := hg26
      clear hg26
      cases hb28 : g23 with
      | false =>
        replace h := bif_f hb28 h
        refine WPO_f ?_
        refine fun c27 hc27 => ?_
        replace h := letB_inv hc27 h
        cases h
        exact ⟨rfl, rfl, rfl⟩
      | true =>
        replace h := bif_t hb28 h
        cases h
        refine WPO_f ?_
        exact ⟨rfl, rfl, rfl⟩
    refine WPO_then 1 ?_
    refine WPO_f ?_
    obtain ⟨g29, hg29, h⟩ := bind_inv h
    refine WPO_grp 8 101 [1, 7, 101] g29 ?_ ?_
    · clear h
      replace h := hg29
      clear hg29
      cases hb31 : g26 with
      | false =>
        replace h := bif_f hb31 h
        refine WPO_f ?_
        refine ⟨_, (List.length_map ..).symm, ?_⟩
        refine ⟨_, (List.length_map ..).symm, ?_⟩
        refine fun c30 hc30 => ?_
        replace h := letB_inv hc30 h
        cases h
        exact ⟨rfl, rfl, rfl⟩
      | true =>
        replace h := bif_t hb31 h
        cases h
        refine WPO_f ?_
        exact ⟨rfl, rfl, rfl⟩
    refine WPO_f ?_
    refine WP_cond (b := g29) rfl (fun hb32 => ?_) (fun hb32 => ?_)
    · replace h := bif_t hb32 h
      refine WP_seq ?_
      refine WP_reg [2, 3] [0, 1] ?_
      refine WPO_f ?_
      refine ⟨.sl false 1 [], .sl _ _, ?_⟩
      refine WP_ret ?_
      cases h
      exact ⟨rfl, rfl, rfl, rfl, rfl⟩
    · replace h := bif_f hb32 h
      refine WP_skip ?_
      refine WP_seq ?_
      refine WP_reg [9] [0, 1] ?_
      refine WPO_f ?_
      refine ⟨_, (List.length_map ..).symm, ?_⟩
      refine ⟨_, (List.length_map ..).symm, ?_⟩
      refine And.intro (by decide) ?_
      refine ⟨List.map by8 ([197, w8 m.Kind, w8 (j11.length : Int), w8 (iShr .i64 (j11.length : Int) 8)] : List Int), rfl, ?_⟩
      obtain ⟨x33, hx33, h⟩ := bind_inv h
      refine And.intro (app_le by8 hx33) ⟨_, app_eq by8 hx33, ?_⟩
      refine WP_seq ?_
      refine WP_reg [2, 3] [0, 1] ?_
      refine WPO_f ?_
      obtain ⟨x34, hx34, h⟩ := bind_inv h
      obtain ⟨y35, hy35, h⟩ := bind_inv h
      refine And.intro (lendA_lt by8 hx34) ⟨_, lendA_eq by8 hx34, ⟨_, frame_sum_okE hy35, ?_⟩⟩
      refine ⟨List.map by8 ([y35] : List Int), rfl, ?_⟩
      obtain ⟨x36, hx36, h⟩ := bind_inv h
      refine And.intro (app_le by8 hx36) ⟨_, app_eq by8 hx36, ?_⟩
      refine WP_ret ?_
      cases h
      exact ⟨rfl, rfl, rfl, rfl, rfl⟩
end Go.Proofs.Ytgglgcehiolpcaa.Am.Frame

set_option linter.all false
namespace Go.Proofs.Ytgglgcehiolpcaa.Am.Frame
open Go.Proofs.Ytgglgcehiolpcaa.Am.T
theorem w64_id {n : Int} (h1 : -9223372036854775808 ≤ n) (h2 : n ≤ 9223372036854775807) : w64 n = n := by
  show IntKind.wrap .i64 n = n
  show (if (true && decide (n % 2 ^ 64 ≥ 2 ^ (64 - 1))) = true then n % 2 ^ 64 - 2 ^ 64 else n % 2 ^ 64) = n
  by_cases h : n % 2 ^ 64 ≥ 2 ^ (64 - 1)
  · rw [if_pos (by simpa using h)]; omega
  · rw [if_neg (by simpa using h)]; omega
theorem w8_is (n : Int) : w8 n = n % 256 := by
  show IntKind.wrap .u8 n = _
  simp [IntKind.wrap, IntKind.signed, IntKind.bits]
def Byts (l : List Int) : Prop := ∀ x ∈ l, 0 ≤ x ∧ x < 256
theorem Byts.get {l : List Int} (h : Byts l) (i : Nat) : 0 ≤ l.getD i 0 ∧ l.getD i 0 < 256 := by
  rw [List.getD_eq_getElem?_getD]
  cases e : l[i]? with
  | none => simp
  | some x => exact h x (List.mem_of_getElem? e)
theorem Byts.drop {l : List Int} (h : Byts l) (n : Nat) : Byts (l.drop n) := fun x hx => h x (List.mem_of_mem_drop hx)
theorem Byts.take {l : List Int} (h : Byts l) (n : Nat) : Byts (l.take n) := fun x hx => h x (List.mem_of_mem_take hx)
theorem Byts.append {l l' : List Int} (h : Byts l) (h' : Byts l') : Byts (l ++ l') := fun x hx => by
  rcases List.mem_append.1 hx with h1 | h1
  · exact h x h1
  · exact h' x h1
theorem idx_is {l : List Int} {i : Int} (h0 : 0 ≤ i) (h : i < l.length) : idx l i = some (l.getD i.toNat 0) := by
  refine idx_of h0 ?_
  have : i.toNat < l.length := by omega
  rw [List.getD_eq_getElem?_getD, List.getElem?_eq_getElem this]; rfl
theorem or_two {x y : Int} (hx : 0 ≤ x ∧ x < 256) (hy : 0 ≤ y ∧ y < 256) : iOr .i64 (w64 x) (iShl .i64 (w64 y) 8) = x + 256 * y := by
  rw [w64_id (by omega) (by omega), w64_id (by omega) (by omega)]
  obtain ⟨a, rfl⟩ := Int.eq_ofNat_of_zero_le hx.1
  obtain ⟨b, rfl⟩ := Int.eq_ofNat_of_zero_le hy.1
  have ha : a < 256 := by omega
  have hb : b < 256 := by omega
  have e1 : iShl .i64 (b : Int) 8 = ((256 * b : Nat) : Int) := by
    show w64 ((b : Int) * 2 ^ min (8 : Int).toNat 64) = _
    rw [show min (8 : Int).toNat 64 = 8 from rfl, w64_id (by omega) (by omega)]
    omega
  rw [e1]
  show w64 (((BitVec.ofInt 64 (a : Int) ||| BitVec.ofInt 64 ((256 * b : Nat) : Int)).toNat : Nat) : Int) = _
  rw [BitVec.toNat_or, BitVec.toNat_ofInt, BitVec.toNat_ofInt]
  have q1 : ((a : Int) % ((2 ^ 64 : Nat) : Int)).toNat = a := by omega
  have q2 : (((256 * b : Nat) : Int) % ((2 ^ 64 : Nat) : Int)).toNat = 256 * b := by omega
  rw [q1, q2, Nat.or_comm]
  have : 2 ^ 8 * b + a = 2 ^ 8 * b ||| a := Nat.two_pow_add_eq_or_of_lt (by omega) b
  rw [show (256 : Nat) * b = 2 ^ 8 * b from rfl, ← this, w64_id (by omega) (by omega)]
  omega
theorem two_is {b : List Int} (hb : Byts b) (h : 2 ≤ b.length) : frame_two b = some (b.getD 0 0 + 256 * b.getD 1 0) := by
  unfold frame_two
  rw [idx_is (by omega) (by omega), idx_is (by omega) (by omega)]
  simp only [Option.bind_some]
  rw [or_two (hb.get _) (hb.get _)]; rfl
def lenK (k : Int) : Option (Int × Int) :=
  if k = 1 ∨ k = 3 then some (4, 4) else if k = 2 then some (1, 256) else if k = 4 ∨ k = 8 then some (0, 0) else if k = 5 then some (1, 64) else if k = 6 then some (1, 512) else if k = 7 then some (2, 2) else none
theorem lengths_is (k : Int) : frame_lengths k = some (match lenK k with | some (lo, hi) => (lo, hi, true) | none => (0, 0, false)) := by
  unfold frame_lengths letB lenK
  by_cases h1 : k = 1
  · subst h1; rfl
  by_cases h3 : k = 3
  · subst h3; rfl
  by_cases h2 : k = 2
  · subst h2; rfl
  by_cases h4 : k = 4
  · subst h4; rfl
  by_cases h8 : k = 8
  · subst h8; rfl
  by_cases h5 : k = 5
  · subst h5; rfl
  by_cases h6 : k = 6
  · subst h6; rfl
  by_cases h7 : k = 7
  · subst h7; rfl
  simp [h1, h2, h3, h4, h5, h6, h7, h8]
theorem side_is (n : Int) : frame_side n = some (decide (1 ≤ n ∧ n ≤ 200)) := by
  unfold frame_side letB
  by_cases h1 : 1 ≤ n <;> by_cases h2 : n ≤ 200 <;> simp [h1, h2]
theorem clone_is {l : List Int} (h : l.length ≤ most) : slices_Clone_20 l = some l := by
  unfold slices_Clone_20
  rw [app_some (by simpa using h)]; rfl
def msgB (kind : Int) (b : List Int) : Msg × Bool :=
  if kind = 1 ∨ kind = 3 then (⟨kind, b.getD 0 0 + 256 * b.getD 1 0, b.getD 2 0 + 256 * b.getD 3 0, 0, []⟩, decide (1 ≤ b.getD 0 0 + 256 * b.getD 1 0 ∧ b.getD 0 0 + 256 * b.getD 1 0 ≤ 200) && decide (1 ≤ b.getD 2 0 + 256 * b.getD 3 0 ∧ b.getD 2 0 + 256 * b.getD 3 0 ≤ 200))
  else if kind = 7 then (⟨kind, 0, 0, b.getD 0 0 + 256 * b.getD 1 0, []⟩, decide (1 ≤ b.getD 0 0 + 256 * b.getD 1 0 ∧ b.getD 0 0 + 256 * b.getD 1 0 ≤ 999))
  else if kind = 2 ∨ kind = 5 ∨ kind = 6 then (⟨kind, 0, 0, 0, b⟩, true)
  else (⟨kind, 0, 0, 0, []⟩, true)
theorem message_is {kind : Int} {b : List Int} (hb : Byts b) (h4 : kind = 1 ∨ kind = 3 → 4 ≤ b.length) (h2 : kind = 7 → 2 ≤ b.length) (hm : b.length ≤ most) : frame_message kind b = some (msgB kind b) := by
  unfold frame_message letB msgB
  by_cases h13 : kind = 1 ∨ kind = 3
  · have hl := h4 h13
    have hk : (bif decide (kind = 1) then some (decide (kind = 1)) else some (decide (kind = 3)) : Option Bool) = some true := by
      rcases h13 with h | h <;> subst h <;> rfl
    have hg : ∀ i, (b.drop 2).getD i 0 = b.getD (2 + i) 0 := fun i => by simp [List.getD_eq_getElem?_getD]
    simp only [hk, Option.bind_some, cond_true, two_is hb (by omega)]
    have hs : subA b 2 = some (b.drop 2) := by unfold subA; rw [if_pos (by omega)]; rfl
    simp only [hs, Option.bind_some, two_is (hb.drop 2) (by rw [List.length_drop]; omega), side_is, hg]
    rw [if_pos h13]
    cases hd : decide (1 ≤ b.getD 0 0 + 256 * b.getD 1 0 ∧ b.getD 0 0 + 256 * b.getD 1 0 ≤ 200) <;> rfl
  · have hk : (bif decide (kind = 1) then some (decide (kind = 1)) else some (decide (kind = 3)) : Option Bool) = some false := by
      simp only [not_or] at h13; simp [h13.1, h13.2]
    simp only [hk, Option.bind_some, cond_false]
    rw [if_neg h13]
    by_cases h7 : kind = 7
    · have hl := h2 h7
      rw [if_pos h7]
      simp only [decide_eq_true h7, cond_true, two_is hb (by omega), Option.bind_some]
      by_cases ha : 1 ≤ b.getD 0 0 + 256 * b.getD 1 0 <;> by_cases hc : b.getD 0 0 + 256 * b.getD 1 0 ≤ 999 <;> simp only [ge_iff_le, ha, hc, decide_true, decide_false, cond_true, cond_false, Option.bind_some, and_true, true_and, and_false, false_and]
    · rw [if_neg h7]
      simp only [decide_eq_false h7, cond_false, clone_is hm, Option.bind_some]
      by_cases k2 : kind = 2
      · subst k2; rfl
      by_cases k5 : kind = 5
      · subst k5; rfl
      by_cases k6 : kind = 6
      · subst k6; rfl
      rw [if_neg (by simp [k2, k5, k6])]
      simp only [decide_eq_false k2, decide_eq_false k5, decide_eq_false k6, cond_false, Option.bind_some]
end Go.Proofs.Ytgglgcehiolpcaa.Am.Frame

set_option linter.all false
namespace Go.Proofs.Ytgglgcehiolpcaa.Am.Frame
open Go.Proofs.Ytgglgcehiolpcaa.Am.T
def lowIn (lo hi c : Int) : Bool := (List.range (hi + 1 - lo).toNat).any fun i => decide ((lo + i) % 256 = c)
theorem lowIn_step {lo hi c : Int} (h : lo ≤ hi) : lowIn lo hi c = (decide (lo % 256 = c) || lowIn (lo + 1) hi c) := by
  unfold lowIn
  have e : (hi + 1 - lo).toNat = (hi + 1 - (lo + 1)).toNat + 1 := by omega
  rw [e, List.range_succ_eq_map, List.any_cons, List.any_map]
  congr 1
  · simp
  · congr 1
    funext i
    simp only [Function.comp_apply]
    congr 2
    omega
theorem lowIn_end {lo hi c : Int} (h : hi < lo) : lowIn lo hi c = false := by
  unfold lowIn
  rw [show (hi + 1 - lo).toNat = 0 by omega]; rfl
def szB (b : List Int) : Int × Bool :=
  if b.getD 0 0 ≠ 197 then (0, false) else if b.length = 1 then (0, true) else
  match lenK (b.getD 1 0) with
  | none => (0, false)
  | some (lo, hi) => if b.length = 2 then (0, true) else if b.length = 3 then (0, lowIn lo hi (b.getD 2 0)) else
    (5 + (b.getD 2 0 + 256 * b.getD 3 0), decide (lo ≤ b.getD 2 0 + 256 * b.getD 3 0 ∧ b.getD 2 0 + 256 * b.getD 3 0 ≤ hi))
theorem lenK_le {k lo hi : Int} (h : lenK k = some (lo, hi)) : 0 ≤ lo ∧ lo ≤ hi ∧ hi ≤ 512 := by
  unfold lenK at h
  repeat' (split at h)
  all_goals first | (cases h; done) | (simp only [Option.some.injEq, Prod.mk.injEq] at h; omega)
theorem size_loop {b : List Int} (hb : Byts b) (hl : b.length = 3) {y : Int × Int × Bool} (hy : 0 ≤ y.1 ∧ y.2.1 ≤ 512) : ∀ (k : Nat) {n : Int}, 0 ≤ n → n ≤ 600 → (y.2.1 + 1 - n).toNat ≤ k →
    iter (fun s => frame_size_l1 b y s : Int → Option (Int ⊕ (Unit ⊕ Unit))) n = some (if lowIn n y.2.1 (b.getD 2 0) then .inl () else .inr ())
  | k, n, h0, h6, hk => by
    have hx : idx b 2 = some (b.getD 2 0) := idx_is (by omega) (by omega)
    by_cases hn : n ≤ y.2.1
    · rw [lowIn_step hn]
      by_cases hc : n % 256 = b.getD 2 0
      · refine (iter_inr (r := .inl ()) ?_).trans ?_
        · simp only [frame_size_l1, letB, decide_eq_true hn, cond_true, hx, Option.bind_some]
          rw [w8_is, decide_eq_true hc]; rfl
        · rw [decide_eq_true hc]; rfl
      · have hstep : frame_size_l1 b y n = some (.inl (n + 1)) := by
          simp only [frame_size_l1, letB, decide_eq_true hn, cond_true, hx, Option.bind_some]
          rw [w8_is, decide_eq_false hc, w64_id (by omega) (by omega)]; rfl
        rw [iter_inl hstep, decide_eq_false hc, Bool.false_or]
        match k with
        | 0 => omega
        | k + 1 => exact size_loop hb hl hy k (by omega) (by omega) (by omega)
    · rw [lowIn_end (by omega)]
      refine iter_inr ?_
      simp only [frame_size_l1, letB, decide_eq_false hn, cond_false]; rfl
theorem size_is {b : List Int} (hb : Byts b) (h0 : b ≠ []) : frame_size b = some (szB b) := by
  have hlen : 0 < b.length := List.length_pos_iff.2 h0
  have g0 := hb.get 0
  have g1 := hb.get 1
  have g2 := hb.get 2
  have g3 := hb.get 3
  unfold frame_size szB letB
  rw [idx_is (by omega) (by omega)]
  simp only [Option.bind_some]
  show (bif decide (b.getD 0 0 ≠ 197) then _ else _) = _
  by_cases c0 : b.getD 0 0 ≠ 197
  · rw [decide_eq_true c0, if_pos c0]; rfl
  rw [decide_eq_false c0, if_neg c0, cond_false]
  by_cases c1 : b.length = 1
  · rw [decide_eq_true (by omega : (b.length : Int) = 1), if_pos c1]; rfl
  rw [decide_eq_false (by omega : ¬ (b.length : Int) = 1), if_neg c1, cond_false, idx_is (by omega) (by omega)]
  simp only [Option.bind_some]
  show (frame_lengths (w64 (b.getD 1 0))).bind _ = _
  rw [w64_id (by omega) (by omega), lengths_is]
  cases hk : lenK (b.getD 1 0) with
  | none => rfl
  | some p =>
    obtain ⟨lo, hi⟩ := p
    have hle := lenK_le hk
    simp only [Option.bind_some, Bool.not_true, cond_false]
    by_cases c2 : b.length = 2
    · rw [decide_eq_true (by omega : (b.length : Int) = 2), if_pos c2]; rfl
    rw [decide_eq_false (by omega : ¬ (b.length : Int) = 2), if_neg c2, cond_false]
    by_cases c3 : b.length = 3
    · rw [decide_eq_true (by omega : (b.length : Int) = 3), if_pos c3, cond_true, size_loop hb c3 (y := (lo, hi, true)) ⟨hle.1, hle.2.2⟩ _ hle.1 (by omega) (Nat.le_refl _)]
      cases lowIn lo hi (b.getD 2 0) <;> rfl
    rw [decide_eq_false (by omega : ¬ (b.length : Int) = 3), if_neg c3, cond_false]
    have hs : subA b 2 = some (b.drop 2) := by unfold subA; rw [if_pos (by omega)]; rfl
    have hg0 : (b.drop 2).getD 0 0 = b.getD 2 0 := by simp [List.getD_eq_getElem?_getD]
    have hg1 : (b.drop 2).getD 1 0 = b.getD 3 0 := by simp [List.getD_eq_getElem?_getD]
    simp only [hs, Option.bind_some, two_is (hb.drop 2) (by rw [List.length_drop]; omega), hg0, hg1]
    rw [w64_id (n := 4 + (b.getD 2 0 + 256 * b.getD 3 0)) (by omega) (by omega), w64_id (by omega) (by omega)]
    by_cases ha : lo ≤ b.getD 2 0 + 256 * b.getD 3 0 <;> by_cases hc : b.getD 2 0 + 256 * b.getD 3 0 ≤ hi <;>
      simp only [ge_iff_le, ha, hc, decide_true, decide_false, cond_true, cond_false, Option.bind_some, and_true, true_and, and_false, false_and] <;> (congr 2; omega)
theorem sum_loop {b : List Int} (hm : b.length ≤ most) : ∀ (k : Nat) {i : Nat} {n : Int}, i ≤ b.length → b.length - i ≤ k → iter (fun s => frame_sum_l1 b s.1 s.2 : (Int × Int) → Option ((Int × Int) ⊕ Int)) (n, (i : Int)) = some ((b.drop i).foldl (fun n c => IntKind.wrap .u8 (n + c)) n)
  | k, i, n, hi, hk => by
    have hmm : b.length ≤ 4294967296 := hm
    by_cases hn : i < b.length
    · have hstep : frame_sum_l1 b n (i : Int) = some (.inl (w8 (n + b.getD i 0), ((i + 1 : Nat) : Int))) := by
        simp only [frame_sum_l1, letB]
        rw [decide_eq_true (by omega), cond_true, idx_is (by omega) (by omega)]
        simp only [Option.bind_some]
        rw [w64_id (by omega) (by omega)]; rfl
      refine (iter_inl (s' := (w8 (n + b.getD i 0), ((i + 1 : Nat) : Int))) hstep).trans ?_
      match k with
      | 0 => omega
      | k + 1 =>
        rw [sum_loop hm k (by omega) (by omega)]
        congr 1
        have e : b.drop i = b.getD i 0 :: b.drop (i + 1) := by
          rw [List.getD_eq_getElem?_getD, List.getElem?_eq_getElem hn]; exact List.drop_eq_getElem_cons hn
        rw [e]; rfl
    · refine (iter_inr (r := n) ?_).trans ?_
      · simp only [frame_sum_l1, letB]
        rw [decide_eq_false (by omega)]; rfl
      · rw [List.drop_of_length_le (by omega)]; rfl
theorem sum_is {b : List Int} (hm : b.length ≤ most) : frame_sum b = some (sumB b) := by
  unfold frame_sum
  have := sum_loop hm b.length (i := 0) (n := 0) (by omega) (by omega)
  rw [show ((0 : Int), (0 : Int)) = (0, ((0 : Nat) : Int)) from rfl, this]; rfl
def passB (out : List Item) (bad : Int) : List Item := if bad > 0 then out ++ [⟨⟨0, 0, 0, 0, []⟩, bad⟩] else out
theorem pass_is {out : List Item} {bad : Int} (h : out.length + 1 ≤ most) : frame_pass out bad = some (passB out bad) := by
  unfold frame_pass letB passB
  by_cases hb : bad > 0
  · rw [if_pos hb, decide_eq_true hb, app_some (by simpa using h)]; rfl
  · rw [if_neg hb, decide_eq_false hb]; rfl
inductive Cls
  | wait
  | bad
  | msg (m : Msg) (n : Nat)
def cls (b : List Int) : Cls :=
  if (szB b).2 = true then (if (szB b).1 = 0 ∨ (szB b).1 > b.length then .wait else
    if (msgB (b.getD 1 0) ((b.drop 4).take ((szB b).1.toNat - 5))).2 = true ∧ sumB ((b.drop 1).take ((szB b).1.toNat - 2)) = b.getD ((szB b).1.toNat - 1) 0
    then .msg (msgB (b.getD 1 0) ((b.drop 4).take ((szB b).1.toNat - 5))).1 (szB b).1.toNat else .bad) else .bad
theorem szB_ge {b : List Int} (hb : Byts b) (h : (szB b).2 = true) (h0 : (szB b).1 ≠ 0) : 5 ≤ (szB b).1 ∧ (szB b).1 ≤ 517 ∧ 4 ≤ b.length ∧ ∃ lo hi, lenK (b.getD 1 0) = some (lo, hi) ∧ lo ≤ (szB b).1 - 5 ∧ (szB b).1 - 5 ≤ hi := by
  unfold szB at h h0 ⊢
  have g2 := hb.get 2
  have g3 := hb.get 3
  by_cases c0 : b.getD 0 0 ≠ 197
  · rw [if_pos c0] at h; cases h
  rw [if_neg c0] at h h0 ⊢
  by_cases c1 : b.length = 1
  · rw [if_pos c1] at h0; exact absurd rfl h0
  rw [if_neg c1] at h h0 ⊢
  cases hk : lenK (b.getD 1 0) with
  | none => rw [hk] at h; cases h
  | some p =>
    obtain ⟨lo, hi⟩ := p
    rw [hk] at h h0
    have hle := lenK_le hk
    simp only at h h0 ⊢
    by_cases c2 : b.length = 2
    · rw [if_pos c2] at h0; exact absurd rfl h0
    rw [if_neg c2] at h h0 ⊢
    by_cases c3 : b.length = 3
    · rw [if_pos c3] at h0; exact absurd rfl h0
    rw [if_neg c3] at h h0 ⊢
    have hl : 4 ≤ b.length := by
      rcases Nat.lt_or_ge b.length 4 with hh | hh
      · have hz : b.length = 0 := by omega
        have : b = [] := List.length_eq_zero_iff.1 hz
        subst this
        exact (c0 (by decide)).elim
      · exact hh
    simp only [decide_eq_true_eq] at h
    exact ⟨by simp only; omega, by simp only; omega, hl, lo, hi, rfl, by simp only; omega, by simp only; omega⟩
def run : Nat → List Item → List Int → Int → List Item × List Int × Int
  | 0, out, all, bad => (out, all, bad)
  | k + 1, out, all, bad => if all = [] then (out, all, bad) else match cls all with
    | .wait => (out, all, bad)
    | .bad => run k out (all.drop 1) (bad + 1)
    | .msg m n => run k (passB out bad ++ [⟨m, 0⟩]) (all.drop n) 0
theorem passB_len {out : List Item} {bad : Int} : (passB out bad).length ≤ out.length + 1 := by
  unfold passB; split <;> simp
theorem cls_msg {b : List Int} {m : Msg} {n : Nat} (hb : Byts b) (h : cls b = .msg m n) : 5 ≤ n ∧ n ≤ b.length ∧ n ≤ 517 ∧ (szB b).2 = true ∧ (szB b).1 = n := by
  unfold cls at h
  split at h
  · rename_i h2
    split at h
    · cases h
    · rename_i h3
      simp only [not_or] at h3
      obtain ⟨q1, q2, _⟩ := szB_ge hb h2 h3.1
      split at h
      · injection h with _ hn
        refine ⟨by omega, by omega, by omega, h2, by omega⟩
      · cases h
  · cases h
theorem lenK_14 {k lo hi : Int} (h : lenK k = some (lo, hi)) : (k = 1 ∨ k = 3 → lo = 4) ∧ (k = 7 → lo = 2) := by
  unfold lenK at h
  constructor
  · intro hk
    rw [if_pos hk] at h
    simp only [Option.some.injEq, Prod.mk.injEq] at h; omega
  · intro hk; subst hk
    simp at h; omega
theorem feed_step {out : List Item} {all : List Int} {bad : Int} (hb : Byts all) (h0 : all ≠ []) (hm : out.length + 2 * all.length + 2 ≤ most) (hbad : 0 ≤ bad ∧ bad + all.length ≤ most) :
    frame_Reader_Feed_l2 out all bad = some (match cls all with
      | .wait => .inr (out, all, bad)
      | .bad => .inl (out, all.drop 1, bad + 1)
      | .msg m n => .inl (passB out bad ++ [⟨m, 0⟩], all.drop n, 0)) := by
  have hmost : most = 4294967296 := rfl
  have hlen : 0 < all.length := List.length_pos_iff.2 h0
  have hd1 : subA all 1 = some (all.drop 1) := by unfold subA; rw [if_pos (by omega)]; rfl
  have hw : w64 (bad + 1) = bad + 1 := w64_id (by omega) (by omega)
  unfold frame_Reader_Feed_l2 letB cls
  have hd0 : decide ((all.length : Int) > 0) = true := decide_eq_true (by omega)
  simp only [hd0, cond_true, size_is hb h0, Option.bind_some]
  cases h2 : (szB all).2 with
  | false =>
    rw [if_neg (by simp)]
    simp only [cond_false, Option.bind_some, hd1, hw]
  | true =>
    rw [if_pos rfl]
    simp only [cond_true]
    by_cases hz : (szB all).1 = 0
    · rw [decide_eq_true hz, if_pos (.inl hz)]; rfl
    rw [decide_eq_false hz]
    simp only [cond_false, Option.bind_some]
    by_cases hg : (szB all).1 > (all.length : Int)
    · rw [decide_eq_true hg, if_pos (.inr hg)]; rfl
    rw [decide_eq_false hg, if_neg (by simp only [not_or]; exact ⟨hz, hg⟩)]
    simp only [cond_false, Option.bind_some]
    obtain ⟨q5, q517, q4, lo, hi, hk, hlo, hhi⟩ := szB_ge hb h2 hz
    have g1 := hb.get 1
    generalize hN : (szB all).1 = N at *
    have e1 : w64 (N - 1) = N - 1 := w64_id (by omega) (by omega)
    have hp : subL all 4 (N - 1) = some ((all.drop 4).take (N.toNat - 5)) := by
      unfold subL
      rw [if_pos (by omega)]
      congr 2
      omega
    have hq : subL all 1 (N - 1) = some ((all.drop 1).take (N.toNat - 2)) := by
      unfold subL
      rw [if_pos (by omega)]
      congr 2
      omega
    have hpl : ((all.drop 4).take (N.toNat - 5)).length = N.toNat - 5 := by simp; omega
    have hk14 := lenK_14 hk
    have hmsg := message_is (kind := all.getD 1 0) ((hb.drop 4).take (N.toNat - 5)) (fun hh => by rw [hpl]; have := hk14.1 hh; omega) (fun hh => by rw [hpl]; have := hk14.2 hh; omega) (by rw [hpl]; omega)
    have hx1 : idx all 1 = some (all.getD 1 0) := idx_is (by omega) (by omega)
    have hxN : idx all (N - 1) = some (all.getD (N.toNat - 1) 0) := by
      rw [idx_is (by omega) (by omega)]; congr 2; omega
    have hsum := sum_is (b := (all.drop 1).take (N.toNat - 2)) (by simp; omega)
    simp only [e1, hp, hx1, Option.bind_some, w64_id (n := all.getD 1 0) (by omega) (by omega), hmsg]
    cases hok : (msgB (all.getD 1 0) ((all.drop 4).take (N.toNat - 5))).2 with
    | false =>
      rw [if_neg (by simp)]
      simp only [cond_false, Option.bind_some, hd1, hw]
    | true =>
      simp only [cond_true, hq, Option.bind_some, hsum, hxN]
      by_cases hs : sumB ((all.drop 1).take (N.toNat - 2)) = all.getD (N.toNat - 1) 0
      · rw [decide_eq_true hs, if_pos ⟨trivial, hs⟩]
        simp only [cond_true, Option.bind_some]
        have hpass := pass_is (out := out) (bad := bad) (by omega)
        have hpl2 := passB_len (out := out) (bad := bad)
        have hdN : subA all N = some (all.drop N.toNat) := by unfold subA; rw [if_pos (by omega)]
        simp only [hpass, Option.bind_some, app_some (a := passB out bad) (b := [Item.mk _ 0]) (by simp only [List.length_cons, List.length_nil]; omega), hdN]
      · rw [decide_eq_false hs, if_neg (fun hh => hs hh.2)]
        simp only [cond_false, Option.bind_some, hd1, hw]
theorem feed_loop : ∀ (k : Nat) {out : List Item} {all : List Int} {bad : Int}, Byts all → out.length + 2 * all.length + 2 ≤ most → 0 ≤ bad ∧ bad + all.length ≤ most → all.length ≤ k →
    iter (fun s => frame_Reader_Feed_l2 s.1 s.2.1 s.2.2 : (List Item × List Int × Int) → Option ((List Item × List Int × Int) ⊕ (List Item × List Int × Int))) (out, all, bad) = some (run k out all bad)
  | k, out, all, bad, hb, hm, hbad, hk => by
    by_cases h0 : all = []
    · subst h0
      refine (iter_inr (r := (out, [], bad)) rfl).trans ?_
      cases k <;> rfl
    · have hstep := feed_step hb h0 hm hbad
      have hlen : 0 < all.length := List.length_pos_iff.2 h0
      match k with
      | 0 => omega
      | k + 1 =>
        unfold run
        rw [if_neg h0]
        cases hc : cls all with
        | wait =>
          rw [hc] at hstep
          exact iter_inr hstep
        | bad =>
          rw [hc] at hstep
          refine (iter_inl hstep).trans (feed_loop k (hb.drop 1) (by rw [List.length_drop]; omega) (by rw [List.length_drop]; omega) (by rw [List.length_drop]; omega))
        | msg m n =>
          rw [hc] at hstep
          have := cls_msg hb hc
          have hpl := passB_len (out := out) (bad := bad)
          refine (iter_inl hstep).trans (feed_loop k (hb.drop n) ?_ ?_ (by rw [List.length_drop]; omega))
          · rw [List.length_drop, List.length_append, List.length_cons, List.length_nil]; omega
          · rw [List.length_drop]; omega
def feedB (waits b : List Int) : List Item × List Int :=
  let r := run (waits ++ b).length [] (waits ++ b) 0
  (passB r.1 r.2.2, r.2.1)
theorem run_len : ∀ (k : Nat) {out : List Item} {all : List Int} {bad : Int}, Byts all → (run k out all bad).2.1.length ≤ all.length ∧ (run k out all bad).1.length ≤ out.length + 2 * all.length
  | 0, out, all, bad, _ => ⟨Nat.le_refl _, by simp only [run]; omega⟩
  | k + 1, out, all, bad, hb => by
    unfold run
    split
    · exact ⟨Nat.le_refl _, by simp only; omega⟩
    · rename_i h0
      have hlen : 0 < all.length := List.length_pos_iff.2 h0
      cases hc : cls all with
      | wait => exact ⟨Nat.le_refl _, by simp only; omega⟩
      | bad =>
        have := run_len k (out := out) (bad := bad + 1) (hb.drop 1)
        rw [List.length_drop] at this
        simp only; omega
      | msg m n =>
        have h5 := cls_msg hb hc
        have hpl := passB_len (out := out) (bad := bad)
        have := run_len k (out := passB out bad ++ [⟨m, 0⟩]) (bad := 0) (hb.drop n)
        rw [List.length_drop, List.length_append, List.length_cons, List.length_nil] at this
        simp only; omega
theorem feed_is {waits b : List Int} (hw : Byts waits) (hb : Byts b) (hm : 2 * (waits.length + b.length) + 2 ≤ most) : frame_Reader_Feed ⟨waits⟩ b = some ((feedB waits b).1, ⟨(feedB waits b).2⟩) := by
  have ha := hw.append hb
  have hmost : most = 4294967296 := rfl
  unfold frame_Reader_Feed
  simp only [clone_is (l := waits) (by omega), Option.bind_some, app_some (a := waits) (b := b) (by omega)]
  rw [feed_loop (waits ++ b).length ha (by rw [List.length_append, List.length_nil]; omega) (by rw [List.length_append]; omega) (Nat.le_refl _)]
  have hr := run_len (waits ++ b).length (out := []) (bad := 0) ha
  have hl : (waits ++ b).length = waits.length + b.length := List.length_append
  have hl0 : ([] : List Item).length = 0 := rfl
  simp only [Option.bind_some]
  rw [clone_is (by omega)]
  simp only [Option.bind_some]
  rw [pass_is (by omega)]
  rfl
end Go.Proofs.Ytgglgcehiolpcaa.Am.Frame

set_option linter.all false
namespace Go.Proofs.Ytgglgcehiolpcaa.Am.Frame
open Go.Proofs.Ytgglgcehiolpcaa.Am.T
theorem same_loop {a b : List Int} (hl : a.length = b.length) (hm : a.length ≤ 4611686018427387904) : ∀ (k : Nat) {i : Nat}, i ≤ a.length → a.length - i ≤ k →
    iter (fun s => casementref01_SameBytes_l1 a b s : Int → Option (Int ⊕ (Unit ⊕ Unit))) (i : Int) = some (if a.drop i = b.drop i then .inr () else .inl ())
  | k, i, hi, hk => by
    by_cases hn : i < a.length
    · have hd : decide ((i : Int) < (a.length : Int)) = true := decide_eq_true (by omega)
      have ea : a.drop i = a.getD i 0 :: a.drop (i + 1) := by
        rw [List.getD_eq_getElem?_getD, List.getElem?_eq_getElem hn]; exact List.drop_eq_getElem_cons hn
      have eb : b.drop i = b.getD i 0 :: b.drop (i + 1) := by
        rw [List.getD_eq_getElem?_getD, List.getElem?_eq_getElem (by omega)]; exact List.drop_eq_getElem_cons (by omega)
      have xa : idx a (i : Int) = some (a.getD i 0) := idx_is (by omega) (by omega)
      have xb : idx b (i : Int) = some (b.getD i 0) := idx_is (by omega) (by omega)
      by_cases he : a.getD i 0 = b.getD i 0
      · have hstep : casementref01_SameBytes_l1 a b (i : Int) = some (.inl ((i + 1 : Nat) : Int)) := by
          simp only [casementref01_SameBytes_l1, letB, hd, cond_true, xa, xb, Option.bind_some]
          rw [decide_eq_false (by simpa using he), w64_id (by omega) (by omega)]; rfl
        refine (iter_inl hstep).trans ?_
        match k with
        | 0 => omega
        | k + 1 =>
          rw [same_loop hl hm k (by omega) (by omega), ea, eb, he]
          by_cases ht : a.drop (i + 1) = b.drop (i + 1)
          · rw [if_pos ht, if_pos (by rw [ht])]
          · rw [if_neg ht, if_neg (by intro hh; injection hh with _ hh; exact ht hh)]
      · refine (iter_inr (r := .inl ()) ?_).trans ?_
        · simp only [casementref01_SameBytes_l1, letB, hd, cond_true, xa, xb, Option.bind_some]
          rw [decide_eq_true he]; rfl
        · rw [ea, eb, if_neg (by intro hh; injection hh with hh _; exact he hh)]
    · refine (iter_inr (r := .inr ()) ?_).trans ?_
      · simp only [casementref01_SameBytes_l1, letB]
        rw [decide_eq_false (by omega)]; rfl
      · rw [List.drop_of_length_le (by omega), List.drop_of_length_le (by omega), if_pos rfl]
theorem sameBytes_is {a b : List Int} (hm : a.length ≤ 4611686018427387904) : casementref01_SameBytes a b = some (decide (a = b)) := by
  unfold casementref01_SameBytes letB
  by_cases hl : a.length = b.length
  · rw [decide_eq_false (by omega)]
    simp only [cond_false]
    have := same_loop hl hm a.length (i := 0) (by omega) (by omega)
    rw [show (0 : Int) = ((0 : Nat) : Int) from rfl, this]
    simp only [List.drop_zero]
    by_cases e : a = b
    · rw [if_pos e, decide_eq_true e]; rfl
    · rw [if_neg e, decide_eq_false e]; rfl
  · rw [decide_eq_true (by omega), decide_eq_false (fun e => hl (by rw [e]))]; rfl
def payB (m : Msg) : List Int := if m.Kind = 1 ∨ m.Kind = 3 then [w8 m.W, w8 (m.W.fdiv 256), w8 m.H, w8 (m.H.fdiv 256)] else if m.Kind = 7 then [w8 m.Code, w8 (m.Code.fdiv 256)] else m.Text
def okB (m : Msg) : Prop := (∃ lo hi, lenK m.Kind = some (lo, hi) ∧ lo ≤ (payB m).length ∧ (payB m).length ≤ hi) ∧ (msgB m.Kind (payB m)).2 = true ∧ (msgB m.Kind (payB m)).1 = m
def frmB (m : Msg) : List Int := [197, w8 m.Kind, w8 (payB m).length, w8 (((payB m).length : Int).fdiv 256)] ++ payB m ++ [sumB ([w8 m.Kind, w8 (payB m).length, w8 (((payB m).length : Int).fdiv 256)] ++ payB m)]
theorem w8_byte (n : Int) : 0 ≤ w8 n ∧ w8 n < 256 := by rw [w8_is]; omega
theorem pay_byts {m : Msg} (h : Byts m.Text) : Byts (payB m) := by
  unfold payB
  split
  · intro x hx
    simp only [List.mem_cons, List.not_mem_nil, or_false] at hx
    rcases hx with rfl | rfl | rfl | rfl <;> exact w8_byte _
  · split
    · intro x hx
      simp only [List.mem_cons, List.not_mem_nil, or_false] at hx
      rcases hx with rfl | rfl <;> exact w8_byte _
    · exact h
theorem msgB_kind (k : Int) (b : List Int) : (msgB k b).1.Kind = k := by
  unfold msgB; repeat' split
  all_goals rfl
theorem shr8 (n : Int) : iShr .i64 n 8 = n.fdiv 256 := rfl
theorem msgB_text {m : Msg} (h1 : (msgB m.Kind (payB m)).1.W = m.W) (h2 : (msgB m.Kind (payB m)).1.H = m.H) (h3 : (msgB m.Kind (payB m)).1.Code = m.Code) (h4 : (msgB m.Kind (payB m)).1.Text.length = m.Text.length) : (msgB m.Kind (payB m)).1 = m := by
  have hk := msgB_kind m.Kind (payB m)
  have ht : (msgB m.Kind (payB m)).1.Text = m.Text := by
    have e0 : ∀ {l : List Int}, ([] : List Int).length = l.length → [] = l := fun {l} h => (List.length_eq_zero_iff.1 h.symm).symm
    unfold msgB at h4 ⊢
    by_cases k1 : m.Kind = 1 ∨ m.Kind = 3
    · rw [if_pos k1] at h4 ⊢; exact e0 h4
    rw [if_neg k1] at h4 ⊢
    by_cases k7 : m.Kind = 7
    · rw [if_pos k7] at h4 ⊢; exact e0 h4
    rw [if_neg k7] at h4 ⊢
    by_cases k2 : m.Kind = 2 ∨ m.Kind = 5 ∨ m.Kind = 6
    · rw [if_pos k2]
      show payB m = m.Text
      unfold payB; rw [if_neg k1, if_neg k7]
    · rw [if_neg k2] at h4 ⊢; exact e0 h4
  generalize msgB m.Kind (payB m) = q at *
  obtain ⟨⟨a, b, c, d, e⟩, f⟩ := q
  cases m
  simp only at *
  subst hk h1 h2 h3 ht
  rfl
open Classical in
theorem encode_is {m : Msg} (hb : Byts m.Text) : frame_Encode m = some (if okB m then (frmB m, 0) else ([], 200)) := by
  have hpb := pay_byts hb
  have hpay : (Option.bind (bif decide (m.Kind = 1) then some (decide (m.Kind = 1)) else some (decide (m.Kind = 3)) : Option Bool) fun j5 =>
    Option.bind (bif j5 then some [w8 m.W, w8 (iShr .i64 m.W 8), w8 m.H, w8 (iShr .i64 m.H 8)] else
      Option.bind (bif decide (m.Kind = 7) then some [w8 m.Code, w8 (iShr .i64 m.Code 8)] else some m.Text : Option (List Int)) fun j9 => some j9 : Option (List Int)) fun j10 => some j10) = some (payB m) := by
    unfold payB
    simp only [shr8]
    by_cases k1 : m.Kind = 1
    · simp [k1]
    by_cases k3 : m.Kind = 3
    · simp [k3]
    by_cases k7 : m.Kind = 7
    · simp [k7]
    simp [k1, k3, k7]
  unfold frame_Encode letB
  simp only [lengths_is, Option.bind_some]
  rw [hpay]
  simp only [Option.bind_some]
  cases hk : lenK m.Kind with
  | none =>
    rw [if_neg (by rintro ⟨⟨lo, hi, h, _⟩, _⟩; rw [hk] at h; cases h)]
    rfl
  | some p =>
    obtain ⟨lo, hi⟩ := p
    simp only [Bool.not_true, cond_false, Option.bind_some]
    by_cases hlo : ((payB m).length : Int) < lo
    · rw [if_neg (by rintro ⟨⟨lo', hi', h, h1, _⟩, _⟩; rw [hk] at h; simp only [Option.some.injEq, Prod.mk.injEq] at h; omega), decide_eq_true hlo]; rfl
    rw [decide_eq_false hlo]
    simp only [cond_false, Option.bind_some]
    by_cases hhi : ((payB m).length : Int) > hi
    · rw [if_neg (by rintro ⟨⟨lo', hi', h, h1, _⟩, _⟩; rw [hk] at h; simp only [Option.some.injEq, Prod.mk.injEq] at h; omega), decide_eq_true hhi]; rfl
    rw [decide_eq_false hhi]
    have hle := lenK_le hk
    have h14 := lenK_14 hk
    have hmost : most = 4294967296 := rfl
    simp only [cond_false, Option.bind_some, message_is hpb (fun h => by have := h14.1 h; omega) (fun h => by have := h14.2 h; omega) (by omega)]
    have no : ¬ ((msgB m.Kind (payB m)).2 = true ∧ (msgB m.Kind (payB m)).1 = m) → ¬ okB m := fun h hok => h ⟨hok.2.1, hok.2.2⟩
    cases hok : (msgB m.Kind (payB m)).2 with
    | false =>
      rw [if_neg (no (by rw [hok]; simp))]; rfl
    | true =>
      simp only [Bool.not_true, cond_false, Option.bind_some]
      by_cases c1 : (msgB m.Kind (payB m)).1.W = m.W
      case neg => rw [if_neg (no fun h => c1 (by rw [h.2])), decide_eq_true c1]; rfl
      rw [decide_eq_false (by simpa using c1)]
      simp only [cond_false, Option.bind_some]
      by_cases c2 : (msgB m.Kind (payB m)).1.H = m.H
      case neg => rw [if_neg (no fun h => c2 (by rw [h.2])), decide_eq_true c2]; rfl
      rw [decide_eq_false (by simpa using c2)]
      simp only [cond_false, Option.bind_some]
      by_cases c3 : (msgB m.Kind (payB m)).1.Code = m.Code
      case neg => rw [if_neg (no fun h => c3 (by rw [h.2])), decide_eq_true c3]; rfl
      rw [decide_eq_false (by simpa using c3)]
      simp only [cond_false, Option.bind_some]
      by_cases c4 : (msgB m.Kind (payB m)).1.Text.length = m.Text.length
      case neg => rw [if_neg (no fun h => c4 (by rw [h.2])), decide_eq_true (by omega)]; rfl
      rw [decide_eq_false (by omega)]
      simp only [cond_false, Option.bind_some]
      rw [if_pos ⟨⟨lo, hi, hk, by omega, by omega⟩, hok, msgB_text c1 c2 c3 c4⟩]
      simp only [shr8]
      rw [app_some (by simp only [List.length_cons, List.length_nil]; omega)]
      simp only [Option.bind_some]
      have hl : lendA ([197, w8 m.Kind, w8 ((payB m).length : Int), w8 (((payB m).length : Int).fdiv 256)] ++ payB m) 1 = some ([w8 m.Kind, w8 ((payB m).length : Int), w8 (((payB m).length : Int).fdiv 256)] ++ payB m) := by
        unfold lendA; rw [if_pos (by simp)]; rfl
      rw [hl]
      simp only [Option.bind_some]
      rw [sum_is (by simp only [List.length_append, List.length_cons, List.length_nil]; omega)]
      simp only [Option.bind_some]
      rw [app_some (by simp only [List.length_append, List.length_cons, List.length_nil]; omega)]
      rfl
end Go.Proofs.Ytgglgcehiolpcaa.Am.Frame

namespace Go.Proofs.FrameChunk
open Go.RowKit Go.Shelf
def encC (a : Addr) (len k : Nat) : Value := .slice (some (a.add (512 * k))) (min 512 (len - 512 * k)) (min 512 (len - 512 * k))
def KpC (Bs Bn : Nat) (W W' : World) : Prop := W'.heap[Bs]? = W.heap[Bs]? ∧ W'.heap[Bn]? = W.heap[Bn]?
set_option maxRecDepth 100000 in
set_option maxHeartbeats 1000000 in
theorem chunk_in (F : Fence) (n : Nat) (h32 : F.fn 32) (hro : F.round = none) (hn : 1 ≤ n) (l Bs Bn : Nat) (a : Addr) (len cap : Nat) (hlc : len ≤ cap) (hmax : len ≤ 1099511627776) (J Jx : List Nat → World → Prop)
    (hY : ∀ pre x W, J pre W → pre.length < (len + 511) / 512 → YieldAt F (n - 1) Try.prog l #[encC a len x] W fun e W' => (e = .returned (.bool true) ∧ J (pre ++ [x]) W' ∧ KpC Bs Bn W W') ∨ (e = .returned (.bool false) ∧ Jx (pre ++ [x]) W'))
    (W : World) (hJ : AbidesFrom W.heap.size J) (hs : W.cell? ⟨Bs, 0, none⟩ = some (.slice (some a) len cap)) (hn' : W.cell? ⟨Bn, 0, none⟩ = some (.int .i64 512)) (h0 : J [] W) :
    CallsIn F n Try.prog 32 #[.func (.yield l) #[] #[], .pointer (some ⟨Bs, 0, none⟩), .pointer (some ⟨Bn, 0, none⟩)] W fun e W' => (∃ v, e = .returned v) ∧ ((∃ xs, xs = List.range ((len + 511) / 512) ∧ J xs W') ∨ (∃ pre, True ∧ Jx pre W')) := by
  have mixed : Try.prog.follows .mixedOrders = true := by kernel_rfl
  refine callsIn_of_wp Try.func32 rfl h32 ?_ hro
  simp only [Try.ntmps32, List.size_toArray, List.length_cons, List.length_nil, Nat.reduceAdd, Nat.reduceSub, Array.replicate_succ, Array.replicate_zero, List.push_toArray, List.append_toArray, List.nil_append, List.cons_append]
  gi_wp2
  gi_loopw [4] (fun vi wr => ∃ k : Nat, vi = .int .i64 ((512 * k : Nat) : Int) ∧ 512 * k < len + 512 ∧ J (List.range k) wr ∧ wr.cell? ⟨Bs, 0, none⟩ = some (.slice (some a) len cap) ∧ wr.cell? ⟨Bn, 0, none⟩ = some (.int .i64 512))
    (fun vi _ => match vi with | .int _ i => len + 1024 - i.toNat | _ => 0)
  case atStart => exact ⟨0, rfl, by omega, h0, hs, hn'⟩
  case round =>
    obtain ⟨k, rfl, hk, hJk, hsk, hnk⟩ := hrel
    by_cases hlt : 512 * k < len
    · gi_wp2
      gi_region_with_o (fail)
      all_goals (try (exfalso; omega))
      all_goals
        have eL : (if ((len - 512 * k : Nat) : Int) < 512 then ((len - 512 * k : Nat) : Int) else 512) = ((min 512 (len - 512 * k) : Nat) : Int) := by split <;> omega
        try simp only [eL]
        have hJd : J (List.range k) wr.drew := hJ _ wr wr.drew none hJk ⟨rfl, rfl, rfl, Nat.le_refl _, fun _ _ _ => rfl⟩ (fun r e => by cases e)
        obtain ⟨fn, tmps, assign, body, hy, hR⟩ := hY (List.range k) k wr.drew hJd (by rw [List.length_range]; omega)
        dsimp only [encC] at hy
        have hsd : wr.drew.cell? ⟨Bs, 0, none⟩ = some (.slice (some a) len cap) := hsk
        have hnd : wr.drew.cell? ⟨Bn, 0, none⟩ = some (.int .i64 512) := hnk
        have b1 : 512 * k + min 512 (len - 512 * k) ≤ cap := by omega
        gi_wp2
        try rw [show ((512 * (k : Int) + ((len - 512 * k : Nat) : Int)).toNat - 512 * k) = min 512 (len - 512 * k) by omega]
        try rw [show ((512 * (k : Int) + 512).toNat - 512 * k) = min 512 (len - 512 * k) by omega]
        try gi_wp2
        refine hR.mono ?_
        rintro e W3 (⟨rfl, hJ3, hk3⟩ | ⟨rfl, hJx3⟩)
        · have hs3 : W3.cell? ⟨Bs, 0, none⟩ = some (.slice (some a) len cap) := (World.cell?_of_block hk3.1).trans hsd
          have hn3 : W3.cell? ⟨Bn, 0, none⟩ = some (.int .i64 512) := (World.cell?_of_block hk3.2).trans hnd
          gi_wp2
          go_roundw
          case rel => exact ⟨k + 1, by congr 1, by omega, by rw [List.range_succ]; exact hJ3, hs3, hn3⟩
          case measure => simp; omega
        · gi_wp2
          refine bodyPost_ret (results_none rfl _ _ _) rfl ?_
          exact ⟨⟨_, rfl⟩, .inr ⟨_, trivial, hJx3⟩⟩
    · gi_wp2
      go_end0
      exact ⟨⟨_, rfl⟩, .inl ⟨_, by rw [show (len + 511) / 512 = k by omega], hJk⟩⟩
theorem kpC_t {Bs Bn : Nat} {A B C : World} (h : KpC Bs Bn A B) (k : KpC Bs Bn B C) : KpC Bs Bn A C := ⟨k.1.trans h.1, k.2.trans h.2⟩
theorem chunk_stops (F : Fence) (n : Nat) (h32 : F.fn 32) (hro : F.round = none) (hn : 1 ≤ n) (Bs Bn : Nat) (a : Addr) (len cap : Nat) (hlc : len ≤ cap) (hmax : len ≤ 1099511627776) (w : World) (hBs : Bs < w.heap.size) (hBn : Bn < w.heap.size)
    (hs : w.cell? ⟨Bs, 0, none⟩ = some (.slice (some a) len cap)) (hn' : w.cell? ⟨Bn, 0, none⟩ = some (.int .i64 512)) :
    SeqStopsK F n Try.prog 32 #[.pointer (some ⟨Bs, 0, none⟩), .pointer (some ⟨Bn, 0, none⟩)] (fun x => #[encC a len x]) (KpC Bs Bn) (fun xs => xs = List.range ((len + 511) / 512)) (fun _ => True) ((len + 511) / 512) w :=
  fun l J Jx W hW hJ _ hY h0 => chunk_in F n h32 hro hn l Bs Bn a len cap hlc hmax J Jx hY W hJ ((hW.cell (p := ⟨Bs, 0, none⟩) hBs).trans hs) ((hW.cell (p := ⟨Bn, 0, none⟩) hBn).trans hn') h0
end Go.Proofs.FrameChunk

set_option linter.all false
namespace Go.Proofs.Ytgglgcehiolpcaa.Am.Frame
open Go.Proofs.Ytgglgcehiolpcaa.Am.T
def frX (p : List Int) : List Int := if p = [] then [] else showB p
def accV (acc : List Int) : V := if acc = [] then .nils else .slice true 1 (bytesV acc)
def accB : Value → Option Nat
  | .slice (some a) _ _ => some a.block
  | _ => none
def AccV (w0 W : World) (acc : List Int) (v : Value) : Prop :=
  (acc = [] ∧ v = .slice none 0 0) ∨ (acc ≠ [] ∧ OwnS (fun _ => False) W 1 (bytesV acc) v ∧ ∀ c, accB v = some c → w0.heap.size ≤ c)
structure IS (w0 : World) (Bout : Nat) (acc : List Int) (W : World) : Prop where
  os : W.os = w0.os
  tape : W.tape = w0.tape
  output : W.output = w0.output
  size : w0.heap.size ≤ W.heap.size
  low : ∀ c, c < w0.heap.size → c ≠ Bout → Same w0 W c
  box : ∃ v e, Blk W Bout #[v] e ∧ AccV w0 W acc v
theorem bytesV_getD {l : List Int} {i k : Nat} (hi : i < l.length) (hk : k < 1) : ((bytesV l).getD i []).getD k .undef = .int .u8 (l.getD i 0) := by
  have : k = 0 := by omega
  subst this
  simp [bytesV, List.getD_eq_getElem?_getD, List.getElem?_eq_getElem hi]
theorem ownS_bytes {p p' : Nat → Prop} {W : World} {l : List Int} {v : Value} (h : OwnS p W 1 (bytesV l) v) : OwnS p' W 1 (bytesV l) v := by
  obtain ⟨a, cap, arr, e, rfl, hs, hc, hk, ho, hz, he⟩ := h
  refine ⟨a, cap, arr, e, rfl, hs, hc, hk, ho, hz, fun i k hi hk => ?_⟩
  obtain ⟨v, hv, hr⟩ := he i k hi hk
  refine ⟨v, hv, ?_⟩
  have hi' : i < l.length := by simpa [bytesV] using hi
  rw [bytesV_getD hi' hk] at hr ⊢
  cases hr
  exact .int _ _
theorem ownS_blk {p : Nat → Prop} {W : World} {l : List Int} {v : Value} (h : OwnS p W 1 (bytesV l) v) : ∃ c arr e, accB v = some c ∧ Blk W c arr e := by
  obtain ⟨a, cap, arr, e, rfl, hs, hc, hk, ho, he⟩ := h
  exact ⟨_, arr, e, rfl, hk⟩
theorem AccV.same {w0 W W' : World} {acc : List Int} {v : Value} (h : AccV w0 W acc v) (hs : ∀ c, accB v = some c → Same W W' c) : AccV w0 W' acc v := by
  rcases h with ⟨rfl, rfl⟩ | ⟨hn, ho, hb⟩
  · exact .inl ⟨rfl, rfl⟩
  · refine .inr ⟨hn, ho.mono (fun c hc => hc.elim) (fun a n k e => hs _ (by rw [e]; rfl)), hb⟩
theorem IS.own {w0 : World} {Bout : Nat} (hB : Bout < w0.heap.size) (f : List Nat → List Int) (p : List Nat → Prop) : OwnFrom w0.heap.size (fun pre W => p pre ∧ IS w0 Bout (f pre) W) := by
  rintro s W W' row ⟨hp, h⟩ hg hr
  have hk : ∀ c, c < W.heap.size → (c < w0.heap.size ∨ ∃ arr e, Blk W c arr e) → Same W W' c := fun c hc hh => by
    refine hg.block c hc fun e => ?_
    obtain ⟨h1, o, h2, h3⟩ := hr c e.symm
    rcases hh with hh | ⟨arr, e, fz, h4, _⟩
    · omega
    · rw [h4] at h2; cases h2; cases h3
  obtain ⟨v, e, hb, ha⟩ := h.box
  refine ⟨hp, hg.os.trans h.os, hg.tape.trans h.tape, hg.output.trans h.output, Nat.le_trans h.size hg.size, fun c hc hne => ?_, v, e, hb.same (hk _ hb.lt (.inl hB)), ha.same fun c hc => ?_⟩
  · exact (hk c (Nat.lt_of_lt_of_le hc h.size) (.inl hc)).trans (h.low c hc hne)
  · rcases ha with ⟨_, rfl⟩ | ⟨_, ho, _⟩
    · cases hc
    · obtain ⟨c', arr, e, h1, h2⟩ := ownS_blk ho
      rw [hc] at h1; cases h1
      exact hk c h2.lt (.inr ⟨arr, e, h2⟩)
def os4 : List AOper := [⟨some 11, none, false, .mv (.t 4), .none⟩,
  ⟨some 12, none, false, .build [.int .i64 0, .int .i64 0, .int .i64 0, .int .i64 0, .nils] [(0, 1, .c (.int .i64 6)), (4, 1, .t 11)], .none⟩,
  ⟨some 13, none, false, .callF 14 [.t 12], .none⟩, ⟨some 10, none, false, .mv (.t 13), .none⟩, ⟨some 14, none, false, .extract (.t 10) 0, .none⟩,
  ⟨some 15, none, false, .extract (.t 10) 1, .none⟩, ⟨some 5, none, false, .mv (.t 14), .none⟩, ⟨some 6, none, false, .mv (.t 15), .none⟩]
def os5 : List AOper := [⟨some 16, none, false, .load false 1 (.t 3) .take, .none⟩, ⟨some 17, none, false, .mv (.t 5), .none⟩,
  ⟨some 18, none, false, .append 1 (.u 16 .take) (.t 17), .none⟩, ⟨none, none, false, .store 1 (.t 3) (.u 18 .take), .none⟩]
section
variable {w0 W : World} {Bout : Nat} {acc part : List Int} {A0 : Addr} {ts : Array Value}
def gR (Bout : Nat) (part : List Int) (A0 : Addr) : G := ⟨fun _ => Bout, fun _ => 0, fun _ => False, fun c => part ≠ [] ∧ c = A0.block⟩
open Classical in
noncomputable def frR (W : World) (Bout : Nat) (part : List Int) (A0 : Addr) (v : Value) : Nat → Nat :=
  fun c => if c < W.heap.size ∧ c ≠ Bout ∧ ¬ (part ≠ [] ∧ c = A0.block) ∧ accB v ≠ some c then 1 else 0
def σR (part : List Int) : Nat → V := fun s => if s = 3 then .ptr 0 0 else if s = 4 then .slice false 1 (bytesV part) else .undef
theorem mkSR (hts : ts.size = 20) (h3 : tsAt ts 3 = .pointer (some ⟨Bout, 0, none⟩)) (h4 : tsAt ts 4 = .slice (some A0) part.length part.length)
    (hpart : part ≠ [] → A0.spot = none ∧ A0.block < w0.heap.size ∧ A0.block ≠ Bout) (hel : ∀ i, i < part.length → w0.cell? ⟨A0.block, A0.off + i, none⟩ = some (.int .u8 (part.getD i 0)))
    (hB : Bout < w0.heap.size) (hI : IS w0 Bout acc W) {v : Value} {e : TypeId} (hb : Blk W Bout #[v] e) (ha : AccV w0 W acc v) :
    SR (gR Bout part A0) W 0 (frR W Bout part A0 v) (fun _ => false) ⟨σR part, fun _ => [], [[accV acc]]⟩ ts [] := by
  have hσ : ∀ s, R3 (gR Bout part A0) W 1 (tsAt ts) (σR part s) (tsAt ts s) := fun s => by
    unfold σR
    split
    · rename_i e; subst e; rw [h3]; exact ⟨Nat.lt_succ_self 0, rfl⟩
    · split
      · rename_i e; subst e
        rw [h4]
        have hl : part.length = (bytesV part).length := by simp [bytesV]
        have hR : RB (gR Bout part A0).pers W (.slice false 1 (bytesV part)) (.slice (some A0) part.length part.length) := by
          rw [RB.slice_iff]
          refine ⟨A0, part.length, by rw [← hl], fun hc => (hpart (by intro e; rw [e] at hc; cases hc)).1, fun hc => ⟨(by intro e; rw [e] at hc; cases hc), rfl⟩, by rw [← hl]; exact Nat.le_refl _, fun i hi => by simp [bytesV, List.getD_eq_getElem?_getD, List.getElem?_eq_getElem (show i < part.length by simpa [bytesV] using hi)], fun i k hi hk => ?_⟩
          have hi' : i < part.length := by simpa [bytesV] using hi
          have hne : part ≠ [] := by intro e; rw [e] at hi'; cases hi'
          refine ⟨.int .u8 (part.getD i 0), ?_, by rw [bytesV_getD hi' hk]; exact .int _ _⟩
          have hk0 : k = 0 := by omega
          subst hk0
          have := hel i hi'
          rw [show A0.off + (i * 1 + 0) = A0.off + i by omega]
          exact (Same.cell (hI.low _ (hpart hne).2.1 (hpart hne).2.2)).trans this
        exact hR
      · exact trivial
  have hacc : R1 (gR Bout part A0) W 1 (accV acc) v := by
    unfold accV
    rcases ha with ⟨rfl, rfl⟩ | ⟨hn, ho, _⟩
    · rw [if_pos rfl]; exact .nils
    · rw [if_neg hn]; exact ownS_bytes ho
  have hno : ∀ s, (σR part s).hasOwn = false := fun s => by
    unfold σR
    by_cases e1 : s = 3
    · rw [if_pos e1]; rfl
    · rw [if_neg e1]
      by_cases e2 : s = 4
      · rw [if_pos e2]; rfl
      · rw [if_neg e2]; rfl
  have hcT : ∀ c, cntT c (σR part) ts = 0 := fun c => sumTo_zero fun s _ => cnt2_zero (hno s)
  have hcnt : ∀ c, cnt0 c (accV acc) v ≤ (if accB v = some c then 1 else 0) := fun c => by
    unfold accV
    split
    · simp [cnt0]
    · cases v <;> simp [cnt0, accB]
      rename_i b _ _
      cases b <;> simp [cnt0, accB]
  have hcM : ∀ c, cntM (gR Bout part A0) W c [[accV acc]] ≤ (if Bout = c then 1 else 0) + (if accB v = some c then 1 else 0) := fun c => by
    have hL : cntL c [accV acc] #[v] = cnt0 c (accV acc) v := by simp [cntL, sumTo]
    have hM : cntM (gR Bout part A0) W c [[accV acc]] = 0 + ((if Bout = c then 1 else 0) + cntL c [accV acc] (Am.cellsOf W Bout)) := rfl
    rw [hM, hb.cellsOf, hL]
    have := hcnt c
    omega
  have haB : ∀ c, accB v = some c → w0.heap.size ≤ c ∧ c < W.heap.size := fun c hc => by
    rcases ha with ⟨_, rfl⟩ | ⟨_, ho, hx⟩
    · cases hc
    · obtain ⟨c', arr, e, h1, h2⟩ := ownS_blk ho
      rw [hc] at h1; cases h1
      exact ⟨hx _ hc, h2.lt⟩
  have htot : ∀ c, total (gR Bout part A0) W 0 (frR W Bout part A0 v) ⟨σR part, fun _ => [], [[accV acc]]⟩ ts [] c ≤ (if Bout = c then 1 else 0) + (if accB v = some c then 1 else 0) + persOf (gR Bout part A0) c + frR W Bout part A0 v c := fun c => by
    have h1 := hcT c
    have h2 := hcM c
    unfold total
    rw [show cntT c (St.mk (σR part) (fun _ => []) [[accV acc]]).σ ts = 0 from h1, cntP_nil]
    have h3 : cntB (gR Bout part A0) W c 0 (fun _ => []) = 0 := rfl
    have h4 : cntM (gR Bout part A0) W c (St.mk (σR part) (fun _ => []) [[accV acc]]).m = cntM (gR Bout part A0) W c [[accV acc]] := rfl
    have h5 : cntB (gR Bout part A0) W c 0 (St.mk (σR part) (fun _ => []) [[accV acc]]).l = 0 := rfl
    rw [h4, h5]
    omega
  have hps : ∀ c, persOf (gR Bout part A0) c = if part ≠ [] ∧ c = A0.block then 1 else 0 := fun c => by
    unfold persOf gR
    by_cases hh : part ≠ [] ∧ c = A0.block
    · rw [if_pos hh, if_pos hh]
    · rw [if_neg hh, if_neg hh]
  refine ⟨hσ, fun s hs => ?_, fun s d hd => ?_, fun p hp => (by cases hp), fun p hp => (by cases hp), fun j => ?_, fun j hj => absurd rfl hj, fun b hb' => ?_, fun c => ?_, fun c hc => ?_⟩
  · show σR part s = .undef
    unfold σR; rw [if_neg (by omega), if_neg (by omega)]
  · exfalso
    have hd : (σR part s).root? = some (.tmp d) := hd
    unfold σR at hd
    split at hd
    · cases hd
    · split at hd <;> cases hd
  · exact ⟨fun h => h.elim, fun h => absurd rfl h⟩
  · have : b = 0 := by simp at hb'; omega
    subst this
    refine ⟨⟨#[v], e, hb, rfl, fun k hk => ?_⟩, ?_⟩
    · have : k = 0 := by simp at hk; omega
      subst this
      refine ⟨.inl ?_, hacc⟩
      simp only [List.getD_cons_zero]
      unfold accV; split <;> rfl
    · simp only [List.getD_cons_zero]
      unfold accV; split <;> simp [tops, V.top]
  · refine Nat.le_trans (htot c) ?_
    rw [hps c]
    unfold frR
    by_cases hBc : Bout = c
    · subst hBc
      rw [if_pos rfl]
      rw [if_neg (fun h => by have := (haB _ h).1; omega), if_neg (fun h => (hpart h.1).2.2 h.2.symm), if_neg (fun h => h.2.1 rfl)]
      omega
    · rw [if_neg hBc]
      by_cases hA : accB v = some c
      · rw [if_pos hA, if_neg (fun h => by have := (haB _ hA).1; have := (hpart h.1).2.1; omega), if_neg (fun h => h.2.2.2 hA)]
        omega
      · rw [if_neg hA]
        by_cases hP : part ≠ [] ∧ c = A0.block
        · rw [if_pos hP, if_neg (fun h => h.2.2.1 hP)]; omega
        · rw [if_neg hP]
          split <;> omega
  · refine Nat.le_zero.1 (Nat.le_trans (htot c) ?_)
    rw [hps c]
    unfold frR
    have := hI.size
    rw [if_neg (show ¬ Bout = c by omega), if_neg (fun h => by have := (haB _ h).2; omega), if_neg (fun h => by have := (hpart h.1).2.1; omega), if_neg (fun h => by omega)]
    omega
end
end Go.Proofs.Ytgglgcehiolpcaa.Am.Frame

set_option linter.all false
namespace Go.Proofs.Ytgglgcehiolpcaa.Am.Frame
open Go.Proofs.Ytgglgcehiolpcaa.Am.T
section
variable {w0 W W' : World} {Bout : Nat} {acc acc' part : List Int} {A0 : Addr} {ts ts' : Array Value}
theorem take_back {g' : G} {σ' : Nat → V} {v : Value} {e : TypeId} (hB : Bout < w0.heap.size) (hI : IS w0 Bout acc W) (hb : Blk W Bout #[v] e) (ha : AccV w0 W acc v)
    (hE : Ext (frR W Bout part A0 v) 1 (gR Bout part A0) W g' W') (hS : SR g' W' 0 (frR W Bout part A0 v) (fun _ => false) ⟨σ', fun _ => [], [[accV acc']]⟩ ts' []) :
    IS w0 Bout acc' W' ∧ (∀ c, c < W.heap.size → (∃ o, W.heap[c]? = some o ∧ o.isCells = false) → Same W W' c) ∧ (∀ c, c < w0.heap.size → c ≠ Bout → Same W W' c) := by
  have haB : ∀ c, accB v = some c → w0.heap.size ≤ c ∧ ∃ arr e, Blk W c arr e := fun c hc => by
    rcases ha with ⟨_, rfl⟩ | ⟨_, ho, hx⟩
    · cases hc
    · obtain ⟨c', arr, e, h1, h2⟩ := ownS_blk ho
      rw [hc] at h1; cases h1
      exact ⟨hx _ hc, arr, e, h2⟩
  have hmb : g'.mb 0 = Bout := hE.mb 0 (Nat.lt_succ_self 0)
  have hsame : ∀ c, c < W.heap.size → c ≠ Bout → accB v ≠ some c → Same W W' c := fun c hc h1 h2 => by
    by_cases hP : part ≠ [] ∧ c = A0.block
    · exact (hE.pers c hP).2
    · exact hE.frame c (by unfold frR; rw [if_pos ⟨hc, h1, hP, h2⟩]; exact Nat.one_pos)
  have hlow : ∀ c, c < w0.heap.size → c ≠ Bout → Same W W' c := fun c hc hne =>
    hsame c (Nat.lt_of_lt_of_le hc hI.size) hne (fun h => by have := (haB c h).1; omega)
  obtain ⟨⟨arr, e', hb', hsz, hk⟩, _⟩ := hS.mem 0 (Nat.lt_succ_self 0)
  simp only [List.getD_cons_zero] at hsz hk
  have hb' : Blk W' Bout arr e' := by rw [← hmb]; exact hb'
  have hr := (hk 0 (Nat.lt_succ_self 0)).2
  simp only [List.getD_cons_zero] at hr
  obtain ⟨v', rfl⟩ : ∃ v', arr = #[v'] := by
    have : arr.size = 1 := hsz
    refine ⟨arr[0], ?_⟩
    apply Array.ext
    · simpa using this
    · intro i h1 h2
      have : i = 0 := by omega
      subst this; rfl
  have hr : R1 g' W' 1 (accV acc') v' := hr
  refine ⟨⟨hE.os.trans hI.os, hE.tape.trans hI.tape, hE.output.trans hI.output, Nat.le_trans hI.size hE.size, fun c hc hne => (hlow c hc hne).trans (hI.low c hc hne), v', e', hb', ?_⟩, fun c hc ho => ?_, hlow⟩
  · by_cases hn : acc' = []
    · subst hn
      refine .inl ⟨rfl, ?_⟩
      have hr : RB g'.pers W' .nils v' := hr
      cases hr; rfl
    · refine .inr ⟨hn, ?_⟩
      unfold accV at hr
      rw [if_neg hn] at hr
      have hr : OwnS g'.pers W' 1 (bytesV acc') v' := hr
      refine ⟨ownS_bytes hr, fun c hc => ?_⟩
      have hcnt : cnt0 c (accV acc') v' = 1 := by
        unfold accV; rw [if_neg hn]
        obtain ⟨a, cap, _, _, rfl, _⟩ := hr
        simp only [accB, Option.some.injEq] at hc
        simp [cnt0, hc]
      have hone := hS.one c
      have hM : cntM g' W' c [[accV acc']] = 0 + ((if g'.mb 0 = c then 1 else 0) + cntL c [accV acc'] (Am.cellsOf W' (g'.mb 0))) := rfl
      have hL : cntL c [accV acc'] #[v'] = cnt0 c (accV acc') v' := by simp [cntL, sumTo]
      rw [hmb, hb'.cellsOf, hL, hcnt] at hM
      have htot : cntM g' W' c [[accV acc']] + persOf g' c + frR W Bout part A0 v c ≤ 1 := by
        refine Nat.le_trans ?_ hone
        show cntM g' W' c [[accV acc']] + persOf g' c + frR W Bout part A0 v c ≤ cntT c σ' ts' + cntP c [] + cntB g' W' c 0 (fun _ => []) + cntM g' W' c [[accV acc']] + persOf g' c + frR W Bout part A0 v c
        omega
      by_cases hlt : w0.heap.size ≤ c
      · exact hlt
      · exfalso
        have hc0 : c < W.heap.size := by have := hI.size; omega
        have hne : Bout ≠ c := by intro e; rw [if_pos e] at hM; omega
        rw [if_neg hne] at hM
        by_cases hP : part ≠ [] ∧ c = A0.block
        · have : persOf g' c = 1 := by unfold persOf; rw [if_pos (hE.pers c hP).1]
          omega
        · have : frR W Bout part A0 v c = 1 := by
            unfold frR
            rw [if_pos ⟨hc0, fun e => hne e.symm, hP, fun h => by have := (haB c h).1; omega⟩]
          omega
  · obtain ⟨o, h1, h2⟩ := ho
    have hnc : ∀ {arr e}, ¬ Blk W c arr e := fun hh => by
      obtain ⟨fz, h3, _⟩ := hh
      rw [h3] at h1; cases h1; cases h2
    refine hsame c hc (fun h => ?_) fun h => ?_
    · subst h; exact hnc hb
    · obtain ⟨_, arr, e, hh⟩ := haB c h; exact hnc hh
theorem den_bytesV {ρ : List Nat} {l : List Int} {o : Bool} {x : V} (h : Den ρ (.sl o 1 (l.map by8)) x) : (x = .nils ∧ l = []) ∨ x = .slice o 1 (bytesV l) := by
  rcases den_sl h with ⟨rfl, e⟩ | ⟨ys, rfl, hp⟩
  · exact .inl ⟨rfl, by simpa using e⟩
  · exact .inr (by rw [pw_bytes hp]; rfl)
theorem encode_part (hb : Byts part) (h5 : part.length ≤ 512) : frame_Encode ⟨6, 0, 0, 0, part⟩ = some (frX part, if part = [] then 200 else 0) := by
  rw [encode_is (m := ⟨6, 0, 0, 0, part⟩) hb]
  have hp : payB ⟨6, 0, 0, 0, part⟩ = part := by unfold payB; rfl
  have hm : msgB 6 part = (⟨6, 0, 0, 0, part⟩, true) := by unfold msgB; rfl
  have hl : lenK 6 = some (1, 512) := by unfold lenK; rfl
  by_cases hn : part = []
  · subst hn
    rw [if_neg]
    · rfl
    · rintro ⟨⟨lo, hi, h1, h2, h3⟩, _⟩
      rw [hl] at h1; cases h1
      rw [hp] at h2
      simp at h2
  · rw [if_pos]
    · have : part.length ≠ 0 := fun h => hn (List.length_eq_zero_iff.1 h)
      rw [if_neg hn]
      unfold frX frmB showB
      rw [if_neg hn, hp]
      rfl
    · have : part.length ≠ 0 := fun h => hn (List.length_eq_zero_iff.1 h)
      refine ⟨⟨1, 512, hl, ?_, ?_⟩, ?_, ?_⟩
      · rw [hp]; omega
      · rw [hp]; omega
      · rw [hp, hm]
      · rw [hp, hm]
theorem call_part (hb : Byts part) (h5 : part.length ≤ 512) (m : List (List V)) :
    ∃ x c, RF FE 14 [.agg [.int .i64 6, .int .i64 0, .int .i64 0, .int .i64 0, .slice false 1 (bytesV part)]] m = some (.tuple [x, .int .i64 c], m) ∧ ((x = .nils ∧ frX part = []) ∨ x = .slice false 1 (bytesV (frX part))) := by
  have h := frame_Encode_okE (encode_part hb h5) [] m [.agg [.int .i64 6, .int .i64 0, .int .i64 0, .int .i64 0, .slice false 1 (bytesV part)]] ⟨List.nodup_nil, rfl, fun i b h => by cases h⟩
    (.cons (.agg (.cons (.base (.int _ _)) (.cons (.base (.int _ _)) (.cons (.base (.int _ _)) (.cons (.base (.int _ _)) (.cons (.base (.sl _ _ (den_bytes part))) .nil)))))) .nil)
  obtain ⟨r', m', ρ', h1, h2, _, _, _, h3⟩ := h
  rw [h3 rfl] at h1
  obtain ⟨cs, rfl, hp⟩ := h2.tuple_inv
  cases hp with
  | cons ha hp =>
    cases hp with
    | cons hb hp =>
      cases hp
      rw [hb.int_inv] at h1
      exact ⟨_, _, h1, den_bytesV ha⟩
theorem accV_snoc : (accV acc = .nils ∧ acc = []) ∨ (accV acc = .slice true 1 (bytesV acc) ∧ acc ≠ []) := by
  unfold accV
  by_cases h : acc = []
  · exact .inl ⟨if_pos h, h⟩
  · exact .inr ⟨if_neg h, h⟩
theorem bytesV_append (a b : List Int) : bytesV (a ++ b) = bytesV a ++ bytesV b := by simp [bytesV]
def σ4 (part : List Int) (x : V) (c : Int) : Nat → V :=
  upd (upd (upd (upd (upd (upd (killM (upd (upd (σR part) 11 (.slice false 1 (bytesV part))) 12 (.agg [.int .i64 6, .int .i64 0, .int .i64 0, .int .i64 0, .slice false 1 (bytesV part)])))
    13 (.tuple [x, .int .i64 c])) 10 (.tuple [x, .int .i64 c])) 14 x) 15 (.int .i64 c)) 5 x) 6 (.int .i64 c)
theorem eval_call {cf : CF} {st : St} {f s : Nat} {r : V} {m' : List (List V)} (h : (st.σ s).hasOwn = false) (hok : (st.σ s).okArg = true) (hc : cf f [st.σ s] st.m = some (r, m')) :
    evalOp cf st (.callF f [.t s]) = some (r, { st with m := m', σ := killM st.σ }) := by
  simp [evalOp, getOs, getO, h, hok, hc]
theorem eval_app {cf : CF} {st : St} {a b : Nat} {xs ys : List (List V)} {y : V} (ha : st.σ a = .slice true 1 xs) (hb : st.σ b = y) (hne : b ≠ a) (ho : y.hasOwn = false) (he : ∀ st', elemsZ 1 st' y = some ys) (hm : xs.length + ys.length ≤ most) :
    evalOp cf st (.append 1 (.u a .take) (.t b)) = some (.slice true 1 (xs ++ ys), { st with σ := upd st.σ a .undef }) := by
  simp [evalOp, getO, ha, upd, hb, hne, ho, he, hm]
theorem eval_app0 {cf : CF} {st : St} {a b : Nat} {ys : List (List V)} {y : V} (ha : st.σ a = .nils) (hb : st.σ b = y) (hne : b ≠ a) (ho : y.hasOwn = false) (he : ∀ st', elemsZ 1 st' y = some ys) (hm : ys.length ≤ most) :
    evalOp cf st (.append 1 (.u a .take) (.t b)) = some (if ys.length = 0 then .nils else .slice true 1 ys, { st with σ := upd st.σ a .undef }) := by
  by_cases h : ys.length = 0
  · have : ys = [] := List.length_eq_zero_iff.1 h
    subst this
    simp [evalOp, getO, ha, upd, hb, hne, ho, he]
  · have : 0 < ys.length := by omega
    simp [evalOp, getO, ha, upd, hb, hne, ho, he, hm, this, h]
theorem step_of {cf : CF} {st st' : St} {d : Nat} {op : AOp} {x : V} (h : evalOp cf st op = some (x, st')) : stepOp cf ⟨some d, none, false, op, .none⟩ st = some { st' with σ := upd st'.σ d x } := by
  simp [stepOp, h, putOp, St.put]
theorem runs4 {x : V} {c : Int} {m : List (List V)} (hc : RF FE 14 [.agg [.int .i64 6, .int .i64 0, .int .i64 0, .int .i64 0, .slice false 1 (bytesV part)]] m = some (.tuple [x, .int .i64 c], m))
    (hx : x = .nils ∨ x = .slice false 1 (bytesV (frX part))) : runOps (RF FE) os4 ⟨σR part, fun _ => [], m⟩ = some ⟨σ4 part x c, fun _ => [], m⟩ := by
  unfold os4
  rcases hx with rfl | rfl
  all_goals
    refine (Option.bind_eq_some_iff.2 ⟨⟨upd (σR part) 11 (.slice false 1 (bytesV part)), fun _ => [], m⟩, rfl, ?_⟩)
    refine (Option.bind_eq_some_iff.2 ⟨⟨upd (upd (σR part) 11 (.slice false 1 (bytesV part))) 12 (.agg [.int .i64 6, .int .i64 0, .int .i64 0, .int .i64 0, .slice false 1 (bytesV part)]), fun _ => [], m⟩, rfl, ?_⟩)
    refine (Option.bind_eq_some_iff.2 ⟨_, step_of (eval_call rfl rfl hc), ?_⟩)
    rfl
theorem elems_x {x : V} (hx : (x = .nils ∧ frX part = []) ∨ x = .slice false 1 (bytesV (frX part))) (st' : St) : elemsZ 1 st' x = some (bytesV (frX part)) := by
  rcases hx with ⟨rfl, h⟩ | rfl
  · rw [h]; rfl
  · rfl
theorem accV_ok (l : List Int) : (accV l).ok1 = true ∧ (accV l).ok0 = true ∧ (accV l).top = 0 ∧ (accV l).cells = [accV l] := by
  unfold accV
  split <;> exact ⟨rfl, rfl, rfl, rfl⟩
theorem step_store {cf : CF} {σ : Nat → V} {l : Nat → List V} {w : V} {acc' : List Int} (h3 : σ 3 = .ptr 0 0) (h18 : σ 18 = accV acc') :
    stepOp cf ⟨none, none, false, .store 1 (.t 3) (.u 18 .take), .none⟩ ⟨σ, l, [[w]]⟩ = some ⟨kill (upd σ 18 .undef), l, [[accV acc']]⟩ := by
  obtain ⟨o1, o2, o3, o4⟩ := accV_ok acc'
  simp [stepOp, evalOp, getO, getC, h3, h18, upd, V.hasOwn, V.own1, V.own0, o1, o2, o3, o4, doStore, tops, setAt, putOp, St.put]
theorem runs5 {x : V} {c : Int} (hx : (x = .nils ∧ frX part = []) ∨ x = .slice false 1 (bytesV (frX part))) (hm : acc.length + (frX part).length ≤ most) :
    ∃ σ5, runOps (RF FE) os5 ⟨σ4 part x c, fun _ => [], [[accV acc]]⟩ = some ⟨σ5, fun _ => [], [[accV (acc ++ frX part)]]⟩ := by
  have hl : ∀ l : List Int, (bytesV l).length = l.length := fun l => by simp [bytesV]
  have ho : x.hasOwn = false := by rcases hx with ⟨rfl, _⟩ | rfl <;> rfl
  have h5 : σ4 part x c 5 = x := rfl
  have he := elems_x hx
  generalize hσ : σ4 part x c = σ at h5
  have h3 : σ 3 = .ptr 0 0 := by rw [← hσ]; rfl
  unfold os5
  rcases accV_snoc (acc := acc) with ⟨ha, hn⟩ | ⟨ha, hn⟩
  · rw [ha]
    subst hn
    have s1 : stepOp (RF FE) ⟨some 16, none, false, .load false 1 (.t 3) .take, .none⟩ ⟨σ, fun _ => [], [[.nils]]⟩ = some ⟨upd σ 16 .nils, fun _ => [], [[.nils]]⟩ := by
      refine step_of (st' := ⟨σ, fun _ => [], [[.nils]]⟩) (x := .nils) ?_
      simp [evalOp, getC, h3, V.hasOwn, V.own1, V.own0, doLoad, loadV, agg?, Use.writes, leftV, V.left, setAt]
    have s2 : stepOp (RF FE) ⟨some 17, none, false, .mv (.t 5), .none⟩ ⟨upd σ 16 .nils, fun _ => [], [[.nils]]⟩ = some ⟨upd (upd σ 16 .nils) 17 x, fun _ => [], [[.nils]]⟩ := by
      refine step_of (st' := ⟨upd σ 16 .nils, fun _ => [], [[.nils]]⟩) (x := x) ?_
      simp [evalOp, getO, upd, h5, ho]
    have s3 := step_of (d := 18) (eval_app0 (cf := RF FE) (st := ⟨upd (upd σ 16 .nils) 17 x, fun _ => [], [[.nils]]⟩) (a := 16) (b := 17) (y := x) (by simp [upd]) (by simp [upd]) (by decide) ho he (by rw [hl]; simpa using hm))
    rw [List.nil_append]
    have hv : (if (bytesV (frX part)).length = 0 then V.nils else .slice true 1 (bytesV (frX part))) = accV (frX part) := by
      unfold accV
      rw [hl]
      by_cases hh : frX part = []
      · rw [hh]; rfl
      · rw [if_neg hh, if_neg (fun h => hh (List.length_eq_zero_iff.1 h))]
    rw [hv] at s3
    exact ⟨_, (Option.bind_eq_some_iff.2 ⟨_, s1, (Option.bind_eq_some_iff.2 ⟨_, s2, (Option.bind_eq_some_iff.2 ⟨_, s3, (Option.bind_eq_some_iff.2 ⟨_, step_store (by simp [upd, h3]) (by simp [upd]), rfl⟩)⟩)⟩)⟩)⟩
  · rw [ha]
    have s1 : stepOp (RF FE) ⟨some 16, none, false, .load false 1 (.t 3) .take, .none⟩ ⟨σ, fun _ => [], [[.slice true 1 (bytesV acc)]]⟩ = some ⟨upd σ 16 (.slice true 1 (bytesV acc)), fun _ => [], [[.undef]]⟩ := by
      refine step_of (st' := ⟨σ, fun _ => [], [[.undef]]⟩) (x := .slice true 1 (bytesV acc)) ?_
      simp [evalOp, getC, h3, V.hasOwn, V.own1, V.own0, doLoad, loadV, agg?, Use.writes, leftV, V.left, setAt]
    have s2 : stepOp (RF FE) ⟨some 17, none, false, .mv (.t 5), .none⟩ ⟨upd σ 16 (.slice true 1 (bytesV acc)), fun _ => [], [[.undef]]⟩ = some ⟨upd (upd σ 16 (.slice true 1 (bytesV acc))) 17 x, fun _ => [], [[.undef]]⟩ := by
      refine step_of (st' := ⟨upd σ 16 (.slice true 1 (bytesV acc)), fun _ => [], [[.undef]]⟩) (x := x) ?_
      simp [evalOp, getO, upd, h5, ho]
    have s3 := step_of (d := 18) (eval_app (cf := RF FE) (st := ⟨upd (upd σ 16 (.slice true 1 (bytesV acc))) 17 x, fun _ => [], [[.undef]]⟩) (a := 16) (b := 17) (xs := bytesV acc) (y := x) (by simp [upd]) (by simp [upd]) (by decide) ho he (by rw [hl, hl]; exact hm))
    have hv : V.slice true 1 (bytesV acc ++ bytesV (frX part)) = accV (acc ++ frX part) := by
      unfold accV
      rw [if_neg (by simp [hn]), bytesV_append]
    rw [hv] at s3
    exact ⟨_, (Option.bind_eq_some_iff.2 ⟨_, s1, (Option.bind_eq_some_iff.2 ⟨_, s2, (Option.bind_eq_some_iff.2 ⟨_, s3, (Option.bind_eq_some_iff.2 ⟨_, step_store (by simp [upd, h3]) (by simp [upd]), rfl⟩)⟩)⟩)⟩)⟩
theorem scr_round {l n : Nat} {ops4 ops5 : Array Oper} (hts : ts.size = 20) (h3 : tsAt ts 3 = .pointer (some ⟨Bout, 0, none⟩)) (h4 : tsAt ts 4 = .slice (some A0) part.length part.length)
    (hpart : part ≠ [] → A0.spot = none ∧ A0.block < w0.heap.size ∧ A0.block ≠ Bout) (hel : ∀ i, i < part.length → w0.cell? ⟨A0.block, A0.off + i, none⟩ = some (.int .u8 (part.getD i 0)))
    (hB : Bout < w0.heap.size) (hb : Byts part) (h5 : part.length ≤ 512) (hm : acc.length + (frX part).length ≤ most) (hI : IS w0 Bout acc W)
    (ok4 : seqOK Go.Proofs.Try.prog (fun _ => false) 0 20 ops4 (List.range ops4.size) os4) (nd4 : ∀ (i : Nat) (o : Oper), ops4[i]? = some o → noDefer o.op = true)
    (ok5 : seqOK Go.Proofs.Try.prog (fun _ => false) 0 20 ops5 (List.range ops5.size) os5) (nd5 : ∀ (i : Nat) (o : Oper), ops5[i]? = some o → noDefer o.op = true)
    {i4 i5 : Nat} {Q : Exit → Act → World → Prop} (hQ : ∀ a' W', IS w0 Bout (acc ++ frX part) W' → W.heap.size ≤ W'.heap.size → (∀ c, c < W.heap.size → (∃ o, W.heap[c]? = some o ∧ o.isCells = false) → Same W W' c) → (∀ c, c < w0.heap.size → c ≠ Bout → Same W W' c) → Q .normal a' W') :
    (Code.seq (.region i4 ops4 false) (.region i5 ops5 false)).wpIn (Fence.wide.inRound l) n Go.Proofs.Try.prog Q { tmps := ts, defers := [] } W := by
  obtain ⟨v, e, hbk, hav⟩ := hI.box
  have hS := mkSR (part := part) hts h3 h4 hpart hel hB hI hbk hav
  have hgood : Good Go.Proofs.Try.prog (RF FE) := fun f args m r m' h => ret_sound FE_ok (RF_ret.1 h)
  obtain ⟨x, c, hc, hx⟩ := call_part hb h5 [[accV acc]]
  have r4 := runs4 hc (by rcases hx with ⟨h, _⟩ | h; exact .inl h; exact .inr h)
  obtain ⟨σ5, r5⟩ := runs5 (acc := acc) (c := c) hx hm
  refine wpIn_seq (wpIn_region (runOpsIn_sound hgood nd4 (n0 := 1) (by rw [hts]; exact ok4) hS (Ext.refl _ 1 _ W) (Nat.le_refl _) r4 fun a1 g1 w1 hS1 hs1 hd1 hE1 hl1 => ?_))
  refine wpIn_region (runOpsIn_sound hgood nd5 (n0 := 1) (by rw [hs1, hts]; exact ok5) hS1 hE1 (Nat.le_refl _) r5 fun a2 g2 w2 hS2 hs2 hd2 hE2 hl2 => ?_)
  obtain ⟨q1, q2, q3⟩ := take_back hB hI hbk hav hE2 hS2
  exact hQ a2 w2 q1 hE2.size q2 q3
end
end Go.Proofs.Ytgglgcehiolpcaa.Am.Frame

namespace Go.Proofs.FrameChunk
open Go.RowKit Go.Shelf
set_option linter.all false
set_option maxRecDepth 100000 in
set_option maxHeartbeats 1000000 in
theorem chunk_in0 (F : Fence) (n : Nat) (h32 : F.fn 32) (hro : F.round = none) (hn : 1 ≤ n) (l Bs Bn : Nat) (J : List Nat → World → Prop)
    (W : World) (hs : W.cell? ⟨Bs, 0, none⟩ = some (.slice none 0 0)) (h0 : J [] W) :
    CallsIn F n Try.prog 32 #[.func (.yield l) #[] #[], .pointer (some ⟨Bs, 0, none⟩), .pointer (some ⟨Bn, 0, none⟩)] W fun e W' => (∃ v, e = .returned v) ∧ J [] W' := by
  have mixed : Try.prog.follows .mixedOrders = true := by kernel_rfl
  refine callsIn_of_wp Try.func32 rfl h32 ?_ hro
  simp only [Try.ntmps32, List.size_toArray, List.length_cons, List.length_nil, Nat.reduceAdd, Nat.reduceSub, Array.replicate_succ, Array.replicate_zero, List.push_toArray, List.append_toArray, List.nil_append, List.cons_append]
  gi_wp2
  gi_loopw [4] (fun vi wr => vi = .int .i64 0 ∧ J [] wr ∧ wr.cell? ⟨Bs, 0, none⟩ = some (.slice none 0 0))
    (fun vi _ => 0)
  case atStart => exact ⟨rfl, h0, hs⟩
  case round =>
    obtain ⟨rfl, hJk, hsk⟩ := hrel
    gi_wp2
    go_end0
    exact ⟨⟨_, rfl⟩, hJk⟩
theorem chunk_stops0 (F : Fence) (n : Nat) (h32 : F.fn 32) (hro : F.round = none) (hn : 1 ≤ n) (Bs Bn : Nat) (encs : Nat → Array Value) (w : World) (hBs : Bs < w.heap.size)
    (hs : w.cell? ⟨Bs, 0, none⟩ = some (.slice none 0 0)) :
    SeqStopsK F n Try.prog 32 #[.pointer (some ⟨Bs, 0, none⟩), .pointer (some ⟨Bn, 0, none⟩)] encs (KpC Bs Bn) (fun xs => xs = List.range ((0 + 511) / 512)) (fun _ => True) ((0 + 511) / 512) w :=
  fun l J Jx W hW hJ _ hY h0 => (chunk_in0 F n h32 hro hn l Bs Bn J W ((hW.cell (p := ⟨Bs, 0, none⟩) hBs).trans hs) h0).mono fun e W' h => ⟨h.1, .inl ⟨_, rfl, h.2⟩⟩
end Go.Proofs.FrameChunk

namespace Go.Proofs.FrameChunk
open Go.RowKit Go.Shelf Go.Proofs.Ytgglgcehiolpcaa.Am Go.Proofs.Ytgglgcehiolpcaa.Am.Frame
set_option linter.all false
attribute [local go_sem] Oper.semAt_some
set_option maxRecDepth 100000 in
set_option maxHeartbeats 1000000 in
theorem chunk_made (F : Fence) (n : Nat) (h : F.fn 27) (hro : F.round = none) (b : Option Addr) (len cap : Nat) (w : World) :
    CallsIn F n Try.prog 27 #[.slice b len cap, .int .i64 512] w fun e w' => e = .returned (.func (.func 32) #[] #[.pointer (some ⟨w.heap.size, 0, none⟩), .pointer (some ⟨w.heap.size + 1, 0, none⟩)]) ∧
      w' = (w.alloc (.cells #[.slice b len cap] 24)).alloc (.cells #[.int .i64 512] 3) := by
  refine callsIn_of_wp Try.func27 rfl h ?_ hro
  simp only [Try.ntmps27, List.size_toArray, List.length_cons, List.length_nil, Nat.reduceAdd, Nat.reduceSub, Array.replicate_succ, Array.replicate_zero, List.push_toArray, List.append_toArray, List.nil_append, List.cons_append]
  gi_wp2
  go_ret
  exact ⟨rfl, rfl⟩
def partX (l : List Int) (x : Nat) : List Int := (l.drop (512 * x)).take 512
theorem partX_len (l : List Int) (x : Nat) : (partX l x).length = min 512 (l.length - 512 * x) := by simp [partX]
theorem partX_get (l : List Int) (x i : Nat) (hi : i < (partX l x).length) : (partX l x).getD i 0 = l.getD (512 * x + i) 0 ∧ 512 * x + i < l.length := by
  rw [partX_len] at hi
  refine ⟨?_, by omega⟩
  simp only [partX, List.getD_eq_getElem?_getD, List.getElem?_take, List.getElem?_drop]
  rw [if_pos (by omega)]
theorem partX_byts {l : List Int} (hl : Byts l) (x : Nat) : Byts (partX l x) := fun y hy => hl y (List.mem_of_mem_drop (List.mem_of_mem_take hy))
theorem frX_len {p : List Int} (h : p.length ≤ 512) : (frX p).length ≤ 517 := by
  unfold frX
  split
  · simp
  · simp only [showB, List.length_cons, List.length_append, List.length_nil]; omega
theorem frX_all (l : List Int) : ∀ pre : List Nat, (pre.flatMap fun x => frX (partX l x)).length ≤ 517 * pre.length
  | [] => by simp
  | x :: pre => by
    have h1 := frX_all l pre
    have h2 := frX_len (p := partX l x) (by rw [partX_len]; omega)
    simp only [List.flatMap_cons, List.length_append, List.length_cons]
    omega
theorem add_of {A : Addr} {n : Nat} (h : A.spot = none) : A.add n = ⟨A.block, A.off + n, none⟩ := by
  obtain ⟨b, o, s⟩ := A
  simp only at h; subst h
  simp [Addr.add]
def nd : Array Oper → Bool := fun ops => ops.toList.all fun o => noDefer o.op
theorem nd_ok {ops : Array Oper} (h : nd ops = true) : ∀ (i : Nat) (o : Oper), ops[i]? = some o → noDefer o.op = true := fun i o ho =>
  List.all_eq_true.1 h o (by
    rw [Array.getElem?_eq_some_iff] at ho
    obtain ⟨h1, rfl⟩ := ho
    simp)
def pl18 : Plan := ⟨[], 0, [((5, 0), { mode := .take }), ((5, 2), { uses := [(16, .take)] }), ((5, 3), { uses := [(18, .take)] })], []⟩
theorem seq_of {id : Nat} {ops : Array Oper} {os : List AOper} (h : (cCode Try.prog pl18 20 (.region id ops false) []).map (·.1) = some (.region false os)) :
    seqOK Try.prog (fun _ => false) 0 20 ops (List.range ops.size) os := by
  rw [Option.map_eq_some_iff] at h
  obtain ⟨q, hq, he⟩ := h
  obtain ⟨ac, ls⟩ := q
  simp only at he
  subst he
  exact (cCode_ok (p := pl18) hq).2
set_option maxRecDepth 100000 in
set_option maxHeartbeats 1000000 in
theorem screen_core (w : World) (b : Option Addr) (cap : Nat) (A : Addr) (l : List Int) (hl : Byts l) (hm : l.length * 2 ≤ most)
    (hA : l ≠ [] → A.spot = none ∧ A.block < w.heap.size) (hel : ∀ i, i < l.length → w.cell? ⟨A.block, A.off + i, none⟩ = some (.int .u8 (l.getD i 0)))
    (hseq : ∀ (w1 : World) (Bs Bn : Nat), Bs < w1.heap.size → Bn < w1.heap.size → w1.cell? ⟨Bs, 0, none⟩ = some (.slice b l.length cap) → w1.cell? ⟨Bn, 0, none⟩ = some (.int .i64 512) →
      SeqStopsK Fence.wide 8 Try.prog 32 #[.pointer (some ⟨Bs, 0, none⟩), .pointer (some ⟨Bn, 0, none⟩)] (fun x => #[encC A l.length x]) (KpC Bs Bn) (fun xs => xs = List.range ((l.length + 511) / 512)) (fun _ => True) ((l.length + 511) / 512) w1) :
    Calls Try.prog 18 #[.slice b l.length cap] w fun e w' => ∃ v, e = .returned v ∧ w'.os = w.os ∧ w'.tape = w.tape ∧ w'.output = w.output ∧ w.heap.size ≤ w'.heap.size ∧ (∀ c, c < w.heap.size → Same w w' c) ∧
      AccV w w' ((List.range ((l.length + 511) / 512)).flatMap fun x => frX (partX l x)) v := by
  refine (callsIn_wide (n := 9)).1 ?_
  refine callsIn_of_wp_marks Try.func18 rfl trivial ?_ rfl
  simp only [Try.ntmps18, List.size_toArray, List.length_cons, List.length_nil, Nat.reduceAdd, Nat.reduceSub, Array.replicate_succ, Array.replicate_zero, List.push_toArray, List.append_toArray, List.nil_append, List.cons_append]
  gi_wp2
  refine ⟨trivial, (chunk_made Fence.wide 8 trivial rfl b l.length cap _).mono ?_⟩
  rintro e w' ⟨rfl, rfl⟩
  gi_wp2
  rename_i hKin
  obtain ⟨w0, hw0⟩ : ∃ w0, w0 = ((w.alloc (Obj.cells #[Value.slice none 0 0] 24)).alloc (Obj.cells #[Value.slice b l.length cap] 24)).alloc (Obj.cells #[Value.int IntKind.i64 512] 3) := ⟨_, rfl⟩
  have hsz : w0.heap.size = w.heap.size + 3 := by rw [hw0]; simp
  have hlow : ∀ c, c < w.heap.size → Same w w0 c := fun c hc => by
    rw [hw0]
    exact ((Below.heap_alloc _ _ _ (by simp; omega)).trans (Below.heap_alloc _ _ _ (by simp; omega))).trans (Below.heap_alloc _ _ _ hc)
  have hB0 : Blk w0 w.heap.size #[.slice none 0 0] 24 := by
    rw [hw0]
    exact ⟨_, ((Below.heap_alloc _ _ _ (by simp; omega)).trans (Below.heap_alloc _ _ _ (by simp))).trans (World.alloc_heap_new w _), fun k _ h => by omega, Nat.le_refl _⟩
  have hs0 : w0.cell? ⟨w.heap.size + 1, 0, none⟩ = some (.slice b l.length cap) := by
    have : w0.heap[w.heap.size + 1]? = some (Obj.cells #[Value.slice b l.length cap] 24) := by
      rw [hw0]
      refine (Below.heap_alloc _ _ _ (by simp)).trans ?_
      have := World.alloc_heap_new (w.alloc (Obj.cells #[Value.slice none 0 0] 24)) (Obj.cells #[Value.slice b l.length cap] 24)
      rwa [World.size_alloc] at this
    simp [World.cell?, this]
  have hn0 : w0.cell? ⟨w.heap.size + 2, 0, none⟩ = some (.int .i64 512) := by
    have : w0.heap[w.heap.size + 2]? = some (Obj.cells #[Value.int IntKind.i64 512] 3) := by
      rw [hw0]
      have := World.alloc_heap_new ((w.alloc (Obj.cells #[Value.slice none 0 0] 24)).alloc (Obj.cells #[Value.slice b l.length cap] 24)) (Obj.cells #[Value.int IntKind.i64 512] 3)
      rwa [World.size_alloc, World.size_alloc] at this
    simp [World.cell?, this]
  have hpt : w0.os = w.os ∧ w0.tape = w.tape ∧ w0.output = w.output := by rw [hw0]; exact ⟨rfl, rfl, rfl⟩
  have hmost : most = 4294967296 := rfl
  rw [← hw0]
  refine wpIn_rangeFunc_ownF (F := Fence.wide) (n := 9) rfl (by omega) rfl trivial (enters_of Try.func32 (by kernel_rfl) rfl) (hseq w0 (w.heap.size + 1) (w.heap.size + 2) (by omega) (by omega) hs0 hn0)
    (fun h k => kpC_t h k) (fun W l' o o' hl' ho hc hw => ⟨World.putObj_heap_other (by omega), World.putObj_heap_other (by omega)⟩) (Below.refl _ _) (fun x => rfl)
    (fun pre W => pre.length ≤ (l.length + 511) / 512 ∧ IS w0 w.heap.size (pre.flatMap fun x => frX (partX l x)) W) (fun _ _ _ => False)
    (IS.own (by omega) (fun pre => pre.flatMap fun x => frX (partX l x)) (fun pre => pre.length ≤ (l.length + 511) / 512)) (fun c s W W' row hs _ _ => hs.elim)
    ⟨Nat.zero_le _, rfl, rfl, rfl, Nat.le_refl _, fun _ _ _ => rfl, _, _, hB0, .inl ⟨rfl, rfl⟩⟩
    (fun x => { tmps := #[.slice b l.length cap, undef, .slice none 0 0, .pointer (some { block := w.heap.size, off := 0 }), encC A l.length x, undef, undef, .slice b l.length cap,
          .func (Fn.func 32) #[] #[.pointer (some { block := w.heap.size + 1, off := 0 }), .pointer (some { block := w.heap.size + 1 + 1, off := 0 })],
          encC A l.length x, undef, undef, undef, undef, undef, undef, undef, undef, undef, undef], defers := [] }) (fun l' x W K hK => ?_) (fun l' pre x W hI hlen => ?_) (fun D xs W hD hxs hI hDd => ?_) (fun D c pre W _ _ h _ => h.elim)
  · have e1 : (Array.zip #[9] #[encC A l.length x]) = #[(9, encC A l.length x)] := Array.ext' (by simp [Array.toList_zip])
    have e2 : ∀ (f : Array Value → Nat × Value → Array Value) (i : Array Value), Array.foldl f i #[(9, encC A l.length x)] = f i (9, encC A l.length x) := fun f i => by simp
    simp only [e1, e2]
    gi_wp2
    exact hK
  · refine wpIn_block ?_
    have hle := frX_all l pre
    have hlx := frX_len (p := partX l x) (by rw [partX_len]; omega)
    refine scr_round (w0 := w0) (Bout := w.heap.size) (part := partX l x) (acc := pre.flatMap fun x => frX (partX l x)) (A0 := A.add (512 * x)) rfl rfl ?_ (fun hne => ?_) (fun i hi => ?_) (by omega) (partX_byts hl x) (by rw [partX_len]; omega) ?_ hI.2
      (seq_of (id := 4) (by decide +kernel)) (nd_ok (by decide +kernel)) (seq_of (id := 5) (by decide +kernel)) (nd_ok (by decide +kernel)) (fun a' W' q1 q2 q3 q4 => ?_)
    · rw [partX_len]; rfl
    · have hn : l ≠ [] := by intro e; subst e; exact hne (by simp [partX])
      have := hA hn
      rw [add_of this.1]
      exact ⟨rfl, by show A.block < _; omega, by show A.block ≠ _; omega⟩
    · have hg := partX_get l x i hi
      have hn : l ≠ [] := by intro e; subst e; simp at hg
      rw [hg.1, add_of (hA hn).1]
      show w0.cell? ⟨A.block, A.off + 512 * x + i, none⟩ = _
      rw [Nat.add_assoc]
      exact (Same.cell (hlow _ (hA hn).2)).trans (hel _ hg.2)
    · omega
    · refine ⟨⟨q2, fun k o ho hc => ?_⟩, ⟨q4 _ (by omega) (by omega), q4 _ (by omega) (by omega)⟩, by simp; omega, by simpa using q1⟩
      have hlt := (Array.getElem?_eq_some_iff.1 ho).1
      exact (q3 k hlt ⟨o, ho, hc⟩).trans ho
  · obtain ⟨hxl, hI⟩ := hI
    obtain ⟨v, e, hb, ha⟩ := hI.box
    have hcell : W.cell? ⟨w.heap.size, 0, none⟩ = some v := by rw [hb.cell]; rfl
    refine hKin _ _ ?_
    gi_wp2
    refine ⟨(by intro h; cases h), .inl ⟨D, _, rfl, run_takeDeferred hDd, _, results_tmp rfl _ _ _, v, rfl, ?_⟩⟩
    have hDl := (Array.getElem?_eq_some_iff.1 hDd).1
    have hk : ∀ c, c ≠ D → Same W (W.putObj D (.deferred none)) c := fun c hc => World.putObj_heap_other (fun e => hc e)
    refine ⟨hI.os.trans hpt.1, hI.tape.trans hpt.2.1, hI.output.trans hpt.2.2, by have := hI.size; simp [World.putObj]; omega, fun c hc => ?_, ?_⟩
    · exact (hk c (by omega)).trans ((hI.low c (by omega) (by omega)).trans (hlow c hc))
    · rw [← hxs]
      have ha := ha.same (W' := W.putObj D (.deferred none)) fun c hc => hk c fun e => by
        rcases ha with ⟨_, rfl⟩ | ⟨_, ho, _⟩
        · cases hc
        · obtain ⟨c', arr, e', h1, fz, h2, _⟩ := ownS_blk ho
          rw [hc] at h1; cases h1
          rw [e, hDd] at h2; cases h2
      rcases ha with h | ⟨h1, h2, h3⟩
      · exact .inl h
      · exact .inr ⟨h1, h2, fun c hc => by have := h3 c hc; omega⟩
end Go.Proofs.FrameChunk

namespace Go.Proofs.Ytgglgcehiolpcaa.Am.Frame
open Go.Proofs.Ytgglgcehiolpcaa.Am.T Go.Proofs.FrameChunk
set_option linter.all false
theorem screenN_is (l : List Int) : ∀ (n : Nat) (k : Nat), l.length ≤ 512 * k + 512 * n → screenN n (l.drop (512 * k)) = ((List.range ((l.length + 511) / 512)).drop k).flatMap fun x => frX (partX l x)
  | 0, k, h => by
    have : (List.range ((l.length + 511) / 512)).drop k = [] := List.drop_eq_nil_of_le (by simp; omega)
    rw [this]; rfl
  | n + 1, k, h => by
    unfold screenN
    by_cases hd : l.drop (512 * k) = []
    · rw [if_pos hd]
      have hk : l.length ≤ 512 * k := by simpa using hd
      have : (List.range ((l.length + 511) / 512)).drop k = [] := List.drop_eq_nil_of_le (by simp; omega)
      rw [this]; rfl
    · rw [if_neg hd]
      have hk : 512 * k < l.length := by
        rcases Nat.lt_or_ge (512 * k) l.length with h | h
        · exact h
        · exact absurd (List.drop_eq_nil_of_le h) hd
      have hc : (List.range ((l.length + 511) / 512)).drop k = k :: (List.range ((l.length + 511) / 512)).drop (k + 1) := by
        have hlt : k < (List.range ((l.length + 511) / 512)).length := by simp; omega
        rw [List.drop_eq_getElem_cons hlt]
        simp
      rw [hc, List.flatMap_cons, List.drop_drop, show 512 * k + 512 = 512 * (k + 1) by omega, screenN_is l n (k + 1) (by omega)]
      have : frX (partX l k) = showB (List.take 512 (l.drop (512 * k))) := by
        unfold frX
        rw [if_neg]
        · rfl
        · intro e
          have := congrArg List.length e
          rw [partX_len] at this
          simp at this
          omega
      rw [this]
theorem screenB_is (l : List Int) : screenB l = (List.range ((l.length + 511) / 512)).flatMap fun x => frX (partX l x) := by
  have := screenN_is l l.length 0 (by omega)
  simpa [screenB] using this
theorem screen_nil {l : List Int} : screenB l = [] ↔ l = [] := by
  constructor
  · intro h
    cases l with
    | nil => rfl
    | cons x l => simp [screenB, screenN, showB] at h
  · rintro rfl; rfl
theorem scr_end {g : Am.G} {w w' : World} {fr : Nat → Nat} {m : List (List V)} {x : V} {v0 v : Value} {acc : List Int} (hS : SR g w 0 fr (fun _ => false) ⟨fun _ => .undef, fun _ => [], m⟩ #[] [(x, v0)])
    (h1 : w'.os = w.os) (h2 : w'.tape = w.tape) (h3 : w'.output = w.output) (h4 : w.heap.size ≤ w'.heap.size) (h5 : ∀ c, c < w.heap.size → Same w w' c) (h6 : AccV w w' acc v) :
    SR g w' 0 fr (fun _ => false) ⟨fun _ => .undef, fun _ => [], m⟩ #[] [(accV acc, v)] ∧ Ext fr m.length g w g w' := by
  have hW := hS.world h4 h5
  have hD := hW.drop
  refine ⟨?_, h1, h2, h3, h4, fun c hc => ⟨hc, h5 c (hS.pers_lt hc)⟩, fun c hc => h5 c (hS.fr_lt hc), fun _ _ => rfl⟩
  rcases h6 with ⟨rfl, rfl⟩ | ⟨hn, ho, hb⟩
  · exact hD.add (x := .nils) RB.nils rfl (fun d hd => by cases hd)
  · unfold accV
    rw [if_neg hn]
    have ho' : OwnS g.pers w' 1 (bytesV acc) v := ownS_bytes ho
    obtain ⟨a, cap, arr, e, rfl, hr⟩ := ho'
    refine hD.newOwn ?_ hr.2.2.1.lt ⟨a, cap, arr, e, rfl, hr⟩
    have hge := hb _ rfl
    have := hS.world h4 h5
    rw [hS.drop.total_world h5]
    exact hS.drop.out _ hge
theorem bytes_of_intsB : ∀ {xs : List (List V)} {l : List Int}, intsB xs = some l → xs = bytesV l
  | [], l, h => by cases h; rfl
  | x :: r, l, h => by
    unfold intsB at h
    split at h
    · rename_i e; cases e
    · rename_i n r' e
      cases e
      rw [Option.map_eq_some_iff] at h
      obtain ⟨s, hs, rfl⟩ := h
      rw [bytes_of_intsB hs]; rfl
    · cases h
theorem scr_calls {l : List Int} {x : V} (hx : (x = .nils ∧ l = []) ∨ x = .slice false 1 (bytesV l)) (hl : Byts l) (hm : l.length * 2 ≤ most) (m : List (List V)) :
    CallOK Go.Proofs.Try.prog 18 [x] m (accV (screenB l)) m := by
  intro g w fr vs hsz hok hS
  obtain ⟨v0, rfl⟩ : ∃ v0, vs = #[v0] := by
    have : vs.size = 1 := hsz
    refine ⟨vs[0], ?_⟩
    apply Array.ext
    · simpa using this
    · intro i h1 h2
      have : i = 0 := by omega
      subst this; rfl
  have hS : SR g w 0 fr (fun _ => false) ⟨fun _ => .undef, fun _ => [], m⟩ #[] [(x, v0)] := hS
  have hr := hS.pend _ (.head _)
  have fin : ∀ (e : Ending) (w' : World), (∃ v, e = .returned v ∧ w'.os = w.os ∧ w'.tape = w.tape ∧ w'.output = w.output ∧ w.heap.size ≤ w'.heap.size ∧ (∀ c, c < w.heap.size → Same w w' c) ∧
      AccV w w' ((List.range ((l.length + 511) / 512)).flatMap fun x => frX (partX l x)) v) → ∃ v g', e = .returned v ∧ SR g' w' 0 fr (fun _ => false) ⟨fun _ => .undef, fun _ => [], m⟩ #[] [(accV (screenB l), v)] ∧
      Ext fr m.length g w g' w' ∧ m.length ≤ m.length ∧ (∀ x, (accV (screenB l)).root? ≠ some x) ∧ ∀ j o, accV (screenB l) ≠ .loc j o := by
    rintro e w' ⟨v, rfl, h1, h2, h3, h4, h5, h6⟩
    rw [← screenB_is] at h6
    obtain ⟨q1, q2⟩ := scr_end hS h1 h2 h3 h4 h5 h6
    exact ⟨v, g, rfl, q1, q2, Nat.le_refl _, fun x => by unfold accV; split <;> simp [V.root?], fun j o => by unfold accV; split <;> simp⟩
  have hmost : most = 4294967296 := rfl
  rcases hx with ⟨rfl, rfl⟩ | rfl
  · have hr : RB g.pers w .nils v0 := hr
    cases hr
    exact (screen_core w none 0 ⟨0, 0, none⟩ [] hl hm (fun h => absurd rfl h) (fun i hi => by cases hi) (fun w1 Bs Bn h1 h2 h3 h4 => chunk_stops0 Fence.wide 8 trivial rfl (by omega) Bs Bn _ w1 h1 h3)).mono fin
  · have hr : RB g.pers w (.slice false 1 (bytesV l)) v0 := hr
    rw [RB.slice_iff] at hr
    obtain ⟨a, cap, rfl, hs, hp, hc, hz, he⟩ := hr
    have hlen : (bytesV l).length = l.length := by simp [bytesV]
    rw [hlen] at hc ⊢
    have hne : l ≠ [] → 0 < l.length := fun h => List.length_pos_iff.2 h
    refine (screen_core w (some a) cap a l hl hm (fun h => ⟨hs (by have := hne h; omega), hS.pers_lt (hp (by have := hne h; omega))⟩) (fun i hi => ?_) (fun w1 Bs Bn h1 h2 h3 h4 => ?_)).mono fin
    · obtain ⟨v, hv, hr⟩ := he i 0 (by rw [hlen]; exact hi) (by omega)
      rw [bytesV_getD hi (by omega)] at hr
      cases hr
      rw [show a.off + (i * 1 + 0) = a.off + i by omega] at hv
      exact hv
    · exact chunk_stops Fence.wide 8 trivial rfl (by omega) Bs Bn a l.length cap hc (by omega) w1 h1 h2 h3 h4
theorem good_scr : Good Go.Proofs.Try.prog scrX := by
  intro f args m r m' h
  unfold scrX at h
  split at h
  · simp only [Option.some.injEq, Prod.mk.injEq] at h
    obtain ⟨rfl, rfl⟩ := h
    exact ⟨⟨_, Go.Proofs.Try.func18, rfl, rfl⟩, scr_calls (l := []) (.inl ⟨rfl, rfl⟩) (fun _ h => by cases h) (by simp) m⟩
  · rename_i xs
    split at h
    · rename_i l hl
      split at h
      · rename_i hc
        have hb : Byts l := fun x hx => by have := List.all_eq_true.1 hc.1 x hx; simpa using this
        have hr : r = accV (screenB l) ∧ m' = m := by
          split at h
          · simp only [Option.some.injEq, Prod.mk.injEq] at h
            obtain ⟨rfl, rfl⟩ := h
            exact ⟨rfl, rfl⟩
          · rename_i hn
            simp only [Option.some.injEq, Prod.mk.injEq] at h
            obtain ⟨rfl, rfl⟩ := h
            refine ⟨?_, rfl⟩
            unfold accV
            rw [if_neg (fun e => hn (screen_nil.1 e))]
        obtain ⟨rfl, rfl⟩ := hr
        rw [bytes_of_intsB hl]
        exact ⟨⟨_, Go.Proofs.Try.func18, rfl, rfl⟩, scr_calls (.inr rfl) hb hc.2 m'⟩
      · cases h
    · cases h
  · cases h
theorem FT_ok : TableOK Go.Proofs.Try.prog FT := tableOf_ok codes_ok good_scr
end Go.Proofs.Ytgglgcehiolpcaa.Am.Frame

namespace Go.Proofs.Ytgglgcehiolpcaa.Am
inductive Fits (P : Program) : TypeId → List V → Prop
  | bool {t : TypeId} (b : Bool) (h : P.underlying t = some .bool) : Fits P t [.bool b]
  | int {t : TypeId} {k : IntKind} (n : Int) (h : P.underlying t = some (.int k)) (hn : (Lit.int k n).wf = true) : Fits P t [.int k n]
  | str {t : TypeId} (s : List UInt8) (h : P.underlying t = some .string) (hs : s.length ≤ maxLen) : Fits P t [.str s]
  | nils {t e : TypeId} (h : P.underlying t = some (.slice e)) : Fits P t [.nils]
  | slice {t e : TypeId} (xs : List (List V)) (h : P.underlying t = some (.slice e)) (hl : xs.length ≤ maxLen) (hx : ∀ i, i < xs.length → Fits P e (xs.getD i [])) : Fits P t [.slice false (P.cellsOf e) xs]
  | struct {t : TypeId} {fs : Array Field} (cs : List V) (h : P.underlying t = some (.struct fs)) (hl : cs.length = P.cellsOf t) (hf : ∀ f ∈ fs.toList, Fits P f.type ((cs.drop f.offset).take (P.cellsOf f.type))) : Fits P t cs
  | array {t e : TypeId} {n : Nat} (cs : List V) (h : P.underlying t = some (.array n e)) (hl : cs.length = P.cellsOf t) (hf : ∀ i, i < n → Fits P e ((cs.drop (i * P.cellsOf e)).take (P.cellsOf e))) : Fits P t cs
def tiles (P : Program) : Nat → List Field → Nat → Bool
  | n, [], m => n == m
  | n, f :: fs, m => f.offset == n && tiles P (n + P.cellsOf f.type) fs m
def supT (P : Program) : Nat → TypeId → Bool
  | 0, _ => false
  | d + 1, t => match P.underlying t with
    | some .bool | some (.int _) | some .string => P.cellsOf t == 1
    | some (.slice e) => P.cellsOf t == 1 && decide (0 < P.cellsOf e) && supT P d e
    | some (.struct fs) => tiles P 0 fs.toList (P.cellsOf t) && fs.toList.all fun f => supT P d f.type
    | some (.array n e) => P.cellsOf t == n * P.cellsOf e && supT P d e
    | _ => false
section
variable {P : Program} {H : Type} {enc : TypeId × Value → H} {W : World}
def blocksOf (W : World) : Nat → Prop := fun c => c < W.heap.size
theorem cell_block {a : Addr} {v : Value} (h : W.cell? a = some v) : a.block < W.heap.size ∧ a.spot = none := by
  unfold World.cell? at h
  cases hb : W.heap[a.block]? with
  | none => rw [hb] at h; cases h
  | some o =>
    rw [hb] at h
    refine ⟨(Array.getElem?_eq_some_iff.1 hb).1, ?_⟩
    cases o with
    | cells c _ _ =>
      simp only at h
      split at h
      · cases h
      · rename_i hs; simpa using hs
    | _ => cases h
def Reads (P : Program) (W : World) (t : TypeId) (cs : List Value) : Prop :=
  ∃ vs : List V, vs.length = cs.length ∧ Fits P t vs ∧ ∀ k, k < cs.length → RB (blocksOf W) W (vs.getD k .undef) (cs.getD k undef)
theorem trod_array {n : Nat} {e t : TypeId} {base fuel : Nat} {sp : Nat → Bool} {held : Bool} {cs : List Value} {x : DataW H × List MemPlace} (ht : P.underlying t = some (.array n e)) (h : DataW.trod enc P W base sp held fuel t cs = some x) :
    cs.length = P.cellsOf t ∧ ∃ m, ∀ i, i < n → ∃ y, DataW.trod enc P W base sp held m e ((cs.drop (i * P.cellsOf e)).take (P.cellsOf e)) = some y := by
  cases fuel with
  | zero => simp [DataW.trod] at h
  | succ m =>
    unfold DataW.trod at h
    rw [ht] at h
    split at h <;> simp_all
    obtain ⟨hl, xs, hp, hd⟩ := h
    refine ⟨m, fun i hi => ?_⟩
    have h1 := mapM_some_length hp
    have h2 := mapM_some_get hp i i (by simp [hi])
    simp only [List.length_range] at h1
    rw [List.getElem?_eq_getElem (by omega)] at h2
    exact ⟨_, _, h2⟩
def RBs (W : World) (vs : List V) (cs : List Value) : Prop := vs.length = cs.length ∧ ∀ k, k < cs.length → RB (blocksOf W) W (vs.getD k .undef) (cs.getD k undef)
theorem RBs.append {vs us : List V} {cs ds : List Value} (h : RBs W vs cs) (k : RBs W us ds) : RBs W (vs ++ us) (cs ++ ds) := by
  refine ⟨by simp [h.1, k.1], fun i hi => ?_⟩
  simp only [List.getD_eq_getElem?_getD]
  have h1 := h.1
  by_cases hlt : i < cs.length
  · have := h.2 i hlt
    simp only [List.getD_eq_getElem?_getD] at this
    rw [List.getElem?_append_left (by omega), List.getElem?_append_left hlt]; exact this
  · rw [List.length_append] at hi
    have := k.2 (i - cs.length) (by omega)
    simp only [List.getD_eq_getElem?_getD] at this
    rw [List.getElem?_append_right (by omega), List.getElem?_append_right (by omega), h1]; exact this
theorem reads_iff {t : TypeId} {cs : List Value} : Reads P W t cs ↔ ∃ vs, Fits P t vs ∧ RBs W vs cs :=
  ⟨fun ⟨vs, a, b, c⟩ => ⟨vs, b, a, c⟩, fun ⟨vs, b, a, c⟩ => ⟨vs, a, b, c⟩⟩
theorem fields_of {cs : List Value} : ∀ {fs : List Field} {n m : Nat}, tiles P n fs m = true → m ≤ cs.length → (∀ f ∈ fs, Reads P W f.type ((cs.drop f.offset).take (P.cellsOf f.type))) →
    n ≤ m ∧ ∃ vs, RBs W vs ((cs.drop n).take (m - n)) ∧ ∀ f ∈ fs, n ≤ f.offset ∧ Fits P f.type ((vs.drop (f.offset - n)).take (P.cellsOf f.type))
  | [], n, m, ht, hm, _ => by
    have : n = m := by simpa [tiles] using ht
    subst this
    exact ⟨Nat.le_refl _, [], ⟨by simp, fun k hk => absurd hk (by simp)⟩, fun f hf => by cases hf⟩
  | f :: fs, n, m, ht, hm, hr => by
    simp only [tiles, Bool.and_eq_true, beq_iff_eq] at ht
    obtain ⟨h0, ht⟩ := ht
    obtain ⟨hle, vs, hvs, hfs⟩ := fields_of ht hm fun g hg => hr g (.tail _ hg)
    obtain ⟨us, hfit, hus⟩ := reads_iff.1 (hr f (.head _))
    rw [h0] at hus
    have hul : us.length = P.cellsOf f.type := by rw [hus.1]; simp; omega
    have hsplit : (cs.drop n).take (m - n) = (cs.drop n).take (P.cellsOf f.type) ++ (cs.drop (n + P.cellsOf f.type)).take (m - (n + P.cellsOf f.type)) := by
      rw [← List.drop_drop, ← List.take_add]
      congr 1
      omega
    refine ⟨by omega, us ++ vs, by rw [hsplit]; exact hus.append hvs, fun g hg => ?_⟩
    cases hg with
    | head =>
      refine ⟨by omega, ?_⟩
      rw [h0, Nat.sub_self, List.drop_zero, List.take_append_of_le_length (by omega), List.take_of_length_le (by omega)]
      exact hfit
    | tail _ hg =>
      obtain ⟨h1, h2⟩ := hfs g hg
      refine ⟨by omega, ?_⟩
      rw [List.drop_append, List.drop_eq_nil_of_le (by omega), List.nil_append, hul]
      rw [show g.offset - n - P.cellsOf f.type = g.offset - (n + P.cellsOf f.type) from by omega]
      exact h2
theorem elems_of {cs : List Value} {e : TypeId} : ∀ {n : Nat}, n * P.cellsOf e ≤ cs.length → (∀ i, i < n → Reads P W e ((cs.drop (i * P.cellsOf e)).take (P.cellsOf e))) →
    ∃ vs, RBs W vs (cs.take (n * P.cellsOf e)) ∧ ∀ i, i < n → Fits P e ((vs.drop (i * P.cellsOf e)).take (P.cellsOf e))
  | 0, _, _ => ⟨[], ⟨by simp, fun k hk => absurd hk (by simp)⟩, fun i hi => absurd hi (by omega)⟩
  | n + 1, hn, hr => by
    have hs : (n + 1) * P.cellsOf e = n * P.cellsOf e + P.cellsOf e := Nat.succ_mul _ _
    obtain ⟨vs, hvs, hfs⟩ := elems_of (n := n) (by omega) fun i hi => hr i (by omega)
    obtain ⟨us, hfit, hus⟩ := reads_iff.1 (hr n (by omega))
    have hvl : vs.length = n * P.cellsOf e := by rw [hvs.1]; simp; omega
    have hul : us.length = P.cellsOf e := by rw [hus.1]; simp; omega
    refine ⟨vs ++ us, by rw [hs, List.take_add]; exact hvs.append hus, fun i hi => ?_⟩
    by_cases hin : i = n
    · subst hin
      rw [List.drop_append, List.drop_eq_nil_of_le (by omega), List.nil_append, hvl, Nat.sub_self, List.drop_zero, List.take_of_length_le (by omega)]
      exact hfit
    · have h1 := hfs i (by omega)
      have h2 : i * P.cellsOf e + P.cellsOf e ≤ n * P.cellsOf e := by rw [← Nat.succ_mul]; exact Nat.mul_le_mul_right _ (by omega)
      rw [List.drop_append_of_le_length (by omega), List.take_append_of_le_length (by simp; omega)]
      exact h1
theorem list_choose {α : Type} {n : Nat} {p : Nat → α → Prop} (h : ∀ i, i < n → ∃ x, p i x) : ∃ l : List α, l.length = n ∧ ∀ i x, l[i]? = some x → p i x := by
  induction n with
  | zero => exact ⟨[], rfl, fun i x hx => by simp at hx⟩
  | succ n ih =>
    obtain ⟨l, hl, hp⟩ := ih fun i hi => h i (by omega)
    obtain ⟨x, hx⟩ := h n (by omega)
    refine ⟨l ++ [x], by simp [hl], fun i y hy => ?_⟩
    by_cases hi : i < l.length
    · rw [List.getElem?_append_left hi] at hy; exact hp i y hy
    · rw [List.getElem?_append_right (by omega)] at hy
      have : i - l.length = 0 := by
        rcases Nat.eq_zero_or_pos (i - l.length) with h0 | h0
        · exact h0
        · rw [List.getElem?_eq_none (by simp; omega)] at hy; cases hy
      rw [this] at hy
      simp only [List.getElem?_cons_zero, Option.some.injEq] at hy
      subst hy
      have : i = n := by omega
      subst this; exact hx
theorem reads_of : ∀ {d : Nat} {t : TypeId}, supT P d t = true → ∀ {fuel : Nat} {held : Bool} {cs : List Value} {x : DataW H × List MemPlace}, DataW.trod enc P W 0 (fun _ => true) held fuel t cs = some x → Reads P W t cs := by
  intro d
  induction d with
  | zero => intro t h; cases h
  | succ d ih =>
    intro t h fuel held cs x hx
    simp only [supT] at h
    split at h
    · rename_i ht
      obtain ⟨b, rfl, _⟩ := DataW.trod_bool ht hx
      exact ⟨[.bool b], rfl, .bool b ht, fun k hk => by
        have : k = 0 := by simpa using hk
        subst this; exact .bool b⟩
    · rename_i kk ht
      obtain ⟨n, rfl, _, hwf⟩ := DataW.trod_int ht hx
      exact ⟨[.int kk n], rfl, .int n ht hwf, fun k hk => by
        have : k = 0 := by simpa using hk
        subst this; exact .int kk n⟩
    · rename_i ht
      obtain ⟨s, rfl, _, hs⟩ := DataW.trod_string ht hx
      exact ⟨[.str s.data.toList], rfl, .str _ ht (by simpa using hs), fun k hk => by
        have : k = 0 := by simpa using hk
        subst this; exact .str s⟩
    · rename_i e ht
      simp only [Bool.and_eq_true, beq_iff_eq, decide_eq_true_eq] at h
      obtain ⟨⟨_, hpos⟩, hsup⟩ := h
      rcases DataW.trod_slice ht hx with ⟨rfl, _⟩ | ⟨a, len, cap, elems, rest, n, _, rfl, _, _, hlc, hcap, hel, he, hre, _⟩
      · exact ⟨[.nils], rfl, .nils ht, fun k hk => by
          have : k = 0 := by simpa using hk
          subst this; exact .nils⟩
      · have hone : ∀ i, i < len → ∃ vs : List V, Fits P e vs ∧ vs.length = P.cellsOf e ∧ ∀ k, k < P.cellsOf e → ∃ v, W.cell? ((a.add (i * P.cellsOf e)).add k) = some v ∧ RB (blocksOf W) W (vs.getD k .undef) v := fun i hi => by
          have h1 := he i hi
          rw [List.getElem?_eq_getElem (by omega)] at h1
          simp only [Option.bind_eq_some_iff] at h1
          obtain ⟨cs', hc1, hc2⟩ := h1
          obtain ⟨_, hl, hc⟩ := World.cells?_some hc1
          obtain ⟨vs, hf, hr⟩ := reads_iff.1 (ih hsup hc2)
          refine ⟨vs, hf, by rw [hr.1, hl], fun k hk => ⟨cs'.getD k undef, ?_, hr.2 k (by omega)⟩⟩
          rw [hc k hk, List.getD_eq_getElem?_getD, List.getElem?_eq_getElem (by omega)]; rfl
        obtain ⟨xs, hxl, hxs⟩ := list_choose hone
        have hxs' : ∀ i, i < xs.length → Fits P e (xs.getD i []) ∧ (xs.getD i []).length = P.cellsOf e ∧ ∀ k, k < P.cellsOf e → ∃ v, W.cell? ((a.add (i * P.cellsOf e)).add k) = some v ∧ RB (blocksOf W) W ((xs.getD i []).getD k .undef) v := fun i hi => by
          rw [List.getD_eq_getElem?_getD, List.getElem?_eq_getElem hi]
          exact hxs i _ (List.getElem?_eq_getElem hi)
        have hblk : 0 < cap → a.block < W.heap.size ∧ a.spot = none := fun hc0 => by
          have h00 : (a.add (0 * P.cellsOf e)).add 0 = a := by simp [Addr.add]
          have hcell : ∃ v, W.cell? a = some v := by
            by_cases h0 : 0 < len
            · obtain ⟨v, hv, _⟩ := (hxs' 0 (by omega)).2.2 0 hpos
              rw [h00] at hv
              exact ⟨v, hv⟩
            · have h1 := (hre rfl).2 0 (by omega)
              have h2 := (hre rfl).1
              have hl0 : len = 0 := by omega
              subst hl0
              rw [List.getElem?_eq_getElem (by omega)] at h1
              simp only [Option.bind_eq_some_iff] at h1
              obtain ⟨cs', hc1, _⟩ := h1
              obtain ⟨_, hl, hc⟩ := World.cells?_some hc1
              have h3 := hc 0 hpos
              rw [Nat.add_zero, h00, List.getElem?_eq_getElem (by omega)] at h3
              exact ⟨_, h3⟩
          obtain ⟨v, hv⟩ := hcell
          exact cell_block hv
        refine ⟨[.slice false (P.cellsOf e) xs], rfl, .slice xs ht (by omega) (fun i hi => (hxs' i hi).1), fun k hk => ?_⟩
        have : k = 0 := by simpa using hk
        subst this
        simp only [List.getD_cons_zero]
        refine RB.slice_iff.2 ⟨a, cap, by rw [hxl], fun hc0 => (hblk hc0).2, fun hc0 => (hblk hc0).1, by omega, fun i hi => (hxs' i hi).2.1, fun i k hi hk => ?_⟩
        obtain ⟨v, hv, hr⟩ := (hxs' i hi).2.2 k hk
        refine ⟨v, ?_, hr⟩
        have hsp := (hblk (by omega)).2
        rw [addr_add hsp, addr_add rfl] at hv
        rw [← hv]
        simp [Nat.add_assoc]
    · rename_i fs ht
      simp only [Bool.and_eq_true, List.all_eq_true] at h
      obtain ⟨htile, hall⟩ := h
      obtain ⟨xs, n, _, _, hl, hxl, hf⟩ := DataW.trod_struct ht hx
      obtain ⟨_, vs, hvs, hfs⟩ := fields_of (P := P) (W := W) (cs := cs) htile (by omega) fun f hfm => by
        obtain ⟨i, hi⟩ := List.getElem?_of_mem hfm
        have hi' : i < fs.size := by have := (List.getElem?_eq_some_iff.1 hi).1; simpa using this
        have h1 := hf i f (by simpa using hi)
        rw [List.getElem?_eq_getElem (by omega)] at h1
        exact ih (hall f hfm) h1
      rw [List.drop_zero, Nat.sub_zero, List.take_of_length_le (by omega)] at hvs
      exact reads_iff.2 ⟨vs, .struct vs ht (by rw [hvs.1, hl]) (fun f hfm => by simpa using (hfs f hfm).2), hvs⟩
    · rename_i n e ht
      simp only [Bool.and_eq_true, beq_iff_eq] at h
      obtain ⟨hsz, hsup⟩ := h
      obtain ⟨hl, m, hm⟩ := trod_array ht hx
      obtain ⟨vs, hvs, hfs⟩ := elems_of (P := P) (W := W) (cs := cs) (e := e) (n := n) (by omega) fun i hi => by
        obtain ⟨y, hy⟩ := hm i hi
        exact ih hsup hy
      rw [List.take_of_length_le (by omega)] at hvs
      exact reads_iff.2 ⟨vs, .array vs ht (by rw [hvs.1, hl]) hfs, hvs⟩
    · cases h
end
end Go.Proofs.Ytgglgcehiolpcaa.Am

namespace Go.Proofs.Ytgglgcehiolpcaa.Am
section
variable {P : Program} {W : World}
inductive ArgOK (W : World) : V → Value → Prop
  | leaf {x : V} {v : Value} (h : RB (blocksOf W) W x v) : ArgOK W x v
  | agg (cs : List V) (arr : Array Value) (hs : arr.size = cs.length) (h : ∀ k, k < cs.length → RB (blocksOf W) W (cs.getD k .undef) (arr.getD k undef)) : ArgOK W (.agg cs) (.agg arr)
def g0 (W : World) : G := ⟨id, id, fun _ => False, blocksOf W⟩
theorem RB.toR1 {x : V} {v : Value} (h : RB (blocksOf W) W x v) : R1 (g0 W) W 0 x v := by
  cases h with
  | func f => exact ⟨#[], rfl, rfl, fun k hk => absurd hk (by simp)⟩
  | bool b => exact RB.bool b
  | int k n => exact RB.int k n
  | str b => exact RB.str b
  | nilp => exact RB.nilp
  | nils => exact RB.nils
  | nilf => exact RB.nilf
  | nili => exact RB.nili
  | slice sz xs a cap vs hs hp hc hz hv hr => exact RB.slice sz xs a cap vs hs hp hc hz hv hr
theorem RB.ok0 {x : V} {v : Value} (h : RB (blocksOf W) W x v) : x.ok0 = true := by
  cases h <;> rfl
theorem RB.cnt {x : V} {v : Value} (h : RB (blocksOf W) W x v) (c : Nat) : cnt0 c x v = 0 := by
  cases h <;> rfl
theorem ArgOK.r3 {x : V} {v : Value} (h : ArgOK W x v) (τ : Nat → Value) : R3 (g0 W) W 0 τ x v := by
  cases h with
  | leaf h =>
    have h1 := h.toR1
    cases h <;> exact h1
  | agg cs arr hs h => exact ⟨arr, rfl, hs, fun k hk => ⟨.inl (h k hk).ok0, (h k hk).toR1⟩⟩
theorem ArgOK.okArg {x : V} {v : Value} (h : ArgOK W x v) : x.okArg = true := by
  cases h with
  | leaf h => cases h <;> rfl
  | agg cs arr hs h =>
    simp only [V.okArg, List.all_eq_true]
    intro y hy
    obtain ⟨k, hk, rfl⟩ := List.getElem_of_mem hy
    have := (h k hk).ok0
    rwa [List.getD_eq_getElem?_getD, List.getElem?_eq_getElem hk] at this
theorem ArgOK.cnt {x : V} {v : Value} (h : ArgOK W x v) (c : Nat) : cnt2 c x v = 0 := by
  cases h with
  | leaf h =>
    have h1 := h.cnt c
    cases h <;> exact h1
  | agg cs arr hs h => exact sumTo_zero fun k hk => (h k hk).cnt c
theorem start {args : List V} {vs : Array Value} (hl : args.length = vs.toList.length) (ha : ∀ k, k < args.length → ArgOK W (args.getD k .undef) (vs.toList.getD k undef)) :
    SR (g0 W) W 0 (fun _ => 0) (fun _ => false) ⟨fun _ => .undef, fun _ => [], []⟩ #[] (args.zip vs.toList) := by
  have hmem : ∀ p ∈ args.zip vs.toList, ArgOK W p.1 p.2 := fun p hp => by
    obtain ⟨k, hk, rfl⟩ := List.getElem_of_mem hp
    have hk' : k < args.length := by simp at hk; omega
    have h1 := ha k hk'
    simp only [List.getElem_zip]
    rw [List.getD_eq_getElem?_getD, List.getElem?_eq_getElem hk', List.getD_eq_getElem?_getD, List.getElem?_eq_getElem (by omega)] at h1
    exact h1
  have hcP : ∀ c, cntP c (args.zip vs.toList) = 0 := fun c => by
    rw [cntP_zip hl]; exact sumTo_zero fun k hk => (ha k hk).cnt c
  have hT : ∀ c, total (g0 W) W 0 (fun _ => 0) ⟨fun _ => .undef, fun _ => [], []⟩ #[] (args.zip vs.toList) c = persOf (g0 W) c := fun c => by
    have e1 : cntT c (fun _ => V.undef) #[] = 0 := rfl
    have e2 : cntB (g0 W) W c 0 (fun _ => []) = 0 := rfl
    have e3 : cntM (g0 W) W c [] = 0 := rfl
    unfold total
    simp only [e1, e2, e3, hcP]
    omega
  refine ⟨fun s => trivial, fun s _ => rfl, fun s d hd => (by cases hd), fun p hp => (hmem p hp).r3 _, fun p hp d hd => ?_, fun j => by simp [g0], fun j hj => absurd rfl hj, fun b hb => absurd hb (by simp), fun c => ?_, fun c hc => ?_⟩
  · obtain ⟨b, o, e⟩ := okArg_root (hmem p hp).okArg hd; cases e
  · rw [hT]; unfold persOf; split <;> omega
  · rw [hT]; unfold persOf
    rw [if_neg]
    show ¬ (c < W.heap.size)
    omega
theorem law_calls {T : Table} (hT : TableOK P T) {f : Nat} {args : List V} {m' : List (List V)} {vs : Array Value} {b : Bool} (hret : RF T f args [] = some (.bool b, m')) (hl : args.length = vs.toList.length)
    (ha : ∀ k, k < args.length → ArgOK W (args.getD k .undef) (vs.toList.getD k undef)) : Calls P f vs W fun e W' => e = .returned (.bool b) ∧ RowKit.Below W.heap.size W W' := by
  obtain ⟨_, hcall⟩ := ret_sound hT (RF_ret.1 hret)
  have hok : args.all V.okArg = true := List.all_eq_true.2 fun y hy => by
    obtain ⟨k, hk, rfl⟩ := List.getElem_of_mem hy
    have := (ha k hk).okArg
    rwa [List.getD_eq_getElem?_getD, List.getElem?_eq_getElem hk] at this
  refine (hcall (g0 W) W (fun _ => 0) vs (by simpa using hl.symm) hok (start hl ha)).mono fun e W' ⟨v, g', he, hS, hE, _⟩ => ?_
  have hv : v = .bool b := R3.bool (hS.pend _ (.head _))
  exact ⟨by rw [he, hv], hE.os, hE.tape, hE.output, hE.size, fun k hk => (hE.pers k hk).2⟩
def FitsV (P : Program) (t : TypeId) (x : V) : Prop :=
  match P.underlying t with
  | some (.struct _) | some (.array _ _) => ∃ cs, x = .agg cs ∧ Fits P t cs
  | _ => Fits P t [x]
section
variable {H : Type} {enc : TypeId × Value → H}
theorem arg_of {d : Nat} {t : TypeId} (hsup : supT P d t = true) {v : Value} {dd : DataW H} {ps : List MemPlace} {base : Nat} (hval : Value.okWide P W .any base t v) (h : DataW.Trod enc P W 0 (fun _ => true) true t v dd ps) :
    ∃ x, FitsV P t x ∧ ArgOK W x v := by
  obtain ⟨fuel, h⟩ := h
  obtain ⟨cs, hfit, hr⟩ := reads_iff.1 (reads_of hsup h)
  have agg : ∀ arr : Array Value, v = .agg arr → ArgOK W (.agg cs) v := fun arr e => by
    subst e
    have hc : (Value.agg arr).cells = arr := rfl
    rw [hc] at hr
    refine .agg cs arr (by have := hr.1; simpa using this.symm) fun k hk => ?_
    have := hr.2 k (by rw [← hr.1]; exact hk)
    rwa [array_toList_getD] at this
  have leaf : (∀ arr, v ≠ .agg arr) → cs.length = 1 → ∃ x, cs = [x] ∧ ArgOK W x v := fun hv h1 => by
    match cs, h1 with
    | [x], _ =>
      refine ⟨x, rfl, .leaf ?_⟩
      rw [cells_leaf hv] at hr
      exact hr.2 0 (by simp)
  unfold FitsV
  unfold Value.okWide at hval
  cases hu : P.underlying t with
  | none => cases hfit <;> simp_all
  | some ud =>
    rw [hu] at hval
    cases ud with
    | struct fs => obtain ⟨arr, e, _⟩ := hval; exact ⟨.agg cs, ⟨cs, rfl, hfit⟩, agg arr e⟩
    | array n e => obtain ⟨arr, e, _⟩ := hval; exact ⟨.agg cs, ⟨cs, rfl, hfit⟩, agg arr e⟩
    | _ =>
      simp only at hval ⊢
      have h1 : cs.length = 1 := by cases hfit <;> first | rfl | simp_all
      have h2 : ∀ arr, v ≠ .agg arr := fun arr e => by
        subst e
        simp only [Cell.okWide, Cell.ok, hu] at hval
      obtain ⟨x, rfl, hx⟩ := leaf h2 h1
      exact ⟨x, hfit, hx⟩
theorem args_of {d : Nat} : ∀ {ts : List TypeId} {vs : List Value} {ds : List (DataW H)} {ps : List MemPlace} {base : Nat}, ts.all (supT P d) = true → (∀ (j : Nat) (t : TypeId) (v : Value), ts[j]? = some t → vs[j]? = some v → Value.okWide P W .any base t v) →
    DataW.TrodAll enc P W 0 (fun _ => true) true ts vs ds ps → ∃ args : List V, args.length = vs.length ∧ ts.length = vs.length ∧ (∀ (j : Nat) (t : TypeId), ts[j]? = some t → FitsV P t (args.getD j .undef)) ∧ ∀ k, k < args.length → ArgOK W (args.getD k .undef) (vs.getD k undef)
  | [], vs, ds, ps, base, _, _, h => by
    obtain ⟨rfl, rfl, rfl⟩ := ChangeShapes.trodAll_nil h
    exact ⟨[], rfl, rfl, fun j t hj => by simp at hj, fun k hk => absurd hk (by simp)⟩
  | t :: ts, vs, ds, ps, base, hsup, hval, h => by
    obtain ⟨v, vs', dd, ds', p, q, rfl, rfl, rfl, h0, r0⟩ := ChangeShapes.trodAll_cons h
    simp only [List.all_cons, Bool.and_eq_true] at hsup
    obtain ⟨x, hx1, hx2⟩ := arg_of hsup.1 (hval 0 t v rfl rfl) h0
    obtain ⟨args, h1, h2, h3, h4⟩ := args_of hsup.2 (fun j t v hj hv => hval (j + 1) t v hj hv) r0
    refine ⟨x :: args, by simp [h1], by simp [h2], fun j t' hj => ?_, fun k hk => ?_⟩
    · cases j with
      | zero => simp only [List.getElem?_cons_zero, Option.some.injEq] at hj; subst hj; exact hx1
      | succ j => exact h3 j t' hj
    · cases k with
      | zero => exact hx2
      | succ k => exact h4 k (by simpa using hk)
theorem args_stay (hl : laidOutB P = true) {W' : World} {sp : Nat → Bool} : ∀ {ts : List TypeId} {vs : List Value} {ds : List (DataW H)} {ps : List MemPlace}, (ts.all fun t => P.readableRec t && decide (t < P.types.size)) = true →
    DataW.TrodAll enc P W 0 (fun _ => true) true ts vs ds ps → (∀ p ∈ ps, W.sameAt W' p) → (∀ p ∈ ps, sp p.block = true) → DataW.TrodAll enc P W' 0 sp true ts vs ds ps
  | [], vs, ds, ps, _, h, _, _ => by
    obtain ⟨rfl, rfl, rfl⟩ := ChangeShapes.trodAll_nil h
    exact rfl
  | t :: ts, vs, ds, ps, hr, h, hs, hsp => by
    obtain ⟨v, vs', dd, ds', p, q, rfl, rfl, rfl, h0, r0⟩ := ChangeShapes.trodAll_cons h
    simp only [List.all_cons, Bool.and_eq_true, decide_eq_true_eq] at hr
    exact trodAll_cons_mk (WideElems.Trod_stays hl hr.1.1 hr.1.2 h0 (fun x hx => hs x (List.mem_append_left _ hx)) (fun x hx => hsp x (List.mem_append_left _ hx)))
      (args_stay hl hr.2 r0 (fun x hx => hs x (List.mem_append_right _ hx)) (fun x hx => hsp x (List.mem_append_right _ hx)))
theorem trodAll_len : ∀ {ts : List TypeId} {vs : List Value} {ds : List (DataW H)} {ps : List MemPlace}, DataW.TrodAll enc P W 0 (fun _ => true) true ts vs ds ps → ds.length = ts.length
  | [], vs, ds, ps, h => by obtain ⟨rfl, rfl, rfl⟩ := ChangeShapes.trodAll_nil h; rfl
  | t :: ts, vs, ds, ps, h => by
    obtain ⟨v, vs', dd, ds', p, q, rfl, rfl, rfl, h0, r0⟩ := ChangeShapes.trodAll_cons h
    simp [trodAll_len r0]
open ChangeShapes in
theorem post_of_below {f : Func} {s : ChangeSpec} {apart fresh handsOn again : Bool} {W W' : World} {args : Array Value} {v : Value} {ds gs : List (DataW H)} {before pa pv : List MemPlace}
    (hW : DataW.Whole enc P f.params.toList s.vars apart W args.toList ds gs before)
    (hres : ∀ (b : Nat) (sp : Nat → Bool) (hd : Bool), DataW.TrodAll enc P W' b sp hd f.resultTypes.toList (v.resultList f.resultTypes.size) (s.fn H (ds ++ gs)).results [])
    (hargs : ∀ sp : Nat → Bool, (∀ p ∈ before, sp p.block = true) → DataW.TrodAll enc P W' 0 sp true f.params.toList args.toList (s.fn H (ds ++ gs)).args pa)
    (hvars : ∀ sp : Nat → Bool, (∀ p ∈ before, sp p.block = true) → DataW.TrodVars enc P W' sp s.vars (s.fn H (ds ++ gs)).vars pv)
    (hps : before = pa ++ pv) (hb : RowKit.Below W.heap.size W W')
    (hok : ∀ (j : Nat) (t : TypeId) (r : Value), f.resultTypes[j]? = some t → (v.resultList f.resultTypes.size)[j]? = some r → Value.okWide P W' .any 0 t r) :
    s.post enc P f apart fresh handsOn again W args v W' := by
  have hlt : ∀ p ∈ before, p.block < W.heap.size := fun p hp => hW.lt p hp
  have hold : ∀ p ∈ before, (fun b => decide (b < W.heap.size)) p.block = true := fun p hp => by simpa using hlt p hp
  refine ⟨ds, gs, before, [], pa, pv, hW, hres _ _ _, hargs _ hold, hvars _ hold, World.keptBut_mono (fun p hp => ⟨hp, ?_⟩) (hb.frame (· ∈ before)), fun _ => ?_⟩
  · rw [hps, List.mem_append] at hp
    exact Or.inr hp
  · obtain ⟨_, _, _, _, _, hz, hn⟩ := hW
    refine ⟨hok, _, _, ([] ++ pa) ++ pv, ⟨[] ++ pa, pv, trodAll_append (hargs _ (fun _ _ => rfl)) (hres _ _ _), hvars _ (fun _ _ => rfl), rfl, ?_, ?_⟩, ?_⟩
    · intro b off hp
      have hp' : MemPlace.cell b off ∈ before := by rw [hps]; simpa using hp
      rw [hb.frozen (p := ⟨b, off, none⟩) (hlt _ hp')]
      exact hz b off hp'
    · intro ha
      have := hn ha
      rw [hps] at this
      simpa using this
    · intro p hp _
      rw [hps]
      simpa using hp
end
end
end Go.Proofs.Ytgglgcehiolpcaa.Am

namespace Go.Proofs.Ytgglgcehiolpcaa.Am
def ints (xs : List Int) : List (List V) := xs.map fun n => [.int .i64 n]
inductive IV : V → List Int → Prop
  | nil : IV .nils []
  | sl (xs : List Int) : IV (.slice false 1 (ints xs)) xs
def boolL (xs : List Bool) : List (List V) := xs.map fun b => [.bool b]
inductive BV : V → List Bool → Prop
  | nil : BV .nils []
  | sl (xs : List Bool) : BV (.slice false 1 (boolL xs)) xs
section
variable {P : Program}
theorem fits_int {t : TypeId} {k : IntKind} (ht : P.underlying t = some (.int k)) {vs : List V} (h : Fits P t vs) : ∃ n, vs = [.int k n] ∧ (Lit.int k n).wf = true := by
  cases h <;> simp_all
theorem fits_bool {t : TypeId} (ht : P.underlying t = some .bool) {vs : List V} (h : Fits P t vs) : ∃ b, vs = [.bool b] := by
  cases h <;> simp_all
theorem fits_str {t : TypeId} (ht : P.underlying t = some .string) {vs : List V} (h : Fits P t vs) : ∃ s, vs = [.str s] ∧ s.length ≤ maxLen := by
  cases h <;> simp_all
theorem fits_slice {t e : TypeId} (ht : P.underlying t = some (.slice e)) {vs : List V} (h : Fits P t vs) : vs = [.nils] ∨ ∃ xs, vs = [.slice false (P.cellsOf e) xs] ∧ xs.length ≤ maxLen ∧ ∀ x ∈ xs, Fits P e x := by
  cases h with
  | nils => exact .inl rfl
  | slice xs h hl hx =>
    rw [ht] at h
    cases h
    refine .inr ⟨xs, rfl, hl, fun x hm => ?_⟩
    obtain ⟨i, hi, rfl⟩ := List.getElem_of_mem hm
    have := hx i hi
    rwa [List.getD_eq_getElem?_getD, List.getElem?_eq_getElem hi] at this
  | _ => simp_all
theorem list_of {α β : Type} {f : α → β} {Q : α → Prop} : ∀ {xs : List β}, (∀ x ∈ xs, ∃ a, f a = x ∧ Q a) → ∃ l : List α, xs = l.map f ∧ ∀ a ∈ l, Q a
  | [], _ => ⟨[], rfl, fun a h => (nomatch h)⟩
  | x :: xs, h => by
    obtain ⟨a, ha, hq⟩ := h x (.head _)
    obtain ⟨l, has, hqs⟩ := list_of (f := f) (Q := Q) fun y hy => h y (.tail _ hy)
    exact ⟨a :: l, by rw [List.map_cons, ha, has], fun b hb => by cases hb with | head => exact hq | tail _ hb => exact hqs b hb⟩
theorem fitsV_leaf {t : TypeId} {x : V} {d : TypeDesc} (ht : P.underlying t = some d) (h : FitsV P t x) (hs : ∀ fs, d ≠ .struct fs) (ha : ∀ n e, d ≠ .array n e) : Fits P t [x] := by
  unfold FitsV at h
  rw [ht] at h
  cases d <;> first | exact h | exact absurd rfl (hs _) | exact absurd rfl (ha _ _)
end
end Go.Proofs.Ytgglgcehiolpcaa.Am

namespace Go.Proofs.Ytgglgcehiolpcaa.Am
inductive LT where
  | bool
  | int (k : IntKind)
  | str
  | slice (e : TypeId)
  deriving DecidableEq
def leafsF (P : Program) (F : TypeId → Option (List LT)) : Nat → List Field → Option (List LT)
  | _, [] => some []
  | n, f :: fs => if f.offset = n ∧ (F f.type).map List.length = some (P.cellsOf f.type) then (F f.type).bind fun l => (leafsF P F (n + P.cellsOf f.type) fs).bind fun r => some (l ++ r) else none
def leafs (P : Program) : Nat → TypeId → Option (List LT)
  | 0, _ => none
  | d + 1, t => match P.underlying t with
    | some .bool => some [.bool]
    | some (.int k) => some [.int k]
    | some .string => some [.str]
    | some (.slice e) => some [.slice e]
    | some (.struct fs) => (leafsF P (leafs P d) 0 fs.toList).bind fun l => if l.length = P.cellsOf t then some l else none
    | some (.array n e) => (leafs P d e).bind fun l => if l.length = P.cellsOf e ∧ P.cellsOf t = n * P.cellsOf e then some (List.replicate n l).flatten else none
    | _ => none
def LV (P : Program) (l : LT) (v : V) : Prop :=
  match l with
  | .bool => ∃ b, v = .bool b
  | .int k => ∃ n, v = .int k n ∧ (Lit.int k n).wf = true
  | .str => ∃ s, v = .str s ∧ s.length ≤ maxLen
  | .slice e => v = .nils ∨ ∃ xs, v = .slice false (P.cellsOf e) xs ∧ xs.length ≤ maxLen ∧ ∀ x ∈ xs, Fits P e x
def LVs (P : Program) : List LT → List V → Prop
  | [], [] => True
  | l :: ls, v :: vs => LV P l v ∧ LVs P ls vs
  | _, _ => False
section
variable {P : Program}
theorem LVs.append : ∀ {ls ks : List LT} {vs us : List V}, LVs P ls vs → LVs P ks us → LVs P (ls ++ ks) (vs ++ us)
  | [], _, [], _, _, h => h
  | _ :: _, _, _ :: _, _, h, k => ⟨h.1, LVs.append h.2 k⟩
  | [], _, _ :: _, _, h, _ => h.elim
  | _ :: _, _, [], _, h, _ => h.elim
theorem LVs.len : ∀ {ls : List LT} {vs : List V}, LVs P ls vs → vs.length = ls.length
  | [], [], _ => rfl
  | _ :: _, _ :: _, h => by rw [List.length_cons, List.length_cons, LVs.len h.2]
  | [], _ :: _, h => h.elim
  | _ :: _, [], h => h.elim
theorem leafsF_ok {F : TypeId → Option (List LT)} (hF : ∀ t ls vs, F t = some ls → Fits P t vs → LVs P ls vs) {vs : List V} : ∀ {fs : List Field} {n : Nat} {ls : List LT}, leafsF P F n fs = some ls → (∀ f ∈ fs, Fits P f.type ((vs.drop f.offset).take (P.cellsOf f.type))) →
    LVs P ls ((vs.drop n).take ls.length)
  | [], n, ls, h, _ => by
    simp only [leafsF, Option.some.injEq] at h
    subst h
    rw [List.length_nil, List.take_zero]; trivial
  | f :: fs, n, ls, h, hf => by
    simp only [leafsF] at h
    split at h
    · rename_i hc
      simp only [Option.bind_eq_some_iff, Option.some.injEq] at h
      obtain ⟨l, hl, r, hr, rfl⟩ := h
      have h1 := hF _ _ _ hl (hf f (.head _))
      have h2 := leafsF_ok hF hr fun g hg => hf g (.tail _ hg)
      have hlen : l.length = P.cellsOf f.type := by
        have := hc.2
        rw [hl] at this
        simpa using this
      rw [hc.1, ← hlen] at h1
      rw [← hlen] at h2
      have hsplit : (vs.drop n).take (l ++ r).length = (vs.drop n).take l.length ++ (vs.drop (n + l.length)).take r.length := by
        rw [List.length_append, List.take_add, List.drop_drop]
      rw [hsplit]
      exact h1.append h2
    · cases h
theorem leafs_rep {l : List LT} {e : TypeId} (hF : ∀ vs, Fits P e vs → LVs P l vs) (hl : l.length = P.cellsOf e) {vs : List V} : ∀ {n i : Nat}, (∀ j, i ≤ j → j < i + n → Fits P e ((vs.drop (j * P.cellsOf e)).take (P.cellsOf e))) →
    LVs P (List.replicate n l).flatten ((vs.drop (i * P.cellsOf e)).take (n * P.cellsOf e))
  | 0, i, _ => by rw [Nat.zero_mul, List.take_zero]; trivial
  | n + 1, i, h => by
    have h1 := hF _ (h i (Nat.le_refl _) (by omega))
    have h2 := leafs_rep hF hl (n := n) (i := i + 1) fun j hj hk => h j (by omega) (by omega)
    rw [List.replicate_succ, List.flatten_cons, Nat.succ_mul, Nat.add_comm, List.take_add, List.drop_drop]
    rw [Nat.succ_mul] at h2
    exact h1.append h2
theorem fits_leafs : ∀ {d : Nat} {t : TypeId} {ls : List LT} {vs : List V}, leafs P d t = some ls → Fits P t vs → LVs P ls vs := by
  intro d
  induction d with
  | zero => intro t ls vs h; cases h
  | succ d ih =>
    intro t ls vs h hf
    unfold leafs at h
    split at h
    · rename_i ht
      cases h
      obtain ⟨b, rfl⟩ := fits_bool ht hf
      exact ⟨⟨b, rfl⟩, trivial⟩
    · rename_i ht
      cases h
      obtain ⟨n, rfl, hw⟩ := fits_int ht hf
      exact ⟨⟨n, rfl, hw⟩, trivial⟩
    · rename_i ht
      cases h
      obtain ⟨s, rfl, hw⟩ := fits_str ht hf
      exact ⟨⟨s, rfl, hw⟩, trivial⟩
    · rename_i ht
      cases h
      rcases fits_slice ht hf with rfl | ⟨xs, rfl, h1, h2⟩
      · exact ⟨.inl rfl, trivial⟩
      · exact ⟨.inr ⟨xs, rfl, h1, h2⟩, trivial⟩
    · rename_i fs ht
      simp only [Option.bind_eq_some_iff] at h
      obtain ⟨l, hl, h⟩ := h
      split at h
      · rename_i hc
        cases h
        cases hf with
        | struct _ ht2 hlen hff =>
          rw [ht] at ht2
          cases ht2
          have := leafsF_ok (vs := vs) (fun _ _ _ a b => ih a b) hl hff
          rwa [List.drop_zero, List.take_of_length_le (by omega)] at this
        | _ => simp_all
      · cases h
    · rename_i n e ht
      simp only [Option.bind_eq_some_iff] at h
      obtain ⟨l, hl, h⟩ := h
      split at h
      · rename_i hc
        cases h
        cases hf with
        | array _ ht2 hlen hff =>
          rw [ht] at ht2
          cases ht2
          have := leafs_rep (vs := vs) (fun _ b => ih hl b) hc.1 (n := n) (i := 0) fun j _ hj => hff j (by omega)
          rwa [Nat.zero_mul, List.drop_zero, List.take_of_length_le (by omega)] at this
        | _ => simp_all
      · cases h
    · cases h
end
end Go.Proofs.Ytgglgcehiolpcaa.Am

set_option linter.all false
namespace Go.Proofs.Ytgglgcehiolpcaa.Am.Frame
open Go.Proofs.Ytgglgcehiolpcaa.Am.T
theorem wf8 {n : Int} (h : (Lit.int .u8 n).wf = true) : 0 ≤ n ∧ n < 256 := by
  simp [Lit.wf, IntKind.min, IntKind.max, IntKind.signed, IntKind.bits] at h
  omega
theorem bytes_list {P : Program} {e : TypeId} (he : P.underlying e = some (.int .u8)) {xs : List (List V)} (h : ∀ x ∈ xs, Fits P e x) : ∃ l : List Int, xs = l.map (fun n => [V.int .u8 n]) ∧ Byts l := by
  obtain ⟨l, e1, hl⟩ := list_of (f := fun n : Int => [V.int .u8 n]) (Q := fun n => 0 ≤ n ∧ n < 256) fun x hm => by
    obtain ⟨n, rfl, hw⟩ := fits_int he (h x hm)
    exact ⟨n, rfl, wf8 hw⟩
  exact ⟨l, e1, hl⟩
theorem den_list (l : List Int) : Pw (Pw Den0) (l.map by8) (l.map fun n => [V.int .u8 n]) := den_bytes l
theorem bytes_den {P : Program} {e : TypeId} (he : P.underlying e = some (.int .u8)) (hc : P.cellsOf e = 1) {x : V} (h : x = .nils ∨ ∃ xs, x = .slice false (P.cellsOf e) xs ∧ xs.length ≤ maxLen ∧ ∀ y ∈ xs, Fits P e y) :
    ∃ l : List Int, Den [] (.sl false 1 (l.map by8)) x ∧ Byts l ∧ l.length ≤ maxLen := by
  rcases h with rfl | ⟨xs, rfl, hl, hx⟩
  · exact ⟨[], .base (.sln false 1), (fun _ h => by cases h), Nat.zero_le _⟩
  · obtain ⟨l, rfl, hb⟩ := bytes_list he hx
    rw [hc]
    exact ⟨l, .base (.sl false 1 (den_list l)), hb, by simpa using hl⟩
theorem fits_bytes {P : Program} {t e : TypeId} (ht : P.underlying t = some (.slice e)) (he : P.underlying e = some (.int .u8)) (hc : P.cellsOf e = 1) {x : V} (h : Fits P t [x]) :
    ∃ l : List Int, Den [] (.sl false 1 (l.map by8)) x ∧ Byts l ∧ l.length ≤ maxLen := by
  refine bytes_den he hc ?_
  rcases fits_slice ht h with h | ⟨xs, h, h2⟩
  · injection h with h _; exact .inl h
  · injection h with h _; exact .inr ⟨xs, h, h2⟩
end Go.Proofs.Ytgglgcehiolpcaa.Am.Frame

set_option linter.all false
namespace Go.Proofs.Ytgglgcehiolpcaa.Am.Frame
open Go.Proofs.Ytgglgcehiolpcaa.Am.T
theorem lenK_kind {k lo hi : Int} (h : lenK k = some (lo, hi)) : 1 ≤ k ∧ k ≤ 8 := by
  unfold lenK at h
  by_cases h1 : k = 1 ∨ k = 3
  · omega
  by_cases h2 : k = 2
  · omega
  by_cases h4 : k = 4 ∨ k = 8
  · omega
  by_cases h5 : k = 5
  · omega
  by_cases h6 : k = 6
  · omega
  by_cases h7 : k = 7
  · omega
  rw [if_neg h1, if_neg h2, if_neg h4, if_neg h5, if_neg h6, if_neg h7] at h; cases h
theorem w8_id {n : Int} (h0 : 0 ≤ n) (h : n < 256) : w8 n = n := by rw [w8_is]; omega
theorem fdiv_256 {n : Int} (h : 0 ≤ n) : n.fdiv 256 = n / 256 := Int.fdiv_eq_ediv_of_nonneg n (by omega)
section
variable {m : Msg}
theorem okB_len (h : okB m) : ∃ lo hi, lenK m.Kind = some (lo, hi) ∧ lo ≤ (payB m).length ∧ (payB m).length ≤ hi ∧ (payB m).length ≤ 512 ∧ 1 ≤ m.Kind ∧ m.Kind ≤ 8 := by
  obtain ⟨⟨lo, hi, hk, h1, h2⟩, _⟩ := h
  have := lenK_le hk
  have := lenK_kind hk
  exact ⟨lo, hi, hk, h1, h2, by omega, by omega, by omega⟩
theorem frm_len : (frmB m).length = (payB m).length + 5 := by
  unfold frmB; simp only [List.length_append, List.length_cons, List.length_nil]; omega
theorem sumB_byte (l : List Int) : 0 ≤ sumB l ∧ sumB l < 256 := by
  unfold sumB
  have : ∀ (l : List Int) (n : Int), (0 ≤ n ∧ n < 256) → 0 ≤ l.foldl (fun n c => IntKind.wrap .u8 (n + c)) n ∧ l.foldl (fun n c => IntKind.wrap .u8 (n + c)) n < 256 := by
    intro l
    induction l with
    | nil => intro n h; exact h
    | cons x l ih => intro n h; exact ih _ (w8_byte _)
  exact this l 0 (by omega)
theorem frm_byts (h : Byts m.Text) : Byts (frmB m) := by
  unfold frmB
  refine Byts.append (Byts.append ?_ (pay_byts h)) ?_
  · intro x hx
    simp only [List.mem_cons, List.not_mem_nil, or_false] at hx
    rcases hx with rfl | rfl | rfl | rfl
    · omega
    all_goals exact w8_byte _
  · intro x hx
    simp only [List.mem_cons, List.not_mem_nil, or_false] at hx
    subst hx; exact sumB_byte _
theorem frm_get (h : okB m) (r : List Int) : (frmB m ++ r).getD 0 0 = 197 ∧ (frmB m ++ r).getD 1 0 = m.Kind ∧ (frmB m ++ r).getD 2 0 = ((payB m).length : Int) % 256 ∧ (frmB m ++ r).getD 3 0 = ((payB m).length : Int) / 256 := by
  obtain ⟨lo, hi, hk, h1, h2, h3, h4, h5⟩ := okB_len h
  unfold frmB
  refine ⟨rfl, ?_, ?_, ?_⟩
  · show w8 m.Kind = m.Kind
    exact w8_id (by omega) (by omega)
  · exact w8_is _
  · show w8 (((payB m).length : Int).fdiv 256) = _
    rw [fdiv_256 (by omega), w8_id (by omega) (by omega)]
theorem szB_frm (h : okB m) (r : List Int) : szB (frmB m ++ r) = ((((payB m).length : Int) + 5 : Int), true) := by
  obtain ⟨lo, hi, hk, h1, h2, h3, h4, h5⟩ := okB_len h
  obtain ⟨g0, g1, g2, g3⟩ := frm_get h r
  have hl : (frmB m ++ r).length = (payB m).length + 5 + r.length := by rw [List.length_append, frm_len]
  unfold szB
  rw [g0, g1, g2, g3, if_neg (by omega), if_neg (by omega), hk]
  simp only
  rw [if_neg (by omega), if_neg (by omega)]
  have e : ((payB m).length : Int) % 256 + 256 * (((payB m).length : Int) / 256) = (payB m).length := by omega
  rw [e, decide_eq_true ⟨h1, h2⟩]
  congr 1; omega
theorem cls_frm (h : okB m) (r : List Int) : cls (frmB m ++ r) = .msg m ((payB m).length + 5) := by
  have hs := szB_frm h r
  obtain ⟨g0, g1, g2, g3⟩ := frm_get h r
  have hl : (frmB m ++ r).length = (payB m).length + 5 + r.length := by rw [List.length_append, frm_len]
  have hp : ((frmB m ++ r).drop 4).take ((payB m).length) = payB m := by
    unfold frmB
    rw [List.append_assoc, List.append_assoc]
    show (payB m ++ _).take _ = _
    rw [List.take_left' rfl]
  have hq : ((frmB m ++ r).drop 1).take ((payB m).length + 3) = [w8 m.Kind, w8 (payB m).length, w8 (((payB m).length : Int).fdiv 256)] ++ payB m := by
    unfold frmB
    rw [List.append_assoc, List.append_assoc]
    show ([w8 m.Kind, w8 (payB m).length, w8 (((payB m).length : Int).fdiv 256)] ++ (payB m ++ _)).take _ = _
    rw [← List.append_assoc, List.take_left' (by simp only [List.length_append, List.length_cons, List.length_nil]; omega)]
  have hg : (frmB m ++ r).getD ((payB m).length + 4) 0 = sumB ([w8 m.Kind, w8 (payB m).length, w8 (((payB m).length : Int).fdiv 256)] ++ payB m) := by
    unfold frmB
    rw [List.getD_eq_getElem?_getD, List.append_assoc, List.getElem?_append_right (by simp only [List.length_append, List.length_cons, List.length_nil]; omega)]
    have : (payB m).length + 4 - ([197, w8 m.Kind, w8 (payB m).length, w8 (((payB m).length : Int).fdiv 256)] ++ payB m).length = 0 := by
      simp only [List.length_append, List.length_cons, List.length_nil]; omega
    rw [this]; rfl
  unfold cls
  have ht : (((payB m).length : Int) + 5).toNat = (payB m).length + 5 := by omega
  rw [hs]
  simp only [ht]
  rw [if_pos trivial, if_neg (by omega), show (payB m).length + 5 - 5 = (payB m).length by omega, show (payB m).length + 5 - 2 = (payB m).length + 3 by omega, show (payB m).length + 5 - 1 = (payB m).length + 4 by omega, hp, hq, hg, g1, if_pos ⟨h.2.1, rfl⟩, h.2.2]
theorem run_succ {k : Nat} {out : List Item} {all : List Int} {bad : Int} (h : all ≠ []) : run (k + 1) out all bad = match cls all with
    | .wait => (out, all, bad)
    | .bad => run k out (all.drop 1) (bad + 1)
    | .msg m n => run k (passB out bad ++ [⟨m, 0⟩]) (all.drop n) 0 := by
  rw [run, if_neg h]
  try (cases cls all <;> rfl)
theorem run_nil {k : Nat} {out : List Item} {bad : Int} : run k out [] bad = (out, [], bad) := by cases k <;> rfl
end
end Go.Proofs.Ytgglgcehiolpcaa.Am.Frame

set_option linter.all false
namespace Go.Proofs.Ytgglgcehiolpcaa.Am.Frame
open Go.Proofs.Ytgglgcehiolpcaa.Am.T
end Go.Proofs.Ytgglgcehiolpcaa.Am.Frame

set_option linter.all false
namespace Go.Proofs.Ytgglgcehiolpcaa.Am.Frame
open Go.Proofs.Ytgglgcehiolpcaa.Am.T
theorem byts_of {l : List Int} (h : (l.all fun x => decide (0 ≤ x ∧ x < 256)) = true) : Byts l := fun x hx => of_decide_eq_true (List.all_eq_true.1 h x hx)
theorem feed_ex {l : List Int} {q : List Item × List Int} (h : (l.all fun x => decide (0 ≤ x ∧ x < 256)) = true) (hl : l.length ≤ 1000) (hq : feedB [] l = q) : frame_Reader_Feed ⟨[]⟩ l = some (q.1, ⟨q.2⟩) := by
  rw [feed_is (fun x hx => by cases hx) (byts_of h) (by have hmost : most = 4294967296 := rfl; simp only [List.length_nil]; omega), hq]
set_option maxRecDepth 100000 in
theorem alive_is : casementlaw20_alive = some true := by
  have h1 := feed_ex (l := [1, 2, 197, 4, 0, 0, 4]) (q := ([⟨⟨0, 0, 0, 0, []⟩, 2⟩, ⟨⟨4, 0, 0, 0, []⟩, 0⟩], [])) (by decide) (by decide) (by rfl)
  have h2 := feed_ex (l := [197, 9]) (q := ([⟨⟨0, 0, 0, 0, []⟩, 2⟩], [])) (by decide) (by decide) (by rfl)
  have h3 := feed_ex (l := [197, 4, 0]) (q := ([], [197, 4, 0])) (by decide) (by decide) (by rfl)
  have hok : okB ⟨4, 0, 0, 0, []⟩ := ⟨⟨0, 0, rfl, by decide, by decide⟩, rfl, rfl⟩
  have h4 : frame_Encode ⟨4, 0, 0, 0, []⟩ = some ([197, 4, 0, 0, 4], 0) := by
    rw [encode_is (fun x hx => by cases hx), if_pos hok]; rfl
  have h5 : frame_Screen [120] = some (screenB [120]) := by unfold frame_Screen; rw [if_pos (by decide)]
  have h6 : casementref01_SameBytes [197, 4, 0, 0, 4] [197, 4, 0, 0, 4] = some true := by rw [sameBytes_is (by decide)]; rfl
  unfold casementlaw20_alive
  simp only [h1, h2, h3, h4, h5, h6, Option.bind_some]
  rfl
theorem same_self {m : Msg} (h : m.Text.length ≤ 4611686018427387904) : casementlaw20_same ⟨m, 0⟩ { m with Bad := 0 } = some true := by
  unfold casementlaw20_same letB
  simp only [decide_true, cond_true, Option.bind_some, sameBytes_is h]
theorem okB_text {m : Msg} (h : okB m) : m.Text.length ≤ 512 := by
  obtain ⟨lo, hi, hk, h1, h2, h3, h4, h5⟩ := okB_len h
  have e := h.2.2
  have : (msgB m.Kind (payB m)).1.Text.length ≤ 512 := by
    unfold msgB
    repeat' split
    all_goals first | exact h3 | exact Nat.zero_le _
  rwa [e] at this
end Go.Proofs.Ytgglgcehiolpcaa.Am.Frame

set_option linter.all false
namespace Go.Proofs.Ytgglgcehiolpcaa.Am.Frame
open Go.Proofs.Ytgglgcehiolpcaa.Am.T
end Go.Proofs.Ytgglgcehiolpcaa.Am.Frame

set_option linter.all false
namespace Go.Proofs.Ytgglgcehiolpcaa.Am.Frame
open Go.Proofs.Ytgglgcehiolpcaa.Am.T
end Go.Proofs.Ytgglgcehiolpcaa.Am.Frame

set_option linter.all false
namespace Go.Proofs.Ytgglgcehiolpcaa.Am.Frame
open Go.Proofs.Ytgglgcehiolpcaa.Am.T
end Go.Proofs.Ytgglgcehiolpcaa.Am.Frame

set_option linter.all false
namespace Go.Proofs.Ytgglgcehiolpcaa.Am.Frame
open Go.Proofs.Ytgglgcehiolpcaa.Am.T
noncomputable def casementlaw20_FrameBehind_l1 (ms : List Msg) (all : List Int) (kept : List Msg) (t24 : Int) : Option ((List Int × List Msg × Int) ⊕ (List Int × List Msg)) :=
  letB (decide (t24 < (ms.length : Int))) fun c7 =>
  bif c7 then (
    Option.bind (
      (idx ms t24).bind fun x9 =>
      (frame_Encode x9).bind fun y10 =>
      letB (decide (y10.2 = 0)) fun c11 =>
      Option.bind (
        bif c11 then (
          (app all y10.1).bind fun x13 =>
          (app kept [x9]).bind fun x14 =>
          some ((x13, x14)))
        else (
          some ((all, kept))) : Option (List Int × List Msg)) fun j15 =>
      some ((j15.1, j15.2, x9)) : Option (List Int × List Msg × Msg)) fun j16 =>
    some (.inl (j16.1, j16.2.1, w64 (t24 + 1))))
  else (
    some (.inr (all, kept)))
noncomputable def casementlaw20_FrameBehind_l2 (j17 : List Int × List Msg) (y18 : List Item × Reader) (t56 : Int) : Option (Int ⊕ (Unit ⊕ Unit)) :=
  letB (decide (t56 < (y18.1.length : Int))) fun c25 =>
  bif c25 then (
    (idx y18.1 t56).bind fun x27 =>
    (idx j17.2 t56).bind fun x28 =>
    (casementlaw20_of x28).bind fun y29 =>
    (casementlaw20_same x27 y29).bind fun y30 =>
    bif (!y30) then (
      some (.inr (.inl ())))
    else (
      some (.inl (w64 (t56 + 1)))))
  else (
    some (.inr (.inr ())))
noncomputable def casementlaw20_FrameBehind (ahead : List Int) (ms : List Msg) : Option Bool :=
  (casementlaw20_alive).bind fun y1 =>
  bif (!y1) then (
    some false)
  else (
    (frame_Reader_Feed (Reader.mk []) ahead).bind fun y3 =>
    (frame_Reader_Waits y3.2).bind fun y4 =>
    letB (decide (y4 > 0)) fun c5 =>
    bif c5 then (
      some true)
    else (
      (iter (fun s => casementlaw20_FrameBehind_l1 ms s.1 s.2.1 s.2.2 : (List Int × List Msg × Int) → Option ((List Int × List Msg × Int) ⊕ (List Int × List Msg))) ([], [], 0)).bind fun j17 =>
      (frame_Reader_Feed y3.2 j17.1).bind fun y18 =>
      letB (decide ((y18.1.length : Int) ≠ (j17.2.length : Int))) fun c19 =>
      (bif c19 then some true else (
        (frame_Reader_Waits y18.2).bind fun y21 =>
        letB (decide (y21 ≠ 0)) fun c22 =>
        some (c22))).bind fun g20 =>
      bif g20 then (
        some false)
      else (
        (iter (fun s => casementlaw20_FrameBehind_l2 j17 y18 s : Int → Option (Int ⊕ (Unit ⊕ Unit))) 0).bind fun j32 =>
        match j32 with
        | .inl z33 => (
          some false)
        | .inr z34 => (
          some true))))
set_option maxRecDepth 20000 in
theorem casementlaw20_FrameBehind_ok {ahead : List Int} {ms : List Msg} {r : Bool} (h : casementlaw20_FrameBehind ahead ms = some r) : CallT true (RF FT) 6 [.sl false 1 (List.map by8 ahead), .sl false 5 (List.map Msg.c ms)] [] (.bool r) [] := by
  refine CallT.quiet (con_low (af := a6) rfl rfl ?_) rfl
  unfold casementlaw20_FrameBehind at h
  refine WP_seq ?_
  refine WP_reg [0, 1] [] ?_
  refine WPO_f ?_
  refine WP_seq ?_
  refine WP_seq ?_
  refine WP_reg [0, 1, 15] [] ?_
  refine WPO_f ?_
  obtain ⟨y1, hy1, h⟩ := bind_inv h
  refine ⟨_, _, CallT.any (casementlaw20_alive_ok hy1) rfl _ rfl, ?_⟩
  refine WP_cond (b := (!y1)) rfl (fun hb2 => ?_) (fun hb2 => ?_)
  · replace h := bif_t hb2 h
    refine WP_seq ?_
    refine WP_reg [4] [] ?_
    refine WPO_f ?_
    refine WP_ret ?_
    cases h
    exact ⟨rfl, rfl, rfl, rfl, rfl⟩
  · replace h := bif_f hb2 h
    refine WP_skip ?_
    refine WP_seq ?_
    refine WP_reg [0, 1, 5] [] ?_
    refine WPO_f ?_
    refine ⟨.sl false 1 [], .sl _ _, ?_⟩
    refine WP_seq ?_
    refine WP_reg [1, 5] [] ?_
    refine WPO_f ?_
    obtain ⟨y3, hy3, h⟩ := bind_inv h
    refine ⟨_, _, CallT.sub (i := 0) (frame_Reader_Feed_ok hy3) rfl _ rfl rfl rfl rfl, ?_⟩
    refine WP_seq ?_
    refine WP_seq ?_
    refine WP_reg [1, 5, 19] [] ?_
    refine WPO_f ?_
    obtain ⟨y4, hy4, h⟩ := bind_inv h
    refine ⟨_, _, CallT.sub (i := 0) (frame_Reader_Waits_ok hy4) rfl _ rfl rfl rfl rfl, ?_⟩
    refine fun c5 hc5 => ?_
    replace h := letB_inv hc5 h
    refine WP_cond (b := c5) rfl (fun hb6 => ?_) (fun hb6 => ?_)
    · replace h := bif_t hb6 h
      refine WP_seq ?_
      refine WP_reg [4] [] ?_
      refine WPO_f ?_
      refine WP_ret ?_
      cases h
      exact ⟨rfl, rfl, rfl, rfl, rfl⟩
    · replace h := bif_f hb6 h
      refine WP_skip ?_
      refine WP_seq ?_
      refine WP_reg [1, 5, 6] [] ?_
      refine WPO_f ?_
      refine ⟨List.map by8 ([] : List Int), rfl, ?_⟩
      refine WP_seq ?_
      refine WP_reg [1, 5, 6, 7] [] ?_
      refine WPO_f ?_
      refine ⟨.sl false 1 [], .sl _ _, ?_⟩
      refine ⟨List.map Msg.c ([] : List Msg), rfl, ?_⟩
      refine WP_seq ?_
      refine WP_seq ?_
      refine WP_reg [5, 6, 7, 22, 23, 24] [] ?_
      refine WPO_f ?_
      refine ⟨_, (List.length_map ..).symm, ?_⟩
      refine WP_block ?_
      obtain ⟨j17, hj17, h⟩ := bind_inv h
      refine WP_iter hj17 [] (fun s => ([(5, .ptr 0 0), (6, .sl true 1 (List.map by8 s.1)), (7, .sl true 5 (List.map Msg.c s.2.1)), (22, .sl false 5 (List.map Msg.c ms)), (23, .int .i64 (ms.length : Int)), (24, .int .i64 s.2.2)], [], [(Reader.c y3.2)])) (fun _ => [5, 6, 7]) (fun _ => []) (fun z => (.exit 0, [(5, .ptr 0 0), (6, .sl true 1 (List.map by8 z.1)), (7, .sl true 5 (List.map Msg.c z.2))], [], [(Reader.c y3.2)])) ?_ ?_ ?_
      · exact rfl
      · clear h
        rintro ⟨all, kept, t24⟩ x h
        replace h : casementlaw20_FrameBehind_l1 ms all kept t24 = some x := h
        unfold casementlaw20_FrameBehind_l1 at h
        show T.WP _ _ [(5, .ptr 0 0), (6, .sl true 1 (List.map by8 all)), (7, .sl true 5 (List.map Msg.c kept)), (22, .sl false 5 (List.map Msg.c ms)), (23, .int .i64 (ms.length : Int)), (24, .int .i64 t24)] [] [(Reader.c y3.2)] _
        refine WP_seq ?_
        refine WP_reg [5, 6, 7, 22, 23, 24, 25] [] ?_
        refine WPO_f ?_
        refine fun c7 hc7 => ?_
        replace h := letB_inv hc7 h
        refine WP_seq ?_
        refine WP_cond (b := c7) rfl (fun hb8 => ?_) (fun hb8 => ?_)
        · replace h := bif_t hb8 h
          refine WP_skip ?_
          refine WP_seq ?_
          obtain ⟨j16, hj16, h⟩ := bind_inv h
          refine WP_cut j16 (fun z => (.normal, [(5, .ptr 0 0), (6, .sl true 1 (List.map by8 z.1)), (7, .sl true 5 (List.map Msg.c z.2.1)), (22, .sl false 5 (List.map Msg.c ms)), (23, .int .i64 (ms.length : Int)), (24, .int .i64 t24)], [(0, (Msg.c z.2.2))], [(Reader.c y3.2)])) (fun _ => [5, 6, 7, 22, 23, 24]) (fun _ => [0]) ?_ ?_
          · clear h
            replace h := hj16
            clear hj16
            refine WP_block ?_
            refine WP_seq ?_
            refine WP_reg [5, 6, 7, 9, 22, 23, 24] [0] ?_
            refine WPO_f ?_
            obtain ⟨x9, hx9, h⟩ := bind_inv h
            refine And.intro (idx_nn hx9) ⟨_, idx_get Msg.c hx9, ?_⟩
            refine ⟨.sl false 1 [], .sl _ _, ?_⟩
            refine WP_seq ?_
            refine WP_reg [5, 6, 7, 9, 10, 11, 22, 23, 24] [0] ?_
            refine WPO_f ?_
            obtain ⟨y10, hy10, h⟩ := bind_inv h
            refine ⟨_, _, CallT.any (frame_Encode_ok hy10) rfl _ rfl, ?_⟩
            refine WP_seq ?_
            refine WP_reg [5, 6, 7, 9, 10, 22, 23, 24, 34] [0] ?_
            refine WPO_f ?_
            refine fun c11 hc11 => ?_
            replace h := letB_inv hc11 h
            obtain ⟨j15, hj15, h⟩ := bind_inv h
            refine WP_cut j15 (fun z => (.normal, [(5, .ptr 0 0), (6, .sl true 1 (List.map by8 z.1)), (7, .sl true 5 (List.map Msg.c z.2)), (22, .sl false 5 (List.map Msg.c ms)), (23, .int .i64 (ms.length : Int)), (24, .int .i64 t24)], [(0, (Msg.c x9))], [(Reader.c y3.2)])) (fun _ => [5, 6, 7, 22, 23, 24]) (fun _ => [0]) ?_ ?_
            · clear h
              replace h := hj15
              clear hj15
              refine WP_cond (b := c11) rfl (fun hb12 => ?_) (fun hb12 => ?_)
              · replace h := bif_t hb12 h
                refine WP_seq ?_
                refine WP_reg [5, 6, 7, 9, 22, 23, 24] [0] ?_
                refine WPO_f ?_
                obtain ⟨x13, hx13, h⟩ := bind_inv h
                refine And.intro (app_le by8 hx13) ⟨_, app_eq by8 hx13, ?_⟩
                refine WP_reg [5, 6, 7, 22, 23, 24] [0] ?_
                refine WPO_f ?_
                refine ⟨.sl false 1 [], .sl _ _, ?_⟩
                refine ⟨List.map Msg.c ([x9] : List Msg), rfl, ?_⟩
                obtain ⟨x14, hx14, h⟩ := bind_inv h
                refine And.intro (app_le Msg.c hx14) ⟨_, app_eq Msg.c hx14, ?_⟩
                cases h
                exact rfl
              · replace h := bif_f hb12 h
                refine WP_skip ?_
                cases h
                exact rfl
            cases h
            exact rfl
          refine WP_reg [5, 6, 7, 22, 23, 24] [0] ?_
          refine WPO_f ?_
          cases h
          exact ⟨_, rfl, rfl⟩
        · replace h := bif_f hb8 h
          refine WP_exit ?_
          cases h
          exact ⟨_, rfl, rfl⟩
      refine WP_seq ?_
      refine WP_reg [5, 7, 12] [] ?_
      refine WPO_f ?_
      obtain ⟨y18, hy18, h⟩ := bind_inv h
      refine ⟨_, _, CallT.sub (i := 0) (frame_Reader_Feed_ok hy18) rfl _ rfl rfl rfl rfl, ?_⟩
      refine WP_seq ?_
      refine WP_seq ?_
      refine WP_reg [7, 12, 53] [] ?_
      refine WPO_then 6 ?_
      refine WPO_f ?_
      refine ⟨_, (List.length_map ..).symm, ?_⟩
      refine ⟨_, (List.length_map ..).symm, ?_⟩
      refine fun c19 hc19 => ?_
      replace h := letB_inv hc19 h
      obtain ⟨g20, hg20, h⟩ := bind_inv h
      refine WPO_grp 3 53 [7, 12, 53] g20 ?_ ?_
      · clear h
        replace h := hg20
        clear hg20
        cases hb23 : c19 with
        | false =>
          replace h := bif_f hb23 h
          refine WPO_f ?_
          obtain ⟨y21, hy21, h⟩ := bind_inv h
          refine ⟨_, _, CallT.sub (i := 0) (frame_Reader_Waits_ok hy21) rfl _ rfl rfl rfl rfl, ?_⟩
          refine fun c22 hc22 => ?_
          replace h := letB_inv hc22 h
          cases h
          exact ⟨rfl, rfl, rfl⟩
        | true =>
          replace h := bif_t hb23 h
          cases h
          refine WPO_f ?_
          exact ⟨rfl, rfl, rfl⟩
      refine WPO_f ?_
      refine WP_cond (b := g20) rfl (fun hb24 => ?_) (fun hb24 => ?_)
      · replace h := bif_t hb24 h
        refine WP_seq ?_
        refine WP_reg [4] [] ?_
        refine WPO_f ?_
        refine WP_ret ?_
        cases h
        exact ⟨rfl, rfl, rfl, rfl, rfl⟩
      · replace h := bif_f hb24 h
        refine WP_skip ?_
        refine WP_seq ?_
        refine WP_seq ?_
        refine WP_reg [7, 12, 55, 56] [] ?_
        refine WPO_f ?_
        refine ⟨_, (List.length_map ..).symm, ?_⟩
        refine WP_block ?_
        obtain ⟨j32, hj32, h⟩ := bind_inv h
        refine WP_iter hj32 [] (fun s => ([(7, .sl false 5 (List.map Msg.c j17.2)), (12, .sl false 6 (List.map Item.c y18.1)), (55, .int .i64 (y18.1.length : Int)), (56, .int .i64 s)], [], [(Reader.c y18.2)])) (fun e => match e with | .ret => [4] | .exit 2 => [] | _ => []) (fun e => match e with | .ret => [] | .exit 2 => [] | _ => []) (fun r => match r with | .inl z => (.ret, [(4, .bool false)], [], [(Reader.c y18.2)]) | .inr z => (.exit 2, [], [], [(Reader.c y18.2)])) ?_ ?_ ?_
        · exact rfl
        · clear h
          rintro t56 x h
          replace h : casementlaw20_FrameBehind_l2 j17 y18 t56 = some x := h
          unfold casementlaw20_FrameBehind_l2 at h
          show T.WP _ _ [(7, .sl false 5 (List.map Msg.c j17.2)), (12, .sl false 6 (List.map Item.c y18.1)), (55, .int .i64 (y18.1.length : Int)), (56, .int .i64 t56)] [] [(Reader.c y18.2)] _
          refine WP_seq ?_
          refine WP_reg [7, 12, 55, 56, 57] [] ?_
          refine WPO_f ?_
          refine fun c25 hc25 => ?_
          replace h := letB_inv hc25 h
          refine WP_seq ?_
          refine WP_cond (b := c25) rfl (fun hb26 => ?_) (fun hb26 => ?_)
          · replace h := bif_t hb26 h
            refine WP_skip ?_
            refine WP_seq ?_
            refine WP_block ?_
            refine WP_seq ?_
            refine WP_reg [7, 12, 13, 55, 56] [] ?_
            refine WPO_f ?_
            refine WP_seq ?_
            refine WP_reg [7, 12, 55, 56, 69] [] ?_
            refine WPO_t ?_
            obtain ⟨x27, hx27, h⟩ := bind_inv h
            refine And.intro (idx_nn hx27) ⟨_, idx_get Item.c hx27, ?_⟩
            obtain ⟨x28, hx28, h⟩ := bind_inv h
            refine And.intro (idx_nn hx28) ⟨_, idx_get Msg.c hx28, ?_⟩
            obtain ⟨y29, hy29, h⟩ := bind_inv h
            refine ⟨_, _, CallT.any (casementlaw20_of_ok hy29) rfl _ rfl, ?_⟩
            obtain ⟨y30, hy30, h⟩ := bind_inv h
            refine ⟨_, _, CallT.any (casementlaw20_same_ok hy30) rfl _ rfl, ?_⟩
            refine WP_cond (b := (!y30)) rfl (fun hb31 => ?_) (fun hb31 => ?_)
            · replace h := bif_t hb31 h
              refine WP_seq ?_
              refine WP_reg [4] [] ?_
              refine WPO_f ?_
              refine WP_ret ?_
              cases h
              exact ⟨_, rfl, rfl⟩
            · replace h := bif_f hb31 h
              refine WP_skip ?_
              refine WP_reg [7, 12, 55, 56] [] ?_
              refine WPO_f ?_
              cases h
              exact ⟨_, rfl, rfl⟩
          · replace h := bif_f hb26 h
            refine WP_exit ?_
            cases h
            exact ⟨_, rfl, rfl⟩
        rcases j32 with z33 | z34
        · cases h
          exact ⟨rfl, rfl, rfl, rfl, rfl⟩
        · refine WP_seq ?_
          refine WP_reg [4] [] ?_
          refine WPO_f ?_
          refine WP_ret ?_
          cases h
          exact ⟨rfl, rfl, rfl, rfl, rfl⟩
end Go.Proofs.Ytgglgcehiolpcaa.Am.Frame

set_option linter.all false
namespace Go.Proofs.Ytgglgcehiolpcaa.Am.Frame
open Go.Proofs.Ytgglgcehiolpcaa.Am.T
def flat (ms : List Msg) : List Int := ms.flatMap frmB
theorem flat_append (a b : List Msg) : flat (a ++ b) = flat a ++ flat b := by unfold flat; rw [List.flatMap_append]
def okAll (ms : List Msg) : Prop := ∀ m ∈ ms, okB m ∧ Byts m.Text
theorem frm_le {m : Msg} (h : okB m) : (frmB m).length ≤ 517 := by
  obtain ⟨lo, hi, hk, h1, h2, h3, h4, h5⟩ := okB_len h
  rw [frm_len]; omega
theorem flat_le : ∀ {ms : List Msg}, okAll ms → (flat ms).length ≤ 517 * ms.length
  | [], _ => Nat.zero_le _
  | m :: ms, h => by
    have h1 := frm_le (h m (.head _)).1
    have h2 := flat_le (ms := ms) fun x hx => h x (.tail _ hx)
    unfold flat at h2 ⊢
    rw [List.flatMap_cons, List.length_append, List.length_cons]; omega
theorem flat_byts {ms : List Msg} (h : okAll ms) : Byts (flat ms) := fun x hx => by
  unfold flat at hx
  obtain ⟨m, hm, hx⟩ := List.mem_flatMap.1 hx
  exact frm_byts (h m hm).2 x hx
theorem run_flat : ∀ {ms : List Msg} {k : Nat} {out : List Item}, okAll ms → (flat ms).length ≤ k → run k out (flat ms) 0 = (out ++ ms.map fun m => ⟨m, 0⟩, [], 0)
  | [], k, out, _, _ => by
    show run k out [] 0 = _
    rw [run_nil]; simp
  | m :: ms, k, out, h, hk => by
    have hm := (h m (.head _)).1
    have e : flat (m :: ms) = frmB m ++ flat ms := by unfold flat; rw [List.flatMap_cons]
    have hl : (flat (m :: ms)).length = (frmB m).length + (flat ms).length := by rw [e, List.length_append]
    have hf := frm_len (m := m)
    obtain ⟨k, rfl⟩ : ∃ j, k = j + 1 := ⟨k - 1, by omega⟩
    rw [run_succ (by rw [← List.length_pos_iff, hl]; omega), e, cls_frm hm]
    simp only
    rw [List.drop_left' hf, show passB out 0 = out from rfl, run_flat (fun x hx => h x (.tail _ hx)) (by omega)]
    simp
theorem feed_flat {ms : List Msg} (h : okAll ms) : feedB [] (flat ms) = (ms.map fun m => ⟨m, 0⟩, []) := by
  unfold feedB
  rw [List.nil_append, run_flat h (Nat.le_refl _)]
  rfl
theorem behind_l1 {ms : List Msg} (hms : ∀ m ∈ ms, Byts m.Text) (hl : ms.length ≤ 1048576) : ∀ (k : Nat) {i : Nat} {kept : List Msg}, i ≤ ms.length → ms.length - i ≤ k → okAll kept → kept.length ≤ i →
    ∃ kept', okAll kept' ∧ kept'.length ≤ ms.length ∧ iter (fun s => casementlaw20_FrameBehind_l1 ms s.1 s.2.1 s.2.2 : (List Int × List Msg × Int) → Option ((List Int × List Msg × Int) ⊕ (List Int × List Msg))) (flat kept, kept, (i : Int)) = some (flat kept', kept')
  | k, i, kept, hi, hk, hok, hkl => by
    have hmost : most = 4294967296 := rfl
    by_cases hn : i < ms.length
    · have hd : decide ((i : Int) < (ms.length : Int)) = true := decide_eq_true (by omega)
      have hx : idx ms (i : Int) = some ms[i] := idx_of (by omega) (by rw [Int.toNat_natCast]; exact List.getElem?_eq_getElem hn)
      have hmem : ms[i] ∈ ms := List.getElem_mem hn
      have hw : w64 ((i : Int) + 1) = ((i + 1 : Nat) : Int) := w64_id (by omega) (by omega)
      have hfl := flat_le hok
      match k with
      | 0 => omega
      | k + 1 =>
        by_cases ho : okB ms[i]
        · have hf := frm_le ho
          have a1 : app (flat kept) (frmB ms[i]) = some (flat (kept ++ [ms[i]])) := by
            rw [app_some (by omega), flat_append]
            unfold flat; simp
          have a2 : app kept [ms[i]] = some (kept ++ [ms[i]]) := app_some (by simp only [List.length_cons, List.length_nil]; omega)
          have hstep : casementlaw20_FrameBehind_l1 ms (flat kept) kept (i : Int) = some (.inl (flat (kept ++ [ms[i]]), kept ++ [ms[i]], ((i + 1 : Nat) : Int))) := by
            simp only [casementlaw20_FrameBehind_l1, letB, hd, cond_true, hx, Option.bind_some, encode_is (hms _ hmem), if_pos ho, decide_true, a1, a2, hw]
          rw [iter_inl hstep]
          refine behind_l1 hms hl k (by omega) (by omega) (fun m hm => ?_) (by rw [List.length_append, List.length_cons, List.length_nil]; omega)
          rcases List.mem_append.1 hm with h | h
          · exact hok m h
          · simp only [List.mem_cons, List.not_mem_nil, or_false] at h; subst h; exact ⟨ho, hms _ hmem⟩
        · have hstep : casementlaw20_FrameBehind_l1 ms (flat kept) kept (i : Int) = some (.inl (flat kept, kept, ((i + 1 : Nat) : Int))) := by
            simp only [casementlaw20_FrameBehind_l1, letB, hd, cond_true, hx, Option.bind_some, encode_is (hms _ hmem), if_neg ho, hw]
            rfl
          rw [iter_inl hstep]
          exact behind_l1 hms hl k (by omega) (by omega) hok (by omega)
    · refine ⟨kept, hok, by omega, iter_inr ?_⟩
      simp only [casementlaw20_FrameBehind_l1, letB]
      rw [decide_eq_false (by omega)]; rfl
theorem behind_l2 {kept : List Msg} {a : List Int} {r : Reader} (hok : okAll kept) (hl : kept.length ≤ 1048576) : ∀ (k : Nat) {i : Nat}, i ≤ kept.length → kept.length - i ≤ k →
    iter (fun s => casementlaw20_FrameBehind_l2 (a, kept) (kept.map fun m => ⟨m, 0⟩, r) s : Int → Option (Int ⊕ (Unit ⊕ Unit))) (i : Int) = some (.inr ())
  | k, i, hi, hk => by
    by_cases hn : i < kept.length
    · have hd : decide ((i : Int) < ((kept.map fun m => (⟨m, 0⟩ : Item)).length : Int)) = true := decide_eq_true (by rw [List.length_map]; omega)
      have hx : idx (kept.map fun m => (⟨m, 0⟩ : Item)) (i : Int) = some ⟨kept[i], 0⟩ := idx_of (by omega) (by rw [Int.toNat_natCast, List.getElem?_map, List.getElem?_eq_getElem hn]; rfl)
      have hy : idx kept (i : Int) = some kept[i] := idx_of (by omega) (by rw [Int.toNat_natCast]; exact List.getElem?_eq_getElem hn)
      have hmem : kept[i] ∈ kept := List.getElem_mem hn
      have hs := same_self (m := kept[i]) (by have := okB_text (hok _ hmem).1; omega)
      have hw : w64 ((i : Int) + 1) = ((i + 1 : Nat) : Int) := w64_id (by omega) (by omega)
      have hstep : casementlaw20_FrameBehind_l2 (a, kept) (kept.map fun m => ⟨m, 0⟩, r) (i : Int) = some (.inl ((i + 1 : Nat) : Int)) := by
        simp only [casementlaw20_FrameBehind_l2, letB, hd, cond_true, hx, hy, Option.bind_some, casementlaw20_of, hs, hw]
        rfl
      refine (iter_inl hstep).trans ?_
      match k with
      | 0 => omega
      | k + 1 => exact behind_l2 hok hl k (by omega) (by omega)
    · refine iter_inr ?_
      simp only [casementlaw20_FrameBehind_l2, letB]
      rw [decide_eq_false (by rw [List.length_map]; omega)]; rfl
theorem behind_pure {ahead : List Int} {ms : List Msg} (ha : Byts ahead) (hal : ahead.length ≤ 1048576) (hms : ∀ m ∈ ms, Byts m.Text) (hl : ms.length ≤ 1048576) : casementlaw20_FrameBehind ahead ms = some true := by
  have hmost : most = 4294967296 := rfl
  unfold casementlaw20_FrameBehind letB
  have f1 := feed_is (waits := []) (b := ahead) (fun x hx => by cases hx) ha (by simp only [List.length_nil]; omega)
  simp only [alive_is, Option.bind_some, Bool.not_true, cond_false, f1, frame_Reader_Waits]
  by_cases h0 : ((feedB [] ahead).2.length : Int) > 0
  · simp only [decide_eq_true h0, cond_true]
  simp only [decide_eq_false h0, cond_false]
  have he : (feedB [] ahead).2 = [] := List.length_eq_zero_iff.1 (by omega)
  obtain ⟨kept, hok, hkl, hit⟩ := behind_l1 hms hl ms.length (i := 0) (kept := []) (Nat.zero_le _) (Nat.le_refl _) (fun _ h => by cases h) (Nat.zero_le _)
  rw [show (flat [], ([] : List Msg), ((0 : Nat) : Int)) = (([] : List Int), ([] : List Msg), (0 : Int)) from rfl] at hit
  have hfl := flat_le hok
  have f2 := feed_is (waits := []) (b := flat kept) (fun x hx => by cases hx) (flat_byts hok) (by simp only [List.length_nil]; omega)
  rw [feed_flat hok] at f2
  simp only [hit, Option.bind_some, he, f2, List.length_map, decide_eq_false (by simp : ¬ ((kept.length : Int) ≠ (kept.length : Int))), cond_false, List.length_nil]
  have hl2 := behind_l2 (a := flat kept) (r := ⟨[]⟩) hok (by omega) _ (i := 0) (Nat.zero_le _) (Nat.le_refl _)
  rw [show ((0 : Nat) : Int) = 0 from rfl] at hl2
  rw [hl2]
  rfl
end Go.Proofs.Ytgglgcehiolpcaa.Am.Frame

namespace Go.Proofs.Ytgglgcehiolpcaa.Am
section
variable {P : Program} {W : World} {H : Type} {enc : TypeId × Value → H}
def AsLong (x : V) (d : DataW H) : Prop := ∀ o z xs, x = .slice o z xs → ∃ elems spare, d = .slice elems spare ∧ elems.length = xs.length
theorem asLong {x : V} {v : Value} {t : TypeId} {d : DataW H} {ps : List MemPlace} (hf : FitsV P t x) (ha : ArgOK W x v) (h : DataW.Trod enc P W 0 (fun _ => true) true t v d ps) : AsLong x d := by
  intro o z xs hx
  subst hx
  have hs : ∃ e, P.underlying t = some (.slice e) := by
    unfold FitsV at hf
    split at hf
    · obtain ⟨cs, e, _⟩ := hf; cases e
    · obtain ⟨cs, e, _⟩ := hf; cases e
    · cases hf <;> first | exact ⟨_, by assumption⟩ | simp_all
  obtain ⟨e, ht⟩ := hs
  have hv : ∃ a cap, v = .slice (some a) xs.length cap := by
    cases ha with
    | leaf h => cases h with | slice _ _ a cap _ _ _ _ _ _ _ => exact ⟨a, cap, rfl⟩
  obtain ⟨a, cap, rfl⟩ := hv
  obtain ⟨fuel, h⟩ := h
  rcases DataW.trod_slice ht h with ⟨h1, _⟩ | ⟨a', len, cap', elems, rest, n, _, h1, h2, _, _, _, hel, _⟩
  · simp [Value.cells] at h1
  · simp only [Prod.mk.injEq] at h2
    refine ⟨_, _, h2.1, ?_⟩
    have e1 : len = xs.length := by
      have : (Value.slice (some a) xs.length cap).cells.toList = [.slice (some a) xs.length cap] := rfl
      rw [this] at h1
      injection h1 with h1 _
      injection h1 with _ h1 _
      exact h1.symm
    rw [List.length_map, hel, e1]
theorem asLongs : ∀ {ts : List TypeId} {vs : List Value} {ds : List (DataW H)} {ps : List MemPlace} {args : List V}, DataW.TrodAll enc P W 0 (fun _ => true) true ts vs ds ps → args.length = vs.length → (∀ (j : Nat) (t : TypeId), ts[j]? = some t → FitsV P t (args.getD j .undef)) → (∀ k, k < args.length → ArgOK W (args.getD k .undef) (vs.getD k undef)) →
    ∀ (j : Nat) (d : DataW H), ds[j]? = some d → AsLong (args.getD j .undef) d
  | [], vs, ds, ps, args, h, _, _, _, j, d, hd => by
    obtain ⟨rfl, rfl, rfl⟩ := ChangeShapes.trodAll_nil h
    simp at hd
  | t :: ts, vs, ds, ps, args, h, hl, hf, ha, j, d, hd => by
    obtain ⟨v, vs', dd, ds', p, q, rfl, rfl, rfl, h0, r0⟩ := ChangeShapes.trodAll_cons h
    match args, hl with
    | x :: args, hl =>
      cases j with
      | zero =>
        simp only [List.getElem?_cons_zero, Option.some.injEq] at hd
        subst hd
        exact asLong (hf 0 t rfl) (ha 0 (by simp)) h0
      | succ j =>
        exact asLongs r0 (by simpa using hl) (fun i t' hi => hf (i + 1) t' hi) (fun k hk => ha (k + 1) (by simpa using hk)) j d hd
theorem law_contractU {T : Table} (hT : TableOK P T) {f : Nat} {fn : Func} {tb : TypeId} {s : ChangeSpec} {apart fresh handsOn again : Bool} {d : Nat} (hbool : P.underlying tb = some .bool) (hres : fn.resultTypes = #[tb]) (hvars : s.vars = [])
    (hspec : ∀ ds : List (DataW H), ds.length = fn.params.toList.length → s.fn H ds = { results := [.lit (.bool true)], args := ds }) (hl : laidOutB P = true) (hr : (fn.params.toList.all fun t => P.readableRec t && decide (t < P.types.size)) = true)
    (hsup : fn.params.toList.all (supT P d) = true) {base : Nat} {args : Array Value} {ds gs : List (DataW H)} {before : List MemPlace}
    (law : ds.length = fn.params.toList.length → ∀ zs9 : List V, zs9.length = fn.params.toList.length → (∀ (j : Nat) (t : TypeId), fn.params.toList[j]? = some t → FitsV P t (zs9.getD j .undef)) → (∀ (j : Nat) (d : DataW H), ds[j]? = some d → AsLong (zs9.getD j .undef) d) → ∃ m', RF T f zs9 [] = some (.bool true, m'))
    (hval : ∀ (j : Nat) t v, fn.params[j]? = some t → args[j]? = some v → Value.okWide P W .any base t v) (hW : DataW.Whole enc P fn.params.toList s.vars apart W args.toList ds gs before) :
    Calls P f args W fun e W' => ∃ v, e = .returned v ∧ s.post enc P fn apart fresh handsOn again W args v W' := by
  have hW' := hW
  obtain ⟨p, q, hA, hV, rfl, hfz, hnd⟩ := hW
  rw [hvars] at hV
  obtain ⟨rfl, rfl⟩ := ChangeShapes.trodVars_none hV
  obtain ⟨zs9, h1, h2, h3, h4⟩ := args_of (base := base) hsup (fun j t v hj hv => hval j t v (by simpa using hj) (by simpa using hv)) hA
  obtain ⟨m', hm⟩ := law (trodAll_len hA) zs9 (by rw [h1, h2]) h3 (asLongs hA h1 h3 h4)
  have hds : ds.length = fn.params.toList.length := trodAll_len hA
  refine (law_calls hT hm h1 h4).mono fun e W' ⟨he, hb⟩ => ?_
  subst he
  have hsp : s.fn H (ds ++ []) = { results := [.lit (.bool true)], args := ds } := by rw [List.append_nil]; exact hspec ds hds
  refine ⟨_, rfl, post_of_below (pa := p) (pv := []) hW' (fun b sp hd => ?_) (fun sp hspb => ?_) (fun sp _ => ?_) rfl hb (RowKit.ok_one hres rfl (RowKit.okWide_bool_mk hbool _))⟩
  · rw [hsp, hres]
    exact trodAll_cons_mk (RowKit.shut_bool hbool true) rfl
  · rw [hsp]
    exact args_stay hl hr hA (fun x hx => hb.same (hW'.lt x (by simpa using hx))) (fun x hx => hspb x (by simpa using hx))
  · rw [hsp, hvars]; exact rfl
end
end Go.Proofs.Ytgglgcehiolpcaa.Am

set_option linter.all false
namespace Go.Proofs.Ytgglgcehiolpcaa.Am.Frame
open Go.Proofs.Ytgglgcehiolpcaa.Am.T
theorem den_long {H : Type} {ρ : List Nat} {w : Bool} {z : Nat} {ys : List (List TV)} {x : V} {d : DataW H} (h : Den ρ (.sl w z ys) x) (ha : AsLong x d) : ys.length = 0 ∨ ∃ elems spare, d = .slice elems spare ∧ elems.length = ys.length := by
  rcases den_sl h with ⟨_, rfl⟩ | ⟨zs, rfl, hp⟩
  · exact .inl rfl
  · obtain ⟨elems, spare, e, hl⟩ := ha _ _ _ rfl
    exact .inr ⟨elems, spare, e, by rw [hl, hp.length]⟩
theorem bytes_den0 {P : Program} {e : TypeId} (he : P.underlying e = some (.int .u8)) (hc : P.cellsOf e = 1) {x : V} (h : x = .nils ∨ ∃ xs, x = .slice false (P.cellsOf e) xs ∧ xs.length ≤ maxLen ∧ ∀ y ∈ xs, Fits P e y) :
    ∃ l : List Int, Den0 (.sl false 1 (l.map by8)) x ∧ Byts l := by
  rcases h with rfl | ⟨xs, rfl, hl, hx⟩
  · exact ⟨[], .sln false 1, (fun _ h => by cases h)⟩
  · obtain ⟨l, rfl, hb⟩ := bytes_list he hx
    rw [hc]
    exact ⟨l, .sl false 1 (den_list l), hb⟩
theorem cells_msg0 {P : Program} {e : TypeId} (he : P.underlying e = some (.int .u8)) (hc : P.cellsOf e = 1) {cs : List V} (h : LVs P [.int .i64, .int .i64, .int .i64, .int .i64, .slice e] cs) : ∃ m : Msg, Pw Den0 (Msg.c m) cs ∧ Byts m.Text := by
  have h4 : cs.length = 5 := h.len
  match cs, h4 with
  | [x1, x2, x3, x4, x5], _ =>
    obtain ⟨h1, h2, h3, h4, h5, _⟩ := h
    obtain ⟨a, rfl, _⟩ := h1
    obtain ⟨b, rfl, _⟩ := h2
    obtain ⟨c, rfl, _⟩ := h3
    obtain ⟨d, rfl, _⟩ := h4
    obtain ⟨l, hd, hb⟩ := bytes_den0 he hc h5
    exact ⟨⟨a, b, c, d, l⟩, .cons (.int _ _) (.cons (.int _ _) (.cons (.int _ _) (.cons (.int _ _) (.cons hd .nil)))), hb⟩
theorem fits_msgs {P : Program} {t k e : TypeId} (ht : P.underlying t = some (.slice k)) (hl : leafs P 8 k = some [.int .i64, .int .i64, .int .i64, .int .i64, .slice e]) (hk : P.cellsOf k = 5) (he : P.underlying e = some (.int .u8)) (hc : P.cellsOf e = 1) {x : V} (h : Fits P t [x]) :
    ∃ ms : List Msg, Den [] (.sl false 5 (ms.map Msg.c)) x ∧ ∀ m ∈ ms, Byts m.Text := by
  rcases fits_slice ht h with h | ⟨xs, h, _, hx⟩
  · injection h with h _; subst h; exact ⟨[], .base (.sln false 5), (fun _ h => by cases h)⟩
  · injection h with h _; subst h
    have key : ∀ xs : List (List V), (∀ y ∈ xs, Fits P k y) → ∃ ms : List Msg, Pw (Pw Den0) (ms.map Msg.c) xs ∧ ∀ m ∈ ms, Byts m.Text := by
      intro xs
      induction xs with
      | nil => intro _; exact ⟨[], .nil, (fun _ h => by cases h)⟩
      | cons y ys ih =>
        intro hh
        obtain ⟨ms, h1, h2⟩ := ih fun z hz => hh z (.tail _ hz)
        obtain ⟨m, h3, h4⟩ := cells_msg0 he hc (fits_leafs hl (hh y (.head _)))
        exact ⟨m :: ms, .cons h3 h1, fun z hz => by cases hz with | head => exact h4 | tail _ hz => exact h2 z hz⟩
    obtain ⟨ms, h1, h2⟩ := key xs hx
    rw [hk]
    exact ⟨ms, .base (.sl false 5 h1), h2⟩
theorem behind_ok {a : List Int} {ms : List Msg} {x y : V} (hx : Den [] (.sl false 1 (a.map by8)) x) (hy : Den [] (.sl false 5 (ms.map Msg.c)) y) (ha : Byts a) (hal : a.length ≤ 1048576) (hms : ∀ m ∈ ms, Byts m.Text) (hl : ms.length ≤ 1048576) : ∃ m', RF FT 6 [x, y] [] = some (.bool true, m') :=
  CallT.law (casementlaw20_FrameBehind_ok (behind_pure ha hal hms hl)) (.cons hx (.cons hy .nil))
end Go.Proofs.Ytgglgcehiolpcaa.Am.Frame

/-
FrameBehind answers true where the input is of bounded bulk; the input reads as it did.
-/
namespace Go.Proofs.Ytgglgcehiolpcaa
open Go.Proofs.Ytgglgcehiolpcaa.Am Go.Proofs.Ytgglgcehiolpcaa.Am.Frame
namespace frameBehindUpto
theorem one_le {H : Type} (d : DataW H) : 1 ≤ Rows.uptoBulk d := by
  cases d with
  | lit l => cases l <;> simp [Rows.uptoBulk]
  | _ => simp [Rows.uptoBulk]
theorem part_le {H : Type} {d : DataW H} {l : List (DataW H)} (h : d ∈ l) : Rows.uptoBulk d ≤ Rows.uptoBulkAll l := by
  induction l with
  | nil => cases h
  | cons x r ih =>
    simp only [Rows.uptoBulkAll]
    cases List.mem_cons.1 h with
    | inl e => subst e; omega
    | inr e => have := ih e; omega
theorem append_le {H : Type} (l r : List (DataW H)) : Rows.uptoBulkAll l ≤ Rows.uptoBulkAll (l ++ r) := by
  induction l with
  | nil => exact Nat.zero_le _
  | cons x l ih => rw [List.cons_append]; simp only [Rows.uptoBulkAll]; omega
theorem len_le {H : Type} (l : List (DataW H)) : l.length ≤ Rows.uptoBulkAll l := by
  induction l with
  | nil => exact Nat.zero_le _
  | cons x l ih => simp only [Rows.uptoBulkAll, List.length_cons]; have := one_le x; omega
theorem slice_le {H : Type} {n : Nat} {d : DataW H} (h : n = 0 ∨ ∃ elems spare, d = .slice elems spare ∧ elems.length = n) (hb : Rows.uptoBulk d ≤ 1048576) : n ≤ 1048576 := by
  rcases h with rfl | ⟨elems, spare, rfl, rfl⟩
  · omega
  · have := len_le elems
    simp only [Rows.uptoBulk] at hb
    omega
theorem own : ownKnob Try.prog.godebug = none := by kernel_rfl
theorem laid : laidOutB Try.prog = true := by kernel_rfl
theorem law {H : Type} (ds : List (DataW H)) (hk : Rows.uptoBulkAll ds ≤ 1048576) (hds : ds.length = Try.f6.params.toList.length) (l : List V) (hl : l.length = Try.f6.params.toList.length) (h : ∀ (j : Nat) (t : TypeId), Try.f6.params.toList[j]? = some t → FitsV Try.prog t (l.getD j .undef)) (hlong : ∀ (j : Nat) (d : DataW H), ds[j]? = some d → AsLong (l.getD j .undef) d) : ∃ m', RF FT 6 l [] = some (.bool true, m') := by
  have hln : l.length = 2 := hl
  have hdn : ds.length = 2 := hds
  match l, hln, ds, hdn with
  | [x0, x1], _, [d0, d1], _ =>
    have h0 := h 0 _ rfl
    have k0 := hlong 0 _ rfl
    have b0 : Rows.uptoBulk d0 ≤ 1048576 := Nat.le_trans (part_le (by simp)) hk
    have h1 := h 1 _ rfl
    have k1 := hlong 1 _ rfl
    have b1 : Rows.uptoBulk d1 ≤ 1048576 := Nat.le_trans (part_le (by simp)) hk
    have u5 : Try.prog.underlying 5 = some (.int .u8) := by kernel_rfl
    have t0 : Try.prog.underlying (Try.f6.params.toList.getD 0 0) = some (.slice 5) := by kernel_rfl
    have t1 : Try.prog.underlying (Try.f6.params.toList.getD 1 0) = some (.slice 36) := by kernel_rfl
    obtain ⟨b, hx, hb, _⟩ := fits_bytes t0 u5 (by kernel_rfl) (fitsV_leaf t0 h0 (fun _ e => by cases e) (fun _ _ e => by cases e))
    obtain ⟨ms, hy, hms⟩ := fits_msgs (e := 5) t1 (by kernel_rfl) (by kernel_rfl) u5 (by kernel_rfl) (fitsV_leaf t1 h1 (fun _ e => by cases e) (fun _ _ e => by cases e))
    have e0 := slice_le (den_long hx k0) b0
    have e1 := slice_le (den_long hy k1) b1
    rw [List.length_map] at e0 e1
    exact behind_ok hx hy hb e0 hms e1
set_option maxRecDepth 100000 in
theorem lifted (os : Os) (started : os.Started) (H : Type) (enc : TypeId × Value → H) (F : Stop.Interp) :
    ReturnsInHanded {} Try.checked os 6 .any ((Rows.OpenSpec.upto Rows.frameBehindSpec).pre6 enc Try.prog Try.f6 Rows.frameBehindUptoRow.domain false) (((Rows.OpenSpec.upto Rows.frameBehindSpec).at F).post enc Try.prog Try.f6 false true false false) := by
  refine returnsInHanded_of_cond (C := Try.checked) (s := Rows.OpenSpec.upto Rows.frameBehindSpec) (k := Rows.uptoSmall) rfl own started (by kernel_rfl) Try.func6
    (OpenSpec.witness (enc := enc) (C := Try.checked) (s := Rows.OpenSpec.upto Rows.frameBehindSpec) (k := Rows.uptoSmall) rfl false ⟨#[], #[.slice none 0 0, .slice none 0 0], []⟩ 8 (by kernel_rfl) (by kernel_rfl) (by kernel_rfl)
      (x := ([.nil, .nil], [], [])) (by kernel_rfl) rfl (by kernel_rfl)) ?_
  intro W base args ds gs before hval hW _ hk _
  have hk2 : Rows.uptoBulkAll ds ≤ 1048576 := Nat.le_trans (append_le ds gs) (of_decide_eq_true hk)
  exact law_contractU FT_ok (tb := 4) (d := 8) (by kernel_rfl) (by kernel_rfl) rfl
    (fun ds hd => by
      have hdn : ds.length = 2 := hd
      match ds, hdn with
      | [_, _], _ => rfl) laid (by kernel_rfl) (by kernel_rfl) (law ds hk2) hval hW
theorem holds : Rows.FrameBehindUptoSaid :=
  OpenClaim.holds_of_cond 6 Try.f6 rfl rfl rfl rfl rfl rfl rfl ⟨rfl, rfl, rfl, rfl, rfl⟩ rfl rfl rfl rfl rfl (by kernel_rfl) Try.func6 (by kernel_rfl)
    (of_decide_eq_true (by kernel_rfl)) (by unfold Func.isWrapper; first | (rw [if_pos (by decide +kernel)]; kernel_rfl) | (rw [if_neg (by decide +kernel)]; exact ⟨rfl, rfl⟩))
    (fun os started H enc _ F => lifted os started H enc F)
#print axioms holds
end frameBehindUpto
end Go.Proofs.Ytgglgcehiolpcaa
