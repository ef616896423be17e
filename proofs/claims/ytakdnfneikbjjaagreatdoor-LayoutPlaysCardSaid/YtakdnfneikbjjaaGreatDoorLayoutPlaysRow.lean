/-
LayoutPlays answers true whatever its input; the input reads as it did.
-/
import Derived.Test.YtakdnfneikbjjaaGreatDoorAmLayoutPlaysRow5
import Derived.Test.YtakdnfneikbjjaaGreatDoorCards
import Derived.Test.YtakdnfneikbjjaaGreatDoorTie
import Derived.WalkKit
import Derived.ProofKit
import Derived.OpenShut
import Derived.Deep.DeepHandedRow
import Derived.Lib.LaidTab
set_option linter.all false
namespace Go.Proofs.YtakdnfneikbjjaaGreatDoor.Am.Lay10
open Go.Proofs.YtakdnfneikbjjaaGreatDoor.Am.T
noncomputable def zbb (s_ : Size) : Option Bool :=
 letB (decide (s_.Kind = 0)) fun c1 =>
 (bif c1 then some true else (
  letB (decide (s_.Kind = 1)) fun c3 =>
  (bif c3 then (
   letB (decide (s_.N ≥ 1)) fun c5 =>
   some (c5)) else some false).bind fun g4 =>
  (bif g4 then (
   letB (decide (s_.N ≤ 200)) fun c8 =>
   some (c8)) else some false).bind fun g7 =>
  some (g7))).bind fun g2 =>
 (bif g2 then some true else (
  letB (decide (s_.Kind = 2)) fun c12 =>
  (bif c12 then (
   letB (decide (s_.N ≥ 1)) fun c14 =>
   some (c14)) else some false).bind fun g13 =>
  (bif g13 then (
   letB (decide (s_.N ≤ 100)) fun c17 =>
   some (c17)) else some false).bind fun g16 =>
  some (g16))).bind fun g11 =>
 some g11
set_option maxRecDepth 20000 in
theorem zcT {s_ : Size} {r : Bool} (h : zbb s_ = some r) : zak true (RF ET) 63 [.agg (Size.c s_)] [] (.bool r) [] := by
 refine zak.quiet (zaF (af := a63) rfl rfl ?_) rfl
 unfold zbb at h
 refine zaa ?_
 refine zac [1] [0] ?_
 refine zad ?_
 refine zaa ?_
 refine zac [2] [0] ?_
 refine zat 4 ?_
 refine zad ?_
 refine fun c1 hc1 => ?_
 replace h := zae hc1 h
 obtain ⟨g2, hg2, h⟩ := zab h
 refine zaB 14 20 [1, 20] g2 ?_ ?_
 ·clear h
  replace h := hg2
  clear hg2
  cases hb10 : c1 with
  | false =>
   replace h := zal hb10 h
   refine zat 4 ?_
   refine zad ?_
   refine fun c3 hc3 => ?_
   replace h := zae hc3 h
   obtain ⟨g4, hg4, h⟩ := zab h
   refine zaB 4 14 [1, 6, 14] g4 ?_ ?_
   ·clear h
    replace h := hg4
    clear hg4
    cases hb6 : c3 with
    | true =>
     replace h := zam hb6 h
     refine zad ?_
     refine fun c5 hc5 => ?_
     replace h := zae hc5 h
     cases h
     exact ⟨rfl, rfl, rfl⟩
    | false =>
     replace h := zal hb6 h
     cases h
     refine zad ?_
     exact ⟨rfl, rfl, rfl⟩
   refine zat 1 ?_
   refine zad ?_
   obtain ⟨g7, hg7, h⟩ := zab h
   refine zaB 4 19 [1, 6, 19] g7 ?_ ?_
   ·clear h
    replace h := hg7
    clear hg7
    cases hb9 : g4 with
    | true =>
     replace h := zam hb9 h
     refine zad ?_
     refine fun c8 hc8 => ?_
     replace h := zae hc8 h
     cases h
     exact ⟨rfl, rfl, rfl⟩
    | false =>
     replace h := zal hb9 h
     cases h
     refine zad ?_
     exact ⟨rfl, rfl, rfl⟩
   refine zad ?_
   cases h
   exact ⟨rfl, rfl, rfl⟩
  | true =>
   replace h := zam hb10 h
   cases h
   refine zad ?_
   exact ⟨rfl, rfl, rfl⟩
 refine zat 1 ?_
 refine zad ?_
 obtain ⟨g11, hg11, h⟩ := zab h
 refine zaB 14 35 [35] g11 ?_ ?_
 ·clear h
  replace h := hg11
  clear hg11
  cases hb19 : g2 with
  | false =>
   replace h := zal hb19 h
   refine zat 4 ?_
   refine zad ?_
   refine fun c12 hc12 => ?_
   replace h := zae hc12 h
   obtain ⟨g13, hg13, h⟩ := zab h
   refine zaB 4 29 [1, 21, 29] g13 ?_ ?_
   ·clear h
    replace h := hg13
    clear hg13
    cases hb15 : c12 with
    | true =>
     replace h := zam hb15 h
     refine zad ?_
     refine fun c14 hc14 => ?_
     replace h := zae hc14 h
     cases h
     exact ⟨rfl, rfl, rfl⟩
    | false =>
     replace h := zal hb15 h
     cases h
     refine zad ?_
     exact ⟨rfl, rfl, rfl⟩
   refine zat 1 ?_
   refine zad ?_
   obtain ⟨g16, hg16, h⟩ := zab h
   refine zaB 4 34 [21, 34] g16 ?_ ?_
   ·clear h
    replace h := hg16
    clear hg16
    cases hb18 : g13 with
    | true =>
     replace h := zam hb18 h
     refine zad ?_
     refine fun c17 hc17 => ?_
     replace h := zae hc17 h
     cases h
     exact ⟨rfl, rfl, rfl⟩
    | false =>
     replace h := zal hb18 h
     cases h
     refine zad ?_
     exact ⟨rfl, rfl, rfl⟩
   refine zad ?_
   cases h
   exact ⟨rfl, rfl, rfl⟩
  | true =>
   replace h := zam hb19 h
   cases h
   refine zad ?_
   exact ⟨rfl, rfl, rfl⟩
 refine zad ?_
 refine zap ?_
 cases h
 exact ⟨rfl, rfl, rfl, rfl, rfl⟩
noncomputable def casementref10_leavesF_l1 (p : Plan) (deep : Int) (rec38 : Plan → Int → Option Int) (n : Int) (i : Int) : Option ((Int × Int) ⊕ (Unit ⊕ Int)) :=
 letB (decide (i < (p.Kids.length : Int))) fun c19 =>
 (bif c19 then (
  letB (decide (n ≤ 24)) fun c21 =>
  some (c21)) else some false).bind fun g20 =>
 bif g20 then (
  letB (decide (p.Kind = 4)) fun c24 =>
  (bif c24 then (
   (idx p.Kids i).bind fun x26 =>
   letB (decide (x26.Kind ≠ 1)) fun c27 =>
   some (c27)) else some false).bind fun g25 =>
  bif g25 then (
   some (.inr (.inl ())))
  else (
   (idx p.Kids i).bind fun x30 =>
   (rec38 x30 (w64 (deep + 1))).bind fun y31 =>
   some (.inl (w64 (n + y31), w64 (i + 1)))))
 else (
  some (.inr (.inr n)))
noncomputable def zaL (rec38 : Plan → Int → Option Int) (p : Plan) (deep : Int) : Option Int :=
 letB (decide (deep > 12)) fun c1 =>
 (bif c1 then some true else (
  (zbb p.Size).bind fun y3 =>
  some ((!y3)))).bind fun g2 =>
 bif g2 then (
  some 25)
 else (
  letB (decide (p.Kind = 1)) fun c6 =>
  bif c6 then (
   some 1)
  else (
   letB (decide (p.Kind < 2)) fun c8 =>
   (bif c8 then some true else (
    letB (decide (p.Kind > 4)) fun c10 =>
    some (c10))).bind fun g9 =>
   (bif g9 then some true else (
    letB (decide ((p.Kids.length : Int) < 1)) fun c13 =>
    some (c13))).bind fun g12 =>
   (bif g12 then some true else (
    letB (decide ((p.Kids.length : Int) > 16)) fun c16 =>
    some (c16))).bind fun g15 =>
   bif g15 then (
    some 25)
   else (
    (iter (fun s => casementref10_leavesF_l1 p deep rec38 s.1 s.2 : (Int × Int) → Option ((Int × Int) ⊕ (Unit ⊕ Int))) (0, 0)).bind fun j32 =>
    match j32 with
    | .inl z33 => (
     some 25)
    | .inr z34 => (
     some z34))))
set_option maxRecDepth 20000 in
theorem zec {rec38 : Plan → Int → Option Int} (rec38_ok : ∀ (a0 : Plan) (a1 : Int) (r : Int), rec38 a0 a1 = some r → zak true (RF ET) 38 [.agg (Plan.e a0), .int .i64 a1] [] (.int .i64 r) []) {p : Plan} {deep : Int} {r : Int} (h : zaL rec38 p deep = some r) : zak true (RF ET) 38 [.agg (Plan.e p), .int .i64 deep] [] (.int .i64 r) [] := by
 refine zak.quiet (zaF (af := a38) rfl rfl ?_) rfl
 unfold zaL at h
 refine zaa ?_
 refine zac [1, 2] [0] ?_
 refine zad ?_
 refine zaa ?_
 refine zaa ?_
 refine zac [1, 2, 14] [0] ?_
 refine zat 3 ?_
 refine zad ?_
 refine fun c1 hc1 => ?_
 replace h := zae hc1 h
 obtain ⟨g2, hg2, h⟩ := zab h
 refine zaB 5 14 [1, 2, 14] g2 ?_ ?_
 ·clear h
  replace h := hg2
  clear hg2
  cases hb4 : c1 with
  | false =>
   replace h := zal hb4 h
   refine zad ?_
   obtain ⟨y3, hy3, h⟩ := zab h
   refine ⟨_, zcT hy3, ?_⟩
   cases h
   exact ⟨rfl, rfl, rfl⟩
  | true =>
   replace h := zam hb4 h
   cases h
   refine zad ?_
   exact ⟨rfl, rfl, rfl⟩
 refine zad ?_
 refine zag (b := g2) rfl (fun hb5 => ?_) (fun hb5 => ?_)
 ·replace h := zam hb5 h
  refine zaa ?_
  refine zac [4] [0] ?_
  refine zad ?_
  refine zap ?_
  cases h
  exact ⟨rfl, rfl, rfl, rfl, rfl⟩
 ·replace h := zal hb5 h
  refine zai ?_
  refine zaa ?_
  refine zaa ?_
  refine zac [1, 2, 17] [0] ?_
  refine zad ?_
  refine fun c6 hc6 => ?_
  replace h := zae hc6 h
  refine zag (b := c6) rfl (fun hb7 => ?_) (fun hb7 => ?_)
  ·replace h := zam hb7 h
   refine zaa ?_
   refine zac [4] [0] ?_
   refine zad ?_
   refine zap ?_
   cases h
   exact ⟨rfl, rfl, rfl, rfl, rfl⟩
  ·replace h := zal hb7 h
   refine zai ?_
   refine zaa ?_
   refine zaa ?_
   refine zac [1, 2, 37] [0] ?_
   refine zat 4 ?_
   refine zad ?_
   refine fun c8 hc8 => ?_
   replace h := zae hc8 h
   obtain ⟨g9, hg9, h⟩ := zab h
   refine zaB 4 25 [1, 2, 25] g9 ?_ ?_
   ·clear h
    replace h := hg9
    clear hg9
    cases hb11 : c8 with
    | false =>
     replace h := zal hb11 h
     refine zad ?_
     refine fun c10 hc10 => ?_
     replace h := zae hc10 h
     cases h
     exact ⟨rfl, rfl, rfl⟩
    | true =>
     replace h := zam hb11 h
     cases h
     refine zad ?_
     exact ⟨rfl, rfl, rfl⟩
   refine zat 1 ?_
   refine zad ?_
   obtain ⟨g12, hg12, h⟩ := zab h
   refine zaB 5 31 [1, 2, 31] g12 ?_ ?_
   ·clear h
    replace h := hg12
    clear hg12
    cases hb14 : g9 with
    | false =>
     replace h := zal hb14 h
     refine zad ?_
     refine ⟨_, (lenR Plan.cs_is).symm, ?_⟩
     refine fun c13 hc13 => ?_
     replace h := zae hc13 h
     cases h
     exact ⟨rfl, rfl, rfl⟩
    | true =>
     replace h := zam hb14 h
     cases h
     refine zad ?_
     exact ⟨rfl, rfl, rfl⟩
   refine zat 1 ?_
   refine zad ?_
   obtain ⟨g15, hg15, h⟩ := zab h
   refine zaB 5 37 [1, 2, 37] g15 ?_ ?_
   ·clear h
    replace h := hg15
    clear hg15
    cases hb17 : g12 with
    | false =>
     replace h := zal hb17 h
     refine zad ?_
     refine ⟨_, (lenR Plan.cs_is).symm, ?_⟩
     refine fun c16 hc16 => ?_
     replace h := zae hc16 h
     cases h
     exact ⟨rfl, rfl, rfl⟩
    | true =>
     replace h := zam hb17 h
     cases h
     refine zad ?_
     exact ⟨rfl, rfl, rfl⟩
   refine zad ?_
   refine zag (b := g15) rfl (fun hb18 => ?_) (fun hb18 => ?_)
   ·replace h := zam hb18 h
    refine zaa ?_
    refine zac [4] [0] ?_
    refine zad ?_
    refine zap ?_
    cases h
    exact ⟨rfl, rfl, rfl, rfl, rfl⟩
   ·replace h := zal hb18 h
    refine zai ?_
    refine zaa ?_
    refine zac [1, 2, 5] [0] ?_
    refine zad ?_
    refine zaa ?_
    refine zaa ?_
    refine zac [1, 2, 5, 6] [0] ?_
    refine zad ?_
    refine zah ?_
    obtain ⟨j32, hj32, h⟩ := zab h
    refine zaS hj32 [0] (fun s => ([(1, .int .i64 deep), (2, .loc 0 0), (5, .int .i64 s.1), (6, .int .i64 s.2)], [(0, (Plan.e p))], [])) (fun e => match e with | .ret => [4] | .exit 0 => [5] | _ => []) (fun e => match e with | .ret => [0] | .exit 0 => [0] | _ => []) (fun r => match r with | .inl z => (.ret, [(4, .int .i64 25)], [(0, (Plan.e p))], []) | .inr z => (.exit 0, [(5, .int .i64 z)], [(0, (Plan.e p))], [])) ?_ ?_ ?_
    ·exact rfl
    ·clear h
     rintro ⟨n, i⟩ x h
     replace h : casementref10_leavesF_l1 p deep rec38 n i = some x := h
     unfold casementref10_leavesF_l1 at h
     show T.WP _ _ [(1, .int .i64 deep), (2, .loc 0 0), (5, .int .i64 n), (6, .int .i64 i)] [(0, (Plan.e p))] [] _
     refine zaa ?_
     refine zaa ?_
     refine zac [1, 2, 5, 6, 46] [0] ?_
     refine zat 6 ?_
     refine zad ?_
     refine ⟨_, (lenR Plan.cs_is).symm, ?_⟩
     refine fun c19 hc19 => ?_
     replace h := zae hc19 h
     obtain ⟨g20, hg20, h⟩ := zab h
     refine zaB 3 46 [1, 2, 5, 6, 46] g20 ?_ ?_
     ·clear h
      replace h := hg20
      clear hg20
      cases hb22 : c19 with
      | true =>
       replace h := zam hb22 h
       refine zad ?_
       refine fun c21 hc21 => ?_
       replace h := zae hc21 h
       cases h
       exact ⟨rfl, rfl, rfl⟩
      | false =>
       replace h := zal hb22 h
       cases h
       refine zad ?_
       exact ⟨rfl, rfl, rfl⟩
     refine zad ?_
     refine zag (b := g20) rfl (fun hb23 => ?_) (fun hb23 => ?_)
     ·replace h := zam hb23 h
      refine zai ?_
      refine zaa ?_
      refine zah ?_
      refine zaa ?_
      refine zaa ?_
      refine zac [1, 2, 5, 6, 60] [0] ?_
      refine zat 4 ?_
      refine zad ?_
      refine fun c24 hc24 => ?_
      replace h := zae hc24 h
      obtain ⟨g25, hg25, h⟩ := zab h
      refine zaB 8 60 [1, 2, 5, 6, 60] g25 ?_ ?_
      ·clear h
       replace h := hg25
       clear hg25
       cases hb28 : c24 with
       | true =>
        replace h := zam hb28 h
        refine zad ?_
        obtain ⟨x26, hx26, h⟩ := zab h
        refine And.intro (zbw hx26) ⟨_, zdS Plan.cs_is hx26, ?_⟩
        refine fun c27 hc27 => ?_
        replace h := zae hc27 h
        cases h
        exact ⟨rfl, rfl, rfl⟩
       | false =>
        replace h := zal hb28 h
        cases h
        refine zad ?_
        exact ⟨rfl, rfl, rfl⟩
      refine zad ?_
      refine zag (b := g25) rfl (fun hb29 => ?_) (fun hb29 => ?_)
      ·replace h := zam hb29 h
       refine zaa ?_
       refine zac [4] [0] ?_
       refine zad ?_
       refine zap ?_
       cases h
       exact ⟨_, rfl, rfl⟩
      ·replace h := zal hb29 h
       refine zai ?_
       refine zac [1, 2, 5, 6] [0] ?_
       refine zad ?_
       obtain ⟨x30, hx30, h⟩ := zab h
       refine And.intro (zbw hx30) ⟨_, zdS Plan.cs_is hx30, ?_⟩
       obtain ⟨y31, hy31, h⟩ := zab h
       refine ⟨_, _, zak.any (rec38_ok _ _ _ hy31) rfl _ rfl, ?_⟩
       refine zac [1, 2, 5, 6] [0] ?_
       refine zad ?_
       cases h
       exact ⟨_, rfl, rfl⟩
     ·replace h := zal hb23 h
      refine zaR ?_
      cases h
      exact ⟨_, rfl, rfl⟩
    rcases j32 with z33 | z34
    ·cases h
     exact ⟨rfl, rfl, rfl, rfl, rfl⟩
    ·refine zaa ?_
     refine zac [4] [0] ?_
     refine zad ?_
     refine zap ?_
     cases h
     exact ⟨rfl, rfl, rfl, rfl, rfl⟩
noncomputable def zaM : Nat → (Plan → Int → Option Int)
 | 0 => fun _ _ => none
 | k + 1 => zaL ((zaM k))
theorem zcK : ∀ k, (∀ (a0 : Plan) (a1 : Int) (r : Int), ((zaM k)) a0 a1 = some r → zak true (RF ET) 38 [.agg (Plan.e a0), .int .i64 a1] [] (.int .i64 r) [])
 | 0 => (fun _ _ _ h => by cases h)
 | k + 1 => (fun _ _ _ h => zec ((zcK k)) h)
noncomputable def zbs (a0 : Plan) (a1 : Int) : Option Int := (zaM 30) a0 a1
theorem zcS {a0 : Plan} {a1 : Int} {r : Int} (h : zbs a0 a1 = some r) : zak true (RF ET) 38 [.agg (Plan.e a0), .int .i64 a1] [] (.int .i64 r) [] := (zcK 30) a0 a1 r h
noncomputable def zaT (p : Plan) : Option Bool :=
 letB (decide ((p.Float.length : Int) ≤ 24)) fun c1 =>
 (bif c1 then (
  (zbs p 1).bind fun y3 =>
  letB (decide ((w64 (y3 + (p.Float.length : Int))) ≤ 24)) fun c4 =>
  some (c4)) else some false).bind fun g2 =>
 some g2
set_option maxRecDepth 20000 in
theorem zeC {p : Plan} {r : Bool} (h : zaT p = some r) : zak true (RF ET) 14 [.agg (Plan.e p)] [] (.bool r) [] := by
 refine zak.quiet (zaF (af := a14) rfl rfl ?_) rfl
 unfold zaT at h
 refine zaa ?_
 refine zac [1] [0] ?_
 refine zad ?_
 refine zaa ?_
 refine zac [2] [0] ?_
 refine zat 5 ?_
 refine zdI ?_
 refine ⟨_, (yal ..).symm, ?_⟩
 refine fun c1 hc1 => ?_
 replace h := zae hc1 h
 obtain ⟨g2, hg2, h⟩ := zab h
 refine zaB 8 15 [15] g2 ?_ ?_
 ·clear h
  replace h := hg2
  clear hg2
  cases hb5 : c1 with
  | true =>
   replace h := zam hb5 h
   refine zdI ?_
   obtain ⟨y3, hy3, h⟩ := zab h
   refine ⟨_, _, zak.any (zcS hy3) rfl _ rfl, ?_⟩
   refine ⟨_, (yal ..).symm, ?_⟩
   refine fun c4 hc4 => ?_
   replace h := zae hc4 h
   cases h
   exact ⟨rfl, rfl, rfl⟩
  | false =>
   replace h := zal hb5 h
   cases h
   refine zdI ?_
   exact ⟨rfl, rfl, rfl⟩
 refine zdI ?_
 refine zap ?_
 cases h
 exact ⟨rfl, rfl, rfl, rfl, rfl⟩
noncomputable def casementref10_add_l1 (spots : List Spot) (out : List Spot) (i : Int) : Option ((List Spot × Int) ⊕ List Spot) :=
 letB (decide (i < (spots.length : Int))) fun c1 =>
 bif c1 then (
  (idx spots i).bind fun x3 =>
  (app out [x3]).bind fun x4 =>
  some (.inl (x4, w64 (i + 1))))
 else (
  some (.inr out))
noncomputable def zaN (spots : List Spot) (r_ : Rect) (z_ : Int) (title : Bool) : Option (List Spot) :=
 (iter (fun s => casementref10_add_l1 spots s.1 s.2 : (List Spot × Int) → Option ((List Spot × Int) ⊕ List Spot)) ([], 0)).bind fun j5 =>
 (app j5 [(Spot.mk (spots.length : Int) r_ z_ title)]).bind fun x6 =>
 some x6
set_option maxRecDepth 20000 in
theorem zbt {spots : List Spot} {r_ : Rect} {z_ : Int} {title : Bool} {r : List Spot} (h : zaN spots r_ z_ title = some r) : zak true (RF ET) 42 [.sl false 7 (List.map Spot.c spots), .agg (Rect.c r_), .int .i64 z_, .bool title] [] (.sl true 7 (List.map Spot.c r)) [] := by
 refine zak.quiet (zaF (af := a42) rfl rfl ?_) rfl
 unfold zaN at h
 refine zaa ?_
 refine zac [0, 2, 3, 5] [0] ?_
 refine zad ?_
 refine ⟨.sl false 7 [], .sl _ _, ?_⟩
 refine zaa ?_
 refine zac [0, 2, 3, 5, 9] [0] ?_
 refine zad ?_
 refine ⟨(List.map Spot.c ([] : List Spot)), rfl, ?_⟩
 refine zaa ?_
 refine zaa ?_
 refine zac [0, 2, 3, 5, 9, 10] [0] ?_
 refine zad ?_
 refine zah ?_
 obtain ⟨j5, hj5, h⟩ := zab h
 refine zaS hj5 [0] (fun s => ([(0, .sl false 7 (List.map Spot.c spots)), (2, .int .i64 z_), (3, .bool title), (5, .loc 0 0), (9, .sl true 7 (List.map Spot.c s.1)), (10, .int .i64 s.2)], [(0, (Rect.c r_))], [])) (fun _ => [0, 2, 3, 5, 9]) (fun _ => [0]) (fun z => (.exit 0, [(0, .sl false 7 (List.map Spot.c spots)), (2, .int .i64 z_), (3, .bool title), (5, .loc 0 0), (9, .sl true 7 (List.map Spot.c z))], [(0, (Rect.c r_))], [])) ?_ ?_ ?_
 ·exact rfl
 ·clear h
  rintro ⟨out, i⟩ x h
  replace h : casementref10_add_l1 spots out i = some x := h
  unfold casementref10_add_l1 at h
  show T.WP _ _ [(0, .sl false 7 (List.map Spot.c spots)), (2, .int .i64 z_), (3, .bool title), (5, .loc 0 0), (9, .sl true 7 (List.map Spot.c out)), (10, .int .i64 i)] [(0, (Rect.c r_))] [] _
  refine zaa ?_
  refine zaa ?_
  refine zac [0, 2, 3, 5, 9, 10, 15] [0] ?_
  refine zad ?_
  refine ⟨_, (yal ..).symm, ?_⟩
  refine fun c1 hc1 => ?_
  replace h := zae hc1 h
  refine zag (b := c1) rfl (fun hb2 => ?_) (fun hb2 => ?_)
  ·replace h := zam hb2 h
   refine zai ?_
   refine zaa ?_
   refine zah ?_
   refine zac [0, 2, 3, 5, 9, 10] [0] ?_
   refine zad ?_
   obtain ⟨x3, hx3, h⟩ := zab h
   refine And.intro (zbw hx3) ⟨_, zaD Spot.c hx3, ?_⟩
   refine ⟨(List.map Spot.c ([x3] : List Spot)), rfl, ?_⟩
   obtain ⟨x4, hx4, h⟩ := zab h
   refine And.intro (zdJ Spot.c hx4) ⟨_, zdK Spot.c hx4, ?_⟩
   refine zac [0, 2, 3, 5, 9, 10] [0] ?_
   refine zad ?_
   cases h
   exact ⟨_, rfl, rfl⟩
  ·replace h := zal hb2 h
   refine zaR ?_
   cases h
   exact ⟨_, rfl, rfl⟩
 refine zaa ?_
 refine zac [8] [0] ?_
 refine zad ?_
 refine ⟨_, (yal ..).symm, ?_⟩
 refine ⟨(List.map Spot.c ([(Spot.mk (spots.length : Int) r_ z_ title)] : List Spot)), rfl, ?_⟩
 obtain ⟨x6, hx6, h⟩ := zab h
 refine And.intro (zdJ Spot.c hx6) ⟨_, zdK Spot.c hx6, ?_⟩
 refine zap ?_
 cases h
 exact ⟨rfl, rfl, rfl, rfl, rfl⟩
noncomputable def casementref09_sum_l1 (a : List Int) (n : Int) (i : Int) : Option ((Int × Int) ⊕ Int) :=
 letB (decide (i < (a.length : Int))) fun c1 =>
 bif c1 then (
  (idx a i).bind fun x3 =>
  some (.inl (w64 (n + x3), w64 (i + 1))))
 else (
  some (.inr n))
noncomputable def zbA (a : List Int) : Option Int :=
 (iter (fun s => casementref09_sum_l1 a s.1 s.2 : (Int × Int) → Option ((Int × Int) ⊕ Int)) (0, 0)).bind fun j4 =>
 some j4
set_option maxRecDepth 20000 in
theorem zdl {a : List Int} {r : Int} (h : zbA a = some r) : zak true (RF ET) 82 [.sl false 1 (List.map ei64 a)] [] (.int .i64 r) [] := by
 refine zak.quiet (zaF (af := a82) rfl rfl ?_) rfl
 unfold zbA at h
 refine zaa ?_
 refine zac [0] [] ?_
 refine zad ?_
 refine zaa ?_
 refine zac [0, 3] [] ?_
 refine zad ?_
 refine zaa ?_
 refine zaa ?_
 refine zac [0, 3, 4] [] ?_
 refine zad ?_
 refine zah ?_
 obtain ⟨j4, hj4, h⟩ := zab h
 refine zaS hj4 [] (fun s => ([(0, .sl false 1 (List.map ei64 a)), (3, .int .i64 s.1), (4, .int .i64 s.2)], [], [])) (fun _ => [3]) (fun _ => []) (fun z => (.exit 0, [(3, .int .i64 z)], [], [])) ?_ ?_ ?_
 ·exact rfl
 ·clear h
  rintro ⟨n, i⟩ x h
  replace h : casementref09_sum_l1 a n i = some x := h
  unfold casementref09_sum_l1 at h
  show T.WP _ _ [(0, .sl false 1 (List.map ei64 a)), (3, .int .i64 n), (4, .int .i64 i)] [] [] _
  refine zaa ?_
  refine zaa ?_
  refine zac [0, 3, 4, 8] [] ?_
  refine zad ?_
  refine ⟨_, (yal ..).symm, ?_⟩
  refine fun c1 hc1 => ?_
  replace h := zae hc1 h
  refine zag (b := c1) rfl (fun hb2 => ?_) (fun hb2 => ?_)
  ·replace h := zam hb2 h
   refine zai ?_
   refine zaa ?_
   refine zah ?_
   refine zac [0, 3, 4] [] ?_
   refine zad ?_
   obtain ⟨x3, hx3, h⟩ := zab h
   refine And.intro (zbw hx3) ⟨_, zaD ei64 hx3, ?_⟩
   refine zac [0, 3, 4] [] ?_
   refine zad ?_
   cases h
   exact ⟨_, rfl, rfl⟩
  ·replace h := zal hb2 h
   refine zaR ?_
   cases h
   exact ⟨_, rfl, rfl⟩
 refine zaa ?_
 refine zac [2] [] ?_
 refine zad ?_
 refine zap ?_
 cases h
 exact ⟨rfl, rfl, rfl, rfl, rfl⟩
noncomputable def casementref09_change_l1 (a : List Int) (at_ : Int) (d : Int) (out : List Int) (i : Int) : Option ((List Int × Int) ⊕ List Int) :=
 letB (decide (i < (a.length : Int))) fun c1 =>
 bif c1 then (
  Option.bind (
   letB (decide (i = at_)) fun c3 =>
   Option.bind (
    bif c3 then (
     (idx a i).bind fun x5 =>
     (app out [w64 (x5 + d)]).bind fun x6 =>
     some (x6))
    else (
     (idx a i).bind fun x7 =>
     (app out [x7]).bind fun x8 =>
     some (x8)) : Option (List Int)) fun j9 =>
   some (j9) : Option (List Int)) fun j10 =>
  some (.inl (j10, w64 (i + 1))))
 else (
  some (.inr out))
noncomputable def zaP (a : List Int) (at_ : Int) (d : Int) : Option (List Int) :=
 (iter (fun s => casementref09_change_l1 a at_ d s.1 s.2 : (List Int × Int) → Option ((List Int × Int) ⊕ List Int)) ([], 0)).bind fun j11 =>
 some j11
set_option maxRecDepth 20000 in
theorem zcd {a : List Int} {at_ : Int} {d : Int} {r : List Int} (h : zaP a at_ d = some r) : zak true (RF ET) 83 [.sl false 1 (List.map ei64 a), .int .i64 at_, .int .i64 d] [] (.sl true 1 (List.map ei64 r)) [] := by
 refine zak.quiet (zaF (af := a83) rfl rfl ?_) rfl
 unfold zaP at h
 refine zaa ?_
 refine zac [0, 1, 2] [] ?_
 refine zad ?_
 refine ⟨.sl false 1 [], .sl _ _, ?_⟩
 refine zaa ?_
 refine zac [0, 1, 2, 7] [] ?_
 refine zad ?_
 refine ⟨(List.map ei64 ([] : List Int)), rfl, ?_⟩
 refine zaa ?_
 refine zaa ?_
 refine zac [0, 1, 2, 7, 8] [] ?_
 refine zad ?_
 refine zah ?_
 obtain ⟨j11, hj11, h⟩ := zab h
 refine zaS hj11 [] (fun s => ([(0, .sl false 1 (List.map ei64 a)), (1, .int .i64 at_), (2, .int .i64 d), (7, .sl true 1 (List.map ei64 s.1)), (8, .int .i64 s.2)], [], [])) (fun _ => [7]) (fun _ => []) (fun z => (.exit 0, [(7, .sl true 1 (List.map ei64 z))], [], [])) ?_ ?_ ?_
 ·exact rfl
 ·clear h
  rintro ⟨out, i⟩ x h
  replace h : casementref09_change_l1 a at_ d out i = some x := h
  unfold casementref09_change_l1 at h
  show T.WP _ _ [(0, .sl false 1 (List.map ei64 a)), (1, .int .i64 at_), (2, .int .i64 d), (7, .sl true 1 (List.map ei64 out)), (8, .int .i64 i)] [] [] _
  refine zaa ?_
  refine zaa ?_
  refine zac [0, 1, 2, 7, 8, 13] [] ?_
  refine zad ?_
  refine ⟨_, (yal ..).symm, ?_⟩
  refine fun c1 hc1 => ?_
  replace h := zae hc1 h
  refine zag (b := c1) rfl (fun hb2 => ?_) (fun hb2 => ?_)
  ·replace h := zam hb2 h
   refine zai ?_
   refine zaa ?_
   obtain ⟨j10, hj10, h⟩ := zab h
   refine za7 j10 (fun z => (.normal, [(0, .sl false 1 (List.map ei64 a)), (1, .int .i64 at_), (2, .int .i64 d), (7, .sl true 1 (List.map ei64 z)), (8, .int .i64 i)], [], [])) (fun _ => [0, 1, 2, 7, 8]) (fun _ => []) ?_ ?_
   ·clear h
    replace h := hj10
    clear hj10
    refine zah ?_
    refine zaa ?_
    refine zac [0, 1, 2, 7, 8, 18] [] ?_
    refine zad ?_
    refine fun c3 hc3 => ?_
    replace h := zae hc3 h
    obtain ⟨j9, hj9, h⟩ := zab h
    refine za7 j9 (fun z => (.normal, [(0, .sl false 1 (List.map ei64 a)), (1, .int .i64 at_), (2, .int .i64 d), (7, .sl true 1 (List.map ei64 z)), (8, .int .i64 i)], [], [])) (fun _ => [0, 1, 2, 7, 8]) (fun _ => []) ?_ ?_
    ·clear h
     replace h := hj9
     clear hj9
     refine zag (b := c3) rfl (fun hb4 => ?_) (fun hb4 => ?_)
     ·replace h := zam hb4 h
      refine zac [0, 1, 2, 7, 8] [] ?_
      refine zad ?_
      obtain ⟨x5, hx5, h⟩ := zab h
      refine And.intro (zbw hx5) ⟨_, zaD ei64 hx5, ?_⟩
      refine ⟨(List.map ei64 ([w64 (x5 + d)] : List Int)), rfl, ?_⟩
      obtain ⟨x6, hx6, h⟩ := zab h
      refine And.intro (zdJ ei64 hx6) ⟨_, zdK ei64 hx6, ?_⟩
      cases h
      exact rfl
     ·replace h := zal hb4 h
      refine zac [0, 1, 2, 7, 8] [] ?_
      refine zad ?_
      obtain ⟨x7, hx7, h⟩ := zab h
      refine And.intro (zbw hx7) ⟨_, zaD ei64 hx7, ?_⟩
      refine ⟨(List.map ei64 ([x7] : List Int)), rfl, ?_⟩
      obtain ⟨x8, hx8, h⟩ := zab h
      refine And.intro (zdJ ei64 hx8) ⟨_, zdK ei64 hx8, ?_⟩
      cases h
      exact rfl
    cases h
    exact rfl
   refine zac [0, 1, 2, 7, 8] [] ?_
   refine zad ?_
   cases h
   exact ⟨_, rfl, rfl⟩
  ·replace h := zal hb2 h
   refine zaR ?_
   cases h
   exact ⟨_, rfl, rfl⟩
 refine zaa ?_
 refine zac [6] [] ?_
 refine zad ?_
 refine zap ?_
 cases h
 exact ⟨rfl, rfl, rfl, rfl, rfl⟩
noncomputable def casementref09_Share_l1 (sizes : List Size) (i : Int) : Option (Int ⊕ (Unit ⊕ Unit)) :=
 letB (decide (i < (sizes.length : Int))) fun c6 =>
 bif c6 then (
  (idx sizes i).bind fun x8 =>
  (zbb x8).bind fun y9 =>
  bif (!y9) then (
   some (.inr (.inl ())))
  else (
   some (.inl (w64 (i + 1)))))
 else (
  some (.inr (.inr ())))
noncomputable def casementref09_Share_l2 (total : Int) (sizes : List Size) (out : List Int) (flex : List Int) (i' : Int) : Option ((List Int × List Int × Int) ⊕ (List Int × List Int)) :=
 letB (decide (i' < (sizes.length : Int))) fun c18 =>
 bif c18 then (
  Option.bind (
   (idx sizes i').bind fun x20 =>
   letB (decide (x20.Kind = 1)) fun c21 =>
   Option.bind (
    bif c21 then (
     (idx sizes i').bind fun x23 =>
     some (x23.N))
    else (
     some (1)) : Option Int) fun j24 =>
   (idx sizes i').bind fun x25 =>
   letB (decide (x25.Kind = 2)) fun c26 =>
   (bif c26 then (
    (idx sizes i').bind fun x28 =>
    letB (decide ((w64 (total * x28.N)) ≥ 100)) fun c29 =>
    some (c29)) else some false).bind fun g27 =>
   Option.bind (
    bif g27 then (
     (idx sizes i').bind fun x32 =>
     some (w64 (Int.tdiv (w64 (total * x32.N)) 100)))
    else (
     some (j24)) : Option Int) fun j33 =>
   (idx sizes i').bind fun x34 =>
   letB (decide (x34.Kind = 0)) fun c35 =>
   Option.bind (
    bif c35 then (
     (app flex [i']).bind fun x37 =>
     some (x37))
    else (
     some (flex)) : Option (List Int)) fun j38 =>
   (app out [j33]).bind fun x39 =>
   some ((x39, j38)) : Option (List Int × List Int)) fun j40 =>
  some (.inl (j40.1, j40.2, w64 (i' + 1))))
 else (
  some (.inr (out, flex)))
noncomputable def casementref09_Share_l5 (sizes : List Size) (out' : List Int) (last : Int) (i'' : Int) : Option ((Int × Int) ⊕ Int) :=
 letB (decide (i'' < (out'.length : Int))) fun c45 =>
 bif c45 then (
  Option.bind (
   (idx out' i'').bind fun x47 =>
   letB (decide (x47 > 1)) fun c48 =>
   (bif c48 then (
    (idx sizes i'').bind fun x50 =>
    letB (decide (x50.Kind ≠ 0)) fun c51 =>
    some (c51)) else some false).bind fun g49 =>
   Option.bind (
    bif g49 then (
     some (i''))
    else (
     some (last)) : Option Int) fun j54 =>
   some (j54) : Option Int) fun j55 =>
  some (.inl (j55, w64 (i'' + 1))))
 else (
  some (.inr last))
noncomputable def casementref09_Share_l6 (total : Int) (sizes : List Size) (out' : List Int) : Option (List Int ⊕ List Int) :=
 (zbA out').bind fun y42 =>
 letB (decide (y42 > total)) fun c43 =>
 bif c43 then (
  (iter (fun s => casementref09_Share_l5 sizes out' s.1 s.2 : (Int × Int) → Option ((Int × Int) ⊕ Int)) (0, 0)).bind fun j56 =>
  (zaP out' j56 (-1)).bind fun y57 =>
  some (.inl y57))
 else (
  some (.inr out'))
noncomputable def casementref09_Share_l7 (total : Int) (j41 : List Int × List Int) (out'' : List Int) (n : Int) : Option ((List Int × Int) ⊕ List Int) :=
 (zbA out'').bind fun y59 =>
 letB (decide (y59 < total)) fun c60 =>
 bif c60 then (
  Option.bind (
   letB (decide ((j41.2.length : Int) = 0)) fun c62 =>
   Option.bind (
    bif c62 then (
     (zaP out'' (w64 ((out''.length : Int) - 1)) 1).bind fun y64 =>
     some (y64))
    else (
     (req (decide ((j41.2.length : Int) ≠ 0))).bind fun x65 =>
     (idx j41.2 (Int.tmod n (j41.2.length : Int))).bind fun x66 =>
     (zaP out'' x66 1).bind fun y67 =>
     some (y67)) : Option (List Int)) fun j68 =>
   some (j68) : Option (List Int)) fun j69 =>
  some (.inl (j69, w64 (n + 1))))
 else (
  some (.inr out''))
noncomputable def zaU (total : Int) (sizes : List Size) : Option (List Int × Int) :=
 letB (decide ((sizes.length : Int) = 0)) fun c1 =>
 (bif c1 then some true else (
  letB (decide (total > 200)) fun c3 =>
  some (c3))).bind fun g2 =>
 bif g2 then (
  some ([], 1))
 else (
  (iter (fun s => casementref09_Share_l1 sizes s : Int → Option (Int ⊕ (Unit ⊕ Unit))) 0).bind fun j11 =>
  match j11 with
  | .inl z12 => (
   some ([], 1))
  | .inr z13 => (
   letB (decide ((sizes.length : Int) > 16)) fun c14 =>
   bif c14 then (
    some ([], 3))
   else (
    letB (decide (total < (sizes.length : Int))) fun c16 =>
    bif c16 then (
     some ([], 90))
    else (
     (iter (fun s => casementref09_Share_l2 total sizes s.1 s.2.1 s.2.2 : (List Int × List Int × Int) → Option ((List Int × List Int × Int) ⊕ (List Int × List Int))) ([], [], 0)).bind fun j41 =>
     (iter (fun s => casementref09_Share_l6 total sizes s : List Int → Option (List Int ⊕ List Int)) j41.1).bind fun j58 =>
     (iter (fun s => casementref09_Share_l7 total j41 s.1 s.2 : (List Int × Int) → Option ((List Int × Int) ⊕ List Int)) (j58, 0)).bind fun j70 =>
     some (j70, 0)))))
set_option maxRecDepth 20000 in
theorem zeD {total : Int} {sizes : List Size} {r : List Int × Int} (h : zaU total sizes = some r) : zak true (RF ET) 65 [.int .i64 total, .sl false 2 (List.map Size.c sizes)] [] (.tuple [.sl false 1 (List.map ei64 r.1), .int .i64 r.2]) [] := by
 refine zak.quiet (zaF (af := a65) rfl rfl ?_) rfl
 unfold zaU at h
 refine zaa ?_
 refine zac [0, 1] [] ?_
 refine zad ?_
 refine ⟨.sl false 1 [], .sl _ _, ?_⟩
 refine zaa ?_
 refine zaa ?_
 refine zac [0, 1, 20] [] ?_
 refine zat 4 ?_
 refine zad ?_
 refine ⟨_, (yal ..).symm, ?_⟩
 refine fun c1 hc1 => ?_
 replace h := zae hc1 h
 obtain ⟨g2, hg2, h⟩ := zab h
 refine zaB 3 20 [0, 1, 20] g2 ?_ ?_
 ·clear h
  replace h := hg2
  clear hg2
  cases hb4 : c1 with
  | false =>
   replace h := zal hb4 h
   refine zad ?_
   refine fun c3 hc3 => ?_
   replace h := zae hc3 h
   cases h
   exact ⟨rfl, rfl, rfl⟩
  | true =>
   replace h := zam hb4 h
   cases h
   refine zad ?_
   exact ⟨rfl, rfl, rfl⟩
 refine zad ?_
 refine zag (b := g2) rfl (fun hb5 => ?_) (fun hb5 => ?_)
 ·replace h := zam hb5 h
  refine zaa ?_
  refine zac [4, 5] [] ?_
  refine zad ?_
  refine ⟨.sl false 1 [], .sl _ _, ?_⟩
  refine zap ?_
  cases h
  exact ⟨rfl, rfl, rfl, rfl, rfl⟩
 ·replace h := zal hb5 h
  refine zai ?_
  refine zaa ?_
  refine zaa ?_
  refine zac [0, 1, 6] [] ?_
  refine zad ?_
  refine zah ?_
  obtain ⟨j11, hj11, h⟩ := zab h
  refine zaS hj11 [] (fun s => ([(0, .int .i64 total), (1, .sl false 2 (List.map Size.c sizes)), (6, .int .i64 s)], [], [])) (fun e => match e with | .ret => [4, 5] | .exit 0 => [0, 1] | _ => []) (fun e => match e with | .ret => [] | .exit 0 => [] | _ => []) (fun r => match r with | .inl z => (.ret, [(4, .sl false 1 (List.map ei64 [])), (5, .int .i64 1)], [], []) | .inr z => (.exit 0, [(0, .int .i64 total), (1, .sl false 2 (List.map Size.c sizes))], [], [])) ?_ ?_ ?_
  ·exact rfl
  ·clear h
   rintro i x h
   replace h : casementref09_Share_l1 sizes i = some x := h
   unfold casementref09_Share_l1 at h
   show T.WP _ _ [(0, .int .i64 total), (1, .sl false 2 (List.map Size.c sizes)), (6, .int .i64 i)] [] [] _
   refine zaa ?_
   refine zaa ?_
   refine zac [0, 1, 6, 24] [] ?_
   refine zad ?_
   refine ⟨_, (yal ..).symm, ?_⟩
   refine fun c6 hc6 => ?_
   replace h := zae hc6 h
   refine zag (b := c6) rfl (fun hb7 => ?_) (fun hb7 => ?_)
   ·replace h := zam hb7 h
    refine zai ?_
    refine zaa ?_
    refine zah ?_
    refine zaa ?_
    refine zac [0, 1, 6, 32] [] ?_
    refine zad ?_
    obtain ⟨x8, hx8, h⟩ := zab h
    refine And.intro (zbw hx8) ⟨_, zaD Size.c hx8, ?_⟩
    obtain ⟨y9, hy9, h⟩ := zab h
    refine ⟨_, zcT hy9, ?_⟩
    refine zag (b := (!y9)) rfl (fun hb10 => ?_) (fun hb10 => ?_)
    ·replace h := zam hb10 h
     refine zaa ?_
     refine zac [4, 5] [] ?_
     refine zad ?_
     refine ⟨.sl false 1 [], .sl _ _, ?_⟩
     refine zap ?_
     cases h
     exact ⟨_, rfl, rfl⟩
    ·replace h := zal hb10 h
     refine zai ?_
     refine zac [0, 1, 6] [] ?_
     refine zad ?_
     cases h
     exact ⟨_, rfl, rfl⟩
   ·replace h := zal hb7 h
    refine zaR ?_
    cases h
    exact ⟨_, rfl, rfl⟩
  rcases j11 with z12 | z13
  ·cases h
   exact ⟨rfl, rfl, rfl, rfl, rfl⟩
  ·refine zaa ?_
   refine zaa ?_
   refine zac [0, 1, 35] [] ?_
   refine zad ?_
   refine ⟨_, (yal ..).symm, ?_⟩
   refine fun c14 hc14 => ?_
   replace h := zae hc14 h
   refine zag (b := c14) rfl (fun hb15 => ?_) (fun hb15 => ?_)
   ·replace h := zam hb15 h
    refine zaa ?_
    refine zac [4, 5] [] ?_
    refine zad ?_
    refine ⟨.sl false 1 [], .sl _ _, ?_⟩
    refine zap ?_
    cases h
    exact ⟨rfl, rfl, rfl, rfl, rfl⟩
   ·replace h := zal hb15 h
    refine zai ?_
    refine zaa ?_
    refine zaa ?_
    refine zac [0, 1, 39] [] ?_
    refine zad ?_
    refine ⟨_, (yal ..).symm, ?_⟩
    refine fun c16 hc16 => ?_
    replace h := zae hc16 h
    refine zag (b := c16) rfl (fun hb17 => ?_) (fun hb17 => ?_)
    ·replace h := zam hb17 h
     refine zaa ?_
     refine zac [4, 5] [] ?_
     refine zad ?_
     refine ⟨.sl false 1 [], .sl _ _, ?_⟩
     refine zap ?_
     cases h
     exact ⟨rfl, rfl, rfl, rfl, rfl⟩
    ·replace h := zal hb17 h
     refine zai ?_
     refine zaa ?_
     refine zac [0, 1, 7] [] ?_
     refine zad ?_
     refine ⟨(List.map ei64 ([] : List Int)), rfl, ?_⟩
     refine zaa ?_
     refine zac [0, 1, 7, 8] [] ?_
     refine zad ?_
     refine ⟨(List.map ei64 ([] : List Int)), rfl, ?_⟩
     refine zaa ?_
     refine zaa ?_
     refine zac [0, 1, 7, 8, 9] [] ?_
     refine zad ?_
     refine zah ?_
     obtain ⟨j41, hj41, h⟩ := zab h
     refine zaS hj41 [] (fun s => ([(0, .int .i64 total), (1, .sl false 2 (List.map Size.c sizes)), (7, .sl true 1 (List.map ei64 s.1)), (8, .sl true 1 (List.map ei64 s.2.1)), (9, .int .i64 s.2.2)], [], [])) (fun _ => [0, 1, 7, 8]) (fun _ => []) (fun z => (.exit 2, [(0, .int .i64 total), (1, .sl false 2 (List.map Size.c sizes)), (7, .sl true 1 (List.map ei64 z.1)), (8, .sl true 1 (List.map ei64 z.2))], [], [])) ?_ ?_ ?_
     ·exact rfl
     ·clear h
      rintro ⟨out, flex, i'⟩ x h
      replace h : casementref09_Share_l2 total sizes out flex i' = some x := h
      unfold casementref09_Share_l2 at h
      show T.WP _ _ [(0, .int .i64 total), (1, .sl false 2 (List.map Size.c sizes)), (7, .sl true 1 (List.map ei64 out)), (8, .sl true 1 (List.map ei64 flex)), (9, .int .i64 i')] [] [] _
      refine zaa ?_
      refine zaa ?_
      refine zac [0, 1, 7, 8, 9, 45] [] ?_
      refine zad ?_
      refine ⟨_, (yal ..).symm, ?_⟩
      refine fun c18 hc18 => ?_
      replace h := zae hc18 h
      refine zag (b := c18) rfl (fun hb19 => ?_) (fun hb19 => ?_)
      ·replace h := zam hb19 h
       refine zai ?_
       refine zaa ?_
       obtain ⟨j40, hj40, h⟩ := zab h
       refine za7 j40 (fun z => (.normal, [(0, .int .i64 total), (1, .sl false 2 (List.map Size.c sizes)), (7, .sl true 1 (List.map ei64 z.1)), (8, .sl true 1 (List.map ei64 z.2)), (9, .int .i64 i')], [], [])) (fun _ => [0, 1, 7, 8, 9]) (fun _ => []) ?_ ?_
       ·clear h
        replace h := hj40
        clear hj40
        refine zah ?_
        refine zaa ?_
        refine zac [0, 1, 7, 8, 9, 10] [] ?_
        refine zad ?_
        refine zaa ?_
        refine zaa ?_
        refine zac [0, 1, 7, 8, 9, 10, 53] [] ?_
        refine zad ?_
        obtain ⟨x20, hx20, h⟩ := zab h
        refine And.intro (zbw hx20) ⟨_, zaD Size.c hx20, ?_⟩
        refine fun c21 hc21 => ?_
        replace h := zae hc21 h
        obtain ⟨j24, hj24, h⟩ := zab h
        refine za7 j24 (fun z => (.normal, [(0, .int .i64 total), (1, .sl false 2 (List.map Size.c sizes)), (7, .sl true 1 (List.map ei64 out)), (8, .sl true 1 (List.map ei64 flex)), (9, .int .i64 i'), (10, .int .i64 z)], [], [])) (fun _ => [0, 1, 7, 8, 9, 10]) (fun _ => []) ?_ ?_
        ·clear h
         replace h := hj24
         clear hj24
         refine zag (b := c21) rfl (fun hb22 => ?_) (fun hb22 => ?_)
         ·replace h := zam hb22 h
          refine zac [0, 1, 7, 8, 9, 10] [] ?_
          refine zad ?_
          obtain ⟨x23, hx23, h⟩ := zab h
          refine And.intro (zbw hx23) ⟨_, zaD Size.c hx23, ?_⟩
          cases h
          exact rfl
         ·replace h := zal hb22 h
          refine zai ?_
          cases h
          exact rfl
        refine zaa ?_
        refine zaa ?_
        refine zac [0, 1, 7, 8, 9, 10, 74] [] ?_
        refine zat 7 ?_
        refine zad ?_
        obtain ⟨x25, hx25, h⟩ := zab h
        refine And.intro (zbw hx25) ⟨_, zaD Size.c hx25, ?_⟩
        refine fun c26 hc26 => ?_
        replace h := zae hc26 h
        obtain ⟨g27, hg27, h⟩ := zab h
        refine zaB 9 74 [0, 1, 7, 8, 9, 10, 74] g27 ?_ ?_
        ·clear h
         replace h := hg27
         clear hg27
         cases hb30 : c26 with
         | true =>
          replace h := zam hb30 h
          refine zad ?_
          obtain ⟨x28, hx28, h⟩ := zab h
          refine And.intro (zbw hx28) ⟨_, zaD Size.c hx28, ?_⟩
          refine fun c29 hc29 => ?_
          replace h := zae hc29 h
          cases h
          exact ⟨rfl, rfl, rfl⟩
         | false =>
          replace h := zal hb30 h
          cases h
          refine zad ?_
          exact ⟨rfl, rfl, rfl⟩
        refine zad ?_
        obtain ⟨j33, hj33, h⟩ := zab h
        refine za7 j33 (fun z => (.normal, [(0, .int .i64 total), (1, .sl false 2 (List.map Size.c sizes)), (7, .sl true 1 (List.map ei64 out)), (8, .sl true 1 (List.map ei64 flex)), (9, .int .i64 i'), (10, .int .i64 z)], [], [])) (fun _ => [0, 1, 7, 8, 9, 10]) (fun _ => []) ?_ ?_
        ·clear h
         replace h := hj33
         clear hj33
         refine zag (b := g27) rfl (fun hb31 => ?_) (fun hb31 => ?_)
         ·replace h := zam hb31 h
          refine zac [0, 1, 7, 8, 9, 10] [] ?_
          refine zad ?_
          obtain ⟨x32, hx32, h⟩ := zab h
          refine And.intro (zbw hx32) ⟨_, zaD Size.c hx32, ?_⟩
          refine And.intro (by decide) ?_
          cases h
          exact rfl
         ·replace h := zal hb31 h
          refine zai ?_
          cases h
          exact rfl
        refine zaa ?_
        refine zaa ?_
        refine zac [0, 1, 7, 8, 9, 10, 88] [] ?_
        refine zad ?_
        obtain ⟨x34, hx34, h⟩ := zab h
        refine And.intro (zbw hx34) ⟨_, zaD Size.c hx34, ?_⟩
        refine fun c35 hc35 => ?_
        replace h := zae hc35 h
        obtain ⟨j38, hj38, h⟩ := zab h
        refine za7 j38 (fun z => (.normal, [(0, .int .i64 total), (1, .sl false 2 (List.map Size.c sizes)), (7, .sl true 1 (List.map ei64 out)), (8, .sl true 1 (List.map ei64 z)), (9, .int .i64 i'), (10, .int .i64 j33)], [], [])) (fun _ => [0, 1, 7, 8, 9, 10]) (fun _ => []) ?_ ?_
        ·clear h
         replace h := hj38
         clear hj38
         refine zag (b := c35) rfl (fun hb36 => ?_) (fun hb36 => ?_)
         ·replace h := zam hb36 h
          refine zac [0, 1, 7, 8, 9, 10] [] ?_
          refine zad ?_
          refine ⟨(List.map ei64 ([i'] : List Int)), rfl, ?_⟩
          obtain ⟨x37, hx37, h⟩ := zab h
          refine And.intro (zdJ ei64 hx37) ⟨_, zdK ei64 hx37, ?_⟩
          cases h
          exact rfl
         ·replace h := zal hb36 h
          refine zai ?_
          cases h
          exact rfl
        refine zac [0, 1, 7, 8, 9] [] ?_
        refine zad ?_
        refine ⟨(List.map ei64 ([j33] : List Int)), rfl, ?_⟩
        obtain ⟨x39, hx39, h⟩ := zab h
        refine And.intro (zdJ ei64 hx39) ⟨_, zdK ei64 hx39, ?_⟩
        cases h
        exact rfl
       refine zac [0, 1, 7, 8, 9] [] ?_
       refine zad ?_
       cases h
       exact ⟨_, rfl, rfl⟩
      ·replace h := zal hb19 h
       refine zaR ?_
       cases h
       exact ⟨_, rfl, rfl⟩
     refine zaa ?_
     refine zah ?_
     obtain ⟨j58, hj58, h⟩ := zab h
     refine zaS hj58 [] (fun s => ([(0, .int .i64 total), (1, .sl false 2 (List.map Size.c sizes)), (7, .sl true 1 (List.map ei64 s)), (8, .sl true 1 (List.map ei64 j41.2))], [], [])) (fun _ => [0, 7, 8]) (fun _ => []) (fun z => (.exit 4, [(0, .int .i64 total), (7, .sl false 1 (List.map ei64 z)), (8, .sl true 1 (List.map ei64 j41.2))], [], [])) ?_ ?_ ?_
     ·exact rfl
     ·clear h
      rintro out' x h
      replace h : casementref09_Share_l6 total sizes out' = some x := h
      unfold casementref09_Share_l6 at h
      show T.WP _ _ [(0, .int .i64 total), (1, .sl false 2 (List.map Size.c sizes)), (7, .sl true 1 (List.map ei64 out')), (8, .sl true 1 (List.map ei64 j41.2))] [] [] _
      refine zaa ?_
      refine zaa ?_
      refine zac [0, 1, 7, 8, 100] [] ?_
      refine zad ?_
      obtain ⟨y42, hy42, h⟩ := zab h
      refine ⟨_, zdl hy42, ?_⟩
      refine fun c43 hc43 => ?_
      replace h := zae hc43 h
      refine zag (b := c43) rfl (fun hb44 => ?_) (fun hb44 => ?_)
      ·replace h := zam hb44 h
       refine zai ?_
       refine zah ?_
       refine zaa ?_
       refine zac [0, 1, 7, 8, 11] [] ?_
       refine zad ?_
       refine zaa ?_
       refine zaa ?_
       refine zac [0, 1, 7, 8, 11, 12] [] ?_
       refine zad ?_
       refine zah ?_
       obtain ⟨j56, hj56, h⟩ := zab h
       refine zaS hj56 [] (fun s => ([(0, .int .i64 total), (1, .sl false 2 (List.map Size.c sizes)), (7, .sl false 1 (List.map ei64 out')), (8, .sl true 1 (List.map ei64 j41.2)), (11, .int .i64 s.1), (12, .int .i64 s.2)], [], [])) (fun _ => [0, 1, 7, 8, 11]) (fun _ => []) (fun z => (.exit 6, [(0, .int .i64 total), (1, .sl false 2 (List.map Size.c sizes)), (7, .sl false 1 (List.map ei64 out')), (8, .sl true 1 (List.map ei64 j41.2)), (11, .int .i64 z)], [], [])) ?_ ?_ ?_
       ·exact rfl
       ·clear h
        rintro ⟨last, i''⟩ x h
        replace h : casementref09_Share_l5 sizes out' last i'' = some x := h
        unfold casementref09_Share_l5 at h
        show T.WP _ _ [(0, .int .i64 total), (1, .sl false 2 (List.map Size.c sizes)), (7, .sl false 1 (List.map ei64 out')), (8, .sl true 1 (List.map ei64 j41.2)), (11, .int .i64 last), (12, .int .i64 i'')] [] [] _
        refine zaa ?_
        refine zaa ?_
        refine zac [0, 1, 7, 8, 11, 12, 104] [] ?_
        refine zad ?_
        refine ⟨_, (yal ..).symm, ?_⟩
        refine fun c45 hc45 => ?_
        replace h := zae hc45 h
        refine zag (b := c45) rfl (fun hb46 => ?_) (fun hb46 => ?_)
        ·replace h := zam hb46 h
         refine zai ?_
         refine zaa ?_
         obtain ⟨j55, hj55, h⟩ := zab h
         refine za7 j55 (fun z => (.normal, [(0, .int .i64 total), (1, .sl false 2 (List.map Size.c sizes)), (7, .sl false 1 (List.map ei64 out')), (8, .sl true 1 (List.map ei64 j41.2)), (11, .int .i64 z), (12, .int .i64 i'')], [], [])) (fun _ => [0, 1, 7, 8, 11, 12]) (fun _ => []) ?_ ?_
         ·clear h
          replace h := hj55
          clear hj55
          refine zah ?_
          refine zaa ?_
          refine zac [0, 1, 7, 8, 11, 12, 119] [] ?_
          refine zat 6 ?_
          refine zad ?_
          obtain ⟨x47, hx47, h⟩ := zab h
          refine And.intro (zbw hx47) ⟨_, zaD ei64 hx47, ?_⟩
          refine fun c48 hc48 => ?_
          replace h := zae hc48 h
          obtain ⟨g49, hg49, h⟩ := zab h
          refine zaB 7 119 [0, 1, 7, 8, 11, 12, 119] g49 ?_ ?_
          ·clear h
           replace h := hg49
           clear hg49
           cases hb52 : c48 with
           | true =>
            replace h := zam hb52 h
            refine zad ?_
            obtain ⟨x50, hx50, h⟩ := zab h
            refine And.intro (zbw hx50) ⟨_, zaD Size.c hx50, ?_⟩
            refine fun c51 hc51 => ?_
            replace h := zae hc51 h
            cases h
            exact ⟨rfl, rfl, rfl⟩
           | false =>
            replace h := zal hb52 h
            cases h
            refine zad ?_
            exact ⟨rfl, rfl, rfl⟩
          refine zad ?_
          obtain ⟨j54, hj54, h⟩ := zab h
          refine za7 j54 (fun z => (.normal, [(0, .int .i64 total), (1, .sl false 2 (List.map Size.c sizes)), (7, .sl false 1 (List.map ei64 out')), (8, .sl true 1 (List.map ei64 j41.2)), (11, .int .i64 z), (12, .int .i64 i'')], [], [])) (fun _ => [0, 1, 7, 8, 11, 12]) (fun _ => []) ?_ ?_
          ·clear h
           replace h := hj54
           clear hj54
           refine zag (b := g49) rfl (fun hb53 => ?_) (fun hb53 => ?_)
           ·replace h := zam hb53 h
            refine zac [0, 1, 7, 8, 11, 12] [] ?_
            refine zad ?_
            cases h
            exact rfl
           ·replace h := zal hb53 h
            refine zai ?_
            cases h
            exact rfl
          cases h
          exact rfl
         refine zac [0, 1, 7, 8, 11, 12] [] ?_
         refine zad ?_
         cases h
         exact ⟨_, rfl, rfl⟩
        ·replace h := zal hb46 h
         refine zaR ?_
         cases h
         exact ⟨_, rfl, rfl⟩
       refine zac [0, 1, 7, 8] [] ?_
       refine zad ?_
       obtain ⟨y57, hy57, h⟩ := zab h
       refine ⟨_, zcd hy57, ?_⟩
       cases h
       exact ⟨_, rfl, rfl⟩
      ·replace h := zal hb44 h
       refine zaR ?_
       cases h
       exact ⟨_, rfl, rfl⟩
     refine zaa ?_
     refine zaa ?_
     refine zac [0, 7, 8, 13] [] ?_
     refine zad ?_
     refine zah ?_
     obtain ⟨j70, hj70, h⟩ := zab h
     refine zaS hj70 [] (fun s => ([(0, .int .i64 total), (7, .sl false 1 (List.map ei64 s.1)), (8, .sl true 1 (List.map ei64 j41.2)), (13, .int .i64 s.2)], [], [])) (fun _ => [7]) (fun _ => []) (fun z => (.exit 8, [(7, .sl false 1 (List.map ei64 z))], [], [])) ?_ ?_ ?_
     ·exact rfl
     ·clear h
      rintro ⟨out'', n⟩ x h
      replace h : casementref09_Share_l7 total j41 out'' n = some x := h
      unfold casementref09_Share_l7 at h
      show T.WP _ _ [(0, .int .i64 total), (7, .sl false 1 (List.map ei64 out'')), (8, .sl true 1 (List.map ei64 j41.2)), (13, .int .i64 n)] [] [] _
      refine zaa ?_
      refine zaa ?_
      refine zac [0, 7, 8, 13, 127] [] ?_
      refine zad ?_
      obtain ⟨y59, hy59, h⟩ := zab h
      refine ⟨_, zdl hy59, ?_⟩
      refine fun c60 hc60 => ?_
      replace h := zae hc60 h
      refine zag (b := c60) rfl (fun hb61 => ?_) (fun hb61 => ?_)
      ·replace h := zam hb61 h
       refine zai ?_
       refine zaa ?_
       obtain ⟨j69, hj69, h⟩ := zab h
       refine za7 j69 (fun z => (.normal, [(0, .int .i64 total), (7, .sl false 1 (List.map ei64 z)), (8, .sl true 1 (List.map ei64 j41.2)), (13, .int .i64 n)], [], [])) (fun _ => [0, 7, 8, 13]) (fun _ => []) ?_ ?_
       ·clear h
        replace h := hj69
        clear hj69
        refine zah ?_
        refine zaa ?_
        refine zac [0, 7, 8, 13, 132] [] ?_
        refine zad ?_
        refine ⟨_, (yal ..).symm, ?_⟩
        refine fun c62 hc62 => ?_
        replace h := zae hc62 h
        obtain ⟨j68, hj68, h⟩ := zab h
        refine za7 j68 (fun z => (.normal, [(0, .int .i64 total), (7, .sl false 1 (List.map ei64 z)), (8, .sl true 1 (List.map ei64 j41.2)), (13, .int .i64 n)], [], [])) (fun _ => [0, 7, 8, 13]) (fun _ => []) ?_ ?_
        ·clear h
         replace h := hj68
         clear hj68
         refine zag (b := c62) rfl (fun hb63 => ?_) (fun hb63 => ?_)
         ·replace h := zam hb63 h
          refine zac [0, 7, 8, 13] [] ?_
          refine zad ?_
          refine ⟨_, (yal ..).symm, ?_⟩
          obtain ⟨y64, hy64, h⟩ := zab h
          refine ⟨_, zcd hy64, ?_⟩
          cases h
          exact rfl
         ·replace h := zal hb63 h
          refine zac [0, 7, 8, 13] [] ?_
          refine zad ?_
          refine ⟨_, (yal ..).symm, ?_⟩
          obtain ⟨x65, hx65, h⟩ := zab h
          refine And.intro (zlB hx65) ?_
          obtain ⟨x66, hx66, h⟩ := zab h
          refine And.intro (zcr ei64 hx66) ?_
          refine ⟨_, zaD ei64 hx66, ?_⟩
          obtain ⟨y67, hy67, h⟩ := zab h
          refine ⟨_, zcd hy67, ?_⟩
          cases h
          exact rfl
        cases h
        exact rfl
       refine zac [0, 7, 8, 13] [] ?_
       refine zad ?_
       cases h
       exact ⟨_, rfl, rfl⟩
      ·replace h := zal hb61 h
       refine zaR ?_
       cases h
       exact ⟨_, rfl, rfl⟩
     refine zaa ?_
     refine zac [4, 5] [] ?_
     refine zad ?_
     refine zap ?_
     cases h
     exact ⟨rfl, rfl, rfl, rfl, rfl⟩
noncomputable def zaH (a : Int) (b : Int) : Option Int :=
 letB (decide (a < b)) fun c1 =>
 bif c1 then (
  some a)
 else (
  some b)
set_option maxRecDepth 20000 in
theorem zb4 {a : Int} {b : Int} {r : Int} (h : zaH a b = some r) : zak true (RF ET) 68 [.int .i64 a, .int .i64 b] [] (.int .i64 r) [] := by
 refine zak.quiet (zaF (af := a68) rfl rfl ?_) rfl
 unfold zaH at h
 refine zaa ?_
 refine zac [0, 1] [] ?_
 refine zad ?_
 refine zaa ?_
 refine zaa ?_
 refine zac [0, 1, 7] [] ?_
 refine zad ?_
 refine fun c1 hc1 => ?_
 replace h := zae hc1 h
 refine zag (b := c1) rfl (fun hb2 => ?_) (fun hb2 => ?_)
 ·replace h := zam hb2 h
  refine zaa ?_
  refine zac [4] [] ?_
  refine zad ?_
  refine zap ?_
  cases h
  exact ⟨rfl, rfl, rfl, rfl, rfl⟩
 ·replace h := zal hb2 h
  refine zai ?_
  refine zaa ?_
  refine zac [4] [] ?_
  refine zad ?_
  refine zap ?_
  cases h
  exact ⟨rfl, rfl, rfl, rfl, rfl⟩
noncomputable def zbS (a : Int) (b : Int) : Option Int :=
 letB (decide (a > b)) fun c1 =>
 bif c1 then (
  some a)
 else (
  some b)
set_option maxRecDepth 20000 in
theorem zeZ {a : Int} {b : Int} {r : Int} (h : zbS a b = some r) : zak true (RF ET) 84 [.int .i64 a, .int .i64 b] [] (.int .i64 r) [] := by
 refine zak.quiet (zaF (af := a84) rfl rfl ?_) rfl
 unfold zbS at h
 refine zaa ?_
 refine zac [0, 1] [] ?_
 refine zad ?_
 refine zaa ?_
 refine zaa ?_
 refine zac [0, 1, 7] [] ?_
 refine zad ?_
 refine fun c1 hc1 => ?_
 replace h := zae hc1 h
 refine zag (b := c1) rfl (fun hb2 => ?_) (fun hb2 => ?_)
 ·replace h := zam hb2 h
  refine zaa ?_
  refine zac [4] [] ?_
  refine zad ?_
  refine zap ?_
  cases h
  exact ⟨rfl, rfl, rfl, rfl, rfl⟩
 ·replace h := zal hb2 h
  refine zai ?_
  refine zaa ?_
  refine zac [4] [] ?_
  refine zad ?_
  refine zap ?_
  cases h
  exact ⟨rfl, rfl, rfl, rfl, rfl⟩
noncomputable def casementref02_Cut_l1 (sizes : List Int) (across : Bool) (out : List Rect) (i : Int) (r_' : Rect) : Option ((List Rect × Int × Rect) ⊕ (List Rect × Rect)) :=
 letB (decide (i < (sizes.length : Int))) fun c1 =>
 (bif c1 then (
  letB (decide (i < 16)) fun c3 =>
  some (c3)) else some false).bind fun g2 =>
 bif g2 then (
  Option.bind (
   (idx sizes i).bind fun x6 =>
   (zbS x6 0).bind fun y7 =>
   Option.bind (
    bif across then (
     (zaH y7 r_'.H).bind fun y9 =>
     (zaA ({ r_' with H := y9 })).bind fun y10 =>
     (app out [y10]).bind fun x11 =>
     some ((x11, { r_' with Y := w64 (r_'.Y + y9), H := w64 (r_'.H - y9) })))
    else (
     (zaH y7 r_'.W).bind fun y12 =>
     (zaA ({ r_' with W := y12 })).bind fun y13 =>
     (app out [y13]).bind fun x14 =>
     some ((x14, { r_' with X := w64 (r_'.X + y12), W := w64 (r_'.W - y12) }))) : Option (List Rect × Rect)) fun j15 =>
   some ((j15.1, j15.2)) : Option (List Rect × Rect)) fun j16 =>
  some (.inl (j16.1, w64 (i + 1), j16.2)))
 else (
  some (.inr (out, r_')))
noncomputable def zb6 (r_ : Rect) (sizes : List Int) (across : Bool) : Option (List Rect) :=
 (iter (fun s => casementref02_Cut_l1 sizes across s.1 s.2.1 s.2.2 : (List Rect × Int × Rect) → Option ((List Rect × Int × Rect) ⊕ (List Rect × Rect))) ([], 0, r_)).bind fun j17 =>
 some j17.1
set_option maxRecDepth 20000 in
theorem zfk {r_ : Rect} {sizes : List Int} {across : Bool} {r : List Rect} (h : zb6 r_ sizes across = some r) : zak true (RF ET) 66 [.agg (Rect.c r_), .sl false 1 (List.map ei64 sizes), .bool across] [] (.sl true 4 (List.map Rect.c r)) [] := by
 refine zak.quiet (zaF (af := a66) rfl rfl ?_) rfl
 unfold zb6 at h
 refine zaa ?_
 refine zac [1, 2, 3] [0] ?_
 refine zad ?_
 refine ⟨.sl false 4 [], .sl _ _, ?_⟩
 refine zaa ?_
 refine zac [1, 2, 3, 7] [0] ?_
 refine zad ?_
 refine ⟨(List.map Rect.c ([] : List Rect)), rfl, ?_⟩
 refine zaa ?_
 refine zaa ?_
 refine zac [1, 2, 3, 7, 8] [0] ?_
 refine zad ?_
 refine zah ?_
 obtain ⟨j17, hj17, h⟩ := zab h
 refine zaS hj17 [0] (fun s => ([(1, .sl false 1 (List.map ei64 sizes)), (2, .bool across), (3, .loc 0 0), (7, .sl true 4 (List.map Rect.c s.1)), (8, .int .i64 s.2.1)], [(0, (Rect.c s.2.2))], [])) (fun _ => [7]) (fun _ => [0]) (fun z => (.exit 0, [(7, .sl true 4 (List.map Rect.c z.1))], [(0, (Rect.c z.2))], [])) ?_ ?_ ?_
 ·exact rfl
 ·clear h
  rintro ⟨out, i, r_'⟩ x h
  replace h : casementref02_Cut_l1 sizes across out i r_' = some x := h
  unfold casementref02_Cut_l1 at h
  show T.WP _ _ [(1, .sl false 1 (List.map ei64 sizes)), (2, .bool across), (3, .loc 0 0), (7, .sl true 4 (List.map Rect.c out)), (8, .int .i64 i)] [(0, (Rect.c r_'))] [] _
  refine zaa ?_
  refine zaa ?_
  refine zac [1, 2, 3, 7, 8, 18] [0] ?_
  refine zat 5 ?_
  refine zad ?_
  refine ⟨_, (yal ..).symm, ?_⟩
  refine fun c1 hc1 => ?_
  replace h := zae hc1 h
  obtain ⟨g2, hg2, h⟩ := zab h
  refine zaB 3 18 [1, 2, 3, 7, 8, 18] g2 ?_ ?_
  ·clear h
   replace h := hg2
   clear hg2
   cases hb4 : c1 with
   | true =>
    replace h := zam hb4 h
    refine zad ?_
    refine fun c3 hc3 => ?_
    replace h := zae hc3 h
    cases h
    exact ⟨rfl, rfl, rfl⟩
   | false =>
    replace h := zal hb4 h
    cases h
    refine zad ?_
    exact ⟨rfl, rfl, rfl⟩
  refine zad ?_
  refine zag (b := g2) rfl (fun hb5 => ?_) (fun hb5 => ?_)
  ·replace h := zam hb5 h
   refine zai ?_
   refine zaa ?_
   obtain ⟨j16, hj16, h⟩ := zab h
   refine za7 j16 (fun z => (.normal, [(1, .sl false 1 (List.map ei64 sizes)), (2, .bool across), (3, .loc 0 0), (7, .sl true 4 (List.map Rect.c z.1)), (8, .int .i64 i)], [(0, (Rect.c z.2))], [])) (fun _ => [1, 2, 3, 7, 8]) (fun _ => [0]) ?_ ?_
   ·clear h
    replace h := hj16
    clear hj16
    refine zah ?_
    refine zaa ?_
    refine zac [1, 2, 3, 7, 8, 9] [0] ?_
    refine zad ?_
    obtain ⟨x6, hx6, h⟩ := zab h
    refine And.intro (zbw hx6) ⟨_, zaD ei64 hx6, ?_⟩
    obtain ⟨y7, hy7, h⟩ := zab h
    refine ⟨_, zeZ hy7, ?_⟩
    refine zaa ?_
    refine zac [1, 2, 3, 7, 8, 9, 26] [0] ?_
    refine zad ?_
    obtain ⟨j15, hj15, h⟩ := zab h
    refine za7 j15 (fun z => (.normal, [(1, .sl false 1 (List.map ei64 sizes)), (2, .bool across), (3, .loc 0 0), (7, .sl true 4 (List.map Rect.c z.1)), (8, .int .i64 i)], [(0, (Rect.c z.2))], [])) (fun _ => [1, 2, 3, 7, 8]) (fun _ => [0]) ?_ ?_
    ·clear h
     replace h := hj15
     clear hj15
     refine zag (b := across) rfl (fun hb8 => ?_) (fun hb8 => ?_)
     ·replace h := zam hb8 h
      refine zaa ?_
      refine zac [1, 2, 3, 7, 8, 9] [0] ?_
      refine zad ?_
      obtain ⟨y9, hy9, h⟩ := zab h
      refine ⟨_, zb4 hy9, ?_⟩
      refine zaa ?_
      refine zac [1, 2, 3, 7, 8, 9] [0] ?_
      refine zad ?_
      obtain ⟨y10, hy10, h⟩ := zab h
      refine ⟨_, zaQ hy10, ?_⟩
      refine ⟨(List.map Rect.c ([y10] : List Rect)), rfl, ?_⟩
      obtain ⟨x11, hx11, h⟩ := zab h
      refine And.intro (zdJ Rect.c hx11) ⟨_, zdK Rect.c hx11, ?_⟩
      refine zac [1, 2, 3, 7, 8] [0] ?_
      refine zad ?_
      cases h
      exact rfl
     ·replace h := zal hb8 h
      refine zaa ?_
      refine zac [1, 2, 3, 7, 8, 9] [0] ?_
      refine zad ?_
      obtain ⟨y12, hy12, h⟩ := zab h
      refine ⟨_, zb4 hy12, ?_⟩
      refine zaa ?_
      refine zac [1, 2, 3, 7, 8, 9] [0] ?_
      refine zad ?_
      obtain ⟨y13, hy13, h⟩ := zab h
      refine ⟨_, zaQ hy13, ?_⟩
      refine ⟨(List.map Rect.c ([y13] : List Rect)), rfl, ?_⟩
      obtain ⟨x14, hx14, h⟩ := zab h
      refine And.intro (zdJ Rect.c hx14) ⟨_, zdK Rect.c hx14, ?_⟩
      refine zac [1, 2, 3, 7, 8] [0] ?_
      refine zad ?_
      cases h
      exact rfl
    cases h
    exact rfl
   refine zac [1, 2, 3, 7, 8] [0] ?_
   refine zad ?_
   cases h
   exact ⟨_, rfl, rfl⟩
  ·replace h := zal hb5 h
   refine zaR ?_
   cases h
   exact ⟨_, rfl, rfl⟩
 refine zaa ?_
 refine zac [6] [0] ?_
 refine zad ?_
 refine zap ?_
 cases h
 exact ⟨rfl, rfl, rfl, rfl, rfl⟩
noncomputable def casementref10_layF_l1 (p : Plan) (spots' : List Spot) (i : Int) (r_' : Rect) : Option ((List Spot × Int × Rect) ⊕ (List Spot × Rect)) :=
 letB (decide (i < (w64 ((p.Kids.length : Int) - 1)))) fun c6 =>
 bif c6 then (
  Option.bind (
   letB (decide (r_'.H > 1)) fun c8 =>
   Option.bind (
    bif c8 then (
     (zaN spots' ({ r_' with H := 1 }) 0 true).bind fun y10 =>
     some ((y10, { r_' with Y := w64 (r_'.Y + 1), H := w64 (r_'.H - 1) })))
    else (
     (zaN spots' (Rect.mk 0 0 0 0) 0 true).bind fun y11 =>
     some ((y11, r_'))) : Option (List Spot × Rect)) fun j12 =>
   some ((j12.1, j12.2)) : Option (List Spot × Rect)) fun j13 =>
  some (.inl (j13.1, w64 (i + 1), j13.2)))
 else (
  some (.inr (spots', r_')))
noncomputable def casementref10_layF_l2 (p : Plan) (sizes : List Size) (ones : List Int) (i' : Int) : Option ((List Size × List Int × Int) ⊕ (List Size × List Int)) :=
 letB (decide (i' < (p.Kids.length : Int))) fun c16 =>
 bif c16 then (
  (idx p.Kids i').bind fun x18 =>
  (app sizes [x18.Size]).bind fun x19 =>
  (app ones [1]).bind fun x20 =>
  some (.inl (x19, x20, w64 (i' + 1))))
 else (
  some (.inr (sizes, ones)))
noncomputable def casementref10_layF_l3 (p : Plan) (rec40 : List Spot → Plan → Rect → Option (List Spot)) (y30 : List Rect) (spots'' : List Spot) (i'' : Int) : Option ((List Spot × Int) ⊕ List Spot) :=
 letB (decide (i'' < (p.Kids.length : Int))) fun c31 =>
 bif c31 then (
  (idx p.Kids i'').bind fun x33 =>
  (idx y30 i'').bind fun x34 =>
  (rec40 spots'' x33 x34).bind fun y35 =>
  some (.inl (y35, w64 (i'' + 1))))
 else (
  some (.inr spots''))
noncomputable def zbT (rec40 : List Spot → Plan → Rect → Option (List Spot)) (spots : List Spot) (p : Plan) (r_ : Rect) : Option (List Spot) :=
 letB (decide (p.Kind = 1)) fun c1 =>
 bif c1 then (
  (zaN spots r_ 0 false).bind fun y3 =>
  some y3)
 else (
  letB (decide (p.Kind = 4)) fun c4 =>
  bif c4 then (
   (iter (fun s => casementref10_layF_l1 p s.1 s.2.1 s.2.2 : (List Spot × Int × Rect) → Option ((List Spot × Int × Rect) ⊕ (List Spot × Rect))) (spots, 0, r_)).bind fun j14 =>
   (zaN j14.1 j14.2 0 false).bind fun y15 =>
   some y15)
  else (
   (iter (fun s => casementref10_layF_l2 p s.1 s.2.1 s.2.2 : (List Size × List Int × Int) → Option ((List Size × List Int × Int) ⊕ (List Size × List Int))) ([], [], 0)).bind fun j21 =>
   letB (decide (p.Kind = 3)) fun c22 =>
   Option.bind (
    bif c22 then (
     some (r_.H))
    else (
     some (r_.W)) : Option Int) fun j24 =>
   (zaU j24 j21.1).bind fun y25 =>
   letB (decide (y25.2 ≠ 0)) fun c26 =>
   Option.bind (
    bif c26 then (
     some (j21.2))
    else (
     some (y25.1)) : Option (List Int)) fun j28 =>
   letB (decide (p.Kind = 3)) fun c29 =>
   (zb6 r_ j28 c29).bind fun y30 =>
   (iter (fun s => casementref10_layF_l3 p rec40 y30 s.1 s.2 : (List Spot × Int) → Option ((List Spot × Int) ⊕ List Spot)) (spots, 0)).bind fun j36 =>
   some j36))
set_option maxRecDepth 20000 in
theorem ze0 {rec40 : List Spot → Plan → Rect → Option (List Spot)} (rec40_ok : ∀ (a0 : List Spot) (a1 : Plan) (a2 : Rect) (r : List Spot), rec40 a0 a1 a2 = some r → zak true (RF ET) 40 [.sl false 7 (List.map Spot.c a0), .agg (Plan.e a1), .agg (Rect.c a2)] [] (.sl false 7 (List.map Spot.c r)) []) {spots : List Spot} {p : Plan} {r_ : Rect} {r : List Spot} (h : zbT rec40 spots p r_ = some r) : zak true (RF ET) 40 [.sl false 7 (List.map Spot.c spots), .agg (Plan.e p), .agg (Rect.c r_)] [] (.sl false 7 (List.map Spot.c r)) [] := by
 refine zak.quiet (zaF (af := a40) rfl rfl ?_) rfl
 unfold zbT at h
 refine zaa ?_
 refine zac [0, 4, 5] [0, 1] ?_
 refine zad ?_
 refine ⟨.sl false 7 [], .sl _ _, ?_⟩
 refine zaa ?_
 refine zaa ?_
 refine zac [0, 4, 5, 19] [0, 1] ?_
 refine zad ?_
 refine fun c1 hc1 => ?_
 replace h := zae hc1 h
 refine zag (b := c1) rfl (fun hb2 => ?_) (fun hb2 => ?_)
 ·replace h := zam hb2 h
  refine zaa ?_
  refine zac [6] [0, 1] ?_
  refine zad ?_
  obtain ⟨y3, hy3, h⟩ := zab h
  refine ⟨_, zbt hy3, ?_⟩
  refine zap ?_
  cases h
  exact ⟨rfl, rfl, rfl, rfl, rfl⟩
 ·replace h := zal hb2 h
  refine zai ?_
  refine zaa ?_
  refine zac [0, 4, 5, 7] [0, 1] ?_
  refine zad ?_
  refine ⟨_, (lenR Plan.cs_is).symm, ?_⟩
  refine zaa ?_
  refine zaa ?_
  refine zac [0, 4, 5, 7, 28] [0, 1] ?_
  refine zad ?_
  refine fun c4 hc4 => ?_
  replace h := zae hc4 h
  refine zag (b := c4) rfl (fun hb5 => ?_) (fun hb5 => ?_)
  ·replace h := zam hb5 h
   refine zaa ?_
   refine zaa ?_
   refine zac [0, 5, 7, 8] [0, 1] ?_
   refine zad ?_
   refine zah ?_
   obtain ⟨j14, hj14, h⟩ := zab h
   refine zaS hj14 [0, 1] (fun s => ([(0, .sl false 7 (List.map Spot.c s.1)), (5, .loc 1 0), (7, .int .i64 (p.Kids.length : Int)), (8, .int .i64 s.2.1)], [(0, (Plan.e p)), (1, (Rect.c s.2.2))], [])) (fun _ => [0, 5]) (fun _ => [0, 1]) (fun z => (.exit 0, [(0, .sl false 7 (List.map Spot.c z.1)), (5, .loc 1 0)], [(0, (Plan.e p)), (1, (Rect.c z.2))], [])) ?_ ?_ ?_
   ·exact rfl
   ·clear h
    rintro ⟨spots', i, r_'⟩ x h
    replace h : casementref10_layF_l1 p spots' i r_' = some x := h
    unfold casementref10_layF_l1 at h
    show T.WP _ _ [(0, .sl false 7 (List.map Spot.c spots')), (5, .loc 1 0), (7, .int .i64 (p.Kids.length : Int)), (8, .int .i64 i)] [(0, (Plan.e p)), (1, (Rect.c r_'))] [] _
    refine zaa ?_
    refine zaa ?_
    refine zac [0, 5, 7, 8, 32] [0, 1] ?_
    refine zad ?_
    refine fun c6 hc6 => ?_
    replace h := zae hc6 h
    refine zag (b := c6) rfl (fun hb7 => ?_) (fun hb7 => ?_)
    ·replace h := zam hb7 h
     refine zai ?_
     refine zaa ?_
     obtain ⟨j13, hj13, h⟩ := zab h
     refine za7 j13 (fun z => (.normal, [(0, .sl false 7 (List.map Spot.c z.1)), (5, .loc 1 0), (7, .int .i64 (p.Kids.length : Int)), (8, .int .i64 i)], [(0, (Plan.e p)), (1, (Rect.c z.2))], [])) (fun _ => [0, 5, 7, 8]) (fun _ => [0, 1]) ?_ ?_
     ·clear h
      replace h := hj13
      clear hj13
      refine zah ?_
      refine zaa ?_
      refine zac [0, 5, 7, 8, 37] [0, 1] ?_
      refine zad ?_
      refine fun c8 hc8 => ?_
      replace h := zae hc8 h
      obtain ⟨j12, hj12, h⟩ := zab h
      refine za7 j12 (fun z => (.normal, [(0, .sl false 7 (List.map Spot.c z.1)), (5, .loc 1 0), (7, .int .i64 (p.Kids.length : Int)), (8, .int .i64 i)], [(0, (Plan.e p)), (1, (Rect.c z.2))], [])) (fun _ => [0, 5, 7, 8]) (fun _ => [0, 1]) ?_ ?_
      ·clear h
       replace h := hj12
       clear hj12
       refine zag (b := c8) rfl (fun hb9 => ?_) (fun hb9 => ?_)
       ·replace h := zam hb9 h
        refine zaa ?_
        refine zac [0, 5, 7, 8] [0, 1] ?_
        refine zad ?_
        obtain ⟨y10, hy10, h⟩ := zab h
        refine ⟨_, zbt hy10, ?_⟩
        refine zac [0, 5, 7, 8] [0, 1] ?_
        refine zad ?_
        cases h
        exact rfl
       ·replace h := zal hb9 h
        refine zac [0, 5, 7, 8] [0, 1] ?_
        refine zad ?_
        obtain ⟨y11, hy11, h⟩ := zab h
        refine ⟨_, zbt hy11, ?_⟩
        cases h
        exact rfl
      cases h
      exact rfl
     refine zac [0, 5, 7, 8] [0, 1] ?_
     refine zad ?_
     cases h
     exact ⟨_, rfl, rfl⟩
    ·replace h := zal hb7 h
     refine zaR ?_
     cases h
     exact ⟨_, rfl, rfl⟩
   refine zaa ?_
   refine zac [6] [0, 1] ?_
   refine zad ?_
   obtain ⟨y15, hy15, h⟩ := zab h
   refine ⟨_, zbt hy15, ?_⟩
   refine zap ?_
   cases h
   exact ⟨rfl, rfl, rfl, rfl, rfl⟩
  ·replace h := zal hb5 h
   refine zai ?_
   refine zaa ?_
   refine zac [0, 4, 5, 7, 9] [0, 1] ?_
   refine zad ?_
   refine ⟨(List.map Size.c ([] : List Size)), rfl, ?_⟩
   refine zaa ?_
   refine zac [0, 4, 5, 7, 9, 10] [0, 1] ?_
   refine zad ?_
   refine ⟨(List.map ei64 ([] : List Int)), rfl, ?_⟩
   refine zaa ?_
   refine zaa ?_
   refine zac [0, 4, 5, 7, 9, 10, 11] [0, 1] ?_
   refine zad ?_
   refine zah ?_
   obtain ⟨j21, hj21, h⟩ := zab h
   refine zaS hj21 [0, 1] (fun s => ([(0, .sl false 7 (List.map Spot.c spots)), (4, .loc 0 0), (5, .loc 1 0), (7, .int .i64 (p.Kids.length : Int)), (9, .sl true 2 (List.map Size.c s.1)), (10, .sl true 1 (List.map ei64 s.2.1)), (11, .int .i64 s.2.2)], [(0, (Plan.e p)), (1, (Rect.c r_))], [])) (fun _ => [0, 4, 5, 7, 9, 10]) (fun _ => [0, 1]) (fun z => (.exit 2, [(0, .sl false 7 (List.map Spot.c spots)), (4, .loc 0 0), (5, .loc 1 0), (7, .int .i64 (p.Kids.length : Int)), (9, .sl true 2 (List.map Size.c z.1)), (10, .sl true 1 (List.map ei64 z.2))], [(0, (Plan.e p)), (1, (Rect.c r_))], [])) ?_ ?_ ?_
   ·exact rfl
   ·clear h
    rintro ⟨sizes, ones, i'⟩ x h
    replace h : casementref10_layF_l2 p sizes ones i' = some x := h
    unfold casementref10_layF_l2 at h
    show T.WP _ _ [(0, .sl false 7 (List.map Spot.c spots)), (4, .loc 0 0), (5, .loc 1 0), (7, .int .i64 (p.Kids.length : Int)), (9, .sl true 2 (List.map Size.c sizes)), (10, .sl true 1 (List.map ei64 ones)), (11, .int .i64 i')] [(0, (Plan.e p)), (1, (Rect.c r_))] [] _
    refine zaa ?_
    refine zaa ?_
    refine zac [0, 4, 5, 7, 9, 10, 11, 68] [0, 1] ?_
    refine zad ?_
    refine fun c16 hc16 => ?_
    replace h := zae hc16 h
    refine zag (b := c16) rfl (fun hb17 => ?_) (fun hb17 => ?_)
    ·replace h := zam hb17 h
     refine zai ?_
     refine zaa ?_
     refine zah ?_
     refine zaa ?_
     refine zac [0, 4, 5, 7, 9, 10, 11] [0, 1] ?_
     refine zad ?_
     obtain ⟨x18, hx18, h⟩ := zab h
     refine And.intro (zbw hx18) ⟨_, zdS Plan.cs_is hx18, ?_⟩
     refine ⟨(List.map Size.c ([x18.Size] : List Size)), rfl, ?_⟩
     obtain ⟨x19, hx19, h⟩ := zab h
     refine And.intro (zdJ Size.c hx19) ⟨_, zdK Size.c hx19, ?_⟩
     refine zac [0, 4, 5, 7, 9, 10, 11] [0, 1] ?_
     refine zad ?_
     refine ⟨(List.map ei64 ([1] : List Int)), rfl, ?_⟩
     obtain ⟨x20, hx20, h⟩ := zab h
     refine And.intro (zdJ ei64 hx20) ⟨_, zdK ei64 hx20, ?_⟩
     refine zac [0, 4, 5, 7, 9, 10, 11] [0, 1] ?_
     refine zad ?_
     cases h
     exact ⟨_, rfl, rfl⟩
    ·replace h := zal hb17 h
     refine zaR ?_
     cases h
     exact ⟨_, rfl, rfl⟩
   refine zaa ?_
   refine zac [0, 4, 5, 7, 9, 10, 12] [0, 1] ?_
   refine zad ?_
   refine zaa ?_
   refine zaa ?_
   refine zac [0, 4, 5, 7, 9, 10, 12, 87] [0, 1] ?_
   refine zad ?_
   refine fun c22 hc22 => ?_
   replace h := zae hc22 h
   obtain ⟨j24, hj24, h⟩ := zab h
   refine za7 j24 (fun z => (.normal, [(0, .sl false 7 (List.map Spot.c spots)), (4, .loc 0 0), (5, .loc 1 0), (7, .int .i64 (p.Kids.length : Int)), (9, .sl true 2 (List.map Size.c j21.1)), (10, .sl true 1 (List.map ei64 j21.2)), (12, .int .i64 z)], [(0, (Plan.e p)), (1, (Rect.c r_))], [])) (fun _ => [0, 4, 5, 7, 9, 10, 12]) (fun _ => [0, 1]) ?_ ?_
   ·clear h
    replace h := hj24
    clear hj24
    refine zag (b := c22) rfl (fun hb23 => ?_) (fun hb23 => ?_)
    ·replace h := zam hb23 h
     refine zac [0, 4, 5, 7, 9, 10, 12] [0, 1] ?_
     refine zad ?_
     cases h
     exact rfl
    ·replace h := zal hb23 h
     refine zai ?_
     cases h
     exact rfl
   refine zaa ?_
   refine zac [0, 4, 5, 7, 10, 13, 14] [0, 1] ?_
   refine zad ?_
   obtain ⟨y25, hy25, h⟩ := zab h
   refine ⟨_, zeD hy25, ?_⟩
   refine zaa ?_
   refine zaa ?_
   refine zac [0, 4, 5, 7, 10, 13, 97] [0, 1] ?_
   refine zad ?_
   refine fun c26 hc26 => ?_
   replace h := zae hc26 h
   obtain ⟨j28, hj28, h⟩ := zab h
   refine za7 j28 (fun z => (.normal, [(0, .sl false 7 (List.map Spot.c spots)), (4, .loc 0 0), (5, .loc 1 0), (7, .int .i64 (p.Kids.length : Int)), (13, .sl false 1 (List.map ei64 z))], [(0, (Plan.e p)), (1, (Rect.c r_))], [])) (fun _ => [0, 4, 5, 7, 13]) (fun _ => [0, 1]) ?_ ?_
   ·clear h
    replace h := hj28
    clear hj28
    refine zag (b := c26) rfl (fun hb27 => ?_) (fun hb27 => ?_)
    ·replace h := zam hb27 h
     refine zac [0, 4, 5, 7, 13] [0, 1] ?_
     refine zad ?_
     cases h
     exact rfl
    ·replace h := zal hb27 h
     refine zai ?_
     cases h
     exact rfl
   refine zaa ?_
   refine zac [0, 4, 7, 15] [0, 1] ?_
   refine zad ?_
   refine fun c29 hc29 => ?_
   replace h := zae hc29 h
   obtain ⟨y30, hy30, h⟩ := zab h
   refine ⟨_, zfk hy30, ?_⟩
   refine zaa ?_
   refine zaa ?_
   refine zac [0, 4, 7, 15, 16] [0, 1] ?_
   refine zad ?_
   refine zah ?_
   obtain ⟨j36, hj36, h⟩ := zab h
   refine zaS hj36 [0, 1] (fun s => ([(0, .sl false 7 (List.map Spot.c s.1)), (4, .loc 0 0), (7, .int .i64 (p.Kids.length : Int)), (15, .sl false 4 (List.map Rect.c y30)), (16, .int .i64 s.2)], [(0, (Plan.e p)), (1, (Rect.c r_))], [])) (fun _ => [0]) (fun _ => [0, 1]) (fun z => (.exit 4, [(0, .sl false 7 (List.map Spot.c z))], [(0, (Plan.e p)), (1, (Rect.c r_))], [])) ?_ ?_ ?_
   ·exact rfl
   ·clear h
    rintro ⟨spots'', i''⟩ x h
    replace h : casementref10_layF_l3 p rec40 y30 spots'' i'' = some x := h
    unfold casementref10_layF_l3 at h
    show T.WP _ _ [(0, .sl false 7 (List.map Spot.c spots'')), (4, .loc 0 0), (7, .int .i64 (p.Kids.length : Int)), (15, .sl false 4 (List.map Rect.c y30)), (16, .int .i64 i'')] [(0, (Plan.e p)), (1, (Rect.c r_))] [] _
    refine zaa ?_
    refine zaa ?_
    refine zac [0, 4, 7, 15, 16, 107] [0, 1] ?_
    refine zad ?_
    refine fun c31 hc31 => ?_
    replace h := zae hc31 h
    refine zag (b := c31) rfl (fun hb32 => ?_) (fun hb32 => ?_)
    ·replace h := zam hb32 h
     refine zai ?_
     refine zaa ?_
     refine zah ?_
     refine zac [0, 4, 7, 15, 16] [0, 1] ?_
     refine zdI ?_
     obtain ⟨x33, hx33, h⟩ := zab h
     refine And.intro (zbw hx33) ⟨_, zdS Plan.cs_is hx33, ?_⟩
     obtain ⟨x34, hx34, h⟩ := zab h
     refine And.intro (zbw hx34) ⟨_, zaD Rect.c hx34, ?_⟩
     obtain ⟨y35, hy35, h⟩ := zab h
     refine ⟨_, _, zak.any (rec40_ok _ _ _ _ hy35) rfl _ rfl, ?_⟩
     refine zac [0, 4, 7, 15, 16] [0, 1] ?_
     refine zad ?_
     cases h
     exact ⟨_, rfl, rfl⟩
    ·replace h := zal hb32 h
     refine zaR ?_
     cases h
     exact ⟨_, rfl, rfl⟩
   refine zaa ?_
   refine zac [6] [0, 1] ?_
   refine zad ?_
   refine zap ?_
   cases h
   exact ⟨rfl, rfl, rfl, rfl, rfl⟩
noncomputable def za2 : Nat → (List Spot → Plan → Rect → Option (List Spot))
 | 0 => fun _ _ _ => none
 | k + 1 => zbT ((za2 k))
theorem zdh : ∀ k, (∀ (a0 : List Spot) (a1 : Plan) (a2 : Rect) (r : List Spot), ((za2 k)) a0 a1 a2 = some r → zak true (RF ET) 40 [.sl false 7 (List.map Spot.c a0), .agg (Plan.e a1), .agg (Rect.c a2)] [] (.sl false 7 (List.map Spot.c r)) [])
 | 0 => (fun _ _ _ _ h => by cases h)
 | k + 1 => (fun _ _ _ _ h => ze0 ((zdh k)) h)
noncomputable def zc4 (a0 : List Spot) (a1 : Plan) (a2 : Rect) : Option (List Spot) := (za2 30) a0 a1 a2
theorem zfl {a0 : List Spot} {a1 : Plan} {a2 : Rect} {r : List Spot} (h : zc4 a0 a1 a2 = some r) : zak true (RF ET) 40 [.sl false 7 (List.map Spot.c a0), .agg (Plan.e a1), .agg (Rect.c a2)] [] (.sl false 7 (List.map Spot.c r)) [] := (zdh 30) a0 a1 a2 r h
noncomputable def zbB (a : Int) (b : Int) : Option Int :=
 letB (decide (b > 0)) fun c1 =>
 (bif c1 then (
  letB (decide (a > (w64 (9223372036854775807 - b)))) fun c3 =>
  some (c3)) else some false).bind fun g2 =>
 bif g2 then (
  some 9223372036854775807)
 else (
  letB (decide (b < 0)) fun c6 =>
  (bif c6 then (
   letB (decide (a < (w64 ((-9223372036854775808) - b)))) fun c8 =>
   some (c8)) else some false).bind fun g7 =>
  bif g7 then (
   some (-9223372036854775808))
  else (
   some (w64 (a + b))))
set_option maxRecDepth 20000 in
theorem zdm {a : Int} {b : Int} {r : Int} (h : zbB a b = some r) : zak true (RF ET) 67 [.int .i64 a, .int .i64 b] [] (.int .i64 r) [] := by
 refine zak.quiet (zaF (af := a67) rfl rfl ?_) rfl
 unfold zbB at h
 refine zaa ?_
 refine zac [0, 1] [] ?_
 refine zad ?_
 refine zaa ?_
 refine zaa ?_
 refine zac [0, 1, 12] [] ?_
 refine zat 3 ?_
 refine zad ?_
 refine fun c1 hc1 => ?_
 replace h := zae hc1 h
 obtain ⟨g2, hg2, h⟩ := zab h
 refine zaB 5 12 [0, 1, 12] g2 ?_ ?_
 ·clear h
  replace h := hg2
  clear hg2
  cases hb4 : c1 with
  | true =>
   replace h := zam hb4 h
   refine zad ?_
   refine fun c3 hc3 => ?_
   replace h := zae hc3 h
   cases h
   exact ⟨rfl, rfl, rfl⟩
  | false =>
   replace h := zal hb4 h
   cases h
   refine zad ?_
   exact ⟨rfl, rfl, rfl⟩
 refine zad ?_
 refine zag (b := g2) rfl (fun hb5 => ?_) (fun hb5 => ?_)
 ·replace h := zam hb5 h
  refine zaa ?_
  refine zac [4] [] ?_
  refine zad ?_
  refine zap ?_
  cases h
  exact ⟨rfl, rfl, rfl, rfl, rfl⟩
 ·replace h := zal hb5 h
  refine zai ?_
  refine zaa ?_
  refine zaa ?_
  refine zac [0, 1, 20] [] ?_
  refine zat 3 ?_
  refine zad ?_
  refine fun c6 hc6 => ?_
  replace h := zae hc6 h
  obtain ⟨g7, hg7, h⟩ := zab h
  refine zaB 5 20 [0, 1, 20] g7 ?_ ?_
  ·clear h
   replace h := hg7
   clear hg7
   cases hb9 : c6 with
   | true =>
    replace h := zam hb9 h
    refine zad ?_
    refine fun c8 hc8 => ?_
    replace h := zae hc8 h
    cases h
    exact ⟨rfl, rfl, rfl⟩
   | false =>
    replace h := zal hb9 h
    cases h
    refine zad ?_
    exact ⟨rfl, rfl, rfl⟩
  refine zad ?_
  refine zag (b := g7) rfl (fun hb10 => ?_) (fun hb10 => ?_)
  ·replace h := zam hb10 h
   refine zaa ?_
   refine zac [4] [] ?_
   refine zad ?_
   refine zap ?_
   cases h
   exact ⟨rfl, rfl, rfl, rfl, rfl⟩
  ·replace h := zal hb10 h
   refine zai ?_
   refine zaa ?_
   refine zac [4] [] ?_
   refine zad ?_
   refine zap ?_
   cases h
   exact ⟨rfl, rfl, rfl, rfl, rfl⟩
noncomputable def zbG (r_ : Rect) (dx : Int) (dy : Int) : Option Rect :=
 (zbB r_.X dx).bind fun y1 =>
 (zbB r_.Y dy).bind fun y2 =>
 (zaA ({ r_ with X := y1, Y := y2 })).bind fun y3 =>
 some y3
set_option maxRecDepth 20000 in
theorem zeE {r_ : Rect} {dx : Int} {dy : Int} {r : Rect} (h : zbG r_ dx dy = some r) : zak true (RF ET) 41 [.agg (Rect.c r_), .int .i64 dx, .int .i64 dy] [] (.agg (Rect.c r)) [] := by
 refine zak.quiet (zaF (af := a41) rfl rfl ?_) rfl
 unfold zbG at h
 refine zaa ?_
 refine zac [1, 2, 3, 6] [0, 1] ?_
 refine zad ?_
 refine zaa ?_
 refine zac [6] [0, 1] ?_
 refine zdI ?_
 obtain ⟨y1, hy1, h⟩ := zab h
 refine ⟨_, zdm hy1, ?_⟩
 obtain ⟨y2, hy2, h⟩ := zab h
 refine ⟨_, zdm hy2, ?_⟩
 obtain ⟨y3, hy3, h⟩ := zab h
 refine ⟨_, zaQ hy3, ?_⟩
 refine zap ?_
 cases h
 exact ⟨rfl, rfl, rfl, rfl, rfl⟩
noncomputable def casementref02_Into_l1 (b : Rect) (r_' : Rect) : Option (Rect ⊕ Rect) :=
 letB (decide ((w64 (r_'.X + r_'.W)) > (w64 (b.X + b.W)))) fun c8 =>
 bif c8 then (
  some (.inl ({ r_' with X := w64 (r_'.X - 1) })))
 else (
  some (.inr r_'))
noncomputable def casementref02_Into_l2 (b : Rect) (r_'' : Rect) : Option (Rect ⊕ Rect) :=
 letB (decide (r_''.X < b.X)) fun c11 =>
 bif c11 then (
  some (.inl ({ r_'' with X := w64 (r_''.X + 1) })))
 else (
  some (.inr r_''))
noncomputable def casementref02_Into_l3 (b : Rect) (r_4 : Rect) : Option (Rect ⊕ Rect) :=
 letB (decide ((w64 (r_4.Y + r_4.H)) > (w64 (b.Y + b.H)))) fun c14 =>
 bif c14 then (
  some (.inl ({ r_4 with Y := w64 (r_4.Y - 1) })))
 else (
  some (.inr r_4))
noncomputable def casementref02_Into_l4 (b : Rect) (r_5 : Rect) : Option (Rect ⊕ Rect) :=
 letB (decide (r_5.Y < b.Y)) fun c17 =>
 bif c17 then (
  some (.inl ({ r_5 with Y := w64 (r_5.Y + 1) })))
 else (
  some (.inr r_5))
noncomputable def zbU (r_ : Rect) (b : Rect) : Option Rect :=
 letB (decide (r_.W = 0)) fun c1 =>
 (bif c1 then some true else (
  letB (decide (b.W = 0)) fun c3 =>
  some (c3))).bind fun g2 =>
 bif g2 then (
  some (Rect.mk 0 0 0 0))
 else (
  (zaH r_.W b.W).bind fun y6 =>
  (zaH r_.H b.H).bind fun y7 =>
  (iter (fun s => casementref02_Into_l1 b s : Rect → Option (Rect ⊕ Rect)) ({ r_ with W := y6, H := y7 })).bind fun j10 =>
  (iter (fun s => casementref02_Into_l2 b s : Rect → Option (Rect ⊕ Rect)) j10).bind fun j13 =>
  (iter (fun s => casementref02_Into_l3 b s : Rect → Option (Rect ⊕ Rect)) j13).bind fun j16 =>
  (iter (fun s => casementref02_Into_l4 b s : Rect → Option (Rect ⊕ Rect)) j16).bind fun j19 =>
  some j19)
set_option maxRecDepth 20000 in
theorem ze1 {r_ : Rect} {b : Rect} {r : Rect} (h : zbU r_ b = some r) : zak true (RF ET) 43 [.agg (Rect.c r_), .agg (Rect.c b)] [] (.agg (Rect.c r)) [] := by
 refine zak.quiet (zaF (af := a43) rfl rfl ?_) rfl
 unfold zbU at h
 refine zaa ?_
 refine zac [2, 3, 4] [0, 1, 2] ?_
 refine zad ?_
 refine zaa ?_
 refine zaa ?_
 refine zac [2, 3, 4, 12] [0, 1, 2] ?_
 refine zat 4 ?_
 refine zad ?_
 refine fun c1 hc1 => ?_
 replace h := zae hc1 h
 obtain ⟨g2, hg2, h⟩ := zab h
 refine zaB 4 12 [2, 3, 4, 12] g2 ?_ ?_
 ·clear h
  replace h := hg2
  clear hg2
  cases hb4 : c1 with
  | false =>
   replace h := zal hb4 h
   refine zad ?_
   refine fun c3 hc3 => ?_
   replace h := zae hc3 h
   cases h
   exact ⟨rfl, rfl, rfl⟩
  | true =>
   replace h := zam hb4 h
   cases h
   refine zad ?_
   exact ⟨rfl, rfl, rfl⟩
 refine zad ?_
 refine zag (b := g2) rfl (fun hb5 => ?_) (fun hb5 => ?_)
 ·replace h := zam hb5 h
  refine zaa ?_
  refine zac [4] [0, 1, 2] ?_
  refine zad ?_
  refine zap ?_
  cases h
  exact ⟨rfl, rfl, rfl, rfl, rfl⟩
 ·replace h := zal hb5 h
  refine zai ?_
  refine zaa ?_
  refine zac [2, 3, 4] [0, 1, 2] ?_
  refine zad ?_
  obtain ⟨y6, hy6, h⟩ := zab h
  refine ⟨_, zb4 hy6, ?_⟩
  refine zaa ?_
  refine zac [2, 3, 4] [0, 1, 2] ?_
  refine zad ?_
  obtain ⟨y7, hy7, h⟩ := zab h
  refine ⟨_, zb4 hy7, ?_⟩
  refine zaa ?_
  refine zah ?_
  obtain ⟨j10, hj10, h⟩ := zab h
  refine zaS hj10 [0, 1, 2] (fun s => ([(2, .loc 0 0), (3, .loc 1 0), (4, .loc 2 0)], [(0, (Rect.c s)), (1, (Rect.c b)), (2, [.int .i64 0, .int .i64 0, .int .i64 0, .int .i64 0])], [])) (fun _ => [2, 3, 4]) (fun _ => [0, 1, 2]) (fun z => (.exit 0, [(2, .loc 0 0), (3, .loc 1 0), (4, .loc 2 0)], [(0, (Rect.c z)), (1, (Rect.c b)), (2, [.int .i64 0, .int .i64 0, .int .i64 0, .int .i64 0])], [])) ?_ ?_ ?_
  ·exact rfl
  ·clear h
   rintro r_' x h
   replace h : casementref02_Into_l1 b r_' = some x := h
   unfold casementref02_Into_l1 at h
   show T.WP _ _ [(2, .loc 0 0), (3, .loc 1 0), (4, .loc 2 0)] [(0, (Rect.c r_')), (1, (Rect.c b)), (2, [.int .i64 0, .int .i64 0, .int .i64 0, .int .i64 0])] [] _
   refine zaa ?_
   refine zaa ?_
   refine zac [2, 3, 4, 36] [0, 1, 2] ?_
   refine zad ?_
   refine fun c8 hc8 => ?_
   replace h := zae hc8 h
   refine zag (b := c8) rfl (fun hb9 => ?_) (fun hb9 => ?_)
   ·replace h := zam hb9 h
    refine zai ?_
    refine zah ?_
    refine zac [2, 3, 4] [0, 1, 2] ?_
    refine zad ?_
    cases h
    exact ⟨_, rfl, rfl⟩
   ·replace h := zal hb9 h
    refine zaR ?_
    cases h
    exact ⟨_, rfl, rfl⟩
  refine zaa ?_
  refine zah ?_
  obtain ⟨j13, hj13, h⟩ := zab h
  refine zaS hj13 [0, 1, 2] (fun s => ([(2, .loc 0 0), (3, .loc 1 0), (4, .loc 2 0)], [(0, (Rect.c s)), (1, (Rect.c b)), (2, [.int .i64 0, .int .i64 0, .int .i64 0, .int .i64 0])], [])) (fun _ => [2, 3, 4]) (fun _ => [0, 1, 2]) (fun z => (.exit 2, [(2, .loc 0 0), (3, .loc 1 0), (4, .loc 2 0)], [(0, (Rect.c z)), (1, (Rect.c b)), (2, [.int .i64 0, .int .i64 0, .int .i64 0, .int .i64 0])], [])) ?_ ?_ ?_
  ·exact rfl
  ·clear h
   rintro r_'' x h
   replace h : casementref02_Into_l2 b r_'' = some x := h
   unfold casementref02_Into_l2 at h
   show T.WP _ _ [(2, .loc 0 0), (3, .loc 1 0), (4, .loc 2 0)] [(0, (Rect.c r_'')), (1, (Rect.c b)), (2, [.int .i64 0, .int .i64 0, .int .i64 0, .int .i64 0])] [] _
   refine zaa ?_
   refine zaa ?_
   refine zac [2, 3, 4, 45] [0, 1, 2] ?_
   refine zad ?_
   refine fun c11 hc11 => ?_
   replace h := zae hc11 h
   refine zag (b := c11) rfl (fun hb12 => ?_) (fun hb12 => ?_)
   ·replace h := zam hb12 h
    refine zai ?_
    refine zah ?_
    refine zac [2, 3, 4] [0, 1, 2] ?_
    refine zad ?_
    cases h
    exact ⟨_, rfl, rfl⟩
   ·replace h := zal hb12 h
    refine zaR ?_
    cases h
    exact ⟨_, rfl, rfl⟩
  refine zaa ?_
  refine zah ?_
  obtain ⟨j16, hj16, h⟩ := zab h
  refine zaS hj16 [0, 1, 2] (fun s => ([(2, .loc 0 0), (3, .loc 1 0), (4, .loc 2 0)], [(0, (Rect.c s)), (1, (Rect.c b)), (2, [.int .i64 0, .int .i64 0, .int .i64 0, .int .i64 0])], [])) (fun _ => [2, 3, 4]) (fun _ => [0, 1, 2]) (fun z => (.exit 4, [(2, .loc 0 0), (3, .loc 1 0), (4, .loc 2 0)], [(0, (Rect.c z)), (1, (Rect.c b)), (2, [.int .i64 0, .int .i64 0, .int .i64 0, .int .i64 0])], [])) ?_ ?_ ?_
  ·exact rfl
  ·clear h
   rintro r_4 x h
   replace h : casementref02_Into_l3 b r_4 = some x := h
   unfold casementref02_Into_l3 at h
   show T.WP _ _ [(2, .loc 0 0), (3, .loc 1 0), (4, .loc 2 0)] [(0, (Rect.c r_4)), (1, (Rect.c b)), (2, [.int .i64 0, .int .i64 0, .int .i64 0, .int .i64 0])] [] _
   refine zaa ?_
   refine zaa ?_
   refine zac [2, 3, 4, 60] [0, 1, 2] ?_
   refine zad ?_
   refine fun c14 hc14 => ?_
   replace h := zae hc14 h
   refine zag (b := c14) rfl (fun hb15 => ?_) (fun hb15 => ?_)
   ·replace h := zam hb15 h
    refine zai ?_
    refine zah ?_
    refine zac [2, 3, 4] [0, 1, 2] ?_
    refine zad ?_
    cases h
    exact ⟨_, rfl, rfl⟩
   ·replace h := zal hb15 h
    refine zaR ?_
    cases h
    exact ⟨_, rfl, rfl⟩
  refine zaa ?_
  refine zah ?_
  obtain ⟨j19, hj19, h⟩ := zab h
  refine zaS hj19 [0, 1, 2] (fun s => ([(2, .loc 0 0), (3, .loc 1 0), (4, .loc 2 0)], [(0, (Rect.c s)), (1, (Rect.c b)), (2, [.int .i64 0, .int .i64 0, .int .i64 0, .int .i64 0])], [])) (fun _ => [2, 4]) (fun _ => [0, 1, 2]) (fun z => (.exit 6, [(2, .loc 0 0), (4, .loc 2 0)], [(0, (Rect.c z)), (1, (Rect.c b)), (2, [.int .i64 0, .int .i64 0, .int .i64 0, .int .i64 0])], [])) ?_ ?_ ?_
  ·exact rfl
  ·clear h
   rintro r_5 x h
   replace h : casementref02_Into_l4 b r_5 = some x := h
   unfold casementref02_Into_l4 at h
   show T.WP _ _ [(2, .loc 0 0), (3, .loc 1 0), (4, .loc 2 0)] [(0, (Rect.c r_5)), (1, (Rect.c b)), (2, [.int .i64 0, .int .i64 0, .int .i64 0, .int .i64 0])] [] _
   refine zaa ?_
   refine zaa ?_
   refine zac [2, 3, 4, 69] [0, 1, 2] ?_
   refine zad ?_
   refine fun c17 hc17 => ?_
   replace h := zae hc17 h
   refine zag (b := c17) rfl (fun hb18 => ?_) (fun hb18 => ?_)
   ·replace h := zam hb18 h
    refine zai ?_
    refine zah ?_
    refine zac [2, 3, 4] [0, 1, 2] ?_
    refine zad ?_
    cases h
    exact ⟨_, rfl, rfl⟩
   ·replace h := zal hb18 h
    refine zaR ?_
    cases h
    exact ⟨_, rfl, rfl⟩
  refine zaa ?_
  refine zac [4] [0, 1, 2] ?_
  refine zad ?_
  refine zap ?_
  cases h
  exact ⟨rfl, rfl, rfl, rfl, rfl⟩
noncomputable def casementref10_Place_l1 (p : Plan) (y1 : Rect) (out : List Spot) (i : Int) : Option ((List Spot × Int) ⊕ List Spot) :=
 letB (decide (i < (p.Float.length : Int))) fun c3 =>
 bif c3 then (
  Option.bind (
   (idx p.Float i).bind fun x5 =>
   (zaA x5).bind fun y6 =>
   (zbG y6 y1.X y1.Y).bind fun y7 =>
   (idx p.Float i).bind fun x8 =>
   (zaA x8).bind fun y9 =>
   letB (decide (y9.W = 0)) fun c10 =>
   Option.bind (
    bif c10 then (
     some ((Rect.mk 0 0 0 0)))
    else (
     some (y7)) : Option Rect) fun j12 =>
   (zbU j12 y1).bind fun y13 =>
   (zaN out y13 (w64 (i + 1)) false).bind fun y14 =>
   some ((y14, j12)) : Option (List Spot × Rect)) fun j15 =>
  some (.inl (j15.1, w64 (i + 1))))
 else (
  some (.inr out))
noncomputable def zbH (p : Plan) (r_ : Rect) : Option (List Spot) :=
 (zaA r_).bind fun y1 =>
 (zc4 [] p y1).bind fun y2 =>
 (iter (fun s => casementref10_Place_l1 p y1 s.1 s.2 : (List Spot × Int) → Option ((List Spot × Int) ⊕ List Spot)) (y2, 0)).bind fun j16 =>
 some j16
set_option maxRecDepth 20000 in
theorem zeF {p : Plan} {r_ : Rect} {r : List Spot} (h : zbH p r_ = some r) : zak true (RF ET) 16 [.agg (Plan.e p), .agg (Rect.c r_)] [] (.sl false 7 (List.map Spot.c r)) [] := by
 refine zak.quiet (zaF (af := a16) rfl rfl ?_) rfl
 unfold zbH at h
 refine zaa ?_
 refine zac [2, 3] [0, 1] ?_
 refine zad ?_
 refine ⟨.sl false 7 [], .sl _ _, ?_⟩
 refine zaa ?_
 refine zac [2, 3] [0, 1] ?_
 refine zad ?_
 obtain ⟨y1, hy1, h⟩ := zab h
 refine ⟨_, zaQ hy1, ?_⟩
 refine zaa ?_
 refine zac [2, 3, 5] [0, 1] ?_
 refine zad ?_
 refine ⟨.sl false 7 [], .sl _ _, ?_⟩
 obtain ⟨y2, hy2, h⟩ := zab h
 refine ⟨_, _, zak.any (zfl hy2) rfl _ rfl, ?_⟩
 refine zaa ?_
 refine zaa ?_
 refine zac [2, 3, 5, 6] [0, 1] ?_
 refine zad ?_
 refine zah ?_
 obtain ⟨j16, hj16, h⟩ := zab h
 refine zaS hj16 [0, 1] (fun s => ([(2, .loc 0 0), (3, .loc 1 0), (5, .sl false 7 (List.map Spot.c s.1)), (6, .int .i64 s.2)], [(0, (Plan.e p)), (1, (Rect.c y1))], [])) (fun _ => [5]) (fun _ => [0, 1]) (fun z => (.exit 0, [(5, .sl false 7 (List.map Spot.c z))], [(0, (Plan.e p)), (1, (Rect.c y1))], [])) ?_ ?_ ?_
 ·exact rfl
 ·clear h
  rintro ⟨out, i⟩ x h
  replace h : casementref10_Place_l1 p y1 out i = some x := h
  unfold casementref10_Place_l1 at h
  show T.WP _ _ [(2, .loc 0 0), (3, .loc 1 0), (5, .sl false 7 (List.map Spot.c out)), (6, .int .i64 i)] [(0, (Plan.e p)), (1, (Rect.c y1))] [] _
  refine zaa ?_
  refine zaa ?_
  refine zac [2, 3, 5, 6, 17] [0, 1] ?_
  refine zad ?_
  refine ⟨_, (yal ..).symm, ?_⟩
  refine fun c3 hc3 => ?_
  replace h := zae hc3 h
  refine zag (b := c3) rfl (fun hb4 => ?_) (fun hb4 => ?_)
  ·replace h := zam hb4 h
   refine zai ?_
   refine zaa ?_
   obtain ⟨j15, hj15, h⟩ := zab h
   refine za7 j15 (fun z => (.normal, [(2, .loc 0 0), (3, .loc 1 0), (5, .sl false 7 (List.map Spot.c z.1)), (6, .int .i64 i)], [(0, (Plan.e p)), (1, (Rect.c y1)), (2, (Rect.c z.2))], [])) (fun _ => [2, 3, 5, 6]) (fun _ => [0, 1, 2]) ?_ ?_
   ·clear h
    replace h := hj15
    clear hj15
    refine zah ?_
    refine zaa ?_
    refine zac [2, 3, 5, 6, 7] [0, 1, 2] ?_
    refine zdI ?_
    obtain ⟨x5, hx5, h⟩ := zab h
    refine And.intro (zbw hx5) ⟨_, zaD Rect.c hx5, ?_⟩
    obtain ⟨y6, hy6, h⟩ := zab h
    refine ⟨_, zaQ hy6, ?_⟩
    obtain ⟨y7, hy7, h⟩ := zab h
    refine ⟨_, zeE hy7, ?_⟩
    refine zaa ?_
    refine zaa ?_
    refine zac [2, 3, 5, 6, 7, 38] [0, 1, 2] ?_
    refine zad ?_
    obtain ⟨x8, hx8, h⟩ := zab h
    refine And.intro (zbw hx8) ⟨_, zaD Rect.c hx8, ?_⟩
    obtain ⟨y9, hy9, h⟩ := zab h
    refine ⟨_, zaQ hy9, ?_⟩
    refine fun c10 hc10 => ?_
    replace h := zae hc10 h
    obtain ⟨j12, hj12, h⟩ := zab h
    refine za7 j12 (fun z => (.normal, [(2, .loc 0 0), (3, .loc 1 0), (5, .sl false 7 (List.map Spot.c out)), (6, .int .i64 i), (7, .loc 2 0)], [(0, (Plan.e p)), (1, (Rect.c y1)), (2, (Rect.c z))], [])) (fun _ => [2, 3, 5, 6, 7]) (fun _ => [0, 1, 2]) ?_ ?_
    ·clear h
     replace h := hj12
     clear hj12
     refine zag (b := c10) rfl (fun hb11 => ?_) (fun hb11 => ?_)
     ·replace h := zam hb11 h
      refine zac [2, 3, 5, 6, 7] [0, 1, 2] ?_
      refine zad ?_
      cases h
      exact rfl
     ·replace h := zal hb11 h
      refine zai ?_
      cases h
      exact rfl
    refine zac [2, 3, 5, 6] [0, 1, 2] ?_
    refine zad ?_
    obtain ⟨y13, hy13, h⟩ := zab h
    refine ⟨_, ze1 hy13, ?_⟩
    obtain ⟨y14, hy14, h⟩ := zab h
    refine ⟨_, zbt hy14, ?_⟩
    cases h
    exact rfl
   refine zac [2, 3, 5, 6] [0, 1, 2] ?_
   refine zad ?_
   cases h
   exact ⟨_, rfl, rfl⟩
  ·replace h := zal hb4 h
   refine zaR ?_
   cases h
   exact ⟨_, rfl, rfl⟩
 refine zaa ?_
 refine zac [4] [0, 1] ?_
 refine zad ?_
 refine zap ?_
 cases h
 exact ⟨rfl, rfl, rfl, rfl, rfl⟩
noncomputable def zbI (p : Plan) : Option Int :=
 (zbs p 1).bind fun y1 =>
 some y1
set_option maxRecDepth 20000 in
theorem zeG {p : Plan} {r : Int} (h : zbI p = some r) : zak true (RF ET) 17 [.agg (Plan.e p)] [] (.int .i64 r) [] := by
 refine zak.quiet (zaF (af := a17) rfl rfl ?_) rfl
 unfold zbI at h
 refine zaa ?_
 refine zac [1] [0] ?_
 refine zad ?_
 refine zaa ?_
 refine zac [2] [0] ?_
 refine zad ?_
 obtain ⟨y1, hy1, h⟩ := zab h
 refine ⟨_, _, zak.any (zcS hy1) rfl _ rfl, ?_⟩
 refine zap ?_
 cases h
 exact ⟨rfl, rfl, rfl, rfl, rfl⟩
noncomputable def casementref10_Same_l1 (a : List Spot) (b : List Spot) (i : Int) : Option (Int ⊕ (Unit ⊕ Unit)) :=
 letB (decide (i < (a.length : Int))) fun c3 =>
 bif c3 then (
  (idx a i).bind fun x5 =>
  (idx b i).bind fun x6 =>
  letB (!((decide (x5.Pane = x6.Pane) && (decide (x5.Rect.X = x6.Rect.X) && (decide (x5.Rect.Y = x6.Rect.Y) && (decide (x5.Rect.W = x6.Rect.W) && (decide (x5.Rect.H = x6.Rect.H) && (decide (x5.Z = x6.Z) && ((x5.Title == x6.Title) && true))))))))) fun c7 =>
  bif c7 then (
   some (.inr (.inl ())))
  else (
   some (.inl (w64 (i + 1)))))
 else (
  some (.inr (.inr ())))
noncomputable def zbm (a : List Spot) (b : List Spot) : Option Bool :=
 letB (decide ((a.length : Int) ≠ (b.length : Int))) fun c1 =>
 bif c1 then (
  some false)
 else (
  (iter (fun s => casementref10_Same_l1 a b s : Int → Option (Int ⊕ (Unit ⊕ Unit))) 0).bind fun j9 =>
  match j9 with
  | .inl z10 => (
   some false)
  | .inr z11 => (
   some true))
set_option maxRecDepth 20000 in
theorem zdi {a : List Spot} {b : List Spot} {r : Bool} (h : zbm a b = some r) : zak true (RF ET) 18 [.sl false 7 (List.map Spot.c a), .sl false 7 (List.map Spot.c b)] [] (.bool r) [] := by
 refine zak.quiet (zaF (af := a18) rfl rfl ?_) rfl
 unfold zbm at h
 refine zaa ?_
 refine zac [0, 1] [] ?_
 refine zad ?_
 refine zaa ?_
 refine zaa ?_
 refine zac [0, 1, 10] [] ?_
 refine zad ?_
 refine ⟨_, (yal ..).symm, ?_⟩
 refine ⟨_, (yal ..).symm, ?_⟩
 refine fun c1 hc1 => ?_
 replace h := zae hc1 h
 refine zag (b := c1) rfl (fun hb2 => ?_) (fun hb2 => ?_)
 ·replace h := zam hb2 h
  refine zaa ?_
  refine zac [4] [] ?_
  refine zad ?_
  refine zap ?_
  cases h
  exact ⟨rfl, rfl, rfl, rfl, rfl⟩
 ·replace h := zal hb2 h
  refine zai ?_
  refine zaa ?_
  refine zaa ?_
  refine zac [0, 1, 5] [] ?_
  refine zad ?_
  refine zah ?_
  obtain ⟨j9, hj9, h⟩ := zab h
  refine zaS hj9 [] (fun s => ([(0, .sl false 7 (List.map Spot.c a)), (1, .sl false 7 (List.map Spot.c b)), (5, .int .i64 s)], [], [])) (fun e => match e with | .ret => [4] | .exit 0 => [] | _ => []) (fun e => match e with | .ret => [] | .exit 0 => [] | _ => []) (fun r => match r with | .inl z => (.ret, [(4, .bool false)], [], []) | .inr z => (.exit 0, [], [], [])) ?_ ?_ ?_
  ·exact rfl
  ·clear h
   rintro i x h
   replace h : casementref10_Same_l1 a b i = some x := h
   unfold casementref10_Same_l1 at h
   show T.WP _ _ [(0, .sl false 7 (List.map Spot.c a)), (1, .sl false 7 (List.map Spot.c b)), (5, .int .i64 i)] [] [] _
   refine zaa ?_
   refine zaa ?_
   refine zac [0, 1, 5, 14] [] ?_
   refine zad ?_
   refine ⟨_, (yal ..).symm, ?_⟩
   refine fun c3 hc3 => ?_
   replace h := zae hc3 h
   refine zag (b := c3) rfl (fun hb4 => ?_) (fun hb4 => ?_)
   ·replace h := zam hb4 h
    refine zai ?_
    refine zaa ?_
    refine zah ?_
    refine zaa ?_
    refine zac [0, 1, 5, 25] [] ?_
    refine zdI ?_
    obtain ⟨x5, hx5, h⟩ := zab h
    refine And.intro (zbw hx5) ⟨_, zaD Spot.c hx5, ?_⟩
    obtain ⟨x6, hx6, h⟩ := zab h
    refine And.intro (zbw hx6) ⟨_, zaD Spot.c hx6, ?_⟩
    refine fun c7 hc7 => ?_
    replace h := zae hc7 h
    refine zag (b := c7) rfl (fun hb8 => ?_) (fun hb8 => ?_)
    ·replace h := zam hb8 h
     refine zaa ?_
     refine zac [4] [] ?_
     refine zad ?_
     refine zap ?_
     cases h
     exact ⟨_, rfl, rfl⟩
    ·replace h := zal hb8 h
     refine zai ?_
     refine zac [0, 1, 5] [] ?_
     refine zad ?_
     cases h
     exact ⟨_, rfl, rfl⟩
   ·replace h := zal hb4 h
    refine zaR ?_
    cases h
    exact ⟨_, rfl, rfl⟩
  rcases j9 with z10 | z11
  ·cases h
   exact ⟨rfl, rfl, rfl, rfl, rfl⟩
  ·refine zaa ?_
   refine zac [4] [] ?_
   refine zad ?_
   refine zap ?_
   cases h
   exact ⟨rfl, rfl, rfl, rfl, rfl⟩
noncomputable def casementlaw10_LayoutPlays_l1 (y4 : List Spot) (s_ : List Spot) (t66 : Int) : Option ((List Spot × Int) ⊕ Unit) :=
 letB (decide (t66 < (y4.length : Int))) fun c32 =>
 bif c32 then (
  (idx s_ t66).bind fun x34 =>
  some (.inl (upI s_ t66 ({ x34 with Pane := 77 }), w64 (t66 + 1))))
 else (
  some (.inr ()))
noncomputable def zbe (p : Plan) (r_ : Rect) : Option Bool :=
 (zcC).bind fun y1 =>
 bif (!y1) then (
  some false)
 else (
  (zcm p).bind fun y3 =>
  (zb8 p r_).bind fun y4 =>
  (zaT p).bind fun y5 =>
  bif (!y5) then (
   (zbx p).bind fun y7 =>
   letB (decide (y7 = 100)) fun c8 =>
   (bif c8 then (
    letB (decide (y3.1 = 0)) fun c10 =>
    some (c10)) else some false).bind fun g9 =>
   (bif g9 then (
    letB (decide (y3.2 = 0)) fun c13 =>
    some (c13)) else some false).bind fun g12 =>
   (bif g12 then (
    letB (decide ((y4.length : Int) = 0)) fun c16 =>
    some (c16)) else some false).bind fun g15 =>
   some g15)
  else (
   (zbH p r_).bind fun y18 =>
   (zbx p).bind fun y19 =>
   letB (decide (y19 ≠ 0)) fun c20 =>
   (bif c20 then some true else (
    (zbI p).bind fun y22 =>
    letB (decide (y3.1 ≠ y22)) fun c23 =>
    some (c23))).bind fun g21 =>
   (bif g21 then some true else (
    letB (decide (y3.2 ≠ (p.Float.length : Int))) fun c26 =>
    some (c26))).bind fun g25 =>
   (bif g25 then some true else (
    (zbm y4 y18).bind fun y29 =>
    some ((!y29)))).bind fun g28 =>
   bif g28 then (
    some false)
   else (
    (iter (fun s => casementlaw10_LayoutPlays_l1 y4 s.1 s.2 : (List Spot × Int) → Option ((List Spot × Int) ⊕ Unit)) (y4, 0)).bind fun j35 =>
    (zb8 p r_).bind fun y36 =>
    (zbm y36 y18).bind fun y37 =>
    some y37)))
set_option maxRecDepth 20000 in
theorem zdv {p : Plan} {r_ : Rect} {r : Bool} (h : zbe p r_ = some r) : zak true (RF ET) 3 [.agg (Plan.e p), .agg (Rect.c r_)] [] (.bool r) [] := by
 refine zak.quiet (zaF (af := a3) rfl rfl ?_) rfl
 unfold zbe at h
 refine zaa ?_
 refine zac [2, 3] [0, 1] ?_
 refine zad ?_
 refine zaa ?_
 refine zaa ?_
 refine zac [2, 3, 11] [0, 1] ?_
 refine zad ?_
 obtain ⟨y1, hy1, h⟩ := zab h
 refine ⟨_, zeA hy1, ?_⟩
 refine zag (b := (!y1)) rfl (fun hb2 => ?_) (fun hb2 => ?_)
 ·replace h := zam hb2 h
  refine zaa ?_
  refine zac [4] [0, 1] ?_
  refine zad ?_
  refine zap ?_
  cases h
  exact ⟨rfl, rfl, rfl, rfl, rfl⟩
 ·replace h := zal hb2 h
  refine zai ?_
  refine zaa ?_
  refine zac [2, 3, 5, 6] [0, 1] ?_
  refine zad ?_
  obtain ⟨y3, hy3, h⟩ := zab h
  refine ⟨_, _, zak.any (zhU hy3) rfl _ rfl, ?_⟩
  refine zaa ?_
  refine zac [2, 3, 5, 6, 7] [0, 1] ?_
  refine zad ?_
  obtain ⟨y4, hy4, h⟩ := zab h
  refine ⟨_, _, zak.any (zeY hy4) rfl _ rfl, ?_⟩
  refine zaa ?_
  refine zaa ?_
  refine zac [2, 3, 5, 6, 7, 22] [0, 1] ?_
  refine zad ?_
  obtain ⟨y5, hy5, h⟩ := zab h
  refine ⟨_, _, zak.any (zeC hy5) rfl _ rfl, ?_⟩
  refine zag (b := (!y5)) rfl (fun hb6 => ?_) (fun hb6 => ?_)
  ·replace h := zam hb6 h
   refine zaa ?_
   refine zac [4] [0, 1] ?_
   refine zat 4 ?_
   refine zad ?_
   obtain ⟨y7, hy7, h⟩ := zab h
   refine ⟨_, _, zak.any (zcQ hy7) rfl _ rfl, ?_⟩
   refine fun c8 hc8 => ?_
   replace h := zae hc8 h
   obtain ⟨g9, hg9, h⟩ := zab h
   refine zaB 3 29 [6, 7, 29] g9 ?_ ?_
   ·clear h
    replace h := hg9
    clear hg9
    cases hb11 : c8 with
    | true =>
     replace h := zam hb11 h
     refine zad ?_
     refine fun c10 hc10 => ?_
     replace h := zae hc10 h
     cases h
     exact ⟨rfl, rfl, rfl⟩
    | false =>
     replace h := zal hb11 h
     cases h
     refine zad ?_
     exact ⟨rfl, rfl, rfl⟩
   refine zat 1 ?_
   refine zad ?_
   obtain ⟨g12, hg12, h⟩ := zab h
   refine zaB 3 33 [7, 33] g12 ?_ ?_
   ·clear h
    replace h := hg12
    clear hg12
    cases hb14 : g9 with
    | true =>
     replace h := zam hb14 h
     refine zad ?_
     refine fun c13 hc13 => ?_
     replace h := zae hc13 h
     cases h
     exact ⟨rfl, rfl, rfl⟩
    | false =>
     replace h := zal hb14 h
     cases h
     refine zad ?_
     exact ⟨rfl, rfl, rfl⟩
   refine zat 1 ?_
   refine zad ?_
   obtain ⟨g15, hg15, h⟩ := zab h
   refine zaB 4 38 [38] g15 ?_ ?_
   ·clear h
    replace h := hg15
    clear hg15
    cases hb17 : g12 with
    | true =>
     replace h := zam hb17 h
     refine zad ?_
     refine ⟨_, (yal ..).symm, ?_⟩
     refine fun c16 hc16 => ?_
     replace h := zae hc16 h
     cases h
     exact ⟨rfl, rfl, rfl⟩
    | false =>
     replace h := zal hb17 h
     cases h
     refine zad ?_
     exact ⟨rfl, rfl, rfl⟩
   refine zad ?_
   refine zap ?_
   cases h
   exact ⟨rfl, rfl, rfl, rfl, rfl⟩
  ·replace h := zal hb6 h
   refine zai ?_
   refine zaa ?_
   refine zac [2, 3, 5, 6, 7, 8] [0, 1] ?_
   refine zad ?_
   obtain ⟨y18, hy18, h⟩ := zab h
   refine ⟨_, _, zak.any (zeF hy18) rfl _ rfl, ?_⟩
   refine zaa ?_
   refine zaa ?_
   refine zac [2, 3, 7, 8, 63] [0, 1] ?_
   refine zat 4 ?_
   refine zad ?_
   obtain ⟨y19, hy19, h⟩ := zab h
   refine ⟨_, _, zak.any (zcQ hy19) rfl _ rfl, ?_⟩
   refine fun c20 hc20 => ?_
   replace h := zae hc20 h
   obtain ⟨g21, hg21, h⟩ := zab h
   refine zaB 5 50 [2, 3, 6, 7, 8, 50] g21 ?_ ?_
   ·clear h
    replace h := hg21
    clear hg21
    cases hb24 : c20 with
    | false =>
     replace h := zal hb24 h
     refine zad ?_
     obtain ⟨y22, hy22, h⟩ := zab h
     refine ⟨_, _, zak.any (zeG hy22) rfl _ rfl, ?_⟩
     refine fun c23 hc23 => ?_
     replace h := zae hc23 h
     cases h
     exact ⟨rfl, rfl, rfl⟩
    | true =>
     replace h := zam hb24 h
     cases h
     refine zad ?_
     exact ⟨rfl, rfl, rfl⟩
   refine zat 1 ?_
   refine zad ?_
   obtain ⟨g25, hg25, h⟩ := zab h
   refine zaB 6 57 [2, 3, 7, 8, 57] g25 ?_ ?_
   ·clear h
    replace h := hg25
    clear hg25
    cases hb27 : g21 with
    | false =>
     replace h := zal hb27 h
     refine zad ?_
     refine ⟨_, (yal ..).symm, ?_⟩
     refine fun c26 hc26 => ?_
     replace h := zae hc26 h
     cases h
     exact ⟨rfl, rfl, rfl⟩
    | true =>
     replace h := zam hb27 h
     cases h
     refine zad ?_
     exact ⟨rfl, rfl, rfl⟩
   refine zat 1 ?_
   refine zad ?_
   obtain ⟨g28, hg28, h⟩ := zab h
   refine zaB 5 63 [2, 3, 7, 8, 63] g28 ?_ ?_
   ·clear h
    replace h := hg28
    clear hg28
    cases hb30 : g25 with
    | false =>
     replace h := zal hb30 h
     refine zad ?_
     obtain ⟨y29, hy29, h⟩ := zab h
     refine ⟨_, zdi hy29, ?_⟩
     cases h
     exact ⟨rfl, rfl, rfl⟩
    | true =>
     replace h := zam hb30 h
     cases h
     refine zad ?_
     exact ⟨rfl, rfl, rfl⟩
   refine zad ?_
   refine zag (b := g28) rfl (fun hb31 => ?_) (fun hb31 => ?_)
   ·replace h := zam hb31 h
    refine zaa ?_
    refine zac [4] [0, 1] ?_
    refine zad ?_
    refine zap ?_
    cases h
    exact ⟨rfl, rfl, rfl, rfl, rfl⟩
   ·replace h := zal hb31 h
    refine zai ?_
    refine zaa ?_
    refine zaa ?_
    refine zac [2, 3, 7, 8, 65, 66] [0, 1] ?_
    refine zad ?_
    refine ⟨_, (yal ..).symm, ?_⟩
    refine zah ?_
    obtain ⟨j35, hj35, h⟩ := zab h
    refine zaS hj35 [0, 1] (fun s => ([(2, .loc 0 0), (3, .loc 1 0), (7, .sl true 7 (List.map Spot.c s.1)), (8, .sl false 7 (List.map Spot.c y18)), (65, .int .i64 (y4.length : Int)), (66, .int .i64 s.2)], [(0, (Plan.e p)), (1, (Rect.c r_))], [])) (fun _ => [2, 3, 8]) (fun _ => [0, 1]) (fun z => (.exit 0, [(2, .loc 0 0), (3, .loc 1 0), (8, .sl false 7 (List.map Spot.c y18))], [(0, (Plan.e p)), (1, (Rect.c r_))], [])) ?_ ?_ ?_
    ·exact rfl
    ·clear h
     rintro ⟨s_, t66⟩ x h
     replace h : casementlaw10_LayoutPlays_l1 y4 s_ t66 = some x := h
     unfold casementlaw10_LayoutPlays_l1 at h
     show T.WP _ _ [(2, .loc 0 0), (3, .loc 1 0), (7, .sl true 7 (List.map Spot.c s_)), (8, .sl false 7 (List.map Spot.c y18)), (65, .int .i64 (y4.length : Int)), (66, .int .i64 t66)] [(0, (Plan.e p)), (1, (Rect.c r_))] [] _
     refine zaa ?_
     refine zac [2, 3, 7, 8, 65, 66, 67] [0, 1] ?_
     refine zad ?_
     refine fun c32 hc32 => ?_
     replace h := zae hc32 h
     refine zaa ?_
     refine zag (b := c32) rfl (fun hb33 => ?_) (fun hb33 => ?_)
     ·replace h := zam hb33 h
      refine zai ?_
      refine zaa ?_
      refine zah ?_
      refine zaa ?_
      refine zac [2, 3, 7, 8, 9, 65, 66] [0, 1] ?_
      refine zad ?_
      refine zac [2, 3, 7, 8, 65, 66] [0, 1] ?_
      refine zad ?_
      obtain ⟨x34, hx34, h⟩ := zab h
      refine And.intro (zcr Spot.c hx34) ?_
      refine ⟨_, zaD Spot.c hx34, ?_⟩
      refine ⟨_, zgu (e := Spot.c) (i := t66) (x := { x34 with Pane := 77 }) rfl, ?_⟩
      refine zac [2, 3, 7, 8, 65, 66] [0, 1] ?_
      refine zad ?_
      cases h
      exact ⟨_, rfl, rfl⟩
     ·replace h := zal hb33 h
      refine zaR ?_
      cases h
      exact ⟨_, rfl, rfl⟩
    refine zaa ?_
    refine zac [4] [0, 1] ?_
    refine zad ?_
    obtain ⟨y36, hy36, h⟩ := zab h
    refine ⟨_, _, zak.any (zeY hy36) rfl _ rfl, ?_⟩
    obtain ⟨y37, hy37, h⟩ := zab h
    refine ⟨_, zdi hy37, ?_⟩
    refine zap ?_
    cases h
    exact ⟨rfl, rfl, rfl, rfl, rfl⟩
end Go.Proofs.YtakdnfneikbjjaaGreatDoor.Am.Lay10

set_option linter.all false
namespace Go.Proofs.YtakdnfneikbjjaaGreatDoor.Am.Lay10
open Go.Proofs.YtakdnfneikbjjaaGreatDoor.Am.T
theorem zmp (s : Size) : zbb s = some (decide (sizeOK s)) := by
 unfold zbb sizeOK
 simp only [letB, zpj, or_s, Option.bind_some]
 by_cases k0 : s.Kind = 0 <;> by_cases k1 : s.Kind = 1 <;> by_cases k2 : s.Kind = 2 <;> by_cases a : s.N ≥ 1 <;> by_cases b : s.N ≤ 200 <;> by_cases c : s.N ≤ 100 <;> first | (exfalso; omega) | simp [*]
theorem zh3 {a : List Int} (hl : a.length ≤ 16) (hr : ∀ x ∈ a, 0 ≤ x ∧ x ≤ 10000) : ∀ (xs : List Int) (i : Nat) (n : Int), a.drop i = xs → i + xs.length = a.length → 0 ≤ n → n ≤ 10000 * i →
  iter (fun s => casementref09_sum_l1 a s.1 s.2 : (Int × Int) → Option ((Int × Int) ⊕ Int)) (n, (i : Int)) = some (n + sumI xs)
 | [], i, n, hd, hi, h0, h1 => by
  refine zau ?_
  simp only [casementref09_sum_l1, letB]
  rw [yau (by simp only [List.length_nil] at hi; omega)]
  simp [sumI]
 | x :: xs, i, n, hd, hi, h0, h1 => by
  obtain ⟨hlt, hget, hdrop⟩ := zci hd
  simp only [List.length_cons] at hi
  have hx := hr x (hget ▸ yat hlt)
  refine (zaz (s' := (n + x, ((i + 1 : Nat) : Int))) ?_).trans ?_
  ·simp only [casementref09_sum_l1, letB]
   rw [yav (show (i : Int) < (a.length : Int) by omega), zaK hlt, hget, zaj (n := (i : Int) + 1) (by omega) (by omega)]
   simp only [cond_true, Option.bind_some]
   rw [zaj (by omega) (by omega)]
   rfl
  ·rw [zh3 hl hr xs (i + 1) (n + x) hdrop (by omega) (by omega) (by omega)]
   simp only [sumI]; congr 1; omega
theorem zed {a : List Int} (hl : a.length ≤ 16) (hr : ∀ x ∈ a, 0 ≤ x ∧ x ≤ 10000) : zbA a = some (sumI a) := by
 unfold zbA
 have := zh3 hl hr a 0 0 rfl (by omega) (by omega) (by omega)
 rw [show (0 : Int) = ((0 : Nat) : Int) from rfl] at this ⊢
 rw [this]
 simp
theorem ze2 {a : List Int} {k : Nat} {d : Int} (hl : a.length ≤ 16) (hk : k < a.length) (hr : ∀ x ∈ a, 0 ≤ x ∧ x ≤ 10000) (hd : -10 ≤ d ∧ d ≤ 10) : zaP a (k : Int) d = some (a.set k (a[k] + d)) := by
 have hb := hr _ (yat hk)
 have loop : ∀ (m i : Nat), i + m = a.length → iter (fun s => casementref09_change_l1 a (k : Int) d s.1 s.2 : (List Int × Int) → Option ((List Int × Int) ⊕ List Int)) ((a.set k (a[k] + d)).take i, (i : Int)) = some (a.set k (a[k] + d)) := by
  intro m
  induction m with
  | zero =>
   intro i hi
   refine zau ?_
   simp only [casementref09_change_l1, letB]
   rw [yau (by omega), List.take_of_length_le (by simp; omega)]; rfl
  | succ m ih =>
   intro i hi
   have hlt : i < a.length := by omega
   refine (zaz (s' := ((a.set k (a[k] + d)).take (i + 1), ((i + 1 : Nat) : Int))) ?_).trans (ih (i + 1) (by omega))
   have htl : ((a.set k (a[k] + d)).take i).length < 1000000 := by simp; omega
   simp only [casementref09_change_l1, letB]
   rw [yav (show (i : Int) < (a.length : Int) by omega), zaK hlt, zaj (n := (i : Int) + 1) (by omega) (by omega)]
   rw [List.take_succ_eq_append_getElem (by simpa using hlt)]
   by_cases hik : i = k
   ·subst hik
    rw [yav rfl]
    simp only [cond_true, Option.bind_some]
    rw [zaj (by omega) (by omega), zcs htl, List.getElem_set_self]
    rfl
   ·rw [yau (show ¬ (i : Int) = (k : Int) by omega)]
    simp only [cond_true, cond_false, Option.bind_some]
    rw [zcs htl, List.getElem_set_ne (by omega)]
    rfl
 unfold zaP
 have := loop a.length 0 (by omega)
 rw [List.take_zero] at this
 simp only [show ((0 : Nat) : Int) = 0 from rfl] at this
 rw [this]
 rfl
theorem zoA {sizes : List Size} {out : List Int} (hl : out.length ≤ 16) (hs : sizes.length = out.length) {j : Nat} (hj : j < out.length) (h1 : 1 < out[j]) (hk : sizes[j].Kind ≠ 0) (h2 : ∀ i, j < i → ∀ h : i < out.length, out[i] = 1) :
  ∀ (m i : Nat) (last : Int), i + m = out.length → (i ≤ j ∨ last = j) → iter (fun s => casementref09_Share_l5 sizes out s.1 s.2 : (Int × Int) → Option ((Int × Int) ⊕ Int)) (last, (i : Int)) = some (j : Int)
 | 0, i, last, hi, h => by
  refine zau ?_
  simp only [casementref09_Share_l5, letB]
  rw [yau (by omega), h.resolve_left (by omega)]; rfl
 | m + 1, i, last, hi, h => by
  have hlt : i < out.length := by omega
  have hstep : casementref09_Share_l5 sizes out last (i : Int) = some (.inl ((if out[i] > 1 ∧ sizes[i].Kind ≠ 0 then (i : Int) else last), ((i + 1 : Nat) : Int))) := by
   simp only [casementref09_Share_l5, letB]
   rw [yav (show (i : Int) < (out.length : Int) by omega), zaK hlt, zaj (n := (i : Int) + 1) (by omega) (by omega)]
   simp only [cond_true, Option.bind_some, zaK (l := sizes) (show i < sizes.length by omega)]
   by_cases c1 : out[i] > 1 <;> by_cases c2 : sizes[i].Kind = 0 <;> simp [c1, c2]
  refine (zaz hstep).trans (zoA hl hs hj h1 hk h2 m (i + 1) _ (by omega) ?_)
  rcases Nat.lt_trichotomy i j with hc | hc | hc
  ·exact .inl (by omega)
  ·subst hc
   exact .inr (if_pos ⟨h1, hk⟩)
  ·right
   rw [if_neg (by rw [h2 i hc hlt]; omega)]
   exact h.resolve_left (by omega)
theorem zkE {total : Int} {sizes : List Size} {out : List Int} (hl : out.length ≤ 16) (hr : ∀ x ∈ out, 0 ≤ x ∧ x ≤ 10000) (h : sumI out ≤ total) : iter (fun s => casementref09_Share_l6 total sizes s : List Int → Option (List Int ⊕ List Int)) out = some out := by
 refine zau ?_
 simp only [casementref09_Share_l6, letB, zed hl hr, Option.bind_some]
 rw [yau (by omega)]; rfl
theorem ziN {total : Int} {sizes : List Size} {j : Nat} (hjs : j < sizes.length) (hk : sizes[j].Kind ≠ 0) : ∀ (m : Nat) (out : List Int) (_ : out.length ≤ 16) (_ : sizes.length = out.length) (hj : j < out.length) (_ : ∀ x ∈ out, 0 ≤ x ∧ x ≤ 10000) (_ : (m : Int) ≤ out[j] - 1) (_ : total + m ≤ sumI out) (_ : ∀ i, j < i → ∀ h : i < out.length, out[i] = 1),
  iter (fun s => casementref09_Share_l6 total sizes s : List Int → Option (List Int ⊕ List Int)) out = iter (fun s => casementref09_Share_l6 total sizes s : List Int → Option (List Int ⊕ List Int)) (out.set j (out[j] - m))
 | 0, out, _, _, hj, _, _, _, _ => by
  rw [show out[j] - ((0 : Nat) : Int) = out[j] by omega, List.set_getElem_self]
 | m + 1, out, hl, hs, hj, hr, hm, ht, h2 => by
  have hb := hr _ (yat hj)
  have hstep : casementref09_Share_l6 total sizes out = some (.inl (out.set j (out[j] + -1))) := by
   simp only [casementref09_Share_l6, letB, zed hl hr, Option.bind_some]
   rw [yav (by omega)]
   have hla := zoA hl hs hj (by omega) hk h2 out.length 0 0 (by omega) (.inl (Nat.zero_le _))
   simp only [show ((0 : Nat) : Int) = 0 from rfl] at hla
   simp only [cond_true, hla, Option.bind_some, ze2 hl hj hr (show (-10 : Int) ≤ -1 ∧ (-1 : Int) ≤ 10 by omega)]
  rw [zaz hstep, ziN hjs hk m (out.set j (out[j] + -1)) (by simpa using hl) (by simpa using hs) (by simpa using hj) (fun x hx => by
   rcases List.mem_or_eq_of_mem_set hx with hx | rfl
   ·exact hr x hx
   ·omega) (by rw [List.getElem_set_self]; omega) (by rw [zdu out j _ hj]; omega) (fun i hi h => by
   rw [List.getElem_set_ne (by omega)]
   exact h2 i hi (by simpa using h))]
  rw [List.getElem_set_self, List.set_set]
  congr 2; omega
theorem zm5 {total : Int} {sizes : List Size} {n : Nat} (hn : n ≤ 16) (hsz : sizes.length = n) (hnt : (n : Int) ≤ total) (ht : total ≤ 200) :
  ∀ (m : Nat) (out : List Int) (left : Int) (ho : out.length = n), m ≤ n → (∀ x ∈ out, 1 ≤ x ∧ x ≤ 200) → (∀ j (h : j < out.length) (h' : j < sizes.length), sizes[j].Kind = 0 → out[j] = 1) → sumI out + left = total → left ≤ 200 → (left < 0 → ∀ j, m ≤ j → ∀ h : j < out.length, out[j] = 1) →
  ∃ out' left', iter (fun s => solve_Share_l2 s.1 s.2.1 s.2.2 : (List Int × Int × Int) → Option ((List Int × Int × Int) ⊕ (List Int × Int))) (out, left, (m : Int) - 1) = some (out', left') ∧ iter (fun s => casementref09_Share_l6 total sizes s : List Int → Option (List Int ⊕ List Int)) out = some out' ∧ 0 ≤ left' ∧ out'.length = n ∧ (∀ x ∈ out', 1 ≤ x ∧ x ≤ 200) ∧ sumI out' + left' = total := by
 intro m
 induction m with
 | zero =>
  intro out left ho hm hr hkd hs hl2 ht2
  have hl : 0 ≤ left := by
   rcases Int.lt_or_le left 0 with h | h
   ·have h1 := zhW out fun x hx => by
     obtain ⟨j, hj, rfl⟩ := List.mem_iff_getElem.1 hx
     exact ht2 h j (Nat.zero_le _) hj
    omega
   ·exact h
  refine ⟨out, left, zau ?_, zkE (by omega) (fun x hx => by have := hr x hx; omega) (by omega), hl, ho, hr, hs⟩
  simp only [solve_Share_l2, letB]
  rw [yau (by omega)]; rfl
 | succ m ih =>
  intro out left ho hm hr hkd hs hl2 ht2
  rcases Int.lt_or_le left 0 with h | h
  ·have hlt : m < out.length := by omega
   have hx := hr out[m] (yat hlt)
   have hsum : (-3200 : Int) ≤ left := by
    have : ∀ l : List Int, (∀ x ∈ l, 1 ≤ x ∧ x ≤ 200) → sumI l ≤ 200 * l.length := by
     intro l
     induction l with
     | nil => intro _; simp [sumI]
     | cons y l ih =>
      intro hl
      have h1 := ih fun z hz => hl z (.tail _ hz)
      have h2 := hl y (.head _)
      simp only [sumI, List.length_cons]; omega
    have := this out hr
    omega
   have hidx : idx out (m : Int) = some out[m] := zaK hlt
   generalize hless : min (out[m] - 1) (0 - left) = less
   have hl0 : 0 ≤ less ∧ less ≤ out[m] - 1 ∧ less ≤ 0 - left := by omega
   have key : solve_Share_l2 out left (((m + 1 : Nat) : Int) - 1) = some (.inl (out.set m (out[m] - less), left + less, (m : Int) - 1)) := by
    simp only [solve_Share_l2, letB]
    rw [yav h, show ((m + 1 : Nat) : Int) - 1 = (m : Int) by omega]
    simp only [cond_true, hidx, Option.bind_some]
    rw [zaj (n := out[m] - 1) (by omega) (by omega), zaj (n := 0 - left) (by omega) (by omega), hless, zaj (n := out[m] - less) (by omega) (by omega), zaj (n := left + less) (by omega) (by omega), zaj (n := (m : Int) - 1) (by omega) (by omega)]
    unfold upI
    rw [Int.toNat_natCast]
   obtain ⟨out', left', e, e6, r⟩ := ih (out.set m (out[m] - less)) (left + less) (by simp; omega) (by omega) (fun x hx => by
     rcases List.mem_or_eq_of_mem_set hx with hx | rfl
     ·exact hr x hx
     ·omega) (fun j hj hj' hk => by
     by_cases hjm : j = m
     ·subst hjm
      have := hkd j hlt hj' hk
      rw [List.getElem_set_self]; omega
     ·rw [List.getElem_set_ne (by omega)]
      exact hkd j (by simpa using hj) hj' hk) (by rw [zdu out m _ hlt]; omega) (by omega) (fun hneg j hj hj2 => by
     by_cases hjm : j = m
     ·subst hjm
      rw [List.getElem_set_self]
      omega
     ·rw [List.getElem_set_ne (by omega)]
      exact ht2 h j (by omega) (by simpa using hj2))
   refine ⟨out', left', (zaz key).trans e, ?_, r⟩
   rw [← e6]
   by_cases hz : less = 0
   ·rw [hz, Int.sub_zero, List.set_getElem_self]
   ·have hms : m < sizes.length := by omega
    have hk : sizes[m].Kind ≠ 0 := fun hk => by have := hkd m hlt hms hk; omega
    obtain ⟨q, hq⟩ : ∃ q : Nat, (q : Int) = less := ⟨less.toNat, by omega⟩
    rw [← hq]
    exact ziN hms hk q out (by omega) (by omega) hlt (fun x hx => by have := hr x hx; omega) (by omega) (by omega) fun i hi hi2 => ht2 h i (by omega) hi2
  ·refine ⟨out, left, zau ?_, zkE (by omega) (fun x hx => by have := hr x hx; omega) (by omega), h, ho, hr, hs⟩
   simp only [solve_Share_l2, letB]
   rw [yau (by omega)]; rfl
theorem zkF : ∀ (ss : List Size) (i : Nat), (flx ss i).Nodup
 | [], _ => .nil
 | s :: ss, i => by
  have := zkF ss (i + 1)
  unfold flx
  split
  ·refine List.nodup_cons.2 ⟨fun h => ?_, this⟩
   have := zhX ss (i + 1) _ h
   omega
  ·exact this
theorem zoB {l : List Int} (h : l.Nodup) {a b : Nat} (ha : a < l.length) (hb : b < l.length) (e : l[a] = l[b]) : a = b := by
 rcases Nat.lt_trichotomy a b with hc | hc | hc
 ·exact absurd e ((List.pairwise_iff_getElem.1 h) a b ha hb hc)
 ·exact hc
 ·exact absurd e.symm ((List.pairwise_iff_getElem.1 h) b a hb ha hc)
def Got (flex out : List Int) (f : Nat → Int) (L : List Int) : Prop :=
 L.length = out.length ∧ (∀ t (h : t < flex.length), ∀ j (hj : j < L.length) (hj' : j < out.length), flex[t] = (j : Int) → L[j] = out[j] + f t) ∧ ∀ j (hj : j < L.length) (hj' : j < out.length), (∀ t (h : t < flex.length), flex[t] ≠ (j : Int)) → L[j] = out[j]
theorem Got.uniq {flex out L L' : List Int} {f g : Nat → Int} (h : Got flex out f L) (h' : Got flex out g L') (hfg : ∀ t, t < flex.length → f t = g t) : L = L' := by
 refine List.ext_getElem (h.1.trans h'.1.symm) fun j hj hj' => ?_
 have hjo : j < out.length := by rw [← h.1]; exact hj
 by_cases hx : ∃ t, ∃ ht : t < flex.length, flex[t] = (j : Int)
 ·obtain ⟨t, ht, e⟩ := hx
  rw [h.2.1 t ht j hj hjo e, h'.2.1 t ht j hj' hjo e, hfg t ht]
 ·have hn : ∀ t (h : t < flex.length), flex[t] ≠ (j : Int) := fun t ht e => hx ⟨t, ht, e⟩
  rw [h.2.2 j hj hjo hn, h'.2.2 j hj' hjo hn]
theorem Got.step {flex out L : List Int} {f g : Nat → Int} (h : Got flex out f L) (hnd : flex.Nodup) {t x : Nat} {d : Int} (ht : t < flex.length) (hx : x < L.length) (hxe : flex[t] = (x : Int)) (hgt : g t = f t + d) (hg : ∀ s, s < flex.length → s ≠ t → g s = f s) : Got flex out g (L.set x (L[x] + d)) := by
 refine ⟨by simpa using h.1, fun s hs j hj hj' e => ?_, fun j hj hj' hn => ?_⟩
 ·by_cases hst : s = t
  ·subst hst
   have : j = x := by omega
   subst this
   rw [List.getElem_set_self, h.2.1 s hs j hx hj' e, hgt]; omega
  ·have hjx : j ≠ x := fun e2 => hst (zoB hnd hs ht (by rw [e, hxe, e2]))
   rw [List.getElem_set_ne (by omega), h.2.1 s hs j (by simpa using hj) hj' e, hg s hs hst]
 ·have hjx : j ≠ x := fun e2 => hn t ht (by rw [hxe, e2])
  rw [List.getElem_set_ne (by omega), h.2.2 j (by simpa using hj) hj' hn]
theorem zkG {n : Nat} {k t : Nat} (hk : 0 < k) (ht : t < k) : give ((n + 1 : Nat) : Int) k t = give (n : Int) k t + if (t : Int) = (n : Int) % (k : Int) then 1 else 0 := by
 have hk' : (0 : Int) < (k : Int) := by omega
 have hr0 : 0 ≤ (n : Int) % (k : Int) := Int.emod_nonneg _ (by omega)
 have hr1 := Int.emod_lt_of_pos (n : Int) hk'
 have hq := Int.mul_ediv_add_emod (n : Int) (k : Int)
 unfold give
 by_cases hc : (n : Int) % (k : Int) + 1 < (k : Int)
 ·have := (Int.ediv_emod_unique (a := ((n + 1 : Nat) : Int)) (b := (k : Int)) (r := (n : Int) % (k : Int) + 1) (q := (n : Int) / (k : Int)) hk').2 ⟨by omega, by omega, hc⟩
  rw [this.1, this.2]
  split <;> split <;> split <;> omega
 ·have := (Int.ediv_emod_unique (a := ((n + 1 : Nat) : Int)) (b := (k : Int)) (r := 0) (q := (n : Int) / (k : Int) + 1) hk').2 ⟨by rw [Int.mul_add]; omega, by omega, hk'⟩
  rw [this.1, this.2]
  split <;> split <;> split <;> omega
theorem zkH {total : Int} {a flex out : List Int} {n : Nat} (hn : n ≤ 16) (ho : out.length = n) (hr : ∀ x ∈ out, 1 ≤ x ∧ x ≤ 200) (hfl : flex.length ≤ 16) (hfp : 0 < flex.length) (hnd : flex.Nodup) (hfm : ∀ x ∈ flex, 0 ≤ x ∧ x < n) {left : Nat} (hl : left ≤ 200) (hs : sumI out + left = total) :
  ∀ (m i : Nat) (L : List Int), i + m = left → Got flex out (give (i : Int) flex.length) L → (∀ x ∈ L, 0 ≤ x ∧ x ≤ 200 + i) → sumI L = sumI out + i →
  ∃ L', iter (fun s => casementref09_Share_l7 total (a, flex) s.1 s.2 : (List Int × Int) → Option ((List Int × Int) ⊕ List Int)) (L, (i : Int)) = some L' ∧ Got flex out (give (left : Int) flex.length) L'
 | 0, i, L, hi, hg, hb, hsum => by
  obtain rfl : i = left := by omega
  refine ⟨L, zau ?_, hg⟩
  simp only [casementref09_Share_l7, letB]
  rw [zed (by rw [hg.1]; omega) fun x hx => by have := hb x hx; omega]
  simp only [Option.bind_some]
  rw [yau (by omega)]; rfl
 | m + 1, i, L, hi, hg, hb, hsum => by
  have hk' : (0 : Int) < (flex.length : Int) := by omega
  have hr0 : 0 ≤ (i : Int) % (flex.length : Int) := Int.emod_nonneg _ (by omega)
  have hr1 := Int.emod_lt_of_pos (i : Int) hk'
  obtain ⟨t, ht⟩ : ∃ t : Nat, (t : Int) = (i : Int) % (flex.length : Int) := ⟨((i : Int) % (flex.length : Int)).toNat, by omega⟩
  have htl : t < flex.length := by omega
  have hxm := hfm _ (yat htl)
  obtain ⟨x, hx⟩ : ∃ x : Nat, flex[t] = (x : Int) := ⟨flex[t].toNat, by omega⟩
  have hLn : L.length = n := hg.1.trans ho
  have hxL : x < L.length := by omega
  have hbx := hb _ (yat hxL)
  have hg' : Got flex out (give ((i + 1 : Nat) : Int) flex.length) (L.set x (L[x] + 1)) := hg.step hnd htl hxL hx (by rw [zkG hfp htl, if_pos ht]) fun s hs hne => by rw [zkG hfp hs, if_neg (by omega)]; omega
  have hb' : ∀ y ∈ L.set x (L[x] + 1), 0 ≤ y ∧ y ≤ 200 + ((i + 1 : Nat) : Int) := fun y hy => by
   rcases List.mem_or_eq_of_mem_set hy with hy | rfl
   ·have := hb y hy; omega
   ·omega
  obtain ⟨L', e, r⟩ := zkH (a := a) hn ho hr hfl hfp hnd hfm hl hs m (i + 1) (L.set x (L[x] + 1)) (by omega) hg' hb' (by rw [zdu L x _ hxL]; omega)
  refine ⟨L', (zaz ?_).trans e, r⟩
  simp only [casementref09_Share_l7, letB]
  rw [zed (by omega) fun x hx => by have := hb x hx; omega]
  simp only [Option.bind_some]
  rw [yav (by omega), yau (by omega), Int.tmod_eq_emod_of_nonneg (by omega), ← ht, zaK htl, hx]
  rw [show req (decide ((flex.length : Int) ≠ 0)) = some () by rw [yav (by omega)]; rfl]
  simp only [cond_true, cond_false, Option.bind_some]
  rw [ze2 (by omega) hxL (fun y hy => by have := hb y hy; omega) (by omega), zaj (n := (i : Int) + 1) (by omega) (by omega)]
  rfl
theorem zkI {total : Int} {a : List Int} {n : Nat} (hn : n ≤ 16) (h0 : 1 ≤ n) {left : Nat} (hl : left ≤ 200) : ∀ (m i : Nat) (L : List Int) (hL : L.length = n), i + m = left → (∀ x ∈ L, 0 ≤ x ∧ x ≤ 200 + i) → sumI L + m = total →
  iter (fun s => casementref09_Share_l7 total (a, []) s.1 s.2 : (List Int × Int) → Option ((List Int × Int) ⊕ List Int)) (L, (i : Int)) = some (L.set (n - 1) (L[n - 1]'(by omega) + m))
 | 0, i, L, hL, hi, hb, hsum => by
  rw [show (L[n - 1]'(by omega)) + ((0 : Nat) : Int) = L[n - 1]'(by omega) by omega, List.set_getElem_self]
  refine zau ?_
  simp only [casementref09_Share_l7, letB]
  rw [zed (by omega) fun x hx => by have := hb x hx; omega]
  simp only [Option.bind_some]
  rw [yau (by omega)]; rfl
 | m + 1, i, L, hL, hi, hb, hsum => by
  have hx : n - 1 < L.length := by omega
  have hbx := hb _ (yat hx)
  refine (zaz (s' := (L.set (n - 1) (L[n - 1] + 1), ((i + 1 : Nat) : Int))) ?_).trans ?_
  ·simp only [casementref09_Share_l7, letB]
   rw [zed (by omega) fun x hx => by have := hb x hx; omega]
   simp only [Option.bind_some]
   rw [yav (by omega)]
   rw [show decide ((([] : List Int).length : Int) = 0) = true from rfl, zaj (n := (L.length : Int) - 1) (by omega) (by omega), show (L.length : Int) - 1 = ((n - 1 : Nat) : Int) by omega]
   simp only [cond_true, Option.bind_some]
   rw [ze2 (by omega) hx (fun y hy => by have := hb y hy; omega) (by omega), zaj (n := (i : Int) + 1) (by omega) (by omega)]
   rfl
  ·rw [zkI hn h0 hl m (i + 1) (L.set (n - 1) (L[n - 1] + 1)) (by simpa using hL) (by omega) (fun y hy => by
    rcases List.mem_or_eq_of_mem_set hy with hy | rfl
    ·have := hb y hy; omega
    ·omega) (by rw [zdu L (n - 1) _ hx]; omega)]
   rw [List.getElem_set_self, List.set_set]
   congr 2; omega
theorem ziO {j24 : List Int × List Int × Int} {j30 : List Int × Int} {n : Nat} (hn : n ≤ 16) (hnd : j24.2.1.Nodup) (hfl : j24.2.1.length ≤ 16) (hfm : ∀ x ∈ j24.2.1, 0 ≤ x ∧ x < n) (hpos : 0 < j24.2.1.length) (hl0 : 0 ≤ j30.2) (hl1 : j30.2 ≤ 200) {o : List Int} (hob : ∀ x ∈ o, 0 ≤ x ∧ x ≤ 200) (hon : o.length = n) :
  ∀ (m t : Nat) (out : List Int), t + m = j24.2.1.length → Got j24.2.1 o (fun s => if s < t then give j30.2 j24.2.1.length s else 0) out →
  ∃ out', iter (fun s => solve_Share_l3 j24 j30 s.1 s.2 : (List Int × Int) → Option ((List Int × Int) ⊕ List Int)) (out, (t : Int)) = some out' ∧ Got j24.2.1 o (give j30.2 j24.2.1.length) out'
 | 0, t, out, hm, hg => by
  refine ⟨out, zau ?_, hg.1, fun s hs j hj hj' e => ?_, hg.2.2⟩
  ·simp only [solve_Share_l3, letB]
   rw [yau (by omega)]; rfl
  ·rw [hg.2.1 s hs j hj hj' e]
   simp only
   rw [if_pos (by omega)]
 | m + 1, t, out, hm, hg => by
  have hlt : t < j24.2.1.length := by omega
  have hx := hfm _ (yat hlt)
  obtain ⟨x, hxe⟩ : ∃ x : Nat, j24.2.1[t] = (x : Int) := ⟨j24.2.1[t].toNat, by omega⟩
  have hxn : x < out.length := by rw [hg.1]; omega
  have hidx : idx j24.2.1 (t : Int) = some (x : Int) := by rw [zaK hlt, hxe]
  have hidx2 : idx out (x : Int) = some out[x] := zaK hxn
  have hox : out[x] = o[x]'(by omega) := by
   have := hg.2.1 t hlt x hxn (by omega) hxe
   simp only at this
   rw [if_neg (Nat.lt_irrefl t)] at this; omega
  have hobx := hob _ (yat (show x < o.length by omega))
  have hreq : req (decide ((j24.2.1.length : Int) ≠ 0)) = some () := by rw [yav (by omega)]; rfl
  have hk : (0 : Int) < (j24.2.1.length : Int) := by omega
  have hq : 0 ≤ j30.2 / (j24.2.1.length : Int) ∧ j30.2 / (j24.2.1.length : Int) ≤ 200 := ⟨Int.ediv_nonneg hl0 (by omega), Int.le_trans (Int.ediv_le_self _ hl0) hl1⟩
  have key : solve_Share_l3 j24 j30 out (t : Int) = some (.inl (out.set x (out[x] + give j30.2 j24.2.1.length t), ((t + 1 : Nat) : Int))) := by
   simp only [solve_Share_l3, letB]
   rw [yav (show (t : Int) < (j24.2.1.length : Int) by omega), zaj (n := (t : Int) + 1) (by omega) (by omega)]
   simp only [cond_true, hidx, Option.bind_some, hidx2, hreq, Int.tdiv_eq_ediv_of_nonneg hl0, Int.tmod_eq_emod_of_nonneg hl0]
   rw [zaj (n := j30.2 / (j24.2.1.length : Int)) (by omega) (by omega), zaj (n := out[x] + j30.2 / (j24.2.1.length : Int)) (by omega) (by omega)]
   have hset : idx (upI out (x : Int) (out[x] + j30.2 / (j24.2.1.length : Int))) (x : Int) = some (out[x] + j30.2 / (j24.2.1.length : Int)) := by
    unfold upI
    rw [Int.toNat_natCast, zaK (by simp; omega), List.getElem_set_self]
   unfold give
   by_cases hb : (t : Int) < j30.2 % (j24.2.1.length : Int)
   ·rw [yav hb, if_pos hb]
    simp only [cond_true, hset, Option.bind_some]
    rw [zaj (n := out[x] + j30.2 / (j24.2.1.length : Int) + 1) (by omega) (by omega)]
    unfold upI
    rw [Int.toNat_natCast, List.set_set, Int.add_assoc]
    rfl
   ·rw [yau hb, if_neg hb]
    simp only [cond_false, Option.bind_some]
    unfold upI
    rw [Int.toNat_natCast, Int.add_zero]
    rfl
  have hg' : Got j24.2.1 o (fun s => if s < t + 1 then give j30.2 j24.2.1.length s else 0) (out.set x (out[x] + give j30.2 j24.2.1.length t)) := hg.step hnd hlt hxn hxe (by rw [if_pos (by omega), if_neg (by omega)]; omega) fun s hs hne => by
   by_cases h : s < t
   ·rw [if_pos h, if_pos (by omega)]
   ·rw [if_neg h, if_neg (by omega)]
  obtain ⟨out', e, r⟩ := ziO hn hnd hfl hfm hpos hl0 hl1 hob hon m (t + 1) _ (by omega) hg'
  exact ⟨out', (zaz key).trans e, r⟩
end Go.Proofs.YtakdnfneikbjjaaGreatDoor.Am.Lay10

set_option linter.all false
namespace Go.Proofs.YtakdnfneikbjjaaGreatDoor.Am.Lay10
open Go.Proofs.YtakdnfneikbjjaaGreatDoor.Am.T
theorem zmq {sizes : List Size} (hl : sizes.length ≤ 16) (hs : ∀ s ∈ sizes, sizeOK s) : ∀ (ss : List Size) (i : Nat), sizes.drop i = ss → i + ss.length = sizes.length →
  iter (fun s => casementref09_Share_l1 sizes s : Int → Option (Int ⊕ (Unit ⊕ Unit))) (i : Int) = some (.inr ())
 | [], i, hd, hi => by
  refine zau ?_
  simp only [casementref09_Share_l1, letB]
  rw [yau (by simp only [List.length_nil] at hi; omega)]; rfl
 | s :: ss, i, hd, hi => by
  obtain ⟨hlt, hget, hdrop⟩ := zci hd
  simp only [List.length_cons] at hi
  have hso : sizeOK s := hs s (hget ▸ yat hlt)
  refine (zaz (s' := ((i + 1 : Nat) : Int)) ?_).trans (zmq hl hs ss (i + 1) hdrop (by omega))
  simp only [casementref09_Share_l1, letB]
  rw [yav (show (i : Int) < (sizes.length : Int) by omega), zaK hlt, hget, zaj (n := (i : Int) + 1) (by omega) (by omega)]
  simp only [cond_true, Option.bind_some, zmp, yav hso]
  rfl
theorem zmr {total : Int} {sizes : List Size} (h0 : 0 ≤ total) (h1 : total ≤ 200) (hl : sizes.length ≤ 16) (hs : ∀ s ∈ sizes, sizeOK s) :
  ∀ (ss : List Size) (i : Nat) (out flex : List Int), sizes.drop i = ss → out.length = i → i + ss.length = sizes.length → flex.length ≤ i →
  iter (fun s => casementref09_Share_l2 total sizes s.1 s.2.1 s.2.2 : (List Int × List Int × Int) → Option ((List Int × List Int × Int) ⊕ (List Int × List Int))) (out, flex, (i : Int)) = some (out ++ ss.map (wT total), flex ++ flx ss i)
 | [], i, out, flex, hd, ho, hi, hf => by
  refine zau ?_
  simp only [casementref09_Share_l2, letB]
  rw [yau (by simp only [List.length_nil] at hi; omega)]
  simp [flx]
 | s :: ss, i, out, flex, hd, ho, hi, hf => by
  obtain ⟨hlt, hget, hdrop⟩ := zci hd
  simp only [List.length_cons] at hi
  have hso : sizeOK s := hs s (hget ▸ yat hlt)
  have hidx : idx sizes (i : Int) = some s := by rw [zaK hlt, hget]
  have key : casementref09_Share_l2 total sizes out flex (i : Int) = some (.inl (out ++ [wT total s], (if s.Kind = 0 then flex ++ [(i : Int)] else flex), ((i + 1 : Nat) : Int))) := by
   simp only [casementref09_Share_l2, letB]
   rw [yav (show (i : Int) < (sizes.length : Int) by omega), zaj (n := (i : Int) + 1) (by omega) (by omega)]
   simp only [cond_true, hidx, Option.bind_some, zcs (show out.length < 1000000 by omega), zcs (show flex.length < 1000000 by omega)]
   unfold wT
   unfold sizeOK at hso
   by_cases k2 : s.Kind = 2
   ·have hn : 1 ≤ s.N ∧ s.N ≤ 100 := by omega
    have e1 : total * s.N ≤ total * 100 := Int.mul_le_mul_of_nonneg_left hn.2 h0
    have e2 : 0 ≤ total * s.N := Int.mul_nonneg h0 (by omega)
    rw [zaj (n := total * s.N) (by omega) (by omega), Int.tdiv_eq_ediv_of_nonneg e2, zaj (n := total * s.N / 100) (by omega) (by omega)]
    rw [yau (show ¬ s.Kind = 1 by omega), yav k2, yau (show ¬ s.Kind = 0 by omega), if_neg (show ¬ s.Kind = 1 by omega), if_pos k2, if_neg (show ¬ s.Kind = 0 by omega)]
    by_cases hb : total * s.N ≥ 100
    ·rw [yav hb]
     simp only [cond_true, cond_false, Option.bind_some]
     rw [show max (total * s.N / 100) 1 = total * s.N / 100 by omega]; rfl
    ·rw [yau hb]
     simp only [cond_true, cond_false, Option.bind_some]
     rw [show max (total * s.N / 100) 1 = 1 by omega]; rfl
   ·rw [yau k2, if_neg k2]
    by_cases k1 : s.Kind = 1
    ·rw [yav k1, if_pos k1, yau (show ¬ s.Kind = 0 by omega), if_neg (show ¬ s.Kind = 0 by omega)]; rfl
    ·rw [yau k1, if_neg k1]
     by_cases k0 : s.Kind = 0
     ·rw [yav k0, if_pos k0]; rfl
     ·rw [yau k0, if_neg k0]; rfl
  refine (zaz key).trans ?_
  rw [zmr h0 h1 hl hs ss (i + 1) _ _ hdrop (by simp; omega) (by omega) (by split <;> (try simp) <;> omega)]
  simp only [List.map_cons, flx]
  congr 1
  refine Prod.ext ?_ ?_
  ·simp
  ·simp only; split <;> simp
theorem zoC {total : Int} {sizes : List Size} (hn0 : 1 ≤ sizes.length) (hl : sizes.length ≤ 16) (hs : ∀ s ∈ sizes, sizeOK s) (h1 : total ≤ 200) : zaU total sizes = zba total sizes := by
 have g1 := zmq hl hs sizes 0 rfl (by omega)
 by_cases hlt : total < sizes.length
 ·rw [zea hn0 hl hs h1 hlt]
  unfold zaU
  simp only [letB]
  rw [yau (show ¬ (sizes.length : Int) = 0 by omega), yau (show ¬ total > 200 by omega)]
  simp only [show ((0 : Nat) : Int) = 0 from rfl] at g1
  simp only [cond_false, Option.bind_some, g1]
  rw [yau (show ¬ (sizes.length : Int) > 16 by omega), yav hlt]
  rfl
 ·have hge : (sizes.length : Int) ≤ total := by omega
  have hw : ∀ x ∈ sizes.map (wT total), 1 ≤ x ∧ x ≤ 200 := fun x hx => by
   obtain ⟨s, hm, rfl⟩ := List.mem_map.1 hx
   exact zjh (by omega) h1 (hs s hm)
  have e1 := zhY (by omega) h1 hl hs sizes 0 [] [] total rfl rfl (by omega) (Nat.le_refl _) (by omega) h1
  have g2 := zmr (by omega) h1 hl hs sizes 0 [] [] rfl rfl (by omega) (Nat.le_refl _)
  simp only [List.nil_append] at e1 g2
  obtain ⟨out, left, e2, g3, hl0, ho, hr, hsum⟩ := zm5 hl rfl hge h1 sizes.length (sizes.map (wT total)) (total - sumI (sizes.map (wT total))) (by simp) (Nat.le_refl _) hw (fun j hj hj' hk => by
   rw [List.getElem_map]
   unfold wT
   rw [if_neg (by omega), if_neg (by omega)]) (by omega) (by have := zgw _ fun x hx => (hw x hx).1; omega) (fun _ j hj h => by simp at h; omega)
  have hr1 : ∀ x ∈ out, 1 ≤ x := fun x hx => (hr x hx).1
  have hoge := zgw out hr1
  obtain ⟨q, hq⟩ : ∃ q : Nat, (q : Int) = left := ⟨left.toNat, by omega⟩
  subst hq
  have pre : zba total sizes = (letB (decide (((flx sizes 0).length : Int) = 0)) fun c31 =>
    bif c31 then (
     (idx out (w64 ((out.length : Int) - 1))).bind fun x33 =>
     (idx out (w64 ((out.length : Int) - 1))).bind fun x34 =>
     some (upI out (w64 ((out.length : Int) - 1)) (w64 (x33 + (q : Int))), 0))
    else (
     (iter (fun s => solve_Share_l3 (sizes.map (wT total), flx sizes 0, total - sumI (sizes.map (wT total))) (out, (q : Int)) s.1 s.2 : (List Int × Int) → Option ((List Int × Int) ⊕ List Int)) (out, 0)).bind fun j48 =>
     some (j48, 0))) := by
   unfold zba
   simp only [letB, zfE hl hs, Option.bind_some]
   rw [yau (by omega), yau (by omega), yau (by omega), yau (by omega)]
   simp only [cond_false, Option.bind_some]
   rw [show (0 : Int) = ((0 : Nat) : Int) from rfl, e1]
   simp only [Option.bind_some]
   rw [show w64 (((sizes.map (wT total)).length : Int) - 1) = (sizes.length : Int) - 1 by rw [yal, zaj (by omega) (by omega)], e2]
   rfl
  have ref : zaU total sizes = (iter (fun s => casementref09_Share_l7 total (sizes.map (wT total), flx sizes 0) s.1 s.2 : (List Int × Int) → Option ((List Int × Int) ⊕ List Int)) (out, 0)).bind fun j70 => some (j70, 0) := by
   unfold zaU
   simp only [letB]
   rw [yau (show ¬ (sizes.length : Int) = 0 by omega), yau (show ¬ total > 200 by omega)]
   simp only [show ((0 : Nat) : Int) = 0 from rfl] at g1 g2
   simp only [cond_false, Option.bind_some, g1]
   rw [yau (show ¬ (sizes.length : Int) > 16 by omega), yau hlt]
   simp only [cond_false, Option.bind_some, g2, g3]
  rw [pre, ref]
  simp only [letB]
  by_cases hf : (flx sizes 0).length = 0
  ·have hfe : flx sizes 0 = [] := List.length_eq_zero_iff.1 hf
   have h7 := zkI (a := sizes.map (wT total)) hl hn0 (left := q) (by omega) q 0 out ho (by omega) (fun x hx => by have := hr x hx; omega) hsum
   rw [hfe]
   simp only [show ((0 : Nat) : Int) = 0 from rfl] at h7
   rw [h7]
   have hlast : out.length - 1 < out.length := by omega
   have hb := hr _ (yat hlast)
   rw [show decide ((([] : List Int).length : Int) = 0) = true from rfl, zaj (n := (out.length : Int) - 1) (by omega) (by omega), show (out.length : Int) - 1 = ((out.length - 1 : Nat) : Int) by omega, zaK (by omega)]
   simp only [cond_true, Option.bind_some]
   rw [zaj (by omega) (by omega)]
   unfold upI
   rw [Int.toNat_natCast]
   simp only [← ho]
  ·rw [yau (by omega)]
   simp only [cond_false]
   have hfl := zlC sizes 0
   have hfp : 0 < (flx sizes 0).length := by omega
   have hnd := zkF sizes 0
   have hfm : ∀ x ∈ flx sizes 0, 0 ≤ x ∧ x < ((sizes.length : Nat) : Int) := fun x hx => by have := zhX sizes 0 x hx; omega
   have hz : Got (flx sizes 0) out (fun s => if s < 0 then give (q : Int) (flx sizes 0).length s else 0) out := ⟨rfl, fun s hs j hj hj' e => by simp, fun j hj hj' _ => rfl⟩
   have hz2 : Got (flx sizes 0) out (give ((0 : Nat) : Int) (flx sizes 0).length) out := ⟨rfl, fun s hs j hj hj' e => by
    have e1 : ((0 : Nat) : Int) / ((flx sizes 0).length : Int) = 0 := Int.zero_ediv _
    have e2 : ((0 : Nat) : Int) % ((flx sizes 0).length : Int) = 0 := Int.zero_emod _
    unfold give
    rw [e1, e2, if_neg (by omega)]; omega, fun j hj hj' _ => rfl⟩
   obtain ⟨L1, q1, q2⟩ := ziO (j24 := (sizes.map (wT total), flx sizes 0, total - sumI (sizes.map (wT total)))) (j30 := (out, (q : Int))) (n := sizes.length) hl hnd (by show (flx sizes 0).length ≤ 16; omega) hfm hfp (by show (0 : Int) ≤ (q : Int); omega) (by show (q : Int) ≤ 200; omega) (o := out) (fun x hx => by have := hr x hx; omega) ho (flx sizes 0).length 0 out (by show 0 + (flx sizes 0).length = (flx sizes 0).length; omega) hz
   obtain ⟨L2, p1, p2⟩ := zkH (total := total) (a := sizes.map (wT total)) hl ho hr (show (flx sizes 0).length ≤ 16 by omega) hfp hnd hfm (left := q) (by omega) hsum q 0 out (by omega) hz2 (fun x hx => by have := hr x hx; omega) (by omega)
   simp only [show ((0 : Nat) : Int) = 0 from rfl] at q1 p1
   rw [q1, p1]
   simp only [Option.bind_some]
   rw [Got.uniq p2 q2 fun _ _ => rfl]
theorem zh4 {across : Bool} {ns : List Int} (hl : ns.length ≤ 16) : ∀ (ms : List Int) (i : Nat) (out : List Rect) (r : Rect), ns.drop i = ms → out.length = i → i + ms.length = ns.length → Rok r →
  ∃ r', iter (fun s => casementref02_Cut_l1 ns across s.1 s.2.1 s.2.2 : (List Rect × Int × Rect) → Option ((List Rect × Int × Rect) ⊕ (List Rect × Rect))) (out, (i : Int), r) = some (out ++ cutT across r ms, r')
 | [], i, out, r, hd, ho, hi, hr => by
  refine ⟨r, zau ?_⟩
  simp only [casementref02_Cut_l1, letB]
  rw [yau (by simp only [List.length_nil] at hi; omega)]
  simp [cutT]
 | n :: ms, i, out, r, hd, ho, hi, hr => by
  obtain ⟨hlt, hget, hdrop⟩ := zci hd
  simp only [List.length_cons] at hi
  obtain ⟨r', hr'⟩ := zh4 hl ms (i + 1) (out ++ [cleanT (cutA across r n)]) (cutB across r n) hdrop (by simp; omega) (by omega) (zme hr)
  refine ⟨r', (zaz ?_).trans (hr'.trans (by simp [cutT]))⟩
  obtain ⟨a1, a2, a3, a4, a5, a6, a7, a8⟩ := hr
  have hhigh : zbS n 0 = some (max n 0) := by
   unfold zbS
   simp only [letB]
   by_cases h : n > 0
   ·rw [yav h, show max n 0 = n by omega]; rfl
   ·rw [yau h, show max n 0 = 0 by omega]; rfl
  have hlow : ∀ a b : Int, zaH a b = some (min a b) := fun a b => by
   unfold zaH
   simp only [letB]
   by_cases h : a < b
   ·rw [yav h, show min a b = a by omega]; rfl
   ·rw [yau h, show min a b = b by omega]; rfl
  simp only [casementref02_Cut_l1, letB]
  rw [yav (show (i : Int) < (ns.length : Int) by omega), yav (show (i : Int) < 16 by omega), zaK hlt, hget, zaj (n := (i : Int) + 1) (by omega) (by omega)]
  simp only [cond_true, Option.bind_some, hhigh, hlow, zf3]
  cases across with
  | true =>
   have e : min (max n 0) r.H = cl n 0 r.H := by unfold cl; omega
   simp only [cond_true, Option.bind_some, zcs (show out.length < 1000000 by omega), e]
   have := zbl (n := n) a6
   rw [zaj (by omega) (by omega), zaj (by omega) (by omega)]
   rfl
  | false =>
   have e : min (max n 0) r.W = cl n 0 r.W := by unfold cl; omega
   simp only [cond_false, Option.bind_some, zcs (show out.length < 1000000 by omega), e]
   have := zbl (n := n) a2
   rw [zaj (by omega) (by omega), zaj (by omega) (by omega)]
   rfl
theorem zoD {across : Bool} {r : Rect} {ns : List Int} (hl : ns.length ≤ 16) (hr : Nice r) : zb6 r ns across = some (cutT across r ns) := by
 obtain ⟨r', h⟩ := zh4 (across := across) hl ns 0 [] r rfl rfl (by omega) hr.1
 unfold zb6
 simp only [show ((0 : Nat) : Int) = 0 from rfl] at h
 rw [h]
 simp
theorem ze3 {sp : List Spot} {r : Rect} {z : Int} {t : Bool} (h : sp.length < 1000000) : zaN sp r z t = some (sp ++ [⟨sp.length, r, z, t⟩]) := by
 have loop : ∀ (m i : Nat), i + m = sp.length → iter (fun s => casementref10_add_l1 sp s.1 s.2 : (List Spot × Int) → Option ((List Spot × Int) ⊕ List Spot)) (sp.take i, (i : Int)) = some sp := by
  intro m
  induction m with
  | zero =>
   intro i hi
   refine zau ?_
   simp only [casementref10_add_l1, letB]
   rw [yau (by omega), List.take_of_length_le (by omega)]; rfl
  | succ m ih =>
   intro i hi
   have hlt : i < sp.length := by omega
   refine (zaz (s' := (sp.take (i + 1), ((i + 1 : Nat) : Int))) ?_).trans (ih (i + 1) (by omega))
   simp only [casementref10_add_l1, letB]
   rw [yav (show (i : Int) < (sp.length : Int) by omega), zaK hlt, zaj (n := (i : Int) + 1) (by omega) (by omega), List.take_succ_eq_append_getElem hlt]
   simp only [cond_true, Option.bind_some]
   rw [zcs (by simp; omega)]
   rfl
 unfold zaN
 have := loop sp.length 0 (by omega)
 rw [List.take_zero] at this
 simp only [show ((0 : Nat) : Int) = 0 from rfl] at this
 rw [this]
 simp only [Option.bind_some]
 rw [zcs h]
 rfl
theorem zoE {k : Nat} {r : Rect} (hr : Nice r) : stkT (k + 1) r = if r.H > 1 then ({ r with H := 1 }, true) :: stkT k { r with Y := r.Y + 1, H := r.H - 1 } else (⟨0, 0, 0, 0⟩, true) :: stkT k r := by
 obtain ⟨a1, a2, a3, a4, a5, a6, a7, a8⟩ := hr.1
 show (cleanT { r with H := min 1 (max (r.H - 1) 0) }, true) :: stkT k { r with Y := r.Y + min 1 (max (r.H - 1) 0), H := r.H - min 1 (max (r.H - 1) 0) } = _
 by_cases h : r.H > 1
 ·rw [if_pos h, show min 1 (max (r.H - 1) 0) = 1 by omega]
  have hw : r.W ≠ 0 := fun hw => by have := zqz hr hw; rw [this] at h; simp at h
  rw [zhZ (r := { r with H := 1 }) ⟨a1, a2, a3, a4, a5, by simp only; omega, by simp only; omega, by simp only; omega⟩, if_neg (by simp only; omega)]
 ·rw [if_neg h, show min 1 (max (r.H - 1) 0) = 0 by omega]
  rw [zgy (by simp only; omega)]
  simp only [Int.add_zero, Int.sub_zero]
theorem zoF {r : Rect} (hr : Nice r) (h : r.H > 1) : Nice { r with Y := r.Y + 1, H := r.H - 1 } := by
 obtain ⟨a1, a2, a3, a4, a5, a6, a7, a8⟩ := hr.1
 have hw : r.W ≠ 0 := fun hw => by have := zqz hr hw; rw [this] at h; simp at h
 exact ⟨⟨a1, a2, a3, a4, by simp only; omega, by simp only; omega, by simp only; omega, by simp only; omega⟩, fun hz => by simp only at hz; omega⟩
theorem zfG {p : Plan} (hl : p.Kids.length ≤ 16) (h1 : 1 ≤ p.Kids.length) : ∀ (m i : Nat) (r : Rect) (sp : List Spot), i + m = p.Kids.length - 1 → Nice r → sp.length + (m + 1) < 1000000 →
  ∃ r' sp', iter (fun s => casementref10_layF_l1 p s.1 s.2.1 s.2.2 : (List Spot × Int × Rect) → Option ((List Spot × Int × Rect) ⊕ (List Spot × Rect))) (sp, (i : Int), r) = some (sp', r') ∧ sp' ++ [⟨sp'.length, r', 0, false⟩] = (stkT m r).foldl addC sp ∧ sp'.length < 1000000
 | 0, i, r, sp, hi, hr, hs => by
  refine ⟨r, sp, zau ?_, ?_, by omega⟩
  ·simp only [casementref10_layF_l1, letB]
   rw [zaj (by omega) (by omega), yau (by omega)]; rfl
  ·show _ = addC sp (cleanT r, false)
   rw [zfh hr]; rfl
 | m + 1, i, r, sp, hi, hr, hs => by
  obtain ⟨a1, a2, a3, a4, a5, a6, a7, a8⟩ := hr.1
  rw [zoE hr]
  by_cases h : r.H > 1
  ·obtain ⟨r', sp', e, e2, e3⟩ := zfG hl h1 m (i + 1) { r with Y := r.Y + 1, H := r.H - 1 } (addC sp ({ r with H := 1 }, true)) (by omega) (zoF hr h) (by simp [addC]; omega)
   refine ⟨r', sp', (zaz ?_).trans e, by rw [if_pos h]; exact e2, e3⟩
   simp only [casementref10_layF_l1, letB]
   rw [zaj (n := (p.Kids.length : Int) - 1) (by omega) (by omega), yav (by omega), yav h, zaj (n := (i : Int) + 1) (by omega) (by omega), zaj (n := r.Y + 1) (by omega) (by omega), zaj (n := r.H - 1) (by omega) (by omega)]
   simp only [cond_true, ze3 (show sp.length < 1000000 by omega), Option.bind_some]
   rfl
  ·obtain ⟨r', sp', e, e2, e3⟩ := zfG hl h1 m (i + 1) r (addC sp (⟨0, 0, 0, 0⟩, true)) (by omega) hr (by simp [addC]; omega)
   refine ⟨r', sp', (zaz ?_).trans e, by rw [if_neg h]; exact e2, e3⟩
   simp only [casementref10_layF_l1, letB]
   rw [zaj (n := (p.Kids.length : Int) - 1) (by omega) (by omega), yav (by omega), yau h, zaj (n := (i : Int) + 1) (by omega) (by omega)]
   simp only [cond_true, cond_false, ze3 (show sp.length < 1000000 by omega), Option.bind_some]
   rfl
theorem zf8 {p : Plan} (hl : p.Kids.length ≤ 16) : ∀ (ks : List Plan) (i : Nat) (out : List Size), p.Kids.drop i = ks → out.length = i → i + ks.length = p.Kids.length →
  iter (fun s => casementref10_layF_l2 p s.1 s.2.1 s.2.2 : (List Size × List Int × Int) → Option ((List Size × List Int × Int) ⊕ (List Size × List Int))) (out, List.replicate i 1, (i : Int)) = some (out ++ ks.map Plan.Size, List.replicate (i + ks.length) 1)
 | [], i, out, hd, ho, hi => by
  refine zau ?_
  simp only [casementref10_layF_l2, letB]
  rw [yau (by simp only [List.length_nil] at hi; omega)]
  simp
 | k :: ks, i, out, hd, ho, hi => by
  obtain ⟨hlt, hget, hdrop⟩ := zci hd
  simp only [List.length_cons] at hi
  refine (zaz (s' := (out ++ [k.Size], List.replicate (i + 1) 1, ((i + 1 : Nat) : Int))) ?_).trans ?_
  ·simp only [casementref10_layF_l2, letB]
   rw [yav (show (i : Int) < (p.Kids.length : Int) by omega), zaK hlt, hget, zaj (n := (i : Int) + 1) (by omega) (by omega)]
   simp only [cond_true, Option.bind_some, zcs (show out.length < 1000000 by omega), zcs (show (List.replicate i (1 : Int)).length < 1000000 by simp; omega)]
   rw [← List.replicate_succ']
   rfl
  ·rw [zf8 hl ks (i + 1) (out ++ [k.Size]) hdrop (by simp; omega) (by omega)]
   simp [Nat.add_assoc, Nat.add_comm 1]
theorem zh5 {p : Plan} {d : Nat} {rec : List Spot → Plan → Rect → Option (List Spot)} {ys : List Rect} (hy : ys.length = p.Kids.length) (hl : p.Kids.length ≤ 16)
  (hrec : ∀ k ∈ p.Kids, ∀ x ∈ ys, ∀ sp : List Spot, sp.length + (layT d k x).length < 1000000 → rec sp k x = some ((layT d k x).foldl addC sp)) :
  ∀ (zs : List (Plan × Rect)) (i : Nat) (sp : List Spot), (p.Kids.zip ys).drop i = zs → i + zs.length = p.Kids.length → sp.length + (zs.flatMap fun x => layT d x.1 x.2).length < 1000000 →
  iter (fun s => casementref10_layF_l3 p rec ys s.1 s.2 : (List Spot × Int) → Option ((List Spot × Int) ⊕ List Spot)) (sp, (i : Int)) = some ((zs.flatMap fun x => layT d x.1 x.2).foldl addC sp)
 | [], i, sp, hd, hi, hs => by
  refine zau ?_
  simp only [casementref10_layF_l3, letB]
  rw [yau (by simp only [List.length_nil] at hi; omega)]; rfl
 | z :: zs, i, sp, hd, hi, hs => by
  obtain ⟨hlt, hget, hdrop⟩ := zci hd
  simp only [List.length_cons] at hi
  rw [List.length_zip] at hlt
  have h1 : i < p.Kids.length := by omega
  have h2 : i < ys.length := by omega
  rw [List.getElem_zip] at hget
  subst hget
  simp only [yag, yar] at hs
  refine (zaz (s' := ((layT d p.Kids[i] ys[i]).foldl addC sp, ((i + 1 : Nat) : Int))) ?_).trans ?_
  ·simp only [casementref10_layF_l3, letB]
   rw [yav (show (i : Int) < (p.Kids.length : Int) by omega), zaK h1, zaK h2, zaj (n := (i : Int) + 1) (by omega) (by omega)]
   simp only [cond_true, Option.bind_some]
   rw [hrec _ (yat h1) _ (yat h2) sp (by omega)]
   rfl
  ·rw [zh5 hy hl hrec zs (i + 1) _ hdrop (by omega) (by rw [zmg]; omega)]
   simp only [yag, List.foldl_append]
theorem zkJ : ∀ (d m : Nat) (p : Plan) (r : Rect) (sp : List Spot), Rt d p → Nice r → d ≤ m → sp.length + (layT d p r).length < 1000000 → za2 m sp p r = some ((layT d p r).foldl addC sp)
 | 0, m, p, r, sp, h, hr, hm, hs => h.elim
 | d + 1, 0, p, r, sp, h, hr, hm, hs => by omega
 | d + 1, m + 1, p, r, sp, h, hr, hm, hs => by
  show zbT (za2 m) sp p r = _
  unfold layT at hs ⊢
  unfold zbT
  simp only [letB]
  obtain ⟨hso, h | ⟨hk, hko, hn0, hl, hks⟩⟩ := h
  ·rw [if_pos h] at hs ⊢
   rw [yav h]
   simp only [List.length_singleton] at hs
   simp only [cond_true, ze3 (show sp.length < 1000000 by omega), Option.bind_some]
   rfl
  ·rw [if_neg hk] at hs ⊢
   rw [yau hk]
   simp only [cond_false]
   by_cases h4 : p.Kind = 4
   ·rw [if_pos h4] at hs ⊢
    rw [zg5] at hs
    rw [yav h4]
    obtain ⟨r', sp', e, e2, e3⟩ := zfG hl hn0 (p.Kids.length - 1) 0 r sp (by omega) hr hs
    simp only [show ((0 : Nat) : Int) = 0 from rfl] at e
    simp only [cond_true, e, Option.bind_some, ze3 e3, e2]
   ·rw [if_neg h4] at hs ⊢
    rw [yau h4]
    have hsz := zf8 hl p.Kids 0 [] rfl rfl (by omega)
    have hso2 : ∀ s ∈ p.Kids.map Plan.Size, sizeOK s := fun s hs => by
     obtain ⟨k, hk, rfl⟩ := List.mem_map.1 hs
     exact (hks k hk).1.sizeOK
    have hpl := zgx hr hn0 hl fun k hm => (hks k hm).1
    have hb : (bif decide (p.Kind = 3) then some r.H else some r.W : Option Int) = some (totT p r) := by
     unfold totT
     by_cases h3 : p.Kind = 3 <;> simp [h3]
    simp only [show ((0 : Nat) : Int) = 0 from rfl, List.nil_append, Nat.zero_add, List.replicate_zero] at hsz
    simp only [cond_false, hsz, Option.bind_some, hb]
    rw [zoC (by simpa using hn0) (by simpa using hl) hso2 (zgR hr)]
    have hlen : ∃ l e, zba (totT p r) (p.Kids.map Plan.Size) = some (l, e) ∧ (bif decide (e ≠ 0) then some (List.replicate p.Kids.length 1) else some l : Option (List Int)) = some (lenT (totT p r) (p.Kids.map Plan.Size)) := by
     by_cases hlt : totT p r < (p.Kids.map Plan.Size).length
     ·refine ⟨[], 90, zea (by simpa using hn0) (by simpa using hl) hso2 (zgR hr) hlt, ?_⟩
      unfold lenT
      rw [zea (by simpa using hn0) (by simpa using hl) hso2 (zgR hr) hlt]
      simp
     ·obtain ⟨l, e, _, _, _⟩ := zjj (total := totT p r) (by simpa using hn0) (by simpa using hl) hso2 (zgR hr) (by omega)
      refine ⟨l, 0, e, ?_⟩
      unfold lenT
      rw [e]; rfl
    obtain ⟨l, e, hsh, hbl⟩ := hlen
    simp only [hsh, Option.bind_some, hbl]
    have hll := zmk (total := totT p r) (by simpa using hn0) (by simpa using hl) hso2 (zgR hr)
    rw [yal] at hll
    rw [zoD (by omega) hr]
    simp only [Option.bind_some]
    have hkl := zh5 (d := d) (rec := za2 m) hpl hl (fun k hkm x hx sp hsp => zkJ d m k x sp (hks k hkm).1 (by unfold partsT at hx; exact zh1 _ _ _ x hx) (by omega) hsp) (p.Kids.zip (partsT p r)) 0 sp rfl (by rw [List.length_zip]; omega) hs
    simp only [show ((0 : Nat) : Int) = 0 from rfl] at hkl
    show (iter (fun s => casementref10_layF_l3 p (za2 m) (partsT p r) s.1 s.2 : (List Spot × Int) → Option ((List Spot × Int) ⊕ List Spot)) (sp, 0)).bind _ = _
    rw [hkl]
    rfl
end Go.Proofs.YtakdnfneikbjjaaGreatDoor.Am.Lay10

set_option linter.all false
namespace Go.Proofs.YtakdnfneikbjjaaGreatDoor.Am.Lay10
open Go.Proofs.YtakdnfneikbjjaaGreatDoor.Am.T
theorem zms {a b : Int} (h1 : -1000000 ≤ a ∧ a ≤ 1000000) (h2 : -1000000 ≤ b ∧ b ≤ 1000000) : zbB a b = some (a + b) := by
 unfold zbB
 simp only [letB]
 by_cases hb : b > 0
 ·rw [yav hb, zaj (n := 9223372036854775807 - b) (by omega) (by omega), yau (by omega), yau (show ¬ b < 0 by omega), zaj (n := a + b) (by omega) (by omega)]
  rfl
 ·rw [yau hb]
  by_cases hc : b < 0
  ·rw [yav hc, zaj (n := -9223372036854775808 - b) (by omega) (by omega), yau (show ¬ a < -9223372036854775808 - b by omega), zaj (n := a + b) (by omega) (by omega)]
   rfl
  ·rw [yau hc, zaj (n := a + b) (by omega) (by omega)]
   rfl
theorem zlE {f : Rect} {dx dy : Int} (h1 : -10000 ≤ dx ∧ dx ≤ 10000) (h2 : -10000 ≤ dy ∧ dy ≤ 10000) : zbG (cleanT f) dx dy = some (zf5 f dx dy) := by
 obtain ⟨a1, a2, a3, a4, a5, a6, a7, a8⟩ := (zbz f).1
 unfold zbG
 rw [zms (by omega) (by omega), zms (by omega) (by omega)]
 simp only [Option.bind_some, zf3]
 rfl
theorem zqB {b : Rect} (hb : Rok b) : ∀ (n : Nat) (r : Rect), r.X + r.W - (b.X + b.W) ≤ n → -100000 ≤ r.X → r.X ≤ 100000 → 0 ≤ r.W → r.W ≤ 200 → iter (fun s => casementref02_Into_l1 b s : Rect → Option (Rect ⊕ Rect)) r = some { r with X := min r.X (b.X + b.W - r.W) }
 | n, r, hn, h1, h2, h3, h4 => by
  obtain ⟨b1, b2, b3, b4, b5, b6, b7, b8⟩ := hb
  by_cases hc : r.X + r.W > b.X + b.W
  ·match n with
   | 0 => omega
   | n + 1 =>
    refine (zaz (s' := { r with X := r.X - 1 }) ?_).trans ((zqB ⟨b1, b2, b3, b4, b5, b6, b7, b8⟩ n { r with X := r.X - 1 } (by simp only; omega) (by simp only; omega) (by simp only; omega) h3 h4).trans ?_)
    ·simp only [casementref02_Into_l1, letB]
     rw [zaj (by omega) (by omega), zaj (by omega) (by omega), zaj (by omega) (by omega), yav hc]; rfl
    ·simp only [yaa, Rect.mk.injEq, and_true]
     omega
  ·rw [show min r.X (b.X + b.W - r.W) = r.X by omega]
   refine zau ?_
   simp only [casementref02_Into_l1, letB]
   rw [zaj (by omega) (by omega), zaj (by omega) (by omega), yau hc]; rfl
theorem zqC {b : Rect} (hb : Rok b) : ∀ (n : Nat) (r : Rect), b.X - r.X ≤ n → -100000 ≤ r.X → r.X ≤ 100000 → iter (fun s => casementref02_Into_l2 b s : Rect → Option (Rect ⊕ Rect)) r = some { r with X := max r.X b.X }
 | n, r, hn, h1, h2 => by
  obtain ⟨b1, b2, b3, b4, b5, b6, b7, b8⟩ := hb
  by_cases hc : r.X < b.X
  ·match n with
   | 0 => omega
   | n + 1 =>
    refine (zaz (s' := { r with X := r.X + 1 }) ?_).trans ((zqC ⟨b1, b2, b3, b4, b5, b6, b7, b8⟩ n { r with X := r.X + 1 } (by simp only; omega) (by simp only; omega) (by simp only; omega)).trans ?_)
    ·simp only [casementref02_Into_l2, letB]
     rw [zaj (by omega) (by omega), yav hc]; rfl
    ·simp only [yaa, Rect.mk.injEq, and_true]
     omega
  ·rw [show max r.X b.X = r.X by omega]
   refine zau ?_
   simp only [casementref02_Into_l2, letB]
   rw [yau hc]; rfl
theorem zqD {b : Rect} (hb : Rok b) : ∀ (n : Nat) (r : Rect), r.Y + r.H - (b.Y + b.H) ≤ n → -100000 ≤ r.Y → r.Y ≤ 100000 → 0 ≤ r.H → r.H ≤ 200 → iter (fun s => casementref02_Into_l3 b s : Rect → Option (Rect ⊕ Rect)) r = some { r with Y := min r.Y (b.Y + b.H - r.H) }
 | n, r, hn, h1, h2, h3, h4 => by
  obtain ⟨b1, b2, b3, b4, b5, b6, b7, b8⟩ := hb
  by_cases hc : r.Y + r.H > b.Y + b.H
  ·match n with
   | 0 => omega
   | n + 1 =>
    refine (zaz (s' := { r with Y := r.Y - 1 }) ?_).trans ((zqD ⟨b1, b2, b3, b4, b5, b6, b7, b8⟩ n { r with Y := r.Y - 1 } (by simp only; omega) (by simp only; omega) (by simp only; omega) h3 h4).trans ?_)
    ·simp only [casementref02_Into_l3, letB]
     rw [zaj (by omega) (by omega), zaj (by omega) (by omega), zaj (by omega) (by omega), yav hc]; rfl
    ·simp only [yaa, Rect.mk.injEq, and_true, true_and]
     omega
  ·rw [show min r.Y (b.Y + b.H - r.H) = r.Y by omega]
   refine zau ?_
   simp only [casementref02_Into_l3, letB]
   rw [zaj (by omega) (by omega), zaj (by omega) (by omega), yau hc]; rfl
theorem zqE {b : Rect} (hb : Rok b) : ∀ (n : Nat) (r : Rect), b.Y - r.Y ≤ n → -100000 ≤ r.Y → r.Y ≤ 100000 → iter (fun s => casementref02_Into_l4 b s : Rect → Option (Rect ⊕ Rect)) r = some { r with Y := max r.Y b.Y }
 | n, r, hn, h1, h2 => by
  obtain ⟨b1, b2, b3, b4, b5, b6, b7, b8⟩ := hb
  by_cases hc : r.Y < b.Y
  ·match n with
   | 0 => omega
   | n + 1 =>
    refine (zaz (s' := { r with Y := r.Y + 1 }) ?_).trans ((zqE ⟨b1, b2, b3, b4, b5, b6, b7, b8⟩ n { r with Y := r.Y + 1 } (by simp only; omega) (by simp only; omega) (by simp only; omega)).trans ?_)
    ·simp only [casementref02_Into_l4, letB]
     rw [zaj (by omega) (by omega), yav hc]; rfl
    ·simp only [yaa, Rect.mk.injEq, and_true, true_and]
     omega
  ·rw [show max r.Y b.Y = r.Y by omega]
   refine zau ?_
   simp only [casementref02_Into_l4, letB]
   rw [yau hc]; rfl
theorem zqF (a b : Int) : zaH a b = some (min a b) := by
 unfold zaH
 simp only [letB]
 by_cases h : a < b
 ·rw [yav h, show min a b = a by omega]; rfl
 ·rw [yau h, show min a b = b by omega]; rfl
theorem zm6 {a b : Rect} (ha : Nice a) (hb : Nice b) : zbU a b = some (zon a b) := by
 obtain ⟨a1, a2, a3, a4, a5, a6, a7, a8⟩ := ha.1
 obtain ⟨b1, b2, b3, b4, b5, b6, b7, b8⟩ := hb.1
 unfold zbU zon
 simp only [letB, or_s]
 by_cases hz : a.W = 0 ∨ b.W = 0
 ·rw [show (decide (a.W = 0) || decide (b.W = 0)) = true by rcases hz with h | h <;> simp [h], zgy (by simp only; omega)]
  rfl
 ·have hpa := ha.hpos fun h => hz (.inl h)
  have hpb := hb.hpos fun h => hz (.inr h)
  rw [show (decide (a.W = 0) || decide (b.W = 0)) = false by simp; omega]
  simp only [Option.bind_some, cond_false, zqF]
  rw [zqB hb.1 100000 _ (by simp only; omega) (by simp only; omega) (by simp only; omega) (by simp only; omega) (by simp only; omega)]
  simp only [Option.bind_some]
  rw [zqC hb.1 100000 _ (by simp only; omega) (by simp only; omega) (by simp only; omega)]
  simp only [Option.bind_some]
  rw [zqD hb.1 100000 _ (by simp only; omega) (by simp only; omega) (by simp only; omega) (by simp only; omega) (by simp only; omega)]
  simp only [Option.bind_some]
  rw [zqE hb.1 100000 _ (by simp only; omega) (by simp only; omega) (by simp only; omega)]
  simp only [Option.bind_some]
  have ex : max (min a.X (b.X + b.W - min a.W b.W)) b.X = cl a.X b.X (b.X + b.W - min a.W b.W) := by unfold cl; omega
  have ey : max (min a.Y (b.Y + b.H - min a.H b.H)) b.Y = cl a.Y b.Y (b.Y + b.H - min a.H b.H) := by unfold cl; omega
  rw [ex, ey]
  have hx := zbl (n := a.X) (show b.X ≤ b.X + b.W - min a.W b.W by omega)
  have hy := zbl (n := a.Y) (show b.Y ≤ b.Y + b.H - min a.H b.H by omega)
  rw [zhZ (r := ⟨cl a.X b.X (b.X + b.W - min a.W b.W), cl a.Y b.Y (b.Y + b.H - min a.H b.H), min a.W b.W, min a.H b.H⟩) (by unfold Rok; simp only; omega), if_neg (by simp only; omega)]
theorem zh6 {p : Plan} {r : Rect} (hr : Nice r) (hl : p.Float.length ≤ 24) : ∀ (fs : List Rect) (i : Nat) (sp : List Spot), p.Float.drop i = fs → i + fs.length = p.Float.length → sp.length + fs.length < 1000000 →
  iter (fun s => casementref10_Place_l1 p r s.1 s.2 : (List Spot × Int) → Option ((List Spot × Int) ⊕ List Spot)) (sp, (i : Int)) = some (fltL r fs i sp)
 | [], i, sp, hd, hi, hs => by
  refine zau ?_
  simp only [casementref10_Place_l1, letB]
  rw [yau (by simp only [List.length_nil] at hi; omega)]
  rfl
 | f :: fs, i, sp, hd, hi, hs => by
  obtain ⟨hlt, hget, hdrop⟩ := zci hd
  simp only [List.length_cons] at hi hs
  obtain ⟨a1, a2, a3, a4, a5, a6, a7, a8⟩ := hr.1
  refine (zaz (s' := (sp ++ [⟨sp.length, fltT r f, (i + 1 : Nat), false⟩], ((i + 1 : Nat) : Int))) ?_).trans (zh6 hr hl fs (i + 1) _ hdrop (by omega) (by simp; omega))
  simp only [casementref10_Place_l1, letB]
  rw [yav (show (i : Int) < (p.Float.length : Int) by omega), zaK hlt, hget, zaj (n := (i : Int) + 1) (by omega) (by omega)]
  simp only [cond_true, Option.bind_some, zf3]
  rw [zlE (by omega) (by omega)]
  have hj : (bif decide ((cleanT f).W = 0) then some (Rect.mk 0 0 0 0) else some (zf5 f r.X r.Y) : Option Rect) = some (zf5 f r.X r.Y) := by
   by_cases hw : (cleanT f).W = 0
   ·rw [yav hw]
    unfold zf5
    rw [zgy (by simp only; omega)]; rfl
   ·rw [yau hw]; rfl
  simp only [Option.bind_some, hj]
  rw [zm6 (show Nice (zf5 f r.X r.Y) from zbz _) hr]
  simp only [Option.bind_some]
  rw [ze3 (by omega)]
  rfl
theorem zlF {p : Plan} (h : okP p) (r : Rect) : zbH p r = some (placeT p r) := by
 obtain ⟨h1, h2, h3⟩ := zeb h
 unfold zbH placeT zc4
 have hl := zg6 12 p (cleanT r) h1 (zbz r)
 have hlay := zkJ 12 30 p (cleanT r) [] h1 (zbz r) (by omega) (by simp; omega)
 have hloop := zh6 (p := p) (zbz r) (by omega) p.Float 0 (zjk 0 (layT 12 p (cleanT r))) rfl (by omega) (by rw [zf4]; omega)
 simp only [Option.bind_some, zf3]
 rw [hlay]
 simp only [Option.bind_some, zjl, List.nil_append, List.length_nil]
 simp only [show ((0 : Nat) : Int) = 0 from rfl] at hloop
 rw [hloop]
 rfl
theorem zqc {s : List Spot} (hl : s.length < 1000000) : zbm s s = some true := by
 have loop : ∀ (m i : Nat), i + m = s.length → iter (fun i => casementref10_Same_l1 s s i : Int → Option (Int ⊕ (Unit ⊕ Unit))) (i : Int) = some (.inr ()) := by
  intro m
  induction m with
  | zero =>
   intro i hi
   refine zau ?_
   simp only [casementref10_Same_l1, letB]
   rw [yau (by omega)]; rfl
  | succ m ih =>
   intro i hi
   refine (zaz (s' := ((i + 1 : Nat) : Int)) ?_).trans (ih (i + 1) (by omega))
   simp only [casementref10_Same_l1, letB]
   rw [yav (show (i : Int) < (s.length : Int) by omega), zaK (show i < s.length by omega), zaj (n := (i : Int) + 1) (by omega) (by omega)]
   simp
 have := loop s.length 0 (by omega)
 unfold zbm
 simp only [show ((0 : Nat) : Int) = 0 from rfl] at this
 simp [letB, this]
def lvK (f : Plan → Int) (q : Plan) : List Plan → Int → Int
 | [], n => n
 | k :: ks, n => if n ≤ 24 then (if q.Kind = 4 ∧ k.Kind ≠ 1 then 25 else lvK f q ks (n + f k)) else n
def lvR : Nat → Plan → Int
 | 0, _ => 25
 | d + 1, p => if ¬ sizeOK p.Size then 25 else if p.Kind = 1 then 1 else if p.Kind < 2 ∨ p.Kind > 4 ∨ p.Kids.length < 1 ∨ p.Kids.length > 16 then 25 else lvK (lvR d) p p.Kids 0
theorem zkK {f : Plan → Int} {q : Plan} {B : Int} (hB : 25 ≤ B) (hf : ∀ k, 0 ≤ f k ∧ f k ≤ B) : ∀ (ks : List Plan) (n : Int), 0 ≤ n → n ≤ 24 + B → 0 ≤ lvK f q ks n ∧ lvK f q ks n ≤ 24 + B
 | [], n, h0, h1 => ⟨h0, h1⟩
 | k :: ks, n, h0, h1 => by
  unfold lvK
  split
  ·split
   ·omega
   ·have := hf k
    exact zkK hB hf ks (n + f k) (by omega) (by omega)
  ·exact ⟨h0, h1⟩
theorem ze4 : ∀ (d : Nat) (p : Plan), 0 ≤ lvR d p ∧ lvR d p ≤ 25 + 24 * d
 | 0, p => by unfold lvR; omega
 | d + 1, p => by
  unfold lvR
  split
  ·omega
  ·split
   ·omega
   ·split
    ·omega
    ·have := zkK (q := p) (B := 25 + 24 * d) (by omega) (ze4 d) p.Kids 0 (by omega) (by omega)
     omega
theorem zqd {f : Plan → Int} {q : Plan} {ks : List Plan} {n : Int} (h : 24 < n) : lvK f q ks n = n := by
 cases ks with
 | nil => rfl
 | cons k ks => unfold lvK; rw [if_neg (by omega)]
theorem zkL {d : Nat} {q : Plan} (hd : ∀ k, (Rt d k ∧ lv d k ≤ 24 → lvR d k = lv d k) ∧ (lvR d k ≤ 24 → Rt d k ∧ lv d k ≤ 24)) : ∀ (ks : List Plan) (n : Int), 0 ≤ n →
  ((∀ k ∈ ks, Rt d k ∧ (q.Kind = 4 → k.Kind = 1)) ∧ n + sumN (ks.map (lv d)) ≤ 24 → lvK (lvR d) q ks n = n + sumN (ks.map (lv d))) ∧ (lvK (lvR d) q ks n ≤ 24 → (∀ k ∈ ks, Rt d k ∧ (q.Kind = 4 → k.Kind = 1)) ∧ n + sumN (ks.map (lv d)) ≤ 24)
 | [], n, h0 => ⟨fun _ => by simp [lvK, sumN], fun h => ⟨fun k hk => (by cases hk), by simpa [lvK, sumN] using h⟩⟩
 | k :: ks, n, h0 => by
  obtain ⟨i1, i2⟩ := zkL (q := q) hd ks (n + lvR d k) (by have := ze4 d k; omega)
  obtain ⟨d1, d2⟩ := hd k
  simp only [List.map_cons, sumN]
  refine ⟨fun ⟨h1, h2⟩ => ?_, fun h => ?_⟩
  ·obtain ⟨r1, r2⟩ := h1 k (.head _)
   have e := d1 ⟨r1, by omega⟩
   unfold lvK
   rw [if_pos (by omega), if_neg (fun hc => hc.2 (r2 hc.1)), i1 ⟨fun x hx => h1 x (.tail _ hx), by omega⟩, e]
   omega
  ·unfold lvK at h
   split at h
   ·split at h
    ·omega
    ·rename_i hn hc
     by_cases hbig : 24 < n + lvR d k
     ·rw [zqd hbig] at h; omega
     ·have hR := ze4 d k
      obtain ⟨r1, r2⟩ := d2 (by omega)
      have e := d1 ⟨r1, r2⟩
      obtain ⟨j1, j2⟩ := i2 h
      refine ⟨fun x hx => ?_, by omega⟩
      rcases List.mem_cons.1 hx with rfl | hx
      ·exact ⟨r1, fun h4 => Classical.byContradiction fun hne => hc ⟨h4, hne⟩⟩
      ·exact j1 x hx
   ·omega
theorem zh7 : ∀ (d : Nat) (p : Plan), (Rt d p ∧ lv d p ≤ 24 → lvR d p = lv d p) ∧ (lvR d p ≤ 24 → Rt d p ∧ lv d p ≤ 24)
 | 0, p => ⟨fun h => h.1.elim, fun h => by unfold lvR at h; omega⟩
 | d + 1, p => by
  obtain ⟨k1, k2⟩ := zkL (q := p) (zh7 d) p.Kids 0 (Int.le_refl _)
  refine ⟨fun ⟨h1, h2⟩ => ?_, fun h => ?_⟩
  ·obtain ⟨hs, h | ⟨hk, hko, hn0, hl, hks⟩⟩ := h1
   ·unfold lvR lv
    rw [if_neg (by simpa using hs), if_pos h, if_pos h]; rfl
   ·unfold lv at h2 ⊢
    unfold lvR
    rw [if_neg hk] at h2 ⊢
    unfold zfu at hko
    rw [if_neg (by simpa using hs), if_neg hk, if_neg (by omega), k1 ⟨hks, by omega⟩]
    omega
  ·unfold lvR at h
   split at h
   ·omega
   ·rename_i hs
    split at h
    ·rename_i h1
     refine ⟨⟨by simpa using hs, .inl h1⟩, ?_⟩
     unfold lv
     rw [if_pos h1]; omega
    ·rename_i h1
     split at h
     ·omega
     ·rename_i hc
      obtain ⟨j1, j2⟩ := k2 h
      refine ⟨⟨by simpa using hs, .inr ⟨h1, by unfold zfu; omega, by omega, by omega, j1⟩⟩, ?_⟩
      unfold lv
      rw [if_neg h1]; omega
theorem zmt {p : Plan} {deep : Int} {rec : Plan → Int → Option Int} {d : Nat} (hd12 : d ≤ 12) (hl : p.Kids.length ≤ 16) (hdeep : 0 ≤ deep ∧ deep ≤ 100) (hrec : ∀ k, rec k (deep + 1) = some (lvR d k)) :
  ∀ (ks : List Plan) (i : Nat) (n : Int), p.Kids.drop i = ks → i + ks.length = p.Kids.length → 0 ≤ n → n ≤ 1000 →
  ∃ j, iter (fun s => casementref10_leavesF_l1 p deep rec s.1 s.2 : (Int × Int) → Option ((Int × Int) ⊕ (Unit ⊕ Int))) (n, (i : Int)) = some j ∧ (match j with | .inl _ => 25 | .inr z => z) = lvK (lvR d) p ks n
 | [], i, n, hd, hi, h0, h1 => by
  refine ⟨.inr n, zau ?_, rfl⟩
  simp only [casementref10_leavesF_l1, letB]
  rw [yau (by simp only [List.length_nil] at hi; omega)]; rfl
 | k :: ks, i, n, hd, hi, h0, h1 => by
  obtain ⟨hlt, hget, hdrop⟩ := zci hd
  simp only [List.length_cons] at hi
  have hidx : idx p.Kids (i : Int) = some k := by rw [zaK hlt, hget]
  unfold lvK
  by_cases hn : n ≤ 24
  ·rw [if_pos hn]
   by_cases hc : p.Kind = 4 ∧ k.Kind ≠ 1
   ·rw [if_pos hc]
    refine ⟨.inl (), zau ?_, rfl⟩
    simp only [casementref10_leavesF_l1, letB]
    rw [yav (show (i : Int) < (p.Kids.length : Int) by omega), yav hn, yav hc.1]
    simp only [cond_true, Option.bind_some, hidx]
    rw [yav hc.2]; rfl
   ·rw [if_neg hc]
    have hR := ze4 d k
    obtain ⟨j, e, r⟩ := zmt hd12 hl hdeep hrec ks (i + 1) (n + lvR d k) hdrop (by omega) (by omega) (by omega)
    refine ⟨j, (zaz ?_).trans e, r⟩
    simp only [casementref10_leavesF_l1, letB]
    rw [yav (show (i : Int) < (p.Kids.length : Int) by omega), yav hn, zaj (n := (i : Int) + 1) (by omega) (by omega), zaj (n := deep + 1) (by omega) (by omega)]
    simp only [cond_true, Option.bind_some, hidx, hrec]
    have hg : (bif decide (p.Kind = 4) then some (decide (k.Kind ≠ 1)) else some false) = some false := by
     by_cases h4 : p.Kind = 4
     ·rw [yav h4, yau (fun h => hc ⟨h4, h⟩)]; rfl
     ·rw [yau h4]; rfl
    simp only [hg, Option.bind_some, cond_false]
    rw [zaj (by omega) (by omega)]
    rfl
  ·rw [if_neg hn]
   refine ⟨.inr n, zau ?_, rfl⟩
   simp only [casementref10_leavesF_l1, letB]
   rw [yav (show (i : Int) < (p.Kids.length : Int) by omega), yau hn]; rfl
theorem zh8 : ∀ (d k : Nat) (deep : Int) (p : Plan), deep = 13 - (d : Int) → d ≤ 12 → d + 1 ≤ k → zaM k p deep = some (lvR d p)
 | d, 0, deep, p, hd, hd2, hk => by omega
 | 0, k + 1, deep, p, hd, hd2, hk => by
  show zaL (zaM k) p deep = _
  unfold zaL
  simp only [letB]
  rw [yav (by omega)]; rfl
 | d + 1, k + 1, deep, p, hd, hd2, hk => by
  show zaL (zaM k) p deep = _
  unfold zaL lvR
  simp only [letB, zmp, Option.bind_some]
  rw [yau (by omega)]
  by_cases hs : sizeOK p.Size
  ·rw [yav hs, if_neg (by simpa using hs)]
   simp only [cond_false, Option.bind_some, Bool.not_true]
   by_cases h1 : p.Kind = 1
   ·rw [yav h1, if_pos h1]; rfl
   ·rw [yau h1, if_neg h1]
    simp only [cond_false, or_s, Option.bind_some]
    by_cases hc : p.Kind < 2 ∨ p.Kind > 4 ∨ p.Kids.length < 1 ∨ p.Kids.length > 16
    ·rw [if_pos hc]
     have : (((decide (p.Kind < 2) || decide (p.Kind > 4)) || decide ((p.Kids.length : Int) < 1)) || decide ((p.Kids.length : Int) > 16)) = true := by
      simp only [Bool.or_eq_true, decide_eq_true_eq]; omega
     rw [this]; rfl
    ·rw [if_neg hc]
     have : (((decide (p.Kind < 2) || decide (p.Kind > 4)) || decide ((p.Kids.length : Int) < 1)) || decide ((p.Kids.length : Int) > 16)) = false := by
      simp only [Bool.or_eq_false_iff, decide_eq_false_iff_not]; omega
     rw [this]
     obtain ⟨j, e, r⟩ := zmt (p := p) (deep := deep) (rec := zaM k) (d := d) (by omega) (by omega) (by omega) (fun q => zh8 d k (deep + 1) q (by omega) (by omega) (by omega)) p.Kids 0 0 rfl (by omega) (by omega) (by omega)
     simp only [show ((0 : Nat) : Int) = 0 from rfl] at e
     simp only [cond_false, e, Option.bind_some]
     cases j with
     | inl u => simp only at r ⊢; rw [r]
     | inr z => simp only at r ⊢; rw [r]
  ·rw [yau hs, if_pos hs]; rfl
theorem zh9 : ∀ (d : Nat) (p : Plan) (n : Int), 0 ≤ n → Rt d p → n + lv d p ≤ 24 → mT d p n = (true, n + lv d p)
 | 0, p, n, h0, h, hs => h.elim
 | d + 1, p, n, h0, h, hs => by
  obtain ⟨hso, h | ⟨hk, hko, hn0, hl, hks⟩⟩ := h
  ·unfold mT lv at *
   rw [if_pos h] at hs ⊢
   rw [if_neg (by simpa using hso), if_pos h, yav (by omega)]; rfl
  ·unfold mT lv at *
   rw [if_neg hk] at hs ⊢
   rw [if_neg (by simpa using hso), if_neg hk, if_neg (by simpa using hko), if_neg (by omega)]
   have key : ∀ (ks : List Plan) (n : Int), 0 ≤ n → (∀ k ∈ ks, Rt d k ∧ (p.Kind = 4 → k.Kind = 1)) → n + sumN (ks.map (lv d)) ≤ 24 → mKids (mT d) p ks n = (true, n + sumN (ks.map (lv d))) := by
    intro ks
    induction ks with
    | nil => intro n _ _ _; simp [mKids, sumN]
    | cons k ks ih =>
     intro n hn hh hle
     obtain ⟨r1, r2⟩ := hh k (.head _)
     simp only [List.map_cons, sumN] at hle ⊢
     have e := zh9 d k n hn r1 (by omega)
     unfold mKids
     rw [if_neg (fun hc => hc.2 (r2 hc.1)), e, if_pos rfl, ih (n + lv d k) (by omega) (fun x hx => hh x (.tail _ hx)) (by omega)]
     simp only [yac, true_and]; omega
   exact key p.Kids n h0 hks hs
theorem zoG (p : Plan) : okP p ↔ p.Float.length ≤ 24 ∧ lvR 12 p + p.Float.length ≤ 24 := by
 obtain ⟨r1, r2⟩ := zh7 12 p
 constructor
 ·intro h
  obtain ⟨h1, h2, h3⟩ := zeb h
  rw [r1 ⟨h1, by omega⟩]; omega
 ·rintro ⟨h1, h2⟩
  obtain ⟨q1, q2⟩ := r2 (by omega)
  have e := r1 ⟨q1, q2⟩
  have m := zh9 12 p 0 (Int.le_refl _) q1 (by omega)
  unfold okP
  rw [m]
  exact ⟨rfl, by simp only; omega⟩
instance (p : Plan) : Decidable (okP p) := inferInstanceAs (Decidable (_ ∧ _))
theorem zlG (p : Plan) (hf : p.Float.length < 1000000000) : zaT p = some (decide (okP p)) := by
 have hR := ze4 12 p
 unfold zaT zbs
 simp only [letB]
 rw [zh8 12 30 1 p (by omega) (by omega) (by omega)]
 simp only [Option.bind_some]
 rw [zaj (by omega) (by omega)]
 simp only [zpj, Option.bind_some]
 congr 1
 rw [Bool.eq_iff_iff]
 simp only [yae, decide_eq_true_eq, zoG]
 omega
theorem zkM (p : Plan) : zaT p = some (decide (okP p)) := by
 by_cases hf : p.Float.length ≤ 24
 ·exact zlG p (by omega)
 ·unfold zaT
  simp only [letB]
  rw [yau (show ¬ (p.Float.length : Int) ≤ 24 by omega), yau (fun h => hf ((zoG p).1 h).1)]
  rfl
theorem ziP {y : List Spot} (hl : y.length < 1000000) : ∀ (m i : Nat) (s : List Spot), i + m = y.length → s.length = y.length → iter (fun s => casementlaw10_LayoutPlays_l1 y s.1 s.2 : (List Spot × Int) → Option ((List Spot × Int) ⊕ Unit)) (s, (i : Int)) = some ()
 | 0, i, s, hi, hs => by
  refine zau ?_
  simp only [casementlaw10_LayoutPlays_l1, letB]
  rw [yau (by omega)]; rfl
 | m + 1, i, s, hi, hs => by
  have hlt : i < s.length := by omega
  refine (zaz (s' := (upI s (i : Int) { s[i] with Pane := 77 }, ((i + 1 : Nat) : Int))) ?_).trans (ziP hl m (i + 1) _ (by omega) (by unfold upI; simpa using hs))
  simp only [casementlaw10_LayoutPlays_l1, letB]
  rw [yav (show (i : Int) < (y.length : Int) by omega), zaK hlt, zaj (n := (i : Int) + 1) (by omega) (by omega)]
  rfl
theorem zm7 (p : Plan) (r : Rect) : zbe p r = some true := by
 unfold zbe zcC
 simp only [Option.bind_some, letB, Bool.not_true, cond_false, zkM]
 by_cases hok : okP p
 ·obtain ⟨h1, h2, h3⟩ := zeb hok
  have hlen := zor (r := r) hok
  have hm := ziP (y := placeT p r) (by omega) (placeT p r).length 0 (placeT p r) (by omega) rfl
  simp only [show ((0 : Nat) : Int) = 0 from rfl] at hm
  have hcnt : zbI p = some ((lv 12 p : Nat) : Int) := by
   unfold zbI zbs
   rw [zh8 12 30 1 p (by omega) (by omega) (by omega), (zh7 12 p).1 ⟨h1, by omega⟩]
   rfl
  have hchk : zbx p = some 0 := by rw [zdA, if_pos (show _ ∧ _ from hok)]
  simp only [zpo hok, zpn hok, Option.bind_some, yav hok, Bool.not_true, cond_false, zlF hok, hchk, hcnt, zqc (show (placeT p r).length < 1000000 by omega)]
  simp [hm]
 ·have hchk : zbx p = some 100 := by rw [zdA, if_neg (show ¬ (_ ∧ _) from hok)]
  simp only [zos hok, zoo hok, Option.bind_some, yau hok, hchk]
  rfl
end Go.Proofs.YtakdnfneikbjjaaGreatDoor.Am.Lay10

set_option linter.all false
namespace Go.Proofs.YtakdnfneikbjjaaGreatDoor.Am.Lay10
open Go.Proofs.YtakdnfneikbjjaaGreatDoor.Am.T
theorem zii {p : Plan} {r : Rect} {x y : V} (hx : Den [] (.agg (Plan.e p)) x) (hy : Den [] (.agg r.c) y) : ∃ m', RF ET 3 [x, y] [] = some (.bool true, m') :=
 zak.law (zdv (zm7 p r)) (.cons hx (.cons hy .nil))
end Go.Proofs.YtakdnfneikbjjaaGreatDoor.Am.Lay10

/-
LayoutPlays answers true whatever its input; the input reads as it did.
-/
namespace Go.Proofs.YtakdnfneikbjjaaGreatDoor
open Go.Proofs.YtakdnfneikbjjaaGreatDoor.Am Go.Proofs.YtakdnfneikbjjaaGreatDoor.Am.Lay10
open Go.ChangeShapes Go.WideShapes Go.ChangeAt Go.RowKit
namespace layoutPlays
theorem shape (l : List V) (h : l.length = 2) : ∃ x0 x1, l = [x0, x1] := by
  match l, h with
  | [x0, x1], _ => exact ⟨x0, x1, rfl⟩
theorem own : ownKnob Tryz.prog.godebug = none := by kernel_rfl
theorem laidB : laidOutB Tryz.prog = true := by kernel_rfl
set_option maxRecDepth 100000 in
theorem law (l : List V) (hl : l.length = Tryz.f3.params.toList.length) (h : ∀ (j : Nat) (t : TypeId), Tryz.f3.params.toList[j]? = some t → zf7 Tryz.prog t (l.getD j .undef)) : ∃ m', RF ET 3 l [] = some (.bool true, m') := by
  have hln : l.length = 2 := hl
  obtain ⟨x0, x1, rfl⟩ := shape l hln
  have h0 := h 0 27 (by kernel_rfl)
  have h1 := h 1 29 (by kernel_rfl)
  obtain ⟨p, hx⟩ := zoz (t := 27) (e := 29) (by kernel_rfl) (by kernel_rfl) (by kernel_rfl) (by kernel_rfl) (by kernel_rfl) h0
  obtain ⟨r, hy⟩ := zow (by kernel_rfl) (by kernel_rfl) h1
  exact zii hx hy
noncomputable def low : Nat := (World.holding Tryz.prog default ⟨#[], #[], []⟩).heap.size
noncomputable def laidWorld (os : Os) : World :=
  { World.holding Tryz.prog os ⟨#[.cells #[.string ⟨#[118, 97, 108, 117, 101, 32, 111, 117, 116, 32, 111, 102, 32, 114, 97, 110, 103, 101]⟩] 182, .cells #[.string ⟨#[105, 110, 118, 97, 108, 105, 100, 32, 115, 121, 110, 116, 97, 120]⟩] 182], #[], []⟩ with heap := ((((((World.holding Tryz.prog os ⟨#[.cells #[.string ⟨#[118, 97, 108, 117, 101, 32, 111, 117, 116, 32, 111, 102, 32, 114, 97, 110, 103, 101]⟩] 182, .cells #[.string ⟨#[105, 110, 118, 97, 108, 105, 100, 32, 115, 121, 110, 116, 97, 120]⟩] 182], #[], []⟩).heap.modify 2 fun
      | .cells _ t frozen => .cells #[.iface 180 (.pointer (some ⟨low + 0, 0, none⟩))] t frozen
      | o => o).modify 1 fun
      | .cells _ t frozen => .cells #[.iface 180 (.pointer (some ⟨low + 1, 0, none⟩))] t frozen
      | o => o).modify 3 fun
      | .cells _ t frozen => .cells #[.int .u64 1, .int .u64 10, .int .u64 100, .int .u64 1000, .int .u64 10000, .int .u64 100000, .int .u64 1000000, .int .u64 10000000, .int .u64 100000000, .int .u64 1000000000, .int .u64 10000000000, .int .u64 100000000000, .int .u64 1000000000000, .int .u64 10000000000000, .int .u64 100000000000000, .int .u64 1000000000000000, .int .u64 10000000000000000, .int .u64 100000000000000000, .int .u64 1000000000000000000, .int .u64 10000000000000000000] t frozen
      | o => o).modify 4 fun
      | .cells _ t frozen => .cells #[.int .u8 0, .int .u8 1, .int .u8 28, .int .u8 2, .int .u8 29, .int .u8 14, .int .u8 24, .int .u8 3, .int .u8 30, .int .u8 22, .int .u8 20, .int .u8 15, .int .u8 25, .int .u8 17, .int .u8 4, .int .u8 8, .int .u8 31, .int .u8 27, .int .u8 13, .int .u8 23, .int .u8 21, .int .u8 19, .int .u8 16, .int .u8 7, .int .u8 26, .int .u8 12, .int .u8 18, .int .u8 6, .int .u8 11, .int .u8 5, .int .u8 10, .int .u8 9] t frozen
      | o => o).modify 5 fun
      | .cells _ t frozen => .cells #[.int .u8 0, .int .u8 1, .int .u8 56, .int .u8 2, .int .u8 57, .int .u8 49, .int .u8 28, .int .u8 3, .int .u8 61, .int .u8 58, .int .u8 42, .int .u8 50, .int .u8 38, .int .u8 29, .int .u8 17, .int .u8 4, .int .u8 62, .int .u8 47, .int .u8 59, .int .u8 36, .int .u8 45, .int .u8 43, .int .u8 51, .int .u8 22, .int .u8 53, .int .u8 39, .int .u8 33, .int .u8 30, .int .u8 24, .int .u8 18, .int .u8 12, .int .u8 5, .int .u8 63, .int .u8 55, .int .u8 48, .int .u8 27, .int .u8 60, .int .u8 41, .int .u8 37, .int .u8 16, .int .u8 46, .int .u8 35, .int .u8 44, .int .u8 21, .int .u8 52, .int .u8 32, .int .u8 23, .int .u8 11, .int .u8 54, .int .u8 26, .int .u8 40, .int .u8 15, .int .u8 34, .int .u8 20, .int .u8 31, .int .u8 10, .int .u8 25, .int .u8 14, .int .u8 19, .int .u8 9, .int .u8 13, .int .u8 8, .int .u8 7, .int .u8 6] t frozen
      | o => o) }
theorem laid_met (os : Os) : laidMet Tryz.prog Rows.layoutPlaysRow.laid ((laidWorld os).forCall (fun _ _ => 0) ⟨#[], #[.agg #[.int .i64 0, .int .i64 0, .int .i64 0, .string ⟨#[]⟩, .slice none 0 0, .slice none 0 0], .agg #[.int .i64 0, .int .i64 0, .int .i64 0, .int .i64 0]], []⟩).memory :=
  laidMet_of_run' 8 (by kernel_rfl) (by kernel_rfl)
theorem reads (os : Os) {H : Type} (enc : TypeId × Value → H) : ∃ places, DataW.whole enc Tryz.prog ((laidWorld os).forCall (fun _ _ => 0) ⟨#[], #[.agg #[.int .i64 0, .int .i64 0, .int .i64 0, .string ⟨#[]⟩, .slice none 0 0, .slice none 0 0], .agg #[.int .i64 0, .int .i64 0, .int .i64 0, .int .i64 0]], []⟩).memory Tryz.f3.params.toList Rows.layoutPlaysSpec.vars false (#[.agg #[.int .i64 0, .int .i64 0, .int .i64 0, .string ⟨#[]⟩, .slice none 0 0, .slice none 0 0], .agg #[.int .i64 0, .int .i64 0, .int .i64 0, .int .i64 0]] : Array Value).toList 8 = some ([.agg [.lit (.int .i64 0), .agg [.lit (.int .i64 0), .lit (.int .i64 0)], .lit (.string []), .nil, .nil], .agg [.lit (.int .i64 0), .lit (.int .i64 0), .lit (.int .i64 0), .lit (.int .i64 0)]], [], places) :=
  ⟨[], by kernel_rfl⟩
set_option maxRecDepth 100000 in
theorem lifted (os : Os) (started : os.Started) (H : Type) (enc : TypeId × Value → H) (F : Stop.Interp) :
    ReturnsInHanded {} Tryz.checked os 3 .any ((OpenSpec.ofChange Rows.layoutPlaysSpec).preRow enc Tryz.prog Tryz.f3 Rows.layoutPlaysRow.domain false Rows.layoutPlaysRow.laid) (((OpenSpec.ofChange Rows.layoutPlaysSpec).at F).post enc Tryz.prog Tryz.f3 false true false false) := by
  obtain ⟨places, hx⟩ := reads os enc
  refine returnsInHanded_of_row (C := Tryz.checked) (s := (OpenSpec.ofChange Rows.layoutPlaysSpec)) own started (by kernel_rfl) Tryz.func3
    (witness_row_at (enc := enc) (C := Tryz.checked) false (laidWorld os) #[.agg #[.int .i64 0, .int .i64 0, .int .i64 0, .string ⟨#[]⟩, .slice none 0 0, .slice none 0 0], .agg #[.int .i64 0, .int .i64 0, .int .i64 0, .int .i64 0]] rfl (by kernel_rfl) (by kernel_rfl) (by kernel_rfl)
      (OpenSpec.preRow_of_cond 8 hx (by kernel_rfl) (fun k hk => by cases hk) (by kernel_rfl) (laid_met os))) ?_
  intro W base args ds gs before hval hW _ _ _ hlaid _ _
  exact zjn (S := [27, 3, 23, 9, 24, 25, 29]) (zpr) zqM (tb := 4) (by kernel_rfl) (by kernel_rfl) (by kernel_rfl) rfl
    (fun ds hd => by
      have hdn : ds.length = 2 := hd
      match ds, hdn with
      | [_, _], _ => rfl) laidB (by kernel_rfl) (by kernel_rfl) (fun _ l hl h _ => law l hl h) hval hW
theorem said : Rows.LayoutPlaysSaid :=
  OpenClaim.holds_of_cond 3 Tryz.f3 rfl rfl rfl rfl rfl rfl rfl ⟨rfl, rfl, rfl, rfl, rfl⟩ rfl rfl rfl rfl rfl (by kernel_rfl) Tryz.func3 (by kernel_rfl)
    (of_decide_eq_true (by kernel_rfl)) (by unfold Func.isWrapper; first | (rw [if_pos (by decide +kernel)]; kernel_rfl) | (rw [if_neg (by decide +kernel)]; exact ⟨rfl, rfl⟩))
    (fun os started H enc _ F => by rw [OpenClaim.pre_eq_preRow]; exact lifted os started H enc F)
theorem nowant : (Tryz.f3.params.toList.all fun t => Tryz.prog.wantsStandIn t == false) = true := by kernel_rfl
theorem plain (f : FuncId) (fn : Func) (hf : Tryz.pinned.checked.prog.funcNamed "casement/casementlaw10.LayoutPlays" = some f) (hfn : Tryz.pinned.checked.prog.funcs[f]? = some fn) :
    true = Tryz.pinned.checked.prog.looks [] ∧ ∀ (j : Nat) t, fn.params[j]? = some t → Tryz.pinned.checked.prog.wantsStandIn t = false := by
  obtain rfl : f = 3 := Option.some.inj ((show Tryz.prog.funcNamed "casement/casementlaw10.LayoutPlays" = some 3 by kernel_rfl).symm.trans hf) |>.symm
  obtain rfl : fn = Tryz.f3 := (Option.some.inj (Tryz.func3.symm.trans hfn)).symm
  refine ⟨by kernel_rfl, fun j t ht => ?_⟩
  exact beq_iff_eq.1 (yam.1 nowant t (Array.mem_toList_iff.2 (Array.mem_of_getElem? ht)))
theorem holds : Rows.LayoutPlaysCardSaid :=
  Claim7.holds_tied_plain_at .later [] _ _ _ _ said (fun _ h => by cases h) (by kernel_rfl) (fun _ h => by cases h) layoutPlays_row_tie rfl ⟨rfl, rfl⟩ (by kernel_rfl) rfl plain (by kernel_rfl)
#print axioms holds
end layoutPlays
end Go.Proofs.YtakdnfneikbjjaaGreatDoor
