/-
A part of the proof of a law: ly p, ly f, ly m, ly s, ly l, ly t, ly u, ly v, ly w, am fits, am row, am law, am leaf, am row u, ly fit, ly fit s, am row s, am row r, ly fit p.
-/
import Derived.Test.YtakdnfneikbjjaaGreatDoorAmLayoutPlaysRow4
import Derived.ChangeReads
import Derived.ChangeArms
import Derived.Carry
import Derived.OpenShut
import Derived.ChangeSame
import Derived.RowKit
set_option linter.all false
namespace Go.Proofs.YtakdnfneikbjjaaGreatDoor.Am.Lay10
open Go.Proofs.YtakdnfneikbjjaaGreatDoor.Am.T
noncomputable def zcC : Option Bool := some true
theorem zeA {r : Bool} (h : zcC = some r) : zak true (RF ET) 11 [] [] (.bool r) [] := by
 cases h
 exact zak.alive fun m => zqm rfl rfl
structure Size where
 Kind : Int
 N : Int
def Size.c (x : Size) : List TV := [.int .i64 x.Kind, .int .i64 x.N]
noncomputable def zc2 (s_ : Size) : Option Int :=
 Option.bind (
  letB (decide (s_.Kind = 0)) fun c1 =>
  Option.bind (
   bif c1 then (
    some (.inl ()))
   else (
    letB (decide (s_.Kind = 1)) fun c3 =>
    (bif c3 then (
     letB (decide (s_.N ≥ 1)) fun c5 =>
     some (c5)) else some false).bind fun g4 =>
    (bif g4 then (
     letB (decide (s_.N ≤ 200)) fun c8 =>
     some (c8)) else some false).bind fun g7 =>
    Option.bind (
     bif g7 then (
      some (.inl ()))
     else (
      letB (decide (s_.Kind = 2)) fun c11 =>
      (bif c11 then (
       letB (decide (s_.N ≥ 1)) fun c13 =>
       some (c13)) else some false).bind fun g12 =>
      (bif g12 then (
       letB (decide (s_.N ≤ 100)) fun c16 =>
       some (c16)) else some false).bind fun g15 =>
      bif g15 then (
       some (.inl ()))
      else (
       some (.inr ()))) : Option (Unit ⊕ Unit)) fun j19 =>
    match j19 with
    | .inl z20 => (
     some (.inl ()))
    | .inr z21 => (
     some (.inr ()))) : Option (Unit ⊕ Unit)) fun j22 =>
  match j22 with
  | .inl z23 => (
   some (.inl ()))
  | .inr z24 => (
   some (.inr ())) : Option (Unit ⊕ Unit)) fun j25 =>
 match j25 with
 | .inl z26 => (
  some 0)
 | .inr z27 => (
  some 1)
set_option maxRecDepth 20000 in
theorem zft {s_ : Size} {r : Int} (h : zc2 s_ = some r) : zak true (RF ET) 58 [.agg (Size.c s_)] [] (.int .i64 r) [] := by
 refine zak.quiet (zaF (af := a58) rfl rfl ?_) rfl
 unfold zc2 at h
 refine zaa ?_
 refine zac [1] [0] ?_
 refine zad ?_
 refine zaa ?_
 obtain ⟨j25, hj25, h⟩ := zab h
 refine za7 j25 (fun r => match r with | .inl z => (.normal, [], [(0, (Size.c s_))], []) | .inr z => (.ret, [(2, .int .i64 1)], [(0, (Size.c s_))], [])) (fun e => match e with | .normal => [] | .ret => [2] | _ => []) (fun e => match e with | .normal => [0] | .ret => [0] | _ => []) ?_ ?_
 ·clear h
  replace h := hj25
  clear hj25
  refine zah ?_
  refine zaa ?_
  refine zac [1, 3] [0] ?_
  refine zad ?_
  refine fun c1 hc1 => ?_
  replace h := zae hc1 h
  obtain ⟨j22, hj22, h⟩ := zab h
  refine za7 j22 (fun r => match r with | .inl z => (.normal, [], [(0, (Size.c s_))], []) | .inr z => (.ret, [(2, .int .i64 1)], [(0, (Size.c s_))], [])) (fun e => match e with | .normal => [] | .ret => [2] | _ => []) (fun e => match e with | .normal => [0] | .ret => [0] | _ => []) ?_ ?_
  ·clear h
   replace h := hj22
   clear hj22
   refine zag (b := c1) rfl (fun hb2 => ?_) (fun hb2 => ?_)
   ·replace h := zam hb2 h
    refine zai ?_
    cases h
    exact rfl
   ·replace h := zal hb2 h
    refine zaa ?_
    refine zac [1, 7] [0] ?_
    refine zat 4 ?_
    refine zad ?_
    refine fun c3 hc3 => ?_
    replace h := zae hc3 h
    obtain ⟨g4, hg4, h⟩ := zab h
    refine zaB 4 15 [1, 15] g4 ?_ ?_
    ·clear h
     replace h := hg4
     clear hg4
     cases hb6 : c3 with
     | true =>
      replace h := zam hb6 h
      refine zad ?_
      refine fun c5 hc5 => ?_
      replace h := zae hc5 h
      cases h
      exact ⟨rfl, rfl, rfl⟩
     | false =>
      replace h := zal hb6 h
      cases h
      refine zad ?_
      exact ⟨rfl, rfl, rfl⟩
    refine zat 1 ?_
    refine zad ?_
    obtain ⟨g7, hg7, h⟩ := zab h
    refine zaB 4 20 [1, 20] g7 ?_ ?_
    ·clear h
     replace h := hg7
     clear hg7
     cases hb9 : g4 with
     | true =>
      replace h := zam hb9 h
      refine zad ?_
      refine fun c8 hc8 => ?_
      replace h := zae hc8 h
      cases h
      exact ⟨rfl, rfl, rfl⟩
     | false =>
      replace h := zal hb9 h
      cases h
      refine zad ?_
      exact ⟨rfl, rfl, rfl⟩
    refine zad ?_
    obtain ⟨j19, hj19, h⟩ := zab h
    refine za7 j19 (fun r => match r with | .inl z => (.normal, [], [(0, (Size.c s_))], []) | .inr z => (.ret, [(2, .int .i64 1)], [(0, (Size.c s_))], [])) (fun e => match e with | .normal => [] | .ret => [2] | _ => []) (fun e => match e with | .normal => [0] | .ret => [0] | _ => []) ?_ ?_
    ·clear h
     replace h := hj19
     clear hj19
     refine zag (b := g7) rfl (fun hb10 => ?_) (fun hb10 => ?_)
     ·replace h := zam hb10 h
      refine zai ?_
      cases h
      exact rfl
     ·replace h := zal hb10 h
      refine zaa ?_
      refine zac [21] [0] ?_
      refine zat 4 ?_
      refine zad ?_
      refine fun c11 hc11 => ?_
      replace h := zae hc11 h
      obtain ⟨g12, hg12, h⟩ := zab h
      refine zaB 4 29 [1, 29] g12 ?_ ?_
      ·clear h
       replace h := hg12
       clear hg12
       cases hb14 : c11 with
       | true =>
        replace h := zam hb14 h
        refine zad ?_
        refine fun c13 hc13 => ?_
        replace h := zae hc13 h
        cases h
        exact ⟨rfl, rfl, rfl⟩
       | false =>
        replace h := zal hb14 h
        cases h
        refine zad ?_
        exact ⟨rfl, rfl, rfl⟩
      refine zat 1 ?_
      refine zad ?_
      obtain ⟨g15, hg15, h⟩ := zab h
      refine zaB 4 34 [34] g15 ?_ ?_
      ·clear h
       replace h := hg15
       clear hg15
       cases hb17 : g12 with
       | true =>
        replace h := zam hb17 h
        refine zad ?_
        refine fun c16 hc16 => ?_
        replace h := zae hc16 h
        cases h
        exact ⟨rfl, rfl, rfl⟩
       | false =>
        replace h := zal hb17 h
        cases h
        refine zad ?_
        exact ⟨rfl, rfl, rfl⟩
      refine zad ?_
      refine zag (b := g15) rfl (fun hb18 => ?_) (fun hb18 => ?_)
      ·replace h := zam hb18 h
       refine zai ?_
       cases h
       exact rfl
      ·replace h := zal hb18 h
       refine zaa ?_
       refine zac [2] [0] ?_
       refine zad ?_
       refine zap ?_
       cases h
       exact rfl
    rcases j19 with z20 | z21
    ·cases h
     exact rfl
    ·cases h
     exact rfl
  rcases j22 with z23 | z24
  ·cases h
   exact rfl
  ·cases h
   exact rfl
 rcases j25 with z26 | z27
 ·refine zaa ?_
  refine zac [2] [0] ?_
  refine zad ?_
  refine zap ?_
  cases h
  exact ⟨rfl, rfl, rfl, rfl, rfl⟩
 ·cases h
  exact ⟨rfl, rfl, rfl, rfl, rfl⟩
structure Rect where
 X : Int
 Y : Int
 W : Int
 H : Int
def Rect.c (x : Rect) : List TV := [.int .i64 x.X, .int .i64 x.Y, .int .i64 x.W, .int .i64 x.H]
structure Plan where
 Kind : Int
 Size : Size
 Name : List Int
 Kids : List Plan
 Float : List Rect
mutual
def Plan.e' : Plan → List TV
 | ⟨a0, a1, a2, a3, a4⟩ => [.int .i64 a0, .int .i64 a1.Kind, .int .i64 a1.N, .str a2, .sl false 6 (Plan.cs a3), .sl false 4 (List.map Rect.c a4)]
def Plan.cs : List Plan → List (List TV)
 | [] => []
 | x :: l => Plan.e' x :: Plan.cs l
end
def Plan.e (x : Plan) : List TV := [.int .i64 x.Kind, .int .i64 x.Size.Kind, .int .i64 x.Size.N, .str x.Name, .sl false 6 (Plan.cs x.Kids), .sl false 4 (List.map Rect.c x.Float)]
theorem Plan.e_is (x : Plan) : Plan.e' x = Plan.e x := by
 cases x; simp only [Plan.e', Plan.e]
theorem Plan.cs_is : ∀ l : List Plan, Plan.cs l = l.map Plan.e
 | [] => rfl
 | x :: l => by rw [Plan.cs, Plan.e_is, Plan.cs_is l]; rfl
noncomputable def layout_measureF_l1 (p : Plan) (deep : Int) (rec34 : Plan → Int → Int → Option (Bool × Int)) (t47 : Int) (leaves' : Int) : Option ((Int × Int) ⊕ ((Plan × Int) ⊕ Int)) :=
 letB (decide (t47 < (p.Kids.length : Int))) fun c29 =>
 bif c29 then (
  (idx p.Kids t47).bind fun x31 =>
  letB (decide (p.Kind = 4)) fun c32 =>
  (bif c32 then (
   letB (decide (x31.Kind ≠ 1)) fun c34 =>
   some (c34)) else some false).bind fun g33 =>
  bif g33 then (
   bif true then (
    some (.inr (.inl (x31, leaves'))))
   else (
    some (.inl (w64 (t47 + 1), leaves'))))
  else (
   (rec34 x31 (w64 (deep + 1)) leaves').bind fun y37 =>
   bif (!y37.1) then (
    some (.inr (.inl (x31, y37.2))))
   else (
    some (.inl (w64 (t47 + 1), y37.2)))))
 else (
  some (.inr (.inr leaves')))
noncomputable def zbE (rec34 : Plan → Int → Int → Option (Bool × Int)) (p : Plan) (deep : Int) (leaves : Int) : Option (Bool × Int) :=
 letB (decide (deep > 12)) fun c1 =>
 (bif c1 then some true else (
  (zc2 p.Size).bind fun y3 =>
  letB (decide (y3 ≠ 0)) fun c4 =>
  some (c4))).bind fun g2 =>
 bif g2 then (
  some (false, leaves))
 else (
  Option.bind (
   letB (decide (p.Kind = 1)) fun c7 =>
   Option.bind (
    bif c7 then (
     letB (decide ((w64 (leaves + 1)) ≤ 24)) fun c9 =>
     some (.inr (c9, w64 (leaves + 1))))
    else (
     letB (decide (p.Kind = 2)) fun c10 =>
     Option.bind (
      bif c10 then (
       some (c10))
      else (
       letB (decide (p.Kind = 3)) fun c12 =>
       Option.bind (
        bif c12 then (
         some (c12))
        else (
         letB (decide (p.Kind = 4)) fun c14 =>
         some (c14)) : Option Bool) fun j15 =>
       some (j15)) : Option Bool) fun j16 =>
     bif j16 then (
      some (.inl ()))
     else (
      some (.inr (false, leaves)))) : Option (Unit ⊕ (Bool × Int))) fun j18 =>
   match j18 with
   | .inl z19 => (
    some (.inl ()))
   | .inr z20 => (
    some (.inr (z20.1, z20.2))) : Option (Unit ⊕ (Bool × Int))) fun j21 =>
  match j21 with
  | .inl z22 => (
   letB (decide ((p.Kids.length : Int) < 1)) fun c24 =>
   (bif c24 then some true else (
    letB (decide ((p.Kids.length : Int) > 16)) fun c26 =>
    some (c26))).bind fun g25 =>
   bif g25 then (
    some (false, leaves))
   else (
    (iter (fun s => layout_measureF_l1 p deep rec34 s.1 s.2 : (Int × Int) → Option ((Int × Int) ⊕ ((Plan × Int) ⊕ Int))) (0, leaves)).bind fun j40 =>
    match j40 with
    | .inl z41 => (
     some (false, z41.2))
    | .inr z42 => (
     some (true, z42))))
  | .inr z23 => (
   some (z23.1, z23.2)))
set_option maxRecDepth 20000 in
theorem zf2 {rec34 : Plan → Int → Int → Option (Bool × Int)} (rec34_ok : ∀ (a0 : Plan) (a1 : Int) (a2 : Int) (r : Bool × Int), rec34 a0 a1 a2 = some r → zak false (RF ET) 34 [.agg (Plan.e a0), .int .i64 a1, .ptr 0 0] [[.int .i64 a2]] (.bool r.1) [[.int .i64 r.2]]) {p : Plan} {deep : Int} {leaves : Int} {r : Bool × Int} (h : zbE rec34 p deep leaves = some r) : zak false (RF ET) 34 [.agg (Plan.e p), .int .i64 deep, .ptr 0 0] [[.int .i64 leaves]] (.bool r.1) [[.int .i64 r.2]] := by
 refine zaF (af := a34) rfl rfl ?_
 unfold zbE at h
 refine zaa ?_
 refine zac [1, 2, 3] [0] ?_
 refine zad ?_
 refine zaa ?_
 refine zaa ?_
 refine zac [1, 2, 3, 16] [0] ?_
 refine zat 3 ?_
 refine zad ?_
 refine fun c1 hc1 => ?_
 replace h := zae hc1 h
 obtain ⟨g2, hg2, h⟩ := zab h
 refine zaB 5 16 [1, 2, 3, 16] g2 ?_ ?_
 ·clear h
  replace h := hg2
  clear hg2
  cases hb5 : c1 with
  | false =>
   replace h := zal hb5 h
   refine zad ?_
   obtain ⟨y3, hy3, h⟩ := zab h
   refine ⟨_, zft hy3, ?_⟩
   refine fun c4 hc4 => ?_
   replace h := zae hc4 h
   cases h
   exact ⟨rfl, rfl, rfl⟩
  | true =>
   replace h := zam hb5 h
   cases h
   refine zad ?_
   exact ⟨rfl, rfl, rfl⟩
 refine zad ?_
 refine zag (b := g2) rfl (fun hb6 => ?_) (fun hb6 => ?_)
 ·replace h := zam hb6 h
  refine zaa ?_
  refine zac [6] [0] ?_
  refine zad ?_
  refine zap ?_
  cases h
  exact ⟨rfl, rfl, rfl, rfl, rfl⟩
 ·replace h := zal hb6 h
  refine zai ?_
  refine zaa ?_
  refine zaa ?_
  refine zac [1, 2, 3, 18] [0] ?_
  refine zad ?_
  obtain ⟨j21, hj21, h⟩ := zab h
  refine za7 j21 (fun r => match r with | .inl z => (.normal, [(1, .int .i64 deep), (2, .ptr 0 0), (3, .loc 0 0)], [(0, (Plan.e p))], [[.int .i64 leaves]]) | .inr z => (.ret, [(6, .bool z.1)], [(0, (Plan.e p))], [[.int .i64 z.2]])) (fun e => match e with | .normal => [1, 2, 3] | .ret => [6] | _ => []) (fun e => match e with | .normal => [0] | .ret => [0] | _ => []) ?_ ?_
  ·clear h
   replace h := hj21
   clear hj21
   refine zah ?_
   refine zaa ?_
   refine zac [1, 2, 3, 18, 19] [0] ?_
   refine zad ?_
   refine fun c7 hc7 => ?_
   replace h := zae hc7 h
   obtain ⟨j18, hj18, h⟩ := zab h
   refine za7 j18 (fun r => match r with | .inl z => (.normal, [(1, .int .i64 deep), (2, .ptr 0 0), (3, .loc 0 0)], [(0, (Plan.e p))], [[.int .i64 leaves]]) | .inr z => (.ret, [(6, .bool z.1)], [(0, (Plan.e p))], [[.int .i64 z.2]])) (fun e => match e with | .normal => [1, 2, 3] | .ret => [6] | _ => []) (fun e => match e with | .normal => [0] | .ret => [0] | _ => []) ?_ ?_
   ·clear h
    replace h := hj18
    clear hj18
    refine zag (b := c7) rfl (fun hb8 => ?_) (fun hb8 => ?_)
    ·replace h := zam hb8 h
     refine zaa ?_
     refine zac [2] [0] ?_
     refine zad ?_
     refine zaa ?_
     refine zac [6] [0] ?_
     refine zad ?_
     refine fun c9 hc9 => ?_
     replace h := zae hc9 h
     refine zap ?_
     cases h
     exact rfl
    ·replace h := zal hb8 h
     refine zaa ?_
     refine zaa ?_
     refine zac [1, 2, 3, 18, 30] [0] ?_
     refine zad ?_
     refine fun c10 hc10 => ?_
     replace h := zae hc10 h
     obtain ⟨j16, hj16, h⟩ := zab h
     refine za7 j16 (fun z => (.normal, [(1, .int .i64 deep), (2, .ptr 0 0), (3, .loc 0 0), (30, .bool z)], [(0, (Plan.e p))], [[.int .i64 leaves]])) (fun _ => [1, 2, 3, 30]) (fun _ => [0]) ?_ ?_
     ·clear h
      replace h := hj16
      clear hj16
      refine zag (b := c10) rfl (fun hb11 => ?_) (fun hb11 => ?_)
      ·replace h := zam hb11 h
       refine zai ?_
       cases h
       exact rfl
      ·replace h := zal hb11 h
       refine zaa ?_
       refine zac [1, 2, 3, 18, 30] [0] ?_
       refine zad ?_
       refine fun c12 hc12 => ?_
       replace h := zae hc12 h
       obtain ⟨j15, hj15, h⟩ := zab h
       refine za7 j15 (fun z => (.normal, [(1, .int .i64 deep), (2, .ptr 0 0), (3, .loc 0 0), (30, .bool z)], [(0, (Plan.e p))], [[.int .i64 leaves]])) (fun _ => [1, 2, 3, 30]) (fun _ => [0]) ?_ ?_
       ·clear h
        replace h := hj15
        clear hj15
        refine zag (b := c12) rfl (fun hb13 => ?_) (fun hb13 => ?_)
        ·replace h := zam hb13 h
         refine zai ?_
         cases h
         exact rfl
        ·replace h := zal hb13 h
         refine zac [1, 2, 3, 30] [0] ?_
         refine zad ?_
         refine fun c14 hc14 => ?_
         replace h := zae hc14 h
         cases h
         exact rfl
       cases h
       exact rfl
     refine zag (b := j16) rfl (fun hb17 => ?_) (fun hb17 => ?_)
     ·replace h := zam hb17 h
      refine zai ?_
      cases h
      exact rfl
     ·replace h := zal hb17 h
      refine zaa ?_
      refine zac [6] [0] ?_
      refine zad ?_
      refine zap ?_
      cases h
      exact rfl
   rcases j18 with z19 | z20
   ·cases h
    exact rfl
   ·cases h
    exact rfl
  rcases j21 with z22 | z23
  ·refine zaa ?_
   refine zaa ?_
   refine zac [1, 2, 3, 43] [0] ?_
   refine zat 5 ?_
   refine zad ?_
   refine ⟨_, (lenR Plan.cs_is).symm, ?_⟩
   refine fun c24 hc24 => ?_
   replace h := zae hc24 h
   obtain ⟨g25, hg25, h⟩ := zab h
   refine zaB 5 43 [1, 2, 3, 43] g25 ?_ ?_
   ·clear h
    replace h := hg25
    clear hg25
    cases hb27 : c24 with
    | false =>
     replace h := zal hb27 h
     refine zad ?_
     refine ⟨_, (lenR Plan.cs_is).symm, ?_⟩
     refine fun c26 hc26 => ?_
     replace h := zae hc26 h
     cases h
     exact ⟨rfl, rfl, rfl⟩
    | true =>
     replace h := zam hb27 h
     cases h
     refine zad ?_
     exact ⟨rfl, rfl, rfl⟩
   refine zad ?_
   refine zag (b := g25) rfl (fun hb28 => ?_) (fun hb28 => ?_)
   ·replace h := zam hb28 h
    refine zaa ?_
    refine zac [6] [0] ?_
    refine zad ?_
    refine zap ?_
    cases h
    exact ⟨rfl, rfl, rfl, rfl, rfl⟩
   ·replace h := zal hb28 h
    refine zai ?_
    refine zaa ?_
    refine zaa ?_
    refine zac [1, 2, 3, 45, 46, 47] [0] ?_
    refine zad ?_
    refine ⟨_, (lenR Plan.cs_is).symm, ?_⟩
    refine zah ?_
    obtain ⟨j40, hj40, h⟩ := zab h
    refine zaS hj40 [0] (fun s => ([(1, .int .i64 deep), (2, .ptr 0 0), (3, .loc 0 0), (45, .sl false 6 (Plan.cs p.Kids)), (46, .int .i64 (p.Kids.length : Int)), (47, .int .i64 s.1)], [(0, (Plan.e p))], [[.int .i64 s.2]])) (fun e => match e with | .ret => [6] | .exit 1 => [] | _ => []) (fun e => match e with | .ret => [0, 1] | .exit 1 => [0] | _ => []) (fun r => match r with | .inl z => (.ret, [(6, .bool false)], [(0, (Plan.e p)), (1, (Plan.e z.1))], [[.int .i64 z.2]]) | .inr z => (.exit 1, [], [(0, (Plan.e p))], [[.int .i64 z]])) ?_ ?_ ?_
    ·exact rfl
    ·clear h
     rintro ⟨t47, leaves'⟩ x h
     replace h : layout_measureF_l1 p deep rec34 t47 leaves' = some x := h
     unfold layout_measureF_l1 at h
     show T.WP _ _ [(1, .int .i64 deep), (2, .ptr 0 0), (3, .loc 0 0), (45, .sl false 6 (Plan.cs p.Kids)), (46, .int .i64 (p.Kids.length : Int)), (47, .int .i64 t47)] [(0, (Plan.e p))] [[.int .i64 leaves']] _
     refine zaa ?_
     refine zac [1, 2, 3, 45, 46, 47, 48] [0] ?_
     refine zad ?_
     refine fun c29 hc29 => ?_
     replace h := zae hc29 h
     refine zaa ?_
     refine zag (b := c29) rfl (fun hb30 => ?_) (fun hb30 => ?_)
     ·replace h := zam hb30 h
      refine zai ?_
      refine zaa ?_
      refine zah ?_
      refine zaa ?_
      refine zac [1, 2, 3, 8, 45, 46, 47] [0, 1] ?_
      refine zad ?_
      obtain ⟨x31, hx31, h⟩ := zab h
      refine And.intro (zbw hx31) ⟨_, zdS Plan.cs_is hx31, ?_⟩
      refine ⟨.sl true 6 [], .sl _ _, ?_⟩
      refine ⟨.sl false 4 [], .sl _ _, ?_⟩
      refine zaa ?_
      refine zac [1, 2, 3, 45, 46, 47, 60, 61, 62, 63, 64, 65, 66] [0, 1] ?_
      refine zat 4 ?_
      refine zad ?_
      refine fun c32 hc32 => ?_
      replace h := zae hc32 h
      obtain ⟨g33, hg33, h⟩ := zab h
      refine zaB 4 58 [1, 2, 3, 8, 45, 46, 47, 58] g33 ?_ ?_
      ·clear h
       replace h := hg33
       clear hg33
       cases hb35 : c32 with
       | true =>
        replace h := zam hb35 h
        refine zad ?_
        refine fun c34 hc34 => ?_
        replace h := zae hc34 h
        cases h
        exact ⟨rfl, rfl, rfl⟩
       | false =>
        replace h := zal hb35 h
        cases h
        refine zad ?_
        exact ⟨rfl, rfl, rfl⟩
      refine zad ?_
      cases hb36 : g33 with
      | true =>
       replace h := zam hb36 h
       refine zag (b := true) rfl (fun hb39 => ?_) (fun hb39 => ?_)
       ·replace h := zam hb39 h
        refine zaa ?_
        refine zac [6] [0, 1] ?_
        refine zad ?_
        refine zap ?_
        cases h
        exact ⟨_, rfl, rfl⟩
       ·replace h := zal hb39 h
        refine zai ?_
        refine zac [1, 2, 3, 45, 46, 47, 60, 61, 62, 63, 64, 65] [0, 1] ?_
        refine zad ?_
        cases h
        exact ⟨_, rfl, rfl⟩
      | false =>
       replace h := zal hb36 h
       obtain ⟨y37, hy37, h⟩ := zab h
       refine ⟨_, _, zak.sub (i := 0) (rec34_ok _ _ _ _ hy37) rfl _ rfl rfl rfl rfl, ?_⟩
       refine zag (b := (!y37.1)) rfl (fun hb38 => ?_) (fun hb38 => ?_)
       ·replace h := zam hb38 h
        refine zaa ?_
        refine zac [6] [0, 1] ?_
        refine zad ?_
        refine zap ?_
        cases h
        exact ⟨_, rfl, rfl⟩
       ·replace h := zal hb38 h
        refine zai ?_
        refine zac [1, 2, 3, 45, 46, 47, 61, 62, 63, 64, 65] [0, 1] ?_
        refine zad ?_
        cases h
        exact ⟨_, rfl, rfl⟩
     ·replace h := zal hb30 h
      refine zaR ?_
      cases h
      exact ⟨_, rfl, rfl⟩
    rcases j40 with z41 | z42
    ·cases h
     exact ⟨rfl, rfl, rfl, rfl, rfl⟩
    ·refine zaa ?_
     refine zac [6] [0] ?_
     refine zad ?_
     refine zap ?_
     cases h
     exact ⟨rfl, rfl, rfl, rfl, rfl⟩
  ·cases h
   exact ⟨rfl, rfl, rfl, rfl, rfl⟩
noncomputable def zbF : Nat → (Plan → Int → Int → Option (Bool × Int))
 | 0 => fun _ _ _ => none
 | k + 1 => zbE ((zbF k))
theorem zdT : ∀ k, (∀ (a0 : Plan) (a1 : Int) (a2 : Int) (r : Bool × Int), ((zbF k)) a0 a1 a2 = some r → zak false (RF ET) 34 [.agg (Plan.e a0), .int .i64 a1, .ptr 0 0] [[.int .i64 a2]] (.bool r.1) [[.int .i64 r.2]])
 | 0 => (fun _ _ _ _ h => by cases h)
 | k + 1 => (fun _ _ _ _ h => zf2 ((zdT k)) h)
noncomputable def zcu (a0 : Plan) (a1 : Int) (a2 : Int) : Option (Bool × Int) := (zbF 30) a0 a1 a2
theorem zd8 {a0 : Plan} {a1 : Int} {a2 : Int} {r : Bool × Int} (h : zcu a0 a1 a2 = some r) : zak false (RF ET) 34 [.agg (Plan.e a0), .int .i64 a1, .ptr 0 0] [[.int .i64 a2]] (.bool r.1) [[.int .i64 r.2]] := (zdT 30) a0 a1 a2 r h
noncomputable def zbx (p : Plan) : Option Int :=
 (zcu p 1 0).bind fun y1 =>
 (bif (!y1.1) then some true else (
  letB (decide ((p.Float.length : Int) > (w64 (24 - y1.2)))) fun c3 =>
  some (c3))).bind fun g2 =>
 bif g2 then (
  some 100)
 else (
  some 0)
set_option maxRecDepth 20000 in
theorem zcQ {p : Plan} {r : Int} (h : zbx p = some r) : zak true (RF ET) 15 [.agg (Plan.e p)] [] (.int .i64 r) [] := by
 refine zak.quiet (zaF (af := a15) rfl rfl ?_) rfl
 unfold zbx at h
 refine zaa ?_
 refine zac [1] [0] ?_
 refine zad ?_
 refine zaa ?_
 refine zac [1, 3] [0] ?_
 refine zad ?_
 refine zaa ?_
 refine zaa ?_
 refine zac [14] [0] ?_
 refine zat 4 ?_
 refine zad ?_
 obtain ⟨y1, hy1, h⟩ := zab h
 refine ⟨_, _, zak.sub (i := 0) (zd8 hy1) rfl _ rfl rfl rfl rfl, ?_⟩
 obtain ⟨g2, hg2, h⟩ := zab h
 refine zaB 7 14 [14] g2 ?_ ?_
 ·clear h
  replace h := hg2
  clear hg2
  cases hb4 : (!y1.1) with
  | false =>
   replace h := zal hb4 h
   refine zad ?_
   refine ⟨_, (yal ..).symm, ?_⟩
   refine fun c3 hc3 => ?_
   replace h := zae hc3 h
   cases h
   exact ⟨rfl, rfl, rfl⟩
  | true =>
   replace h := zam hb4 h
   cases h
   refine zad ?_
   exact ⟨rfl, rfl, rfl⟩
 refine zad ?_
 refine zag (b := g2) rfl (fun hb5 => ?_) (fun hb5 => ?_)
 ·replace h := zam hb5 h
  refine zaa ?_
  refine zac [2] [0] ?_
  refine zad ?_
  refine zap ?_
  cases h
  exact ⟨rfl, rfl, rfl, rfl, rfl⟩
 ·replace h := zal hb5 h
  refine zai ?_
  refine zaa ?_
  refine zac [2] [0] ?_
  refine zad ?_
  refine zap ?_
  cases h
  exact ⟨rfl, rfl, rfl, rfl, rfl⟩
noncomputable def zby (n : Int) (lo : Int) (hi : Int) : Option Int :=
 some (max lo (min n hi))
set_option maxRecDepth 20000 in
theorem zbR {n : Int} {lo : Int} {hi : Int} {r : Int} (h : zby n lo hi = some r) : zak true (RF ET) 55 [.int .i64 n, .int .i64 lo, .int .i64 hi] [] (.int .i64 r) [] := by
 refine zak.quiet (zaF (af := a55) rfl rfl ?_) rfl
 unfold zby at h
 refine zaa ?_
 refine zac [0, 1, 2] [] ?_
 refine zad ?_
 refine zaa ?_
 refine zac [6] [] ?_
 refine zad ?_
 refine zap ?_
 cases h
 exact ⟨rfl, rfl, rfl, rfl, rfl⟩
noncomputable def zbj (r_ : Rect) : Option Rect :=
 (zby r_.X (-5000) 5000).bind fun y1 =>
 (zby r_.Y (-5000) 5000).bind fun y2 =>
 (zby r_.W 0 (min 200 (w64 (5000 - y1)))).bind fun y3 =>
 (zby r_.H 0 (min 200 (w64 (5000 - y2)))).bind fun y4 =>
 letB (decide (y3 = 0)) fun c5 =>
 (bif c5 then some true else (
  letB (decide (y4 = 0)) fun c7 =>
  some (c7))).bind fun g6 =>
 bif g6 then (
  some (Rect.mk 0 0 0 0))
 else (
  some (Rect.mk y1 y2 y3 y4))
set_option maxRecDepth 20000 in
theorem zbd {r_ : Rect} {r : Rect} (h : zbj r_ = some r) : zak true (RF ET) 25 [.agg (Rect.c r_)] [] (.agg (Rect.c r)) [] := by
 refine zak.quiet (zaF (af := a25) rfl rfl ?_) rfl
 unfold zbj at h
 refine zaa ?_
 refine zac [1, 2] [0, 1] ?_
 refine zad ?_
 refine zaa ?_
 refine zac [1, 2] [0, 1] ?_
 refine zdI ?_
 obtain ⟨y1, hy1, h⟩ := zab h
 refine ⟨_, zbR hy1, ?_⟩
 obtain ⟨y2, hy2, h⟩ := zab h
 refine ⟨_, zbR hy2, ?_⟩
 refine zaa ?_
 refine zac [1, 2] [0, 1] ?_
 refine zdI ?_
 obtain ⟨y3, hy3, h⟩ := zab h
 refine ⟨_, zbR hy3, ?_⟩
 obtain ⟨y4, hy4, h⟩ := zab h
 refine ⟨_, zbR hy4, ?_⟩
 refine zaa ?_
 refine zaa ?_
 refine zac [1, 2, 34] [0, 1] ?_
 refine zat 4 ?_
 refine zad ?_
 refine fun c5 hc5 => ?_
 replace h := zae hc5 h
 obtain ⟨g6, hg6, h⟩ := zab h
 refine zaB 4 34 [1, 2, 34] g6 ?_ ?_
 ·clear h
  replace h := hg6
  clear hg6
  cases hb8 : c5 with
  | false =>
   replace h := zal hb8 h
   refine zad ?_
   refine fun c7 hc7 => ?_
   replace h := zae hc7 h
   cases h
   exact ⟨rfl, rfl, rfl⟩
  | true =>
   replace h := zam hb8 h
   cases h
   refine zad ?_
   exact ⟨rfl, rfl, rfl⟩
 refine zad ?_
 refine zag (b := g6) rfl (fun hb9 => ?_) (fun hb9 => ?_)
 ·replace h := zam hb9 h
  refine zaa ?_
  refine zac [2] [0, 1] ?_
  refine zad ?_
  refine zap ?_
  cases h
  exact ⟨rfl, rfl, rfl, rfl, rfl⟩
 ·replace h := zal hb9 h
  refine zai ?_
  refine zaa ?_
  refine zac [2] [0, 1] ?_
  refine zad ?_
  refine zap ?_
  cases h
  exact ⟨rfl, rfl, rfl, rfl, rfl⟩
noncomputable def zfe (a : Int) (b : Int) : Option Int :=
 letB (decide (a > 0)) fun c1 =>
 (bif c1 then (
  letB (decide (b > 0)) fun c3 =>
  some (c3)) else some false).bind fun g2 =>
 (bif g2 then (
  letB (decide ((w64 (a + b)) < 0)) fun c6 =>
  some (c6)) else some false).bind fun g5 =>
 bif g5 then (
  some 9223372036854775807)
 else (
  letB (decide (a < 0)) fun c9 =>
  (bif c9 then (
   letB (decide (b < 0)) fun c11 =>
   some (c11)) else some false).bind fun g10 =>
  (bif g10 then (
   letB (decide ((w64 (a + b)) ≥ 0)) fun c14 =>
   some (c14)) else some false).bind fun g13 =>
  bif g13 then (
   some (-9223372036854775808))
  else (
   some (w64 (a + b))))
set_option maxRecDepth 20000 in
theorem zhS {a : Int} {b : Int} {r : Int} (h : zfe a b = some r) : zak true (RF ET) 60 [.int .i64 a, .int .i64 b] [] (.int .i64 r) [] := by
 refine zak.quiet (zaF (af := a60) rfl rfl ?_) rfl
 unfold zfe at h
 refine zaa ?_
 refine zac [0, 1] [] ?_
 refine zad ?_
 refine zaa ?_
 refine zac [0, 1, 5] [] ?_
 refine zad ?_
 refine zah ?_
 refine zaa ?_
 refine zac [0, 1, 5, 10] [] ?_
 refine zat 3 ?_
 refine zad ?_
 refine fun c1 hc1 => ?_
 replace h := zae hc1 h
 obtain ⟨g2, hg2, h⟩ := zab h
 refine zaB 3 16 [0, 1, 5, 16] g2 ?_ ?_
 ·clear h
  replace h := hg2
  clear hg2
  cases hb4 : c1 with
  | true =>
   replace h := zam hb4 h
   refine zad ?_
   refine fun c3 hc3 => ?_
   replace h := zae hc3 h
   cases h
   exact ⟨rfl, rfl, rfl⟩
  | false =>
   replace h := zal hb4 h
   cases h
   refine zad ?_
   exact ⟨rfl, rfl, rfl⟩
 refine zat 1 ?_
 refine zad ?_
 obtain ⟨g5, hg5, h⟩ := zab h
 refine zaB 3 20 [0, 1, 5, 20] g5 ?_ ?_
 ·clear h
  replace h := hg5
  clear hg5
  cases hb7 : g2 with
  | true =>
   replace h := zam hb7 h
   refine zad ?_
   refine fun c6 hc6 => ?_
   replace h := zae hc6 h
   cases h
   exact ⟨rfl, rfl, rfl⟩
  | false =>
   replace h := zal hb7 h
   cases h
   refine zad ?_
   exact ⟨rfl, rfl, rfl⟩
 refine zad ?_
 refine zag (b := g5) rfl (fun hb8 => ?_) (fun hb8 => ?_)
 ·replace h := zam hb8 h
  refine zaa ?_
  refine zac [4] [] ?_
  refine zad ?_
  refine zap ?_
  cases h
  exact ⟨rfl, rfl, rfl, rfl, rfl⟩
 ·replace h := zal hb8 h
  refine zaa ?_
  refine zac [5, 21] [] ?_
  refine zat 3 ?_
  refine zad ?_
  refine fun c9 hc9 => ?_
  replace h := zae hc9 h
  obtain ⟨g10, hg10, h⟩ := zab h
  refine zaB 3 27 [5, 27] g10 ?_ ?_
  ·clear h
   replace h := hg10
   clear hg10
   cases hb12 : c9 with
   | true =>
    replace h := zam hb12 h
    refine zad ?_
    refine fun c11 hc11 => ?_
    replace h := zae hc11 h
    cases h
    exact ⟨rfl, rfl, rfl⟩
   | false =>
    replace h := zal hb12 h
    cases h
    refine zad ?_
    exact ⟨rfl, rfl, rfl⟩
  refine zat 1 ?_
  refine zad ?_
  obtain ⟨g13, hg13, h⟩ := zab h
  refine zaB 3 31 [5, 31] g13 ?_ ?_
  ·clear h
   replace h := hg13
   clear hg13
   cases hb15 : g10 with
   | true =>
    replace h := zam hb15 h
    refine zad ?_
    refine fun c14 hc14 => ?_
    replace h := zae hc14 h
    cases h
    exact ⟨rfl, rfl, rfl⟩
   | false =>
    replace h := zal hb15 h
    cases h
    refine zad ?_
    exact ⟨rfl, rfl, rfl⟩
  refine zad ?_
  refine zag (b := g13) rfl (fun hb16 => ?_) (fun hb16 => ?_)
  ·replace h := zam hb16 h
   refine zaa ?_
   refine zac [4] [] ?_
   refine zad ?_
   refine zap ?_
   cases h
   exact ⟨rfl, rfl, rfl, rfl, rfl⟩
  ·replace h := zal hb16 h
   refine zaa ?_
   refine zac [4] [] ?_
   refine zad ?_
   refine zap ?_
   cases h
   exact ⟨rfl, rfl, rfl, rfl, rfl⟩
noncomputable def zd9 (r_ : Rect) (dx : Int) (dy : Int) : Option Rect :=
 (zbj r_).bind fun y1 =>
 (zfe y1.X dx).bind fun y2 =>
 (zfe y1.Y dy).bind fun y3 =>
 (zbj ({ y1 with X := y2, Y := y3 })).bind fun y4 =>
 some y4
set_option maxRecDepth 20000 in
theorem zjg {r_ : Rect} {dx : Int} {dy : Int} {r : Rect} (h : zd9 r_ dx dy = some r) : zak true (RF ET) 28 [.agg (Rect.c r_), .int .i64 dx, .int .i64 dy] [] (.agg (Rect.c r)) [] := by
 refine zak.quiet (zaF (af := a28) rfl rfl ?_) rfl
 unfold zd9 at h
 refine zaa ?_
 refine zac [1, 2, 3, 6] [0, 1] ?_
 refine zad ?_
 refine zaa ?_
 refine zac [1, 2, 3, 6] [0, 1] ?_
 refine zad ?_
 obtain ⟨y1, hy1, h⟩ := zab h
 refine ⟨_, zbd hy1, ?_⟩
 refine zaa ?_
 refine zac [3, 6] [0, 1] ?_
 refine zdI ?_
 obtain ⟨y2, hy2, h⟩ := zab h
 refine ⟨_, zhS hy2, ?_⟩
 obtain ⟨y3, hy3, h⟩ := zab h
 refine ⟨_, zhS hy3, ?_⟩
 refine zaa ?_
 refine zac [6] [0, 1] ?_
 refine zad ?_
 obtain ⟨y4, hy4, h⟩ := zab h
 refine ⟨_, zbd hy4, ?_⟩
 refine zap ?_
 cases h
 exact ⟨rfl, rfl, rfl, rfl, rfl⟩
structure Spot where
 Pane : Int
 Rect : Rect
 Z : Int
 Title : Bool
def Spot.c (x : Spot) : List TV := [.int .i64 x.Pane, .int .i64 x.Rect.X, .int .i64 x.Rect.Y, .int .i64 x.Rect.W, .int .i64 x.Rect.H, .int .i64 x.Z, .bool x.Title]
structure Placer where
 spots : List Spot
def Placer.c (x : Placer) : List TV := [.sl true 7 (List.map Spot.c x.spots)]
noncomputable def zaX (x_ : Placer) (r_ : Rect) (z_ : Int) (title : Bool) : Option Placer :=
 (app x_.spots [(Spot.mk (x_.spots.length : Int) r_ z_ title)]).bind fun x1 =>
 some (Placer.mk x1)
set_option maxRecDepth 20000 in
theorem zb3 {x_ : Placer} {r_ : Rect} {z_ : Int} {title : Bool} {r : Placer} (h : zaX x_ r_ z_ title = some r) : zak false (RF ET) 36 [.ptr 0 0, .agg (Rect.c r_), .int .i64 z_, .bool title] [(Placer.c x_)] (.tuple []) [(Placer.c r)] := by
 refine zaF (af := a36) rfl rfl ?_
 unfold zaX at h
 refine zaa ?_
 refine zac [0, 2, 3, 5] [0] ?_
 refine zad ?_
 refine zac [] [0] ?_
 refine zdI ?_
 refine ⟨_, (yal ..).symm, ?_⟩
 refine ⟨(List.map Spot.c ([(Spot.mk (x_.spots.length : Int) r_ z_ title)] : List Spot)), rfl, ?_⟩
 obtain ⟨x1, hx1, h⟩ := zab h
 refine And.intro (zdJ Spot.c hx1) ⟨_, zdK Spot.c hx1, ?_⟩
 cases h
 exact ⟨rfl, rfl, rfl, rfl, rfl⟩
noncomputable def zcR (s_ : Size) : Option Bool :=
 (zc2 s_).bind fun y1 =>
 letB (decide (y1 ≠ 0)) fun c2 =>
 some c2
set_option maxRecDepth 20000 in
theorem zgT {s_ : Size} {r : Bool} (h : zcR s_ = some r) : zak true (RF ET) 57 [.agg (Size.c s_)] [] (.bool r) [] := by
 refine zak.quiet (zaF (af := a57) rfl rfl ?_) rfl
 unfold zcR at h
 refine zaa ?_
 refine zac [1] [0] ?_
 refine zad ?_
 refine zaa ?_
 refine zac [2] [0] ?_
 refine zad ?_
 obtain ⟨y1, hy1, h⟩ := zab h
 refine ⟨_, zft hy1, ?_⟩
 refine fun c2 hc2 => ?_
 replace h := zae hc2 h
 refine zap ?_
 cases h
 exact ⟨rfl, rfl, rfl, rfl, rfl⟩
noncomputable def slices_IndexFunc_80_l1 (s_ : List Size) (f : Nat) (t8 : Int) : Option (Int ⊕ (Int ⊕ Unit)) :=
 letB (decide (t8 < (s_.length : Int))) fun c1 =>
 bif c1 then (
  (idx s_ t8).bind fun x3 =>
  ((bif decide (f = 57) then zcR x3 else none : Option Bool)).bind fun y4 =>
  bif y4 then (
   some (.inr (.inl t8)))
  else (
   some (.inl (w64 (t8 + 1)))))
 else (
  some (.inr (.inr ())))
noncomputable def zcc (s_ : List Size) (f : Nat) : Option Int :=
 (iter (fun s => slices_IndexFunc_80_l1 s_ f s : Int → Option (Int ⊕ (Int ⊕ Unit))) 0).bind fun j7 =>
 match j7 with
 | .inl z8 => (
  some z8)
 | .inr z9 => (
  some (-1))
set_option maxRecDepth 20000 in
theorem zeB {s_ : List Size} {f : Nat} {r : Int} (h : zcc s_ f = some r) : zak true (RF ET) 80 [.sl false 2 (List.map Size.c s_), .func f []] [] (.int .i64 r) [] := by
 refine zak.quiet (zaF (af := a80) rfl rfl ?_) rfl
 unfold zcc at h
 refine zaa ?_
 refine zac [0, 1] [] ?_
 refine zad ?_
 refine zaa ?_
 refine zaa ?_
 refine zac [0, 1, 7, 8] [] ?_
 refine zad ?_
 refine ⟨_, (yal ..).symm, ?_⟩
 refine zah ?_
 obtain ⟨j7, hj7, h⟩ := zab h
 refine zaS hj7 [] (fun s => ([(0, .sl false 2 (List.map Size.c s_)), (1, .func f []), (7, .int .i64 (s_.length : Int)), (8, .int .i64 s)], [], [])) (fun e => match e with | .ret => [4] | .exit 0 => [] | _ => []) (fun e => match e with | .ret => [] | .exit 0 => [] | _ => []) (fun r => match r with | .inl z => (.ret, [(4, .int .i64 z)], [], []) | .inr z => (.exit 0, [], [], [])) ?_ ?_ ?_
 ·exact rfl
 ·clear h
  rintro t8 x h
  replace h : slices_IndexFunc_80_l1 s_ f t8 = some x := h
  unfold slices_IndexFunc_80_l1 at h
  show T.WP _ _ [(0, .sl false 2 (List.map Size.c s_)), (1, .func f []), (7, .int .i64 (s_.length : Int)), (8, .int .i64 t8)] [] [] _
  refine zaa ?_
  refine zac [0, 1, 7, 8, 9] [] ?_
  refine zad ?_
  refine fun c1 hc1 => ?_
  replace h := zae hc1 h
  refine zaa ?_
  refine zag (b := c1) rfl (fun hb2 => ?_) (fun hb2 => ?_)
  ·replace h := zam hb2 h
   refine zai ?_
   refine zaa ?_
   refine zah ?_
   refine zaa ?_
   refine zac [0, 1, 5, 7, 8] [] ?_
   refine zad ?_
   refine zaa ?_
   refine zac [0, 1, 5, 7, 8, 16] [] ?_
   refine zad ?_
   obtain ⟨x3, hx3, h⟩ := zab h
   refine And.intro (zbw hx3) ⟨_, zaD Size.c hx3, ?_⟩
   refine And.intro rfl ?_
   obtain ⟨y4, hy4, h⟩ := zab h
   have d5 : ∀ {r : Bool}, (bif decide (f = 57) then zcR x3 else none : Option Bool) = some r → zak true (RF ET) f [.agg (Size.c x3)] [] (.bool r) [] := by
    intro r h
    by_cases hq : f = 57
    ·rw [hq] at h ⊢
     exact zgT h
    replace h := zal (yau hq) h
    cases h
   refine ⟨_, _, zak.any (d5 hy4) rfl _ rfl, ?_⟩
   refine zag (b := y4) rfl (fun hb6 => ?_) (fun hb6 => ?_)
   ·replace h := zam hb6 h
    refine zaa ?_
    refine zac [4] [] ?_
    refine zad ?_
    refine zap ?_
    cases h
    exact ⟨_, rfl, rfl⟩
   ·replace h := zal hb6 h
    refine zai ?_
    refine zac [0, 1, 7, 8] [] ?_
    refine zad ?_
    cases h
    exact ⟨_, rfl, rfl⟩
  ·replace h := zal hb2 h
   refine zaR ?_
   cases h
   exact ⟨_, rfl, rfl⟩
 rcases j7 with z8 | z9
 ·cases h
  exact ⟨rfl, rfl, rfl, rfl, rfl⟩
 ·refine zaa ?_
  refine zac [4] [] ?_
  refine zad ?_
  refine zap ?_
  cases h
  exact ⟨rfl, rfl, rfl, rfl, rfl⟩
noncomputable def za8 (s_ : List Size) (f : Nat) : Option Bool :=
 (zcc s_ f).bind fun y1 =>
 letB (decide (y1 ≥ 0)) fun c2 =>
 some c2
set_option maxRecDepth 20000 in
theorem zdV {s_ : List Size} {f : Nat} {r : Bool} (h : za8 s_ f = some r) : zak true (RF ET) 56 [.sl false 2 (List.map Size.c s_), .func f []] [] (.bool r) [] := by
 refine zak.quiet (zaF (af := a56) rfl rfl ?_) rfl
 unfold za8 at h
 refine zaa ?_
 refine zac [0, 1] [] ?_
 refine zad ?_
 refine zaa ?_
 refine zac [4] [] ?_
 refine zad ?_
 obtain ⟨y1, hy1, h⟩ := zab h
 refine ⟨_, _, zak.any (zeB hy1) rfl _ rfl, ?_⟩
 refine fun c2 hc2 => ?_
 replace h := zae hc2 h
 refine zap ?_
 cases h
 exact ⟨rfl, rfl, rfl, rfl, rfl⟩
noncomputable def zdL (total : Int) (s_ : Size) : Option Int :=
 letB (decide (s_.Kind = 1)) fun c1 =>
 bif c1 then (
  some s_.N)
 else (
  letB (decide (s_.Kind = 2)) fun c3 =>
  bif c3 then (
   some (max (w64 (Int.tdiv (w64 (total * s_.N)) 100)) 1))
  else (
   some 1))
set_option maxRecDepth 20000 in
theorem zif {total : Int} {s_ : Size} {r : Int} (h : zdL total s_ = some r) : zak true (RF ET) 59 [.int .i64 total, .agg (Size.c s_)] [] (.int .i64 r) [] := by
 refine zak.quiet (zaF (af := a59) rfl rfl ?_) rfl
 unfold zdL at h
 refine zaa ?_
 refine zac [0, 3] [0] ?_
 refine zad ?_
 refine zaa ?_
 refine zaa ?_
 refine zac [0, 3, 6] [0] ?_
 refine zad ?_
 refine zah ?_
 refine zaa ?_
 refine zac [0, 3, 6, 7] [0] ?_
 refine zad ?_
 refine fun c1 hc1 => ?_
 replace h := zae hc1 h
 refine zag (b := c1) rfl (fun hb2 => ?_) (fun hb2 => ?_)
 ·replace h := zam hb2 h
  refine zaa ?_
  refine zac [4] [0] ?_
  refine zad ?_
  refine zap ?_
  cases h
  exact ⟨rfl, rfl, rfl, rfl, rfl⟩
 ·replace h := zal hb2 h
  refine zaa ?_
  refine zac [0, 3, 11] [0] ?_
  refine zad ?_
  refine fun c3 hc3 => ?_
  replace h := zae hc3 h
  refine zag (b := c3) rfl (fun hb4 => ?_) (fun hb4 => ?_)
  ·replace h := zam hb4 h
   refine zaa ?_
   refine zac [4] [0] ?_
   refine zad ?_
   refine And.intro (by decide) ?_
   refine zap ?_
   cases h
   exact ⟨rfl, rfl, rfl, rfl, rfl⟩
  ·replace h := zal hb4 h
   refine zai ?_
   refine zaa ?_
   refine zac [4] [0] ?_
   refine zad ?_
   refine zap ?_
   cases h
   exact ⟨rfl, rfl, rfl, rfl, rfl⟩
noncomputable def solve_Share_l1 (total : Int) (sizes : List Size) (out : List Int) (flex : List Int) (left : Int) (t39 : Int) : Option ((List Int × List Int × Int × Int) ⊕ (List Int × List Int × Int)) :=
 letB (decide (t39 < (sizes.length : Int))) fun c13 =>
 bif c13 then (
  Option.bind (
   (idx sizes t39).bind fun x15 =>
   (zdL total x15).bind fun y16 =>
   (app out [y16]).bind fun x17 =>
   (idx x17 t39).bind fun x18 =>
   letB (decide (x15.Kind = 0)) fun c19 =>
   Option.bind (
    bif c19 then (
     (app flex [t39]).bind fun x21 =>
     some (x21))
    else (
     some (flex)) : Option (List Int)) fun j22 =>
   some ((x17, j22, w64 (left - x18), x15)) : Option (List Int × List Int × Int × Size)) fun j23 =>
  some (.inl (j23.1, j23.2.1, j23.2.2.1, w64 (t39 + 1))))
 else (
  some (.inr (out, flex, left)))
noncomputable def solve_Share_l2 (out' : List Int) (left' : Int) (i : Int) : Option ((List Int × Int × Int) ⊕ (List Int × Int)) :=
 letB (decide (left' < 0)) fun c25 =>
 bif c25 then (
  (idx out' i).bind fun x27 =>
  (idx out' i).bind fun x28 =>
  (idx out' i).bind fun x29 =>
  some (.inl (upI out' i (w64 (x28 - (min (w64 (x27 - 1)) (w64 (0 - left'))))), w64 (left' + (min (w64 (x27 - 1)) (w64 (0 - left')))), w64 (i - 1))))
 else (
  some (.inr (out', left')))
noncomputable def solve_Share_l3 (j24 : List Int × List Int × Int) (j30 : List Int × Int) (out'' : List Int) (t104 : Int) : Option ((List Int × Int) ⊕ List Int) :=
 letB (decide (t104 < (j24.2.1.length : Int))) fun c35 =>
 bif c35 then (
  Option.bind (
   (idx j24.2.1 t104).bind fun x37 =>
   (idx out'' x37).bind fun x38 =>
   (req (decide ((j24.2.1.length : Int) ≠ 0))).bind fun x39 =>
   (idx out'' x37).bind fun x40 =>
   (req (decide ((j24.2.1.length : Int) ≠ 0))).bind fun x41 =>
   letB (decide (t104 < (Int.tmod j30.2 (j24.2.1.length : Int)))) fun c42 =>
   Option.bind (
    bif c42 then (
     (idx (upI out'' x37 (w64 (x38 + (w64 (Int.tdiv j30.2 (j24.2.1.length : Int)))))) x37).bind fun x44 =>
     (idx (upI out'' x37 (w64 (x38 + (w64 (Int.tdiv j30.2 (j24.2.1.length : Int)))))) x37).bind fun x45 =>
     some (upI (upI out'' x37 (w64 (x38 + (w64 (Int.tdiv j30.2 (j24.2.1.length : Int)))))) x37 (w64 (x44 + 1))))
    else (
     some (upI out'' x37 (w64 (x38 + (w64 (Int.tdiv j30.2 (j24.2.1.length : Int))))))) : Option (List Int)) fun j46 =>
   some (j46) : Option (List Int)) fun j47 =>
  some (.inl (j47, w64 (t104 + 1))))
 else (
  some (.inr out''))
noncomputable def zba (total : Int) (sizes : List Size) : Option (List Int × Int) :=
 letB (decide ((sizes.length : Int) = 0)) fun c1 =>
 (bif c1 then some true else (
  letB (decide (total > 200)) fun c3 =>
  some (c3))).bind fun g2 =>
 (bif g2 then some true else (
  (za8 sizes 57).bind fun y6 =>
  some (y6))).bind fun g5 =>
 bif g5 then (
  some ([], 1))
 else (
  letB (decide ((sizes.length : Int) > 16)) fun c9 =>
  bif c9 then (
   some ([], 3))
  else (
   letB (decide (total < (sizes.length : Int))) fun c11 =>
   bif c11 then (
    some ([], 90))
   else (
    (iter (fun s => solve_Share_l1 total sizes s.1 s.2.1 s.2.2.1 s.2.2.2 : (List Int × List Int × Int × Int) → Option ((List Int × List Int × Int × Int) ⊕ (List Int × List Int × Int))) ([], [], total, 0)).bind fun j24 =>
    (iter (fun s => solve_Share_l2 s.1 s.2.1 s.2.2 : (List Int × Int × Int) → Option ((List Int × Int × Int) ⊕ (List Int × Int))) (j24.1, j24.2.2, w64 ((j24.1.length : Int) - 1))).bind fun j30 =>
    letB (decide ((j24.2.1.length : Int) = 0)) fun c31 =>
    bif c31 then (
     (idx j30.1 (w64 ((j30.1.length : Int) - 1))).bind fun x33 =>
     (idx j30.1 (w64 ((j30.1.length : Int) - 1))).bind fun x34 =>
     some (upI j30.1 (w64 ((j30.1.length : Int) - 1)) (w64 (x33 + j30.2)), 0))
    else (
     (iter (fun s => solve_Share_l3 j24 j30 s.1 s.2 : (List Int × Int) → Option ((List Int × Int) ⊕ List Int)) (j30.1, 0)).bind fun j48 =>
     some (j48, 0)))))
set_option maxRecDepth 20000 in
theorem zig {total : Int} {sizes : List Size} {r : List Int × Int} (h : zba total sizes = some r) : zak true (RF ET) 27 [.int .i64 total, .sl false 2 (List.map Size.c sizes)] [] (.tuple [.sl false 1 (List.map ei64 r.1), .int .i64 r.2]) [] := by
 refine zak.quiet (zaF (af := a27) rfl rfl ?_) rfl
 unfold zba at h
 refine zaa ?_
 refine zac [0, 1] [] ?_
 refine zad ?_
 refine ⟨.sl false 1 [], .sl _ _, ?_⟩
 refine zaa ?_
 refine zah ?_
 refine zaa ?_
 refine zac [0, 1, 15] [] ?_
 refine zat 4 ?_
 refine zad ?_
 refine ⟨_, (yal ..).symm, ?_⟩
 refine fun c1 hc1 => ?_
 replace h := zae hc1 h
 obtain ⟨g2, hg2, h⟩ := zab h
 refine zaB 3 22 [0, 1, 22] g2 ?_ ?_
 ·clear h
  replace h := hg2
  clear hg2
  cases hb4 : c1 with
  | false =>
   replace h := zal hb4 h
   refine zad ?_
   refine fun c3 hc3 => ?_
   replace h := zae hc3 h
   cases h
   exact ⟨rfl, rfl, rfl⟩
  | true =>
   replace h := zam hb4 h
   cases h
   refine zad ?_
   exact ⟨rfl, rfl, rfl⟩
 refine zat 1 ?_
 refine zad ?_
 obtain ⟨g5, hg5, h⟩ := zab h
 refine zaB 3 26 [0, 1, 26] g5 ?_ ?_
 ·clear h
  replace h := hg5
  clear hg5
  cases hb7 : g2 with
  | false =>
   replace h := zal hb7 h
   refine zad ?_
   obtain ⟨y6, hy6, h⟩ := zab h
   refine ⟨_, _, zak.any (zdV hy6) rfl _ rfl, ?_⟩
   cases h
   exact ⟨rfl, rfl, rfl⟩
  | true =>
   replace h := zam hb7 h
   cases h
   refine zad ?_
   exact ⟨rfl, rfl, rfl⟩
 refine zad ?_
 refine zag (b := g5) rfl (fun hb8 => ?_) (fun hb8 => ?_)
 ·replace h := zam hb8 h
  refine zaa ?_
  refine zac [4, 5] [] ?_
  refine zad ?_
  refine ⟨.sl false 1 [], .sl _ _, ?_⟩
  refine zap ?_
  cases h
  exact ⟨rfl, rfl, rfl, rfl, rfl⟩
 ·replace h := zal hb8 h
  refine zaa ?_
  refine zac [0, 1, 27] [] ?_
  refine zad ?_
  refine ⟨_, (yal ..).symm, ?_⟩
  refine fun c9 hc9 => ?_
  replace h := zae hc9 h
  refine zag (b := c9) rfl (fun hb10 => ?_) (fun hb10 => ?_)
  ·replace h := zam hb10 h
   refine zaa ?_
   refine zac [4, 5] [] ?_
   refine zad ?_
   refine ⟨.sl false 1 [], .sl _ _, ?_⟩
   refine zap ?_
   cases h
   exact ⟨rfl, rfl, rfl, rfl, rfl⟩
  ·replace h := zal hb10 h
   refine zaa ?_
   refine zac [0, 1, 31] [] ?_
   refine zad ?_
   refine ⟨_, (yal ..).symm, ?_⟩
   refine fun c11 hc11 => ?_
   replace h := zae hc11 h
   refine zag (b := c11) rfl (fun hb12 => ?_) (fun hb12 => ?_)
   ·replace h := zam hb12 h
    refine zaa ?_
    refine zac [4, 5] [] ?_
    refine zad ?_
    refine ⟨.sl false 1 [], .sl _ _, ?_⟩
    refine zap ?_
    cases h
    exact ⟨rfl, rfl, rfl, rfl, rfl⟩
   ·replace h := zal hb12 h
    refine zai ?_
    refine zaa ?_
    refine zac [0, 1, 6, 7] [] ?_
    refine zad ?_
    refine ⟨.sl true 1 [], .sl _ _, ?_⟩
    refine ⟨.sl true 1 [], .sl _ _, ?_⟩
    refine zaa ?_
    refine zac [0, 1, 6, 7, 8] [] ?_
    refine zad ?_
    refine zaa ?_
    refine zaa ?_
    refine zac [0, 6, 7, 8, 37, 38, 39] [] ?_
    refine zad ?_
    refine ⟨_, (yal ..).symm, ?_⟩
    refine zah ?_
    obtain ⟨j24, hj24, h⟩ := zab h
    refine zaS hj24 [] (fun s => ([(0, .int .i64 total), (6, .sl true 1 (List.map ei64 s.1)), (7, .sl true 1 (List.map ei64 s.2.1)), (8, .int .i64 s.2.2.1), (37, .sl false 2 (List.map Size.c sizes)), (38, .int .i64 (sizes.length : Int)), (39, .int .i64 s.2.2.2)], [], [])) (fun _ => [6, 7, 8]) (fun _ => []) (fun z => (.exit 1, [(6, .sl true 1 (List.map ei64 z.1)), (7, .sl true 1 (List.map ei64 z.2.1)), (8, .int .i64 z.2.2)], [], [])) ?_ ?_ ?_
    ·exact rfl
    ·clear h
     rintro ⟨out, flex, left, t39⟩ x h
     replace h : solve_Share_l1 total sizes out flex left t39 = some x := h
     unfold solve_Share_l1 at h
     show T.WP _ _ [(0, .int .i64 total), (6, .sl true 1 (List.map ei64 out)), (7, .sl true 1 (List.map ei64 flex)), (8, .int .i64 left), (37, .sl false 2 (List.map Size.c sizes)), (38, .int .i64 (sizes.length : Int)), (39, .int .i64 t39)] [] [] _
     refine zaa ?_
     refine zac [0, 6, 7, 8, 37, 38, 39, 40] [] ?_
     refine zad ?_
     refine fun c13 hc13 => ?_
     replace h := zae hc13 h
     refine zaa ?_
     refine zag (b := c13) rfl (fun hb14 => ?_) (fun hb14 => ?_)
     ·replace h := zam hb14 h
      refine zai ?_
      refine zaa ?_
      obtain ⟨j23, hj23, h⟩ := zab h
      refine za7 j23 (fun z => (.normal, [(0, .int .i64 total), (6, .sl true 1 (List.map ei64 z.1)), (7, .sl true 1 (List.map ei64 z.2.1)), (8, .int .i64 z.2.2.1), (37, .sl false 2 (List.map Size.c sizes)), (38, .int .i64 (sizes.length : Int)), (39, .int .i64 t39)], [(0, (Size.c z.2.2.2))], [])) (fun _ => [0, 6, 7, 8, 37, 38, 39]) (fun _ => [0]) ?_ ?_
      ·clear h
       replace h := hj23
       clear hj23
       refine zah ?_
       refine zaa ?_
       refine zac [0, 6, 7, 8, 9, 10, 37, 38, 39] [0] ?_
       refine zad ?_
       obtain ⟨x15, hx15, h⟩ := zab h
       refine And.intro (zbw hx15) ⟨_, zaD Size.c hx15, ?_⟩
       refine zaa ?_
       refine zac [0, 6, 7, 8, 9, 10, 37, 38, 39] [0] ?_
       refine zad ?_
       obtain ⟨y16, hy16, h⟩ := zab h
       refine ⟨_, zif hy16, ?_⟩
       refine ⟨(List.map ei64 ([y16] : List Int)), rfl, ?_⟩
       obtain ⟨x17, hx17, h⟩ := zab h
       refine And.intro (zdJ ei64 hx17) ⟨_, zdK ei64 hx17, ?_⟩
       refine zaa ?_
       refine zac [0, 6, 7, 8, 9, 10, 37, 38, 39] [0] ?_
       refine zad ?_
       obtain ⟨x18, hx18, h⟩ := zab h
       refine And.intro (zcr ei64 hx18) ?_
       refine ⟨_, zaD ei64 hx18, ?_⟩
       refine zaa ?_
       refine zac [0, 6, 7, 8, 9, 37, 38, 39, 58] [0] ?_
       refine zad ?_
       refine fun c19 hc19 => ?_
       replace h := zae hc19 h
       obtain ⟨j22, hj22, h⟩ := zab h
       refine za7 j22 (fun z => (.normal, [(0, .int .i64 total), (6, .sl true 1 (List.map ei64 x17)), (7, .sl true 1 (List.map ei64 z)), (8, .int .i64 (w64 (left - x18))), (37, .sl false 2 (List.map Size.c sizes)), (38, .int .i64 (sizes.length : Int)), (39, .int .i64 t39)], [(0, (Size.c x15))], [])) (fun _ => [0, 6, 7, 8, 37, 38, 39]) (fun _ => [0]) ?_ ?_
       ·clear h
        replace h := hj22
        clear hj22
        refine zag (b := c19) rfl (fun hb20 => ?_) (fun hb20 => ?_)
        ·replace h := zam hb20 h
         refine zac [0, 6, 7, 8, 37, 38, 39] [0] ?_
         refine zad ?_
         refine ⟨(List.map ei64 ([t39] : List Int)), rfl, ?_⟩
         obtain ⟨x21, hx21, h⟩ := zab h
         refine And.intro (zdJ ei64 hx21) ⟨_, zdK ei64 hx21, ?_⟩
         cases h
         exact rfl
        ·replace h := zal hb20 h
         refine zai ?_
         cases h
         exact rfl
       cases h
       exact rfl
      refine zac [0, 6, 7, 8, 37, 38, 39] [0] ?_
      refine zad ?_
      cases h
      exact ⟨_, rfl, rfl⟩
     ·replace h := zal hb14 h
      refine zaR ?_
      cases h
      exact ⟨_, rfl, rfl⟩
    refine zaa ?_
    refine zaa ?_
    refine zac [6, 7, 8, 11] [] ?_
    refine zad ?_
    refine ⟨_, (yal ..).symm, ?_⟩
    refine zah ?_
    obtain ⟨j30, hj30, h⟩ := zab h
    refine zaS hj30 [] (fun s => ([(6, .sl true 1 (List.map ei64 s.1)), (7, .sl true 1 (List.map ei64 j24.2.1)), (8, .int .i64 s.2.1), (11, .int .i64 s.2.2)], [], [])) (fun _ => [6, 7, 8]) (fun _ => []) (fun z => (.exit 3, [(6, .sl true 1 (List.map ei64 z.1)), (7, .sl true 1 (List.map ei64 j24.2.1)), (8, .int .i64 z.2)], [], [])) ?_ ?_ ?_
    ·exact rfl
    ·clear h
     rintro ⟨out', left', i⟩ x h
     replace h : solve_Share_l2 out' left' i = some x := h
     unfold solve_Share_l2 at h
     show T.WP _ _ [(6, .sl true 1 (List.map ei64 out')), (7, .sl true 1 (List.map ei64 j24.2.1)), (8, .int .i64 left'), (11, .int .i64 i)] [] [] _
     refine zaa ?_
     refine zaa ?_
     refine zac [6, 7, 8, 11, 68] [] ?_
     refine zad ?_
     refine fun c25 hc25 => ?_
     replace h := zae hc25 h
     refine zag (b := c25) rfl (fun hb26 => ?_) (fun hb26 => ?_)
     ·replace h := zam hb26 h
      refine zai ?_
      refine zaa ?_
      refine zah ?_
      refine zaa ?_
      refine zac [6, 7, 8, 11, 12] [] ?_
      refine zad ?_
      obtain ⟨x27, hx27, h⟩ := zab h
      refine And.intro (zcr ei64 hx27) ?_
      refine ⟨_, zaD ei64 hx27, ?_⟩
      refine zaa ?_
      refine zac [6, 7, 8, 11, 12] [] ?_
      refine zad ?_
      obtain ⟨x28, hx28, h⟩ := zab h
      refine And.intro (zcr ei64 hx28) ?_
      refine ⟨_, zaD ei64 hx28, ?_⟩
      obtain ⟨x29, hx29, h⟩ := zab h
      refine And.intro (zcr ei64 hx29) ?_
      refine ⟨_, zaD ei64 hx29, ?_⟩
      refine ⟨_, zgu (e := ei64) (i := i) (x := w64 (x28 - (min (w64 (x27 - 1)) (w64 (0 - left'))))) rfl, ?_⟩
      refine zac [6, 7, 8, 11] [] ?_
      refine zad ?_
      refine zac [6, 7, 8, 11] [] ?_
      refine zad ?_
      cases h
      exact ⟨_, rfl, rfl⟩
     ·replace h := zal hb26 h
      refine zaR ?_
      cases h
      exact ⟨_, rfl, rfl⟩
    refine zaa ?_
    refine zaa ?_
    refine zac [6, 7, 8, 91] [] ?_
    refine zad ?_
    refine ⟨_, (yal ..).symm, ?_⟩
    refine fun c31 hc31 => ?_
    replace h := zae hc31 h
    refine zag (b := c31) rfl (fun hb32 => ?_) (fun hb32 => ?_)
    ·replace h := zam hb32 h
     refine zaa ?_
     refine zac [6] [] ?_
     refine zad ?_
     refine ⟨_, (yal ..).symm, ?_⟩
     obtain ⟨x33, hx33, h⟩ := zab h
     refine And.intro (zcr ei64 hx33) ?_
     refine ⟨_, zaD ei64 hx33, ?_⟩
     obtain ⟨x34, hx34, h⟩ := zab h
     refine And.intro (zcr ei64 hx34) ?_
     refine ⟨_, zaD ei64 hx34, ?_⟩
     refine ⟨_, zgu (e := ei64) (i := w64 ((j30.1.length : Int) - 1)) (x := w64 (x33 + j30.2)) rfl, ?_⟩
     refine zaa ?_
     refine zac [4, 5] [] ?_
     refine zad ?_
     refine zap ?_
     cases h
     exact ⟨rfl, rfl, rfl, rfl, rfl⟩
    ·replace h := zal hb32 h
     refine zai ?_
     refine zaa ?_
     refine zaa ?_
     refine zac [6, 7, 8, 102, 103, 104] [] ?_
     refine zad ?_
     refine ⟨_, (yal ..).symm, ?_⟩
     refine zah ?_
     obtain ⟨j48, hj48, h⟩ := zab h
     refine zaS hj48 [] (fun s => ([(6, .sl true 1 (List.map ei64 s.1)), (7, .sl true 1 (List.map ei64 j24.2.1)), (8, .int .i64 j30.2), (102, .place (.tmp 7)), (103, .int .i64 (j24.2.1.length : Int)), (104, .int .i64 s.2)], [], [])) (fun _ => [6]) (fun _ => []) (fun z => (.exit 5, [(6, .sl true 1 (List.map ei64 z))], [], [])) ?_ ?_ ?_
     ·exact rfl
     ·clear h
      rintro ⟨out'', t104⟩ x h
      replace h : solve_Share_l3 j24 j30 out'' t104 = some x := h
      unfold solve_Share_l3 at h
      show T.WP _ _ [(6, .sl true 1 (List.map ei64 out'')), (7, .sl true 1 (List.map ei64 j24.2.1)), (8, .int .i64 j30.2), (102, .place (.tmp 7)), (103, .int .i64 (j24.2.1.length : Int)), (104, .int .i64 t104)] [] [] _
      refine zaa ?_
      refine zac [6, 7, 8, 102, 103, 104, 105] [] ?_
      refine zad ?_
      refine fun c35 hc35 => ?_
      replace h := zae hc35 h
      refine zaa ?_
      refine zag (b := c35) rfl (fun hb36 => ?_) (fun hb36 => ?_)
      ·replace h := zam hb36 h
       refine zai ?_
       refine zaa ?_
       obtain ⟨j47, hj47, h⟩ := zab h
       refine za7 j47 (fun z => (.normal, [(6, .sl true 1 (List.map ei64 z)), (7, .sl true 1 (List.map ei64 j24.2.1)), (8, .int .i64 j30.2), (102, .place (.tmp 7)), (103, .int .i64 (j24.2.1.length : Int)), (104, .int .i64 t104)], [], [])) (fun _ => [6, 7, 8, 102, 103, 104]) (fun _ => []) ?_ ?_
       ·clear h
        replace h := hj47
        clear hj47
        refine zah ?_
        refine zaa ?_
        refine zac [6, 7, 8, 13, 14, 102, 103, 104] [] ?_
        refine zad ?_
        obtain ⟨x37, hx37, h⟩ := zab h
        refine And.intro (zcr ei64 hx37) ?_
        refine ⟨_, zaD ei64 hx37, ?_⟩
        refine zaa ?_
        refine zac [6, 7, 8, 13, 14, 102, 103, 104] [] ?_
        refine zdI ?_
        obtain ⟨x38, hx38, h⟩ := zab h
        refine And.intro (zcr ei64 hx38) ?_
        refine ⟨_, zaD ei64 hx38, ?_⟩
        refine ⟨_, (yal ..).symm, ?_⟩
        obtain ⟨x39, hx39, h⟩ := zab h
        refine And.intro (zlB hx39) ?_
        obtain ⟨x40, hx40, h⟩ := zab h
        refine And.intro (zcr ei64 hx40) ?_
        refine ⟨_, zaD ei64 hx40, ?_⟩
        refine ⟨_, zgu (e := ei64) (i := x37) (x := w64 (x38 + (w64 (Int.tdiv j30.2 (j24.2.1.length : Int))))) rfl, ?_⟩
        refine zaa ?_
        refine zac [6, 7, 8, 14, 102, 103, 104, 124] [] ?_
        refine zad ?_
        refine ⟨_, (yal ..).symm, ?_⟩
        obtain ⟨x41, hx41, h⟩ := zab h
        refine And.intro (zlB hx41) ?_
        refine fun c42 hc42 => ?_
        replace h := zae hc42 h
        obtain ⟨j46, hj46, h⟩ := zab h
        refine za7 j46 (fun z => (.normal, [(6, .sl true 1 (List.map ei64 z)), (7, .sl true 1 (List.map ei64 j24.2.1)), (8, .int .i64 j30.2), (102, .place (.tmp 7)), (103, .int .i64 (j24.2.1.length : Int)), (104, .int .i64 t104)], [], [])) (fun _ => [6, 7, 8, 102, 103, 104]) (fun _ => []) ?_ ?_
        ·clear h
         replace h := hj46
         clear hj46
         refine zag (b := c42) rfl (fun hb43 => ?_) (fun hb43 => ?_)
         ·replace h := zam hb43 h
          refine zac [6, 7, 8, 102, 103, 104] [] ?_
          refine zad ?_
          obtain ⟨x44, hx44, h⟩ := zab h
          refine And.intro (zcr ei64 hx44) ?_
          refine ⟨_, zaD ei64 hx44, ?_⟩
          obtain ⟨x45, hx45, h⟩ := zab h
          refine And.intro (zcr ei64 hx45) ?_
          refine ⟨_, zaD ei64 hx45, ?_⟩
          refine ⟨_, zgu (e := ei64) (i := x37) (x := w64 (x44 + 1)) rfl, ?_⟩
          cases h
          exact rfl
         ·replace h := zal hb43 h
          refine zai ?_
          cases h
          exact rfl
        cases h
        exact rfl
       refine zac [6, 7, 8, 102, 103, 104] [] ?_
       refine zad ?_
       cases h
       exact ⟨_, rfl, rfl⟩
      ·replace h := zal hb36 h
       refine zaR ?_
       cases h
       exact ⟨_, rfl, rfl⟩
     refine zaa ?_
     refine zac [4, 5] [] ?_
     refine zad ?_
     refine zap ?_
     cases h
     exact ⟨rfl, rfl, rfl, rfl, rfl⟩
noncomputable def rect_Cut_l1 (across : Bool) (x2 : List Int) (out : List Rect) (t19 : Int) (r_' : Rect) : Option ((List Rect × Int × Rect) ⊕ (List Rect × Rect)) :=
 letB (decide (t19 < (x2.length : Int))) fun c3 =>
 bif c3 then (
  Option.bind (
   (idx x2 t19).bind fun x5 =>
   Option.bind (
    bif across then (
     (zby x5 0 r_'.H).bind fun y7 =>
     some (({ r_' with Y := w64 (r_'.Y + y7), H := w64 (r_'.H - y7) }, { r_' with H := y7 })))
    else (
     (zby x5 0 r_'.W).bind fun y8 =>
     some (({ r_' with X := w64 (r_'.X + y8), W := w64 (r_'.W - y8) }, { r_' with W := y8 }))) : Option (Rect × Rect)) fun j9 =>
   (zbj j9.2).bind fun y10 =>
   (app out [y10]).bind fun x11 =>
   some ((x11, j9.1, j9.2)) : Option (List Rect × Rect × Rect)) fun j12 =>
  some (.inl (j12.1, w64 (t19 + 1), j12.2.1)))
 else (
  some (.inr (out, r_')))
noncomputable def zff (r_ : Rect) (sizes : List Int) (across : Bool) : Option (List Rect) :=
 (zbj r_).bind fun y1 =>
 (subB sizes (min (sizes.length : Int) 16)).bind fun x2 =>
 (iter (fun s => rect_Cut_l1 across x2 s.1 s.2.1 s.2.2 : (List Rect × Int × Rect) → Option ((List Rect × Int × Rect) ⊕ (List Rect × Rect))) ([], 0, y1)).bind fun j13 =>
 some j13.1
set_option maxRecDepth 20000 in
theorem zhT {r_ : Rect} {sizes : List Int} {across : Bool} {r : List Rect} (h : zff r_ sizes across = some r) : zak true (RF ET) 81 [.agg (Rect.c r_), .sl false 1 (List.map ei64 sizes), .bool across] [] (.sl true 4 (List.map Rect.c r)) [] := by
 refine zak.quiet (zaF (af := a81) rfl rfl ?_) rfl
 unfold zff at h
 refine zaa ?_
 refine zac [1, 2, 3] [0] ?_
 refine zad ?_
 refine ⟨.sl false 4 [], .sl _ _, ?_⟩
 refine zaa ?_
 refine zac [1, 2, 3] [0] ?_
 refine zad ?_
 obtain ⟨y1, hy1, h⟩ := zab h
 refine ⟨_, zbd hy1, ?_⟩
 refine zaa ?_
 refine zac [1, 2, 3, 7] [0] ?_
 refine zad ?_
 refine ⟨.sl true 4 [], .sl _ _, ?_⟩
 refine zaa ?_
 refine zaa ?_
 refine zac [2, 3, 7, 17, 18, 19] [0] ?_
 refine zad ?_
 refine ⟨_, (yal ..).symm, ?_⟩
 obtain ⟨x2, hx2, h⟩ := zab h
 refine And.intro (zqu hx2) (And.intro (zp4 ei64 hx2) ⟨_, zp5 ei64 hx2, ?_⟩)
 refine ⟨_, (yal ..).symm, ?_⟩
 refine zah ?_
 obtain ⟨j13, hj13, h⟩ := zab h
 refine zaS hj13 [0] (fun s => ([(2, .bool across), (3, .loc 0 0), (7, .sl true 4 (List.map Rect.c s.1)), (17, .sl false 1 (List.map ei64 x2)), (18, .int .i64 (x2.length : Int)), (19, .int .i64 s.2.1)], [(0, (Rect.c s.2.2))], [])) (fun _ => [7]) (fun _ => [0]) (fun z => (.exit 0, [(7, .sl true 4 (List.map Rect.c z.1))], [(0, (Rect.c z.2))], [])) ?_ ?_ ?_
 ·exact rfl
 ·clear h
  rintro ⟨out, t19, r_'⟩ x h
  replace h : rect_Cut_l1 across x2 out t19 r_' = some x := h
  unfold rect_Cut_l1 at h
  show T.WP _ _ [(2, .bool across), (3, .loc 0 0), (7, .sl true 4 (List.map Rect.c out)), (17, .sl false 1 (List.map ei64 x2)), (18, .int .i64 (x2.length : Int)), (19, .int .i64 t19)] [(0, (Rect.c r_'))] [] _
  refine zaa ?_
  refine zac [2, 3, 7, 17, 18, 19, 20] [0] ?_
  refine zad ?_
  refine fun c3 hc3 => ?_
  replace h := zae hc3 h
  refine zaa ?_
  refine zag (b := c3) rfl (fun hb4 => ?_) (fun hb4 => ?_)
  ·replace h := zam hb4 h
   refine zai ?_
   refine zaa ?_
   obtain ⟨j12, hj12, h⟩ := zab h
   refine za7 j12 (fun z => (.normal, [(2, .bool across), (3, .loc 0 0), (7, .sl true 4 (List.map Rect.c z.1)), (17, .sl false 1 (List.map ei64 x2)), (18, .int .i64 (x2.length : Int)), (19, .int .i64 t19)], [(0, (Rect.c z.2.1)), (1, (Rect.c z.2.2))], [])) (fun _ => [2, 3, 7, 17, 18, 19]) (fun _ => [0, 1]) ?_ ?_
   ·clear h
    replace h := hj12
    clear hj12
    refine zah ?_
    refine zaa ?_
    refine zac [2, 3, 7, 9, 17, 18, 19] [0] ?_
    refine zad ?_
    obtain ⟨x5, hx5, h⟩ := zab h
    refine And.intro (zbw hx5) ⟨_, zaD ei64 hx5, ?_⟩
    refine zaa ?_
    refine zac [2, 3, 7, 9, 10, 17, 18, 19] [0, 1] ?_
    refine zad ?_
    refine zaa ?_
    refine zaa ?_
    refine zac [2, 3, 7, 9, 10, 17, 18, 19, 24] [0, 1] ?_
    refine zad ?_
    obtain ⟨j9, hj9, h⟩ := zab h
    refine za7 j9 (fun z => (.normal, [(2, .bool across), (3, .loc 0 0), (7, .sl true 4 (List.map Rect.c out)), (10, .loc 1 0), (17, .sl false 1 (List.map ei64 x2)), (18, .int .i64 (x2.length : Int)), (19, .int .i64 t19)], [(0, (Rect.c z.1)), (1, (Rect.c z.2))], [])) (fun _ => [2, 3, 7, 10, 17, 18, 19]) (fun _ => [0, 1]) ?_ ?_
    ·clear h
     replace h := hj9
     clear hj9
     refine zag (b := across) rfl (fun hb6 => ?_) (fun hb6 => ?_)
     ·replace h := zam hb6 h
      refine zaa ?_
      refine zac [2, 3, 7, 10, 17, 18, 19] [0, 1] ?_
      refine zad ?_
      obtain ⟨y7, hy7, h⟩ := zab h
      refine ⟨_, zbR hy7, ?_⟩
      refine zac [2, 3, 7, 10, 17, 18, 19] [0, 1] ?_
      refine zdI ?_
      cases h
      exact rfl
     ·replace h := zal hb6 h
      refine zaa ?_
      refine zac [2, 3, 7, 10, 17, 18, 19] [0, 1] ?_
      refine zad ?_
      obtain ⟨y8, hy8, h⟩ := zab h
      refine ⟨_, zbR hy8, ?_⟩
      refine zac [2, 3, 7, 10, 17, 18, 19] [0, 1] ?_
      refine zdI ?_
      cases h
      exact rfl
    refine zac [2, 3, 7, 17, 18, 19] [0, 1] ?_
    refine zad ?_
    obtain ⟨y10, hy10, h⟩ := zab h
    refine ⟨_, zbd hy10, ?_⟩
    refine ⟨(List.map Rect.c ([y10] : List Rect)), rfl, ?_⟩
    obtain ⟨x11, hx11, h⟩ := zab h
    refine And.intro (zdJ Rect.c hx11) ⟨_, zdK Rect.c hx11, ?_⟩
    cases h
    exact rfl
   refine zac [2, 3, 7, 17, 18, 19] [0, 1] ?_
   refine zad ?_
   cases h
   exact ⟨_, rfl, rfl⟩
  ·replace h := zal hb4 h
   refine zaR ?_
   cases h
   exact ⟨_, rfl, rfl⟩
 refine zaa ?_
 refine zac [6] [0] ?_
 refine zad ?_
 refine zap ?_
 cases h
 exact ⟨rfl, rfl, rfl, rfl, rfl⟩
noncomputable def layout_placer_layF_l8 (x6 : List Plan) (t24 : Int) (r_' : Rect) (x_' : Placer) : Option ((Int × Rect × Placer) ⊕ (Rect × Placer)) :=
 letB (decide (t24 < (x6.length : Int))) fun c7 =>
 bif c7 then (
  (zbj ({ r_' with H := min 1 (max (w64 (r_'.H - 1)) 0) })).bind fun y9 =>
  (zaX x_' y9 0 true).bind fun y10 =>
  some (.inl (w64 (t24 + 1), { r_' with Y := w64 (r_'.Y + (min 1 (max (w64 (r_'.H - 1)) 0))), H := w64 (r_'.H - (min 1 (max (w64 (r_'.H - 1)) 0))) }, y10)))
 else (
  some (.inr (r_', x_')))
noncomputable def za1 (rec35 : Placer → Plan → Rect → Option Placer) (rec62 : Placer → Plan → Rect → Option Placer) (x_ : Placer) (p : Plan) (r_ : Rect) : Option Placer :=
 Option.bind (
  letB (decide (p.Kind = 1)) fun c1 =>
  Option.bind (
   bif c1 then (
    (zaX x_ r_ 0 false).bind fun y3 =>
    some ((r_, y3)))
   else (
    letB (decide (p.Kind = 4)) fun c4 =>
    Option.bind (
     bif c4 then (
      (subA p.Kids 1).bind fun x6 =>
      (iter (fun s => layout_placer_layF_l8 x6 s.1 s.2.1 s.2.2 : (Int × Rect × Placer) → Option ((Int × Rect × Placer) ⊕ (Rect × Placer))) (0, r_, x_)).bind fun j11 =>
      (zbj j11.1).bind fun y12 =>
      (zaX j11.2 y12 0 false).bind fun y13 =>
      some ((j11.1, y13)))
     else (
      (rec62 x_ p r_).bind fun y14 =>
      some ((r_, y14))) : Option (Rect × Placer)) fun j15 =>
    some ((j15.1, j15.2))) : Option (Rect × Placer)) fun j16 =>
  some ((j16.1, j16.2)) : Option (Rect × Placer)) fun j17 =>
 some j17.2
set_option maxRecDepth 20000 in
theorem zeW {rec35 : Placer → Plan → Rect → Option Placer} {rec62 : Placer → Plan → Rect → Option Placer} (rec35_ok : ∀ (a0 : Placer) (a1 : Plan) (a2 : Rect) (r : Placer), rec35 a0 a1 a2 = some r → zak false (RF ET) 35 [.ptr 0 0, .agg (Plan.e a1), .agg (Rect.c a2)] [(Placer.c a0)] (.tuple []) [(Placer.c r)]) (rec62_ok : ∀ (a0 : Placer) (a1 : Plan) (a2 : Rect) (r : Placer), rec62 a0 a1 a2 = some r → zak false (RF ET) 62 [.ptr 0 0, .agg (Plan.e a1), .agg (Rect.c a2)] [(Placer.c a0)] (.tuple []) [(Placer.c r)]) {x_ : Placer} {p : Plan} {r_ : Rect} {r : Placer} (h : za1 rec35 rec62 x_ p r_ = some r) : zak false (RF ET) 35 [.ptr 0 0, .agg (Plan.e p), .agg (Rect.c r_)] [(Placer.c x_)] (.tuple []) [(Placer.c r)] := by
 refine zaF (af := a35) rfl rfl ?_
 unfold za1 at h
 refine zaa ?_
 refine zac [0, 4, 5] [0, 1] ?_
 refine zad ?_
 refine zaa ?_
 refine zac [0, 4, 5, 8] [0, 1] ?_
 refine zad ?_
 obtain ⟨j17, hj17, h⟩ := zab h
 refine za7 j17 (fun z => (.normal, [], [(0, (Plan.e p)), (1, (Rect.c z.1))], [(Placer.c z.2)])) (fun _ => []) (fun _ => [0, 1]) ?_ ?_
 ·clear h
  replace h := hj17
  clear hj17
  refine zah ?_
  refine zaa ?_
  refine zac [0, 4, 5, 8, 13] [0, 1] ?_
  refine zad ?_
  refine fun c1 hc1 => ?_
  replace h := zae hc1 h
  obtain ⟨j16, hj16, h⟩ := zab h
  refine za7 j16 (fun z => (.normal, [], [(0, (Plan.e p)), (1, (Rect.c z.1))], [(Placer.c z.2)])) (fun _ => []) (fun _ => [0, 1]) ?_ ?_
  ·clear h
   replace h := hj16
   clear hj16
   refine zag (b := c1) rfl (fun hb2 => ?_) (fun hb2 => ?_)
   ·replace h := zam hb2 h
    refine zac [] [0, 1] ?_
    refine zad ?_
    obtain ⟨y3, hy3, h⟩ := zab h
    refine ⟨_, _, zak.sub (i := 0) (zb3 hy3) rfl _ rfl rfl rfl rfl, ?_⟩
    cases h
    exact rfl
   ·replace h := zal hb2 h
    refine zaa ?_
    refine zac [0, 4, 5, 18] [0, 1] ?_
    refine zad ?_
    refine fun c4 hc4 => ?_
    replace h := zae hc4 h
    obtain ⟨j15, hj15, h⟩ := zab h
    refine za7 j15 (fun z => (.normal, [], [(0, (Plan.e p)), (1, (Rect.c z.1))], [(Placer.c z.2)])) (fun _ => []) (fun _ => [0, 1]) ?_ ?_
    ·clear h
     replace h := hj15
     clear hj15
     refine zag (b := c4) rfl (fun hb5 => ?_) (fun hb5 => ?_)
     ·replace h := zam hb5 h
      refine zaa ?_
      refine zaa ?_
      refine zac [0, 5, 23, 24] [0, 1] ?_
      refine zad ?_
      obtain ⟨x6, hx6, h⟩ := zab h
      refine And.intro (zqt hx6) (And.intro (zph Plan.cs_is hx6) ⟨_, zpi Plan.cs_is hx6, ?_⟩)
      refine ⟨_, (lenR Plan.cs_is).symm, ?_⟩
      refine zah ?_
      obtain ⟨j11, hj11, h⟩ := zab h
      refine zaS hj11 [0, 1] (fun s => ([(0, .ptr 0 0), (5, .loc 1 0), (23, .int .i64 (x6.length : Int)), (24, .int .i64 s.1)], [(0, (Plan.e p)), (1, (Rect.c s.2.1))], [(Placer.c s.2.2)])) (fun _ => [0, 5]) (fun _ => [0, 1]) (fun z => (.exit 1, [(0, .ptr 0 0), (5, .loc 1 0)], [(0, (Plan.e p)), (1, (Rect.c z.1))], [(Placer.c z.2)])) ?_ ?_ ?_
      ·exact rfl
      ·clear h
       rintro ⟨t24, r_', x_'⟩ x h
       replace h : layout_placer_layF_l8 x6 t24 r_' x_' = some x := h
       unfold layout_placer_layF_l8 at h
       show T.WP _ _ [(0, .ptr 0 0), (5, .loc 1 0), (23, .int .i64 (x6.length : Int)), (24, .int .i64 t24)] [(0, (Plan.e p)), (1, (Rect.c r_'))] [(Placer.c x_')] _
       refine zaa ?_
       refine zac [0, 5, 23, 24, 25] [0, 1] ?_
       refine zad ?_
       refine fun c7 hc7 => ?_
       replace h := zae hc7 h
       refine zaa ?_
       refine zag (b := c7) rfl (fun hb8 => ?_) (fun hb8 => ?_)
       ·replace h := zam hb8 h
        refine zai ?_
        refine zaa ?_
        refine zah ?_
        refine zaa ?_
        refine zac [0, 5, 6, 23, 24] [0, 1, 2] ?_
        refine zad ?_
        refine zaa ?_
        refine zac [0, 5, 6, 23, 24] [0, 1, 2] ?_
        refine zad ?_
        refine zaa ?_
        refine zac [0, 5, 6, 23, 24] [0, 1, 2] ?_
        refine zdI ?_
        refine zac [0, 5, 23, 24] [0, 1, 2] ?_
        refine zad ?_
        obtain ⟨y9, hy9, h⟩ := zab h
        refine ⟨_, zbd hy9, ?_⟩
        obtain ⟨y10, hy10, h⟩ := zab h
        refine ⟨_, _, zak.sub (i := 0) (zb3 hy10) rfl _ rfl rfl rfl rfl, ?_⟩
        refine zac [0, 5, 23, 24] [0, 1, 2] ?_
        refine zad ?_
        cases h
        exact ⟨_, rfl, rfl⟩
       ·replace h := zal hb8 h
        refine zaR ?_
        cases h
        exact ⟨_, rfl, rfl⟩
      refine zac [] [0, 1] ?_
      refine zad ?_
      obtain ⟨y12, hy12, h⟩ := zab h
      refine ⟨_, zbd hy12, ?_⟩
      obtain ⟨y13, hy13, h⟩ := zab h
      refine ⟨_, _, zak.sub (i := 0) (zb3 hy13) rfl _ rfl rfl rfl rfl, ?_⟩
      cases h
      exact rfl
     ·replace h := zal hb5 h
      refine zac [] [0, 1] ?_
      refine zad ?_
      obtain ⟨y14, hy14, h⟩ := zab h
      refine ⟨_, _, zak.sub (i := 0) (rec62_ok _ _ _ _ hy14) rfl _ rfl rfl rfl rfl, ?_⟩
      cases h
      exact rfl
    cases h
    exact rfl
  cases h
  exact rfl
 cases h
 exact ⟨rfl, rfl, rfl, rfl, rfl⟩
noncomputable def layout_placer_splitF_l1 (p : Plan) (sizes : List Size) (t27 : Int) : Option ((List Size × Int) ⊕ List Size) :=
 letB (decide (t27 < (p.Kids.length : Int))) fun c4 =>
 bif c4 then (
  (idx p.Kids t27).bind fun x6 =>
  (app sizes [x6.Size]).bind fun x7 =>
  some (.inl (x7, w64 (t27 + 1))))
 else (
  some (.inr sizes))
noncomputable def layout_placer_splitF_l3 (x12 : List Int) (lengths : List Int) (t50 : Int) : Option ((List Int × Int) ⊕ List Int) :=
 letB (decide (t50 < (x12.length : Int))) fun c13 =>
 bif c13 then (
  (idx lengths t50).bind fun x15 =>
  some (.inl (upI lengths t50 1, w64 (t50 + 1))))
 else (
  some (.inr lengths))
noncomputable def layout_placer_splitF_l4 (p : Plan) (rec35 : Placer → Plan → Rect → Option Placer) (y17 : List Rect) (t62 : Int) (x_' : Placer) : Option ((Int × Placer) ⊕ Placer) :=
 letB (decide (t62 < (y17.length : Int))) fun c18 =>
 bif c18 then (
  (idx y17 t62).bind fun x20 =>
  (idx p.Kids t62).bind fun x21 =>
  (rec35 x_' x21 x20).bind fun y22 =>
  some (.inl (w64 (t62 + 1), y22)))
 else (
  some (.inr x_'))
noncomputable def layout_placer_splitF_l5 (p : Plan) (rec35 : Placer → Plan → Rect → Option Placer) (y24 : List Rect) (t62' : Int) (x_'' : Placer) : Option ((Int × Placer) ⊕ Placer) :=
 letB (decide (t62' < (y24.length : Int))) fun c25 =>
 bif c25 then (
  (idx y24 t62').bind fun x27 =>
  (idx p.Kids t62').bind fun x28 =>
  (rec35 x_'' x28 x27).bind fun y29 =>
  some (.inl (w64 (t62' + 1), y29)))
 else (
  some (.inr x_''))
noncomputable def zbr (rec35 : Placer → Plan → Rect → Option Placer) (rec62 : Placer → Plan → Rect → Option Placer) (x_ : Placer) (p : Plan) (r_ : Rect) : Option Placer :=
 letB (decide (p.Kind = 3)) fun c1 =>
 Option.bind (
  bif c1 then (
   some (r_.H))
  else (
   some (r_.W)) : Option Int) fun j3 =>
 (iter (fun s => layout_placer_splitF_l1 p s.1 s.2 : (List Size × Int) → Option ((List Size × Int) ⊕ List Size)) ([], 0)).bind fun j8 =>
 (zba j3 j8).bind fun y9 =>
 letB (decide (y9.2 ≠ 0)) fun c10 =>
 bif c10 then (
  (mkL (j8.length : Int) (j8.length : Int) (0 : Int)).bind fun x12 =>
  (iter (fun s => layout_placer_splitF_l3 x12 s.1 s.2 : (List Int × Int) → Option ((List Int × Int) ⊕ List Int)) (x12, 0)).bind fun j16 =>
  (zff r_ j16 c1).bind fun y17 =>
  (iter (fun s => layout_placer_splitF_l4 p rec35 y17 s.1 s.2 : (Int × Placer) → Option ((Int × Placer) ⊕ Placer)) (0, x_)).bind fun j23 =>
  some j23)
 else (
  (zff r_ y9.1 c1).bind fun y24 =>
  (iter (fun s => layout_placer_splitF_l5 p rec35 y24 s.1 s.2 : (Int × Placer) → Option ((Int × Placer) ⊕ Placer)) (0, x_)).bind fun j30 =>
  some j30)
set_option maxRecDepth 20000 in
theorem zev {rec35 : Placer → Plan → Rect → Option Placer} {rec62 : Placer → Plan → Rect → Option Placer} (rec35_ok : ∀ (a0 : Placer) (a1 : Plan) (a2 : Rect) (r : Placer), rec35 a0 a1 a2 = some r → zak false (RF ET) 35 [.ptr 0 0, .agg (Plan.e a1), .agg (Rect.c a2)] [(Placer.c a0)] (.tuple []) [(Placer.c r)]) (rec62_ok : ∀ (a0 : Placer) (a1 : Plan) (a2 : Rect) (r : Placer), rec62 a0 a1 a2 = some r → zak false (RF ET) 62 [.ptr 0 0, .agg (Plan.e a1), .agg (Rect.c a2)] [(Placer.c a0)] (.tuple []) [(Placer.c r)]) {x_ : Placer} {p : Plan} {r_ : Rect} {r : Placer} (h : zbr rec35 rec62 x_ p r_ = some r) : zak false (RF ET) 62 [.ptr 0 0, .agg (Plan.e p), .agg (Rect.c r_)] [(Placer.c x_)] (.tuple []) [(Placer.c r)] := by
 refine zaF (af := a62) rfl rfl ?_
 unfold zbr at h
 refine zaa ?_
 refine zac [0, 4, 5] [0, 1] ?_
 refine zad ?_
 refine zaa ?_
 refine zac [0, 4, 5, 6, 7] [0, 1] ?_
 refine zdI ?_
 refine fun c1 hc1 => ?_
 replace h := zae hc1 h
 refine zaa ?_
 refine zaa ?_
 refine zac [0, 4, 5, 6, 7, 21] [0, 1] ?_
 refine zad ?_
 obtain ⟨j3, hj3, h⟩ := zab h
 refine za7 j3 (fun z => (.normal, [(0, .ptr 0 0), (4, .loc 0 0), (5, .loc 1 0), (6, .int .i64 z), (7, .bool c1)], [(0, (Plan.e p)), (1, (Rect.c r_))], [(Placer.c x_)])) (fun _ => [0, 4, 5, 6, 7]) (fun _ => [0, 1]) ?_ ?_
 ·clear h
  replace h := hj3
  clear hj3
  refine zag (b := c1) rfl (fun hb2 => ?_) (fun hb2 => ?_)
  ·replace h := zam hb2 h
   refine zac [0, 4, 5, 6, 7] [0, 1] ?_
   refine zad ?_
   cases h
   exact rfl
  ·replace h := zal hb2 h
   refine zai ?_
   cases h
   exact rfl
 refine zaa ?_
 refine zac [0, 4, 5, 6, 7, 8] [0, 1] ?_
 refine zad ?_
 refine ⟨.sl true 2 [], .sl _ _, ?_⟩
 refine zaa ?_
 refine zaa ?_
 refine zac [0, 4, 5, 6, 7, 8, 25, 26, 27] [0, 1] ?_
 refine zad ?_
 refine ⟨_, (lenR Plan.cs_is).symm, ?_⟩
 refine zah ?_
 obtain ⟨j8, hj8, h⟩ := zab h
 refine zaS hj8 [0, 1] (fun s => ([(0, .ptr 0 0), (4, .loc 0 0), (5, .loc 1 0), (6, .int .i64 j3), (7, .bool c1), (8, .sl true 2 (List.map Size.c s.1)), (25, .sl false 6 (Plan.cs p.Kids)), (26, .int .i64 (p.Kids.length : Int)), (27, .int .i64 s.2)], [(0, (Plan.e p)), (1, (Rect.c r_))], [(Placer.c x_)])) (fun _ => [0, 4, 5, 6, 7, 8]) (fun _ => [0, 1]) (fun z => (.exit 0, [(0, .ptr 0 0), (4, .loc 0 0), (5, .loc 1 0), (6, .int .i64 j3), (7, .bool c1), (8, .sl true 2 (List.map Size.c z))], [(0, (Plan.e p)), (1, (Rect.c r_))], [(Placer.c x_)])) ?_ ?_ ?_
 ·exact rfl
 ·clear h
  rintro ⟨sizes, t27⟩ x h
  replace h : layout_placer_splitF_l1 p sizes t27 = some x := h
  unfold layout_placer_splitF_l1 at h
  show T.WP _ _ [(0, .ptr 0 0), (4, .loc 0 0), (5, .loc 1 0), (6, .int .i64 j3), (7, .bool c1), (8, .sl true 2 (List.map Size.c sizes)), (25, .sl false 6 (Plan.cs p.Kids)), (26, .int .i64 (p.Kids.length : Int)), (27, .int .i64 t27)] [(0, (Plan.e p)), (1, (Rect.c r_))] [(Placer.c x_)] _
  refine zaa ?_
  refine zac [0, 4, 5, 6, 7, 8, 25, 26, 27, 28] [0, 1] ?_
  refine zad ?_
  refine fun c4 hc4 => ?_
  replace h := zae hc4 h
  refine zaa ?_
  refine zag (b := c4) rfl (fun hb5 => ?_) (fun hb5 => ?_)
  ·replace h := zam hb5 h
   refine zai ?_
   refine zaa ?_
   refine zah ?_
   refine zaa ?_
   refine zac [0, 4, 5, 6, 7, 8, 10, 25, 26, 27] [0, 1, 2] ?_
   refine zad ?_
   obtain ⟨x6, hx6, h⟩ := zab h
   refine And.intro (zbw hx6) ⟨_, zdS Plan.cs_is hx6, ?_⟩
   refine ⟨.sl true 6 [], .sl _ _, ?_⟩
   refine ⟨.sl false 4 [], .sl _ _, ?_⟩
   refine zac [0, 4, 5, 6, 7, 8, 25, 26, 27] [0, 1, 2] ?_
   refine zad ?_
   refine ⟨(List.map Size.c ([x6.Size] : List Size)), rfl, ?_⟩
   obtain ⟨x7, hx7, h⟩ := zab h
   refine And.intro (zdJ Size.c hx7) ⟨_, zdK Size.c hx7, ?_⟩
   refine zac [0, 4, 5, 6, 7, 8, 25, 26, 27] [0, 1, 2] ?_
   refine zad ?_
   cases h
   exact ⟨_, rfl, rfl⟩
  ·replace h := zal hb5 h
   refine zaR ?_
   cases h
   exact ⟨_, rfl, rfl⟩
 refine zaa ?_
 refine zac [0, 4, 5, 7, 8, 11, 12] [0, 1] ?_
 refine zad ?_
 obtain ⟨y9, hy9, h⟩ := zab h
 refine ⟨_, zig hy9, ?_⟩
 refine zaa ?_
 refine zaa ?_
 refine zac [0, 4, 5, 7, 8, 11, 44] [0, 1] ?_
 refine zad ?_
 refine fun c10 hc10 => ?_
 replace h := zae hc10 h
 refine zag (b := c10) rfl (fun hb11 => ?_) (fun hb11 => ?_)
 ·replace h := zam hb11 h
  refine zaa ?_
  refine zac [0, 4, 5, 7, 11] [0, 1] ?_
  refine zad ?_
  refine ⟨_, (yal ..).symm, ?_⟩
  obtain ⟨x12, hx12, h⟩ := zab h
  refine And.intro (zqv hx12) ?_
  refine ⟨_, zqw (e := ei64) rfl hx12, ?_⟩
  refine zaa ?_
  refine zac [0, 4, 5, 7, 11, 49, 50] [0, 1] ?_
  refine zad ?_
  refine ⟨_, (yal ..).symm, ?_⟩
  refine zah ?_
  obtain ⟨j16, hj16, h⟩ := zab h
  refine zaS hj16 [0, 1] (fun s => ([(0, .ptr 0 0), (4, .loc 0 0), (5, .loc 1 0), (7, .bool c1), (11, .sl true 1 (List.map ei64 s.1)), (49, .int .i64 (x12.length : Int)), (50, .int .i64 s.2)], [(0, (Plan.e p)), (1, (Rect.c r_))], [(Placer.c x_)])) (fun _ => [0, 4, 5, 7, 11]) (fun _ => [0, 1]) (fun z => (.exit 2, [(0, .ptr 0 0), (4, .loc 0 0), (5, .loc 1 0), (7, .bool c1), (11, .sl true 1 (List.map ei64 z))], [(0, (Plan.e p)), (1, (Rect.c r_))], [(Placer.c x_)])) ?_ ?_ ?_
  ·exact rfl
  ·clear h
   rintro ⟨lengths, t50⟩ x h
   replace h : layout_placer_splitF_l3 x12 lengths t50 = some x := h
   unfold layout_placer_splitF_l3 at h
   show T.WP _ _ [(0, .ptr 0 0), (4, .loc 0 0), (5, .loc 1 0), (7, .bool c1), (11, .sl true 1 (List.map ei64 lengths)), (49, .int .i64 (x12.length : Int)), (50, .int .i64 t50)] [(0, (Plan.e p)), (1, (Rect.c r_))] [(Placer.c x_)] _
   refine zaa ?_
   refine zac [0, 4, 5, 7, 11, 49, 50, 51] [0, 1] ?_
   refine zad ?_
   refine fun c13 hc13 => ?_
   replace h := zae hc13 h
   refine zaa ?_
   refine zag (b := c13) rfl (fun hb14 => ?_) (fun hb14 => ?_)
   ·replace h := zam hb14 h
    refine zai ?_
    refine zaa ?_
    refine zah ?_
    refine zaa ?_
    refine zac [0, 4, 5, 7, 11, 13, 49, 50] [0, 1] ?_
    refine zad ?_
    refine zac [0, 4, 5, 7, 11, 49, 50] [0, 1] ?_
    refine zad ?_
    obtain ⟨x15, hx15, h⟩ := zab h
    refine And.intro (zcr ei64 hx15) ?_
    refine ⟨_, zaD ei64 hx15, ?_⟩
    refine ⟨_, zgu (e := ei64) (i := t50) (x := 1) rfl, ?_⟩
    refine zac [0, 4, 5, 7, 11, 49, 50] [0, 1] ?_
    refine zad ?_
    cases h
    exact ⟨_, rfl, rfl⟩
   ·replace h := zal hb14 h
    refine zaR ?_
    cases h
    exact ⟨_, rfl, rfl⟩
  refine zaa ?_
  refine zac [0, 4, 60, 61, 62] [0, 1] ?_
  refine zad ?_
  obtain ⟨y17, hy17, h⟩ := zab h
  refine ⟨_, zhT hy17, ?_⟩
  refine ⟨_, (yal ..).symm, ?_⟩
  refine zah ?_
  obtain ⟨j23, hj23, h⟩ := zab h
  refine zaS hj23 [0, 1] (fun s => ([(0, .ptr 0 0), (4, .loc 0 0), (60, .sl true 4 (List.map Rect.c y17)), (61, .int .i64 (y17.length : Int)), (62, .int .i64 s.1)], [(0, (Plan.e p)), (1, (Rect.c r_))], [(Placer.c s.2)])) (fun _ => []) (fun _ => [0, 1]) (fun z => (.exit 4, [], [(0, (Plan.e p)), (1, (Rect.c r_))], [(Placer.c z)])) ?_ ?_ ?_
  ·exact rfl
  ·clear h
   rintro ⟨t62, x_'⟩ x h
   replace h : layout_placer_splitF_l4 p rec35 y17 t62 x_' = some x := h
   unfold layout_placer_splitF_l4 at h
   show T.WP _ _ [(0, .ptr 0 0), (4, .loc 0 0), (60, .sl true 4 (List.map Rect.c y17)), (61, .int .i64 (y17.length : Int)), (62, .int .i64 t62)] [(0, (Plan.e p)), (1, (Rect.c r_))] [(Placer.c x_')] _
   refine zaa ?_
   refine zac [0, 4, 60, 61, 62, 63] [0, 1] ?_
   refine zad ?_
   refine fun c18 hc18 => ?_
   replace h := zae hc18 h
   refine zaa ?_
   refine zag (b := c18) rfl (fun hb19 => ?_) (fun hb19 => ?_)
   ·replace h := zam hb19 h
    refine zai ?_
    refine zaa ?_
    refine zah ?_
    refine zaa ?_
    refine zac [0, 4, 14, 15, 60, 61, 62] [0, 1, 3] ?_
    refine zad ?_
    obtain ⟨x20, hx20, h⟩ := zab h
    refine And.intro (zcr Rect.c hx20) ?_
    refine ⟨_, zaD Rect.c hx20, ?_⟩
    refine zac [0, 4, 60, 61, 62] [0, 1, 3] ?_
    refine zdI ?_
    obtain ⟨x21, hx21, h⟩ := zab h
    refine And.intro (zbw hx21) ⟨_, zdS Plan.cs_is hx21, ?_⟩
    obtain ⟨y22, hy22, h⟩ := zab h
    refine ⟨_, _, zak.sub (i := 0) (rec35_ok _ _ _ _ hy22) rfl _ rfl rfl rfl rfl, ?_⟩
    refine zac [0, 4, 60, 61, 62] [0, 1, 3] ?_
    refine zad ?_
    cases h
    exact ⟨_, rfl, rfl⟩
   ·replace h := zal hb19 h
    refine zaR ?_
    cases h
    exact ⟨_, rfl, rfl⟩
  cases h
  exact ⟨rfl, rfl, rfl, rfl, rfl⟩
 ·replace h := zal hb11 h
  refine zai ?_
  refine zaa ?_
  refine zac [0, 4, 60, 61, 62] [0, 1] ?_
  refine zad ?_
  obtain ⟨y24, hy24, h⟩ := zab h
  refine ⟨_, zhT hy24, ?_⟩
  refine ⟨_, (yal ..).symm, ?_⟩
  refine zah ?_
  obtain ⟨j30, hj30, h⟩ := zab h
  refine zaS hj30 [0, 1] (fun s => ([(0, .ptr 0 0), (4, .loc 0 0), (60, .sl true 4 (List.map Rect.c y24)), (61, .int .i64 (y24.length : Int)), (62, .int .i64 s.1)], [(0, (Plan.e p)), (1, (Rect.c r_))], [(Placer.c s.2)])) (fun _ => []) (fun _ => [0, 1]) (fun z => (.exit 4, [], [(0, (Plan.e p)), (1, (Rect.c r_))], [(Placer.c z)])) ?_ ?_ ?_
  ·exact rfl
  ·clear h
   rintro ⟨t62', x_''⟩ x h
   replace h : layout_placer_splitF_l5 p rec35 y24 t62' x_'' = some x := h
   unfold layout_placer_splitF_l5 at h
   show T.WP _ _ [(0, .ptr 0 0), (4, .loc 0 0), (60, .sl true 4 (List.map Rect.c y24)), (61, .int .i64 (y24.length : Int)), (62, .int .i64 t62')] [(0, (Plan.e p)), (1, (Rect.c r_))] [(Placer.c x_'')] _
   refine zaa ?_
   refine zac [0, 4, 60, 61, 62, 63] [0, 1] ?_
   refine zad ?_
   refine fun c25 hc25 => ?_
   replace h := zae hc25 h
   refine zaa ?_
   refine zag (b := c25) rfl (fun hb26 => ?_) (fun hb26 => ?_)
   ·replace h := zam hb26 h
    refine zai ?_
    refine zaa ?_
    refine zah ?_
    refine zaa ?_
    refine zac [0, 4, 14, 15, 60, 61, 62] [0, 1, 3] ?_
    refine zad ?_
    obtain ⟨x27, hx27, h⟩ := zab h
    refine And.intro (zcr Rect.c hx27) ?_
    refine ⟨_, zaD Rect.c hx27, ?_⟩
    refine zac [0, 4, 60, 61, 62] [0, 1, 3] ?_
    refine zdI ?_
    obtain ⟨x28, hx28, h⟩ := zab h
    refine And.intro (zbw hx28) ⟨_, zdS Plan.cs_is hx28, ?_⟩
    obtain ⟨y29, hy29, h⟩ := zab h
    refine ⟨_, _, zak.sub (i := 0) (rec35_ok _ _ _ _ hy29) rfl _ rfl rfl rfl rfl, ?_⟩
    refine zac [0, 4, 60, 61, 62] [0, 1, 3] ?_
    refine zad ?_
    cases h
    exact ⟨_, rfl, rfl⟩
   ·replace h := zal hb26 h
    refine zaR ?_
    cases h
    exact ⟨_, rfl, rfl⟩
  cases h
  exact ⟨rfl, rfl, rfl, rfl, rfl⟩
noncomputable def zan : Nat → (Placer → Plan → Rect → Option Placer) × (Placer → Plan → Rect → Option Placer)
 | 0 => (fun _ _ _ => none, fun _ _ _ => none)
 | k + 1 => (za1 ((zan k).1) ((zan k).2), zbr ((zan k).1) ((zan k).2))
theorem zbh : ∀ k, (∀ (a0 : Placer) (a1 : Plan) (a2 : Rect) (r : Placer), ((zan k).1) a0 a1 a2 = some r → zak false (RF ET) 35 [.ptr 0 0, .agg (Plan.e a1), .agg (Rect.c a2)] [(Placer.c a0)] (.tuple []) [(Placer.c r)]) ∧ (∀ (a0 : Placer) (a1 : Plan) (a2 : Rect) (r : Placer), ((zan k).2) a0 a1 a2 = some r → zak false (RF ET) 62 [.ptr 0 0, .agg (Plan.e a1), .agg (Rect.c a2)] [(Placer.c a0)] (.tuple []) [(Placer.c r)])
 | 0 => ⟨(fun _ _ _ _ h => by cases h), (fun _ _ _ _ h => by cases h)⟩
 | k + 1 => ⟨(fun _ _ _ _ h => zeW ((zbh k).1) ((zbh k).2) h), (fun _ _ _ _ h => zev ((zbh k).1) ((zbh k).2) h)⟩
noncomputable def zc3 (a0 : Placer) (a1 : Plan) (a2 : Rect) : Option Placer := (zan 30).1 a0 a1 a2
theorem zfj {a0 : Placer} {a1 : Plan} {a2 : Rect} {r : Placer} (h : zc3 a0 a1 a2 = some r) : zak false (RF ET) 35 [.ptr 0 0, .agg (Plan.e a1), .agg (Rect.c a2)] [(Placer.c a0)] (.tuple []) [(Placer.c r)] := (zbh 30).1 a0 a1 a2 r h
noncomputable def zeX (r_ : Rect) (box : Rect) : Option Rect :=
 (zbj r_).bind fun y1 =>
 (zbj box).bind fun y2 =>
 (zby y1.X y2.X (w64 ((w64 (y2.X + y2.W)) - (min y1.W y2.W)))).bind fun y3 =>
 (zby y1.Y y2.Y (w64 ((w64 (y2.Y + y2.H)) - (min y1.H y2.H)))).bind fun y4 =>
 (zbj (Rect.mk y3 y4 (min y1.W y2.W) (min y1.H y2.H))).bind fun y5 =>
 some y5
set_option maxRecDepth 20000 in
theorem zkv {r_ : Rect} {box : Rect} {r : Rect} (h : zeX r_ box = some r) : zak true (RF ET) 37 [.agg (Rect.c r_), .agg (Rect.c box)] [] (.agg (Rect.c r)) [] := by
 refine zak.quiet (zaF (af := a37) rfl rfl ?_) rfl
 unfold zeX at h
 refine zaa ?_
 refine zac [2, 3, 4] [0, 1, 2] ?_
 refine zad ?_
 refine zaa ?_
 refine zac [2, 3, 4] [0, 1, 2] ?_
 refine zdI ?_
 obtain ⟨y1, hy1, h⟩ := zab h
 refine ⟨_, zbd hy1, ?_⟩
 obtain ⟨y2, hy2, h⟩ := zab h
 refine ⟨_, zbd hy2, ?_⟩
 refine zaa ?_
 refine zac [2, 3, 4] [0, 1, 2] ?_
 refine zdI ?_
 refine zaa ?_
 refine zac [2, 3, 4] [0, 1, 2] ?_
 refine zad ?_
 obtain ⟨y3, hy3, h⟩ := zab h
 refine ⟨_, zbR hy3, ?_⟩
 refine zaa ?_
 refine zac [2, 4] [0, 1, 2] ?_
 refine zad ?_
 obtain ⟨y4, hy4, h⟩ := zab h
 refine ⟨_, zbR hy4, ?_⟩
 refine zaa ?_
 refine zac [4] [0, 1, 2] ?_
 refine zad ?_
 obtain ⟨y5, hy5, h⟩ := zab h
 refine ⟨_, zbd hy5, ?_⟩
 refine zap ?_
 cases h
 exact ⟨rfl, rfl, rfl, rfl, rfl⟩
noncomputable def layout_Place_l1 (p : Plan) (y4 : Rect) (t22 : Int) (x_ : Placer) : Option ((Int × Placer) ⊕ Placer) :=
 letB (decide (t22 < (p.Float.length : Int))) fun c6 =>
 bif c6 then (
  (idx p.Float t22).bind fun x8 =>
  (zd9 x8 y4.X y4.Y).bind fun y9 =>
  (zeX y9 y4).bind fun y10 =>
  (zaX x_ y10 (w64 (t22 + 1)) false).bind fun y11 =>
  some (.inl (w64 (t22 + 1), y11)))
 else (
  some (.inr x_))
noncomputable def zb8 (p : Plan) (r_ : Rect) : Option (List Spot) :=
 (zbx p).bind fun y1 =>
 letB (decide (y1 ≠ 0)) fun c2 =>
 bif c2 then (
  some [])
 else (
  (zbj r_).bind fun y4 =>
  (zc3 (Placer.mk []) p y4).bind fun y5 =>
  (iter (fun s => layout_Place_l1 p y4 s.1 s.2 : (Int × Placer) → Option ((Int × Placer) ⊕ Placer)) (0, y5)).bind fun j12 =>
  some j12.spots)
set_option maxRecDepth 20000 in
theorem zeY {p : Plan} {r_ : Rect} {r : List Spot} (h : zb8 p r_ = some r) : zak true (RF ET) 13 [.agg (Plan.e p), .agg (Rect.c r_)] [] (.sl true 7 (List.map Spot.c r)) [] := by
 refine zak.quiet (zaF (af := a13) rfl rfl ?_) rfl
 unfold zb8 at h
 refine zaa ?_
 refine zac [2, 3] [0, 1] ?_
 refine zad ?_
 refine ⟨.sl true 7 [], .sl _ _, ?_⟩
 refine zaa ?_
 refine zaa ?_
 refine zac [2, 3, 10] [0, 1] ?_
 refine zad ?_
 obtain ⟨y1, hy1, h⟩ := zab h
 refine ⟨_, _, zak.any (zcQ hy1) rfl _ rfl, ?_⟩
 refine fun c2 hc2 => ?_
 replace h := zae hc2 h
 refine zag (b := c2) rfl (fun hb3 => ?_) (fun hb3 => ?_)
 ·replace h := zam hb3 h
  refine zaa ?_
  refine zac [4] [0, 1] ?_
  refine zad ?_
  refine ⟨.sl true 7 [], .sl _ _, ?_⟩
  refine zap ?_
  cases h
  exact ⟨rfl, rfl, rfl, rfl, rfl⟩
 ·replace h := zal hb3 h
  refine zai ?_
  refine zaa ?_
  refine zac [2, 3] [0, 1] ?_
  refine zad ?_
  obtain ⟨y4, hy4, h⟩ := zab h
  refine ⟨_, zbd hy4, ?_⟩
  refine zaa ?_
  refine zac [2, 3, 5] [0, 1] ?_
  refine zad ?_
  refine ⟨.sl true 7 [], .sl _ _, ?_⟩
  refine zaa ?_
  refine zac [2, 3, 5] [0, 1] ?_
  refine zad ?_
  obtain ⟨y5, hy5, h⟩ := zab h
  refine ⟨_, _, zak.sub (i := 0) (zfj hy5) rfl _ rfl rfl rfl rfl, ?_⟩
  refine zaa ?_
  refine zaa ?_
  refine zac [3, 5, 20, 21, 22] [0, 1] ?_
  refine zad ?_
  refine ⟨_, (yal ..).symm, ?_⟩
  refine zah ?_
  obtain ⟨j12, hj12, h⟩ := zab h
  refine zaS hj12 [0, 1] (fun s => ([(3, .loc 1 0), (5, .ptr 0 0), (20, .sl false 4 (List.map Rect.c p.Float)), (21, .int .i64 (p.Float.length : Int)), (22, .int .i64 s.1)], [(0, (Plan.e p)), (1, (Rect.c y4))], [(Placer.c s.2)])) (fun _ => [5]) (fun _ => [0, 1]) (fun z => (.exit 0, [(5, .ptr 0 0)], [(0, (Plan.e p)), (1, (Rect.c y4))], [(Placer.c z)])) ?_ ?_ ?_
  ·exact rfl
  ·clear h
   rintro ⟨t22, x_⟩ x h
   replace h : layout_Place_l1 p y4 t22 x_ = some x := h
   unfold layout_Place_l1 at h
   show T.WP _ _ [(3, .loc 1 0), (5, .ptr 0 0), (20, .sl false 4 (List.map Rect.c p.Float)), (21, .int .i64 (p.Float.length : Int)), (22, .int .i64 t22)] [(0, (Plan.e p)), (1, (Rect.c y4))] [(Placer.c x_)] _
   refine zaa ?_
   refine zac [3, 5, 20, 21, 22, 23] [0, 1] ?_
   refine zad ?_
   refine fun c6 hc6 => ?_
   replace h := zae hc6 h
   refine zaa ?_
   refine zag (b := c6) rfl (fun hb7 => ?_) (fun hb7 => ?_)
   ·replace h := zam hb7 h
    refine zai ?_
    refine zaa ?_
    refine zah ?_
    refine zaa ?_
    refine zac [3, 5, 6, 7, 20, 21, 22] [0, 1, 2] ?_
    refine zad ?_
    obtain ⟨x8, hx8, h⟩ := zab h
    refine And.intro (zbw hx8) ⟨_, zaD Rect.c hx8, ?_⟩
    refine zac [3, 5, 20, 21, 22] [0, 1, 2] ?_
    refine zdI ?_
    obtain ⟨y9, hy9, h⟩ := zab h
    refine ⟨_, zjg hy9, ?_⟩
    obtain ⟨y10, hy10, h⟩ := zab h
    refine ⟨_, zkv hy10, ?_⟩
    obtain ⟨y11, hy11, h⟩ := zab h
    refine ⟨_, _, zak.sub (i := 0) (zb3 hy11) rfl _ rfl rfl rfl rfl, ?_⟩
    refine zac [3, 5, 20, 21, 22] [0, 1, 2] ?_
    refine zad ?_
    cases h
    exact ⟨_, rfl, rfl⟩
   ·replace h := zal hb7 h
    refine zaR ?_
    cases h
    exact ⟨_, rfl, rfl⟩
  refine zaa ?_
  refine zac [4] [0, 1] ?_
  refine zad ?_
  refine zap ?_
  cases h
  exact ⟨rfl, rfl, rfl, rfl, rfl⟩
noncomputable def zcm (p : Plan) : Option (Int × Int) :=
 (zbx p).bind fun y1 =>
 letB (decide (y1 ≠ 0)) fun c2 =>
 bif c2 then (
  some (0, 0))
 else (
  (zcu p 1 0).bind fun y4 =>
  some (y4.2, (p.Float.length : Int)))
set_option maxRecDepth 20000 in
theorem zhU {p : Plan} {r : Int × Int} (h : zcm p = some r) : zak true (RF ET) 12 [.agg (Plan.e p)] [] (.tuple [.int .i64 r.1, .int .i64 r.2]) [] := by
 refine zak.quiet (zaF (af := a12) rfl rfl ?_) rfl
 unfold zcm at h
 refine zaa ?_
 refine zac [1] [0] ?_
 refine zad ?_
 refine zaa ?_
 refine zaa ?_
 refine zac [1, 7] [0] ?_
 refine zad ?_
 obtain ⟨y1, hy1, h⟩ := zab h
 refine ⟨_, _, zak.any (zcQ hy1) rfl _ rfl, ?_⟩
 refine fun c2 hc2 => ?_
 replace h := zae hc2 h
 refine zag (b := c2) rfl (fun hb3 => ?_) (fun hb3 => ?_)
 ·replace h := zam hb3 h
  refine zaa ?_
  refine zac [2, 3] [0] ?_
  refine zad ?_
  refine zap ?_
  cases h
  exact ⟨rfl, rfl, rfl, rfl, rfl⟩
 ·replace h := zal hb3 h
  refine zai ?_
  refine zaa ?_
  refine zac [1, 4] [0] ?_
  refine zad ?_
  refine zaa ?_
  refine zac [1, 4] [0] ?_
  refine zad ?_
  obtain ⟨y4, hy4, h⟩ := zab h
  refine ⟨_, _, zak.sub (i := 0) (zd8 hy4) rfl _ rfl rfl rfl rfl, ?_⟩
  refine zaa ?_
  refine zac [2, 3] [0] ?_
  refine zdI ?_
  refine ⟨_, (yal ..).symm, ?_⟩
  refine zap ?_
  cases h
  exact ⟨rfl, rfl, rfl, rfl, rfl⟩
noncomputable def zaE (n : Int) (lo : Int) (hi : Int) : Option Int :=
 letB (decide (n < lo)) fun c1 =>
 bif c1 then (
  some lo)
 else (
  letB (decide (n > hi)) fun c3 =>
  bif c3 then (
   some hi)
  else (
   some n))
set_option maxRecDepth 20000 in
theorem zbk {n : Int} {lo : Int} {hi : Int} {r : Int} (h : zaE n lo hi = some r) : zak true (RF ET) 64 [.int .i64 n, .int .i64 lo, .int .i64 hi] [] (.int .i64 r) [] := by
 refine zak.quiet (zaF (af := a64) rfl rfl ?_) rfl
 unfold zaE at h
 refine zaa ?_
 refine zac [0, 1, 2] [] ?_
 refine zad ?_
 refine zaa ?_
 refine zaa ?_
 refine zac [0, 1, 2, 9] [] ?_
 refine zad ?_
 refine fun c1 hc1 => ?_
 replace h := zae hc1 h
 refine zag (b := c1) rfl (fun hb2 => ?_) (fun hb2 => ?_)
 ·replace h := zam hb2 h
  refine zaa ?_
  refine zac [6] [] ?_
  refine zad ?_
  refine zap ?_
  cases h
  exact ⟨rfl, rfl, rfl, rfl, rfl⟩
 ·replace h := zal hb2 h
  refine zai ?_
  refine zaa ?_
  refine zaa ?_
  refine zac [0, 2, 13] [] ?_
  refine zad ?_
  refine fun c3 hc3 => ?_
  replace h := zae hc3 h
  refine zag (b := c3) rfl (fun hb4 => ?_) (fun hb4 => ?_)
  ·replace h := zam hb4 h
   refine zaa ?_
   refine zac [6] [] ?_
   refine zad ?_
   refine zap ?_
   cases h
   exact ⟨rfl, rfl, rfl, rfl, rfl⟩
  ·replace h := zal hb4 h
   refine zai ?_
   refine zaa ?_
   refine zac [6] [] ?_
   refine zad ?_
   refine zap ?_
   cases h
   exact ⟨rfl, rfl, rfl, rfl, rfl⟩
noncomputable def zaA (r_ : Rect) : Option Rect :=
 (zaE r_.X (-5000) 5000).bind fun y1 =>
 (zaE r_.Y (-5000) 5000).bind fun y2 =>
 (zaE r_.W 0 200).bind fun y3 =>
 (zaE r_.H 0 200).bind fun y4 =>
 letB (decide ((w64 (y1 + y3)) > 5000)) fun c5 =>
 Option.bind (
  bif c5 then (
   some (w64 (5000 - y1)))
  else (
   some (y3)) : Option Int) fun j7 =>
 letB (decide ((w64 (y2 + y4)) > 5000)) fun c8 =>
 Option.bind (
  bif c8 then (
   some (w64 (5000 - y2)))
  else (
   some (y4)) : Option Int) fun j10 =>
 letB (decide (j7 = 0)) fun c11 =>
 (bif c11 then some true else (
  letB (decide (j10 = 0)) fun c13 =>
  some (c13))).bind fun g12 =>
 bif g12 then (
  some (Rect.mk 0 0 0 0))
 else (
  some (Rect.mk y1 y2 j7 j10))
set_option maxRecDepth 20000 in
theorem zaQ {r_ : Rect} {r : Rect} (h : zaA r_ = some r) : zak true (RF ET) 39 [.agg (Rect.c r_)] [] (.agg (Rect.c r)) [] := by
 refine zak.quiet (zaF (af := a39) rfl rfl ?_) rfl
 unfold zaA at h
 refine zaa ?_
 refine zac [1, 2] [0, 1] ?_
 refine zad ?_
 refine zaa ?_
 refine zac [1, 2, 3] [0, 1] ?_
 refine zad ?_
 obtain ⟨y1, hy1, h⟩ := zab h
 refine ⟨_, zbk hy1, ?_⟩
 refine zaa ?_
 refine zac [1, 2, 3, 4] [0, 1] ?_
 refine zad ?_
 obtain ⟨y2, hy2, h⟩ := zab h
 refine ⟨_, zbk hy2, ?_⟩
 refine zaa ?_
 refine zac [1, 2, 3, 4, 5] [0, 1] ?_
 refine zad ?_
 obtain ⟨y3, hy3, h⟩ := zab h
 refine ⟨_, zbk hy3, ?_⟩
 refine zaa ?_
 refine zac [2, 3, 4, 5, 6] [0, 1] ?_
 refine zad ?_
 obtain ⟨y4, hy4, h⟩ := zab h
 refine ⟨_, zbk hy4, ?_⟩
 refine zaa ?_
 refine zaa ?_
 refine zac [2, 3, 4, 5, 6, 22] [0, 1] ?_
 refine zad ?_
 refine fun c5 hc5 => ?_
 replace h := zae hc5 h
 obtain ⟨j7, hj7, h⟩ := zab h
 refine za7 j7 (fun z => (.normal, [(2, .loc 1 0), (3, .int .i64 y1), (4, .int .i64 y2), (5, .int .i64 z), (6, .int .i64 y4)], [(0, (Rect.c r_)), (1, [.int .i64 0, .int .i64 0, .int .i64 0, .int .i64 0])], [])) (fun _ => [2, 3, 4, 5, 6]) (fun _ => [0, 1]) ?_ ?_
 ·clear h
  replace h := hj7
  clear hj7
  refine zag (b := c5) rfl (fun hb6 => ?_) (fun hb6 => ?_)
  ·replace h := zam hb6 h
   refine zac [2, 3, 4, 5, 6] [0, 1] ?_
   refine zad ?_
   cases h
   exact rfl
  ·replace h := zal hb6 h
   refine zai ?_
   cases h
   exact rfl
 refine zaa ?_
 refine zaa ?_
 refine zac [2, 3, 4, 5, 6, 28] [0, 1] ?_
 refine zad ?_
 refine fun c8 hc8 => ?_
 replace h := zae hc8 h
 obtain ⟨j10, hj10, h⟩ := zab h
 refine za7 j10 (fun z => (.normal, [(2, .loc 1 0), (3, .int .i64 y1), (4, .int .i64 y2), (5, .int .i64 j7), (6, .int .i64 z)], [(0, (Rect.c r_)), (1, [.int .i64 0, .int .i64 0, .int .i64 0, .int .i64 0])], [])) (fun _ => [2, 3, 4, 5, 6]) (fun _ => [0, 1]) ?_ ?_
 ·clear h
  replace h := hj10
  clear hj10
  refine zag (b := c8) rfl (fun hb9 => ?_) (fun hb9 => ?_)
  ·replace h := zam hb9 h
   refine zac [2, 3, 4, 5, 6] [0, 1] ?_
   refine zad ?_
   cases h
   exact rfl
  ·replace h := zal hb9 h
   refine zai ?_
   cases h
   exact rfl
 refine zaa ?_
 refine zaa ?_
 refine zac [2, 3, 4, 5, 6, 36] [0, 1] ?_
 refine zat 3 ?_
 refine zad ?_
 refine fun c11 hc11 => ?_
 replace h := zae hc11 h
 obtain ⟨g12, hg12, h⟩ := zab h
 refine zaB 3 36 [2, 3, 4, 5, 6, 36] g12 ?_ ?_
 ·clear h
  replace h := hg12
  clear hg12
  cases hb14 : c11 with
  | false =>
   replace h := zal hb14 h
   refine zad ?_
   refine fun c13 hc13 => ?_
   replace h := zae hc13 h
   cases h
   exact ⟨rfl, rfl, rfl⟩
  | true =>
   replace h := zam hb14 h
   cases h
   refine zad ?_
   exact ⟨rfl, rfl, rfl⟩
 refine zad ?_
 refine zag (b := g12) rfl (fun hb15 => ?_) (fun hb15 => ?_)
 ·replace h := zam hb15 h
  refine zaa ?_
  refine zac [2] [0, 1] ?_
  refine zad ?_
  refine zap ?_
  cases h
  exact ⟨rfl, rfl, rfl, rfl, rfl⟩
 ·replace h := zal hb15 h
  refine zai ?_
  refine zaa ?_
  refine zac [2] [0, 1] ?_
  refine zad ?_
  refine zap ?_
  cases h
  exact ⟨rfl, rfl, rfl, rfl, rfl⟩
end Go.Proofs.YtakdnfneikbjjaaGreatDoor.Am.Lay10

set_option linter.all false
namespace Go.Proofs.YtakdnfneikbjjaaGreatDoor.Am.Lay10
open Go.Proofs.YtakdnfneikbjjaaGreatDoor.Am.T
theorem or_s {c d : Bool} : (bif c then some true else some d) = some (c || d) := by cases c <;> rfl
theorem zpj {c d : Bool} : (bif c then some d else some false) = some (c && d) := by cases c <;> rfl
theorem zpk {α : Type} {c : Bool} {a b : α} : (bif c then some a else some b) = some (bif c then a else b) := by cases c <;> rfl
theorem zoj : most = 4294967296 := rfl
theorem zaj {n : Int} (h1 : -9223372036854775808 ≤ n) (h2 : n ≤ 9223372036854775807) : w64 n = n := by
 simp only [IntKind.wrap_i64]; omega
theorem zqy {α : Type} {d : α} {l : List α} {i : Int} (h0 : 0 ≤ i) (h : i < l.length) : idx l i = some (l.getD i.toNat d) := by
 unfold idx
 have h2 : i.toNat < l.length := by omega
 simp [h0, h2]
def cl (n lo hi : Int) : Int := max lo (min n hi)
theorem zfg {n lo hi : Int} (h : lo ≤ hi) : zaE n lo hi = some (cl n lo hi) := by
 unfold zaE cl
 simp only [letB]
 by_cases h1 : n < lo
 ·rw [yav h1]; show some lo = _; congr 1; omega
 ·rw [yau h1]
  by_cases h2 : n > hi
  ·rw [yav h2]; show some hi = _; congr 1; omega
  ·rw [yau h2]; show some n = _; congr 1; omega
def cleanT (r : Rect) : Rect :=
 let x := cl r.X (-5000) 5000
 let y := cl r.Y (-5000) 5000
 let w := cl r.W 0 (min 200 (5000 - x))
 let h := cl r.H 0 (min 200 (5000 - y))
 if w = 0 ∨ h = 0 then ⟨0, 0, 0, 0⟩ else ⟨x, y, w, h⟩
theorem zbl {n lo hi : Int} (h : lo ≤ hi) : lo ≤ cl n lo hi ∧ cl n lo hi ≤ hi := by unfold cl; omega
theorem zdc (r : Rect) : zbj r = some (cleanT r) := by
 have hx := zbl (n := r.X) (show (-5000 : Int) ≤ 5000 by omega)
 have hy := zbl (n := r.Y) (show (-5000 : Int) ≤ 5000 by omega)
 unfold zbj zby cleanT
 simp only [Option.bind_some, letB, or_s]
 rw [show max (-5000) (min r.X 5000) = cl r.X (-5000) 5000 from rfl, show max (-5000) (min r.Y 5000) = cl r.Y (-5000) 5000 from rfl]
 generalize cl r.X (-5000) 5000 = x at *
 generalize cl r.Y (-5000) 5000 = y at *
 rw [zaj (by omega) (by omega), zaj (by omega) (by omega)]
 rw [show max 0 (min r.W (min 200 (5000 - x))) = cl r.W 0 (min 200 (5000 - x)) from rfl, show max 0 (min r.H (min 200 (5000 - y))) = cl r.H 0 (min 200 (5000 - y)) from rfl]
 by_cases h1 : cl r.W 0 (min 200 (5000 - x)) = 0
 ·rw [yav h1, if_pos (.inl h1)]; rfl
 ·rw [yau h1]
  by_cases h2 : cl r.H 0 (min 200 (5000 - y)) = 0
  ·rw [yav h2, if_pos (.inr h2)]; rfl
  ·rw [yau h2, if_neg (by omega)]; rfl
theorem zf3 (r : Rect) : zaA r = some (cleanT r) := by
 have hx := zbl (n := r.X) (show (-5000 : Int) ≤ 5000 by omega)
 have hy := zbl (n := r.Y) (show (-5000 : Int) ≤ 5000 by omega)
 have hw := zbl (n := r.W) (show (0 : Int) ≤ 200 by omega)
 have hh := zbl (n := r.H) (show (0 : Int) ≤ 200 by omega)
 unfold zaA cleanT
 rw [zfg (by omega), zfg (by omega), zfg (by omega), zfg (by omega)]
 simp only [Option.bind_some, letB, zpk, or_s]
 have ew : cl r.W 0 (min 200 (5000 - cl r.X (-5000) 5000)) = if cl r.X (-5000) 5000 + cl r.W 0 200 > 5000 then 5000 - cl r.X (-5000) 5000 else cl r.W 0 200 := by
  generalize cl r.X (-5000) 5000 = x at *
  unfold cl at *
  split <;> omega
 have eh : cl r.H 0 (min 200 (5000 - cl r.Y (-5000) 5000)) = if cl r.Y (-5000) 5000 + cl r.H 0 200 > 5000 then 5000 - cl r.Y (-5000) 5000 else cl r.H 0 200 := by
  generalize cl r.Y (-5000) 5000 = y at *
  unfold cl at *
  split <;> omega
 rw [ew, eh]
 generalize cl r.X (-5000) 5000 = x at *
 generalize cl r.Y (-5000) 5000 = y at *
 generalize cl r.W 0 200 = w at *
 generalize cl r.H 0 200 = h at *
 rw [zaj (n := x + w) (by omega) (by omega), zaj (n := y + h) (by omega) (by omega), zaj (n := 5000 - x) (by omega) (by omega), zaj (n := 5000 - y) (by omega) (by omega)]
 have e1 : (bif decide (x + w > 5000) then 5000 - x else w) = if x + w > 5000 then 5000 - x else w := by
  by_cases c : x + w > 5000
  ·rw [yav c, if_pos c]; rfl
  ·rw [yau c, if_neg c]; rfl
 have e2 : (bif decide (y + h > 5000) then 5000 - y else h) = if y + h > 5000 then 5000 - y else h := by
  by_cases c : y + h > 5000
  ·rw [yav c, if_pos c]; rfl
  ·rw [yau c, if_neg c]; rfl
 rw [e1, e2]
 generalize (if x + w > 5000 then 5000 - x else w) = w'
 generalize (if y + h > 5000 then 5000 - y else h) = h'
 by_cases h1 : w' = 0
 ·rw [yav h1, if_pos (.inl h1)]; rfl
 ·rw [yau h1]
  by_cases h2 : h' = 0
  ·rw [yav h2, if_pos (.inr h2)]; rfl
  ·rw [yau h2, if_neg (by omega)]; rfl
end Go.Proofs.YtakdnfneikbjjaaGreatDoor.Am.Lay10

set_option linter.all false
namespace Go.Proofs.YtakdnfneikbjjaaGreatDoor.Am.Lay10
open Go.Proofs.YtakdnfneikbjjaaGreatDoor.Am.T
def sizeOK (s : Size) : Prop := s.Kind = 0 ∨ (s.Kind = 1 ∧ 1 ≤ s.N ∧ s.N ≤ 200) ∨ (s.Kind = 2 ∧ 1 ≤ s.N ∧ s.N ≤ 100)
instance (s : Size) : Decidable (sizeOK s) := by unfold sizeOK; infer_instance
theorem zmb (s : Size) : zc2 s = some (if sizeOK s then 0 else 1) := by
 unfold zc2 sizeOK
 simp only [letB, Option.bind_some, zpj]
 by_cases h0 : s.Kind = 0
 ·simp [h0]
 ·by_cases h1 : s.Kind = 1
  ·have h2 : ¬ s.Kind = 2 := by omega
   by_cases ha : s.N ≥ 1 <;> by_cases hb : s.N ≤ 200 <;> simp [h1, ha, hb]
  ·by_cases h2 : s.Kind = 2
   ·by_cases ha : s.N ≥ 1 <;> by_cases hb : s.N ≤ 100 <;> simp [h2, ha, hb]
   ·simp [h0, h1, h2]
def zfu (p : Plan) : Prop := p.Kind = 2 ∨ p.Kind = 3 ∨ p.Kind = 4
instance (p : Plan) : Decidable (zfu p) := by unfold zfu; infer_instance
def mKids (f : Plan → Int → Bool × Int) (q : Plan) : List Plan → Int → Bool × Int
 | [], n => (true, n)
 | k :: ks, n => if q.Kind = 4 ∧ k.Kind ≠ 1 then (false, n) else if (f k n).1 = true then mKids f q ks (f k n).2 else (false, (f k n).2)
def mT : Nat → Plan → Int → Bool × Int
 | 0, _, n => (false, n)
 | d + 1, p, n => if ¬ sizeOK p.Size then (false, n) else if p.Kind = 1 then (decide (n + 1 ≤ 24), n + 1) else
  if ¬ zfu p then (false, n) else if p.Kids.length < 1 ∨ 16 < p.Kids.length then (false, n) else mKids (mT d) p p.Kids n
def Rng (n : Int) (r : Bool × Int) : Prop := n ≤ r.2 ∧ r.2 ≤ 25 ∧ (r.1 = true → r.2 ≤ 24)
theorem zhV {f : Plan → Int → Bool × Int} {q : Plan} (hf : ∀ k n, 0 ≤ n → n ≤ 24 → Rng n (f k n)) : ∀ (ks : List Plan) (n : Int), 0 ≤ n → n ≤ 24 → Rng n (mKids f q ks n)
 | [], n, h0, h1 => ⟨Int.le_refl _, by show n ≤ 25; omega, fun _ => h1⟩
 | k :: ks, n, h0, h1 => by
  have h2 := hf k n h0 h1
  unfold mKids
  split
  ·exact ⟨Int.le_refl _, by show n ≤ 25; omega, fun h => by cases h⟩
  ·split
   ·rename_i hb
    have h3 := h2.2.2 hb
    have h4 := h2.1
    have := zhV (q := q) hf ks (f k n).2 (by omega) h3
    exact ⟨Int.le_trans h4 this.1, this.2.1, this.2.2⟩
   ·exact ⟨h2.1, h2.2.1, fun h => by cases h⟩
theorem zg4 : ∀ (d : Nat) (p : Plan) (n : Int), 0 ≤ n → n ≤ 24 → Rng n (mT d p n)
 | 0, p, n, h0, h1 => ⟨Int.le_refl _, by show n ≤ 25; omega, fun h => by cases h⟩
 | d + 1, p, n, h0, h1 => by
  have triv : Rng n (false, n) := ⟨Int.le_refl _, by show n ≤ 25; omega, fun h => by cases h⟩
  unfold mT
  split
  ·exact triv
  ·split
   ·exact ⟨by show n ≤ n + 1; omega, by show n + 1 ≤ 25; omega, fun h => of_decide_eq_true h⟩
   ·split
    ·exact triv
    ·split
     ·exact triv
     ·exact zhV (zg4 d) _ _ h0 h1
theorem zok {rec : Plan → Int → Int → Option (Bool × Int)} {p : Plan} {deep : Int} {f : Plan → Int → Bool × Int} (hd : 0 ≤ deep ∧ deep ≤ 100) (hl : p.Kids.length ≤ 16) (hr : ∀ k n, 0 ≤ n → n ≤ 24 → rec k (deep + 1) n = some (f k n)) (hf : ∀ k n, 0 ≤ n → n ≤ 24 → Rng n (f k n)) :
  ∀ (ks : List Plan) (i : Nat) (n : Int), 0 ≤ n → n ≤ 24 → i + ks.length = p.Kids.length → p.Kids.drop i = ks →
  ∃ j, iter (fun s => layout_measureF_l1 p deep rec s.1 s.2 : (Int × Int) → Option ((Int × Int) ⊕ ((Plan × Int) ⊕ Int))) ((i : Int), n) = some j ∧ (match j with | .inl z => (false, z.2) | .inr z => (true, z)) = mKids f p ks n
 | [], i, n, h0, h1, hi, hk => by
  refine ⟨.inr n, zau ?_, rfl⟩
  simp only [layout_measureF_l1, letB]
  rw [yau (by simp only [List.length_nil] at hi; omega)]; rfl
 | k :: ks, i, n, h0, h1, hi, hk => by
  simp only [List.length_cons] at hi
  have hlt : i < p.Kids.length := by omega
  have hget : p.Kids[i] = k := by
   have := List.getElem_drop (xs := p.Kids) (i := i) (j := 0) (h := by simp; omega)
   simp only [hk, List.getElem_cons_zero, Nat.add_zero] at this
   exact this.symm
  have hidx : idx p.Kids (i : Int) = some k := by
   rw [zqy (d := p) (by omega) (by omega), Int.toNat_natCast, yad, yai hlt, hget]; rfl
  have hdrop : p.Kids.drop (i + 1) = ks := by rw [← List.drop_drop, hk]; rfl
  have key : layout_measureF_l1 p deep rec (i : Int) n = if p.Kind = 4 ∧ k.Kind ≠ 1 then some (.inr (.inl (k, n))) else if (f k n).1 = true then some (.inl (((i + 1 : Nat) : Int), (f k n).2)) else some (.inr (.inl (k, (f k n).2))) := by
   simp only [layout_measureF_l1, letB]
   rw [yav (show (i : Int) < (p.Kids.length : Int) by omega), zaj (by omega) (by omega), zaj (by omega) (by omega)]
   simp only [cond_true, hidx, Option.bind_some, zpj]
   by_cases h4 : p.Kind = 4 ∧ k.Kind ≠ 1
   ·rw [yav h4.1, yav h4.2, if_pos h4]; rfl
   ·rw [if_neg h4]
    have : (decide (p.Kind = 4) && decide (k.Kind ≠ 1)) = false := by
     simp only [Bool.and_eq_false_iff, decide_eq_false_iff_not]
     by_cases h : p.Kind = 4
     ·exact .inr fun hh => h4 ⟨h, hh⟩
     ·exact .inl h
    rw [this, hr k n h0 h1]
    simp only [cond_false, Option.bind_some]
    cases (f k n).1 <;> rfl
  unfold mKids
  by_cases h4 : p.Kind = 4 ∧ k.Kind ≠ 1
  ·rw [if_pos h4] at key ⊢
   exact ⟨_, zau key, rfl⟩
  ·rw [if_neg h4] at key ⊢
   by_cases hb : (f k n).1 = true
   ·rw [if_pos hb] at key ⊢
    obtain ⟨r1, r2, r3⟩ := hf k n h0 h1
    obtain ⟨j, e1, e2⟩ := zok hd hl hr hf ks (i + 1) (f k n).2 (by omega) (r3 hb) (by omega) hdrop
    exact ⟨j, (zaz key).trans e1, e2⟩
   ·rw [if_neg hb] at key ⊢
    exact ⟨_, zau key, rfl⟩
theorem zp7 {p : Plan} : (Option.bind (bif decide (p.Kind = 2) then some (decide (p.Kind = 2)) else Option.bind (bif decide (p.Kind = 3) then some (decide (p.Kind = 3)) else some (decide (p.Kind = 4))) fun j15 => some j15) fun j => some j) = some (decide (zfu p)) := by
 unfold zfu
 by_cases h2 : p.Kind = 2
 ·simp [h2]
 ·by_cases h3 : p.Kind = 3
  ·simp [h3]
  ·simp [h2, h3]
theorem zgv : ∀ (d k : Nat) (deep : Int) (p : Plan) (n : Int), deep = 13 - (d : Int) → d ≤ 12 → d + 1 ≤ k → 0 ≤ n → n ≤ 24 → zbF k p deep n = some (mT d p n)
 | d, 0, deep, p, n, hd, hd2, hk, h0, h1 => by omega
 | 0, k + 1, deep, p, n, hd, hd2, hk, h0, h1 => by
  show zbE (zbF k) p deep n = _
  unfold zbE
  simp only [letB]
  rw [yav (show deep > 12 by omega)]
  rfl
 | d + 1, k + 1, deep, p, n, hd, hd2, hk, h0, h1 => by
  show zbE (zbF k) p deep n = _
  unfold zbE mT
  simp only [letB]
  rw [yau (show ¬ deep > 12 by omega), zmb, zaj (n := n + 1) (by omega) (by omega)]
  simp only [cond_false, Option.bind_some]
  by_cases hs : sizeOK p.Size
  ·rw [if_pos hs, if_neg (by simpa using hs)]
   simp only [ne_eq, not_true_eq_false, decide_false, cond_false]
   by_cases hk1 : p.Kind = 1
   ·rw [if_pos hk1, yav hk1]; rfl
   ·rw [if_neg hk1, yau hk1]
    simp only [cond_false]
    have hkd := zp7 (p := p)
    by_cases hko : zfu p
    ·rw [if_neg (by simpa using hko)]
     rw [yav hko] at hkd
     have hkd2 : (Option.bind (bif decide (p.Kind = 2) then some (decide (p.Kind = 2)) else Option.bind (bif decide (p.Kind = 3) then some (decide (p.Kind = 3)) else some (decide (p.Kind = 4))) fun j15 => some j15) fun j16 => (bif j16 then some (.inl ()) else some (.inr (false, n)) : Option (Unit ⊕ (Bool × Int)))) = some (.inl ()) := by
      have := congrArg (fun o => Option.bind o fun j => (bif j then some (.inl ()) else some (.inr (false, n)) : Option (Unit ⊕ (Bool × Int)))) hkd
      simpa only [Option.bind_assoc, Option.bind_some, cond_true] using this
     rw [hkd2]
     simp only [Option.bind_some, or_s]
     by_cases hlen : p.Kids.length < 1 ∨ 16 < p.Kids.length
     ·rw [if_pos hlen]
      have : (decide ((p.Kids.length : Int) < 1) || decide ((p.Kids.length : Int) > 16)) = true := by
       simp only [Bool.or_eq_true, decide_eq_true_eq]; omega
      rw [this]; rfl
     ·rw [if_neg hlen]
      have : (decide ((p.Kids.length : Int) < 1) || decide ((p.Kids.length : Int) > 16)) = false := by
       simp only [Bool.or_eq_false_iff, decide_eq_false_iff_not]; omega
      rw [this]
      simp only [cond_false]
      obtain ⟨j, e1, e2⟩ := zok (f := mT d) (rec := zbF k) (p := p) (deep := deep) ⟨by omega, by omega⟩ (by omega) (fun x m a b => zgv d k (deep + 1) x m (by omega) (by omega) (by omega) a b) (zg4 d) p.Kids 0 n h0 h1 (by omega) rfl
      rw [show (0 : Int) = ((0 : Nat) : Int) from rfl, e1, ← e2]
      simp only [Option.bind_some]
      cases j <;> rfl
    ·rw [if_pos (by simpa using hko)]
     rw [yau hko] at hkd
     have hkd2 : (Option.bind (bif decide (p.Kind = 2) then some (decide (p.Kind = 2)) else Option.bind (bif decide (p.Kind = 3) then some (decide (p.Kind = 3)) else some (decide (p.Kind = 4))) fun j15 => some j15) fun j16 => (bif j16 then some (.inl ()) else some (.inr (false, n)) : Option (Unit ⊕ (Bool × Int)))) = some (.inr (false, n)) := by
      have := congrArg (fun o => Option.bind o fun j => (bif j then some (.inl ()) else some (.inr (false, n)) : Option (Unit ⊕ (Bool × Int)))) hkd
      simpa only [Option.bind_assoc, Option.bind_some, cond_false] using this
     rw [hkd2]
     rfl
  ·rw [if_neg hs, if_pos hs]; rfl
theorem zdA (p : Plan) : zbx p = some (if (mT 12 p 0).1 = true ∧ (p.Float.length : Int) ≤ 24 - (mT 12 p 0).2 then 0 else 100) := by
 have h := zg4 12 p 0 (by omega) (by omega)
 unfold Rng at h
 unfold zbx zcu
 rw [zgv 12 30 1 p 0 (by omega) (by omega) (by omega) (by omega) (by omega)]
 simp only [Option.bind_some, letB, or_s]
 generalize mT 12 p 0 = r at *
 rw [zaj (by omega) (by omega)]
 cases hb : r.1 with
 | false => rw [if_neg (by simp)]; rfl
 | true =>
  by_cases hf : (p.Float.length : Int) ≤ 24 - r.2
  ·rw [if_pos ⟨rfl, hf⟩, yau (by omega)]; rfl
  ·rw [if_neg (fun h => hf h.2), yav (by omega)]; rfl
end Go.Proofs.YtakdnfneikbjjaaGreatDoor.Am.Lay10

set_option linter.all false
namespace Go.Proofs.YtakdnfneikbjjaaGreatDoor.Am.Lay10
open Go.Proofs.YtakdnfneikbjjaaGreatDoor.Am.T
def sumI : List Int → Int
 | [] => 0
 | x :: l => x + sumI l
theorem zdu : ∀ (l : List Int) (i : Nat) (v : Int) (h : i < l.length), sumI (l.set i v) = sumI l - l[i] + v
 | x :: l, 0, v, h => by simp only [List.set_cons_zero, sumI, List.getElem_cons_zero]; omega
 | x :: l, i + 1, v, h => by
  have := zdu l i v (by simpa using h)
  simp only [List.set_cons_succ, sumI, List.getElem_cons_succ, this]; omega
theorem zgw : ∀ (l : List Int), (∀ x ∈ l, 1 ≤ x) → (l.length : Int) ≤ sumI l
 | [], _ => by simp [sumI]
 | x :: l, h => by
  have := zgw l fun y hy => h y (.tail _ hy)
  have := h x (.head _)
  simp only [sumI, List.length_cons]; omega
theorem zmc : ∀ (l : List Int), (∀ x ∈ l, 1 ≤ x) → ∀ x ∈ l, x ≤ sumI l
 | y :: l, h, x, hx => by
  have h1 := zgw l fun y hy => h y (.tail _ hy)
  have h2 := h y (.head _)
  simp only [sumI]
  rcases List.mem_cons.1 hx with rfl | hx
  ·omega
  ·have := zmc l (fun y hy => h y (.tail _ hy)) x hx; omega
theorem zhW : ∀ (l : List Int), (∀ x ∈ l, x = 1) → sumI l = l.length
 | [], _ => rfl
 | x :: l, h => by
  have := zhW l fun y hy => h y (.tail _ hy)
  have := h x (.head _)
  simp only [sumI, List.length_cons]; omega
theorem zaK {α : Type} {l : List α} {i : Nat} (h : i < l.length) : idx l (i : Int) = some l[i] := by
 unfold idx
 rw [if_pos (by omega), Int.toNat_natCast, yai h]
theorem zcs {α : Type} {l : List α} {x : α} (h : l.length < 1000000) : app l [x] = some (l ++ [x]) := by
 unfold app
 rw [if_pos (by rw [zoj]; simp; omega)]
theorem zci {α : Type} {l ks : List α} {k : α} {i : Nat} (hk : l.drop i = k :: ks) : ∃ h : i < l.length, l[i] = k ∧ l.drop (i + 1) = ks := by
 have hlt : i < l.length := by
  have := congrArg List.length hk
  simp at this; omega
 refine ⟨hlt, ?_, by rw [← List.drop_drop, hk]; rfl⟩
 have := List.drop_eq_getElem_cons hlt
 rw [hk] at this
 exact (List.cons.inj this).1.symm
def wT (total : Int) (s : Size) : Int := if s.Kind = 1 then s.N else if s.Kind = 2 then max (Int.tdiv (total * s.N) 100) 1 else 1
theorem zjh {total : Int} {s : Size} (h0 : 0 ≤ total) (h1 : total ≤ 200) (hs : sizeOK s) : 1 ≤ wT total s ∧ wT total s ≤ 200 := by
 unfold wT
 unfold sizeOK at hs
 split
 ·omega
 ·split
  ·have hn : 1 ≤ s.N ∧ s.N ≤ 100 := by omega
   have e1 : total * s.N ≤ total * 100 := Int.mul_le_mul_of_nonneg_left hn.2 h0
   have e2 : 0 ≤ total * s.N := Int.mul_nonneg h0 (by omega)
   rw [Int.tdiv_eq_ediv_of_nonneg e2]
   omega
  ·omega
theorem zpl {total : Int} {s : Size} (h0 : 0 ≤ total) (h1 : total ≤ 200) (hs : sizeOK s) : zdL total s = some (wT total s) := by
 unfold zdL wT
 simp only [letB]
 unfold sizeOK at hs
 by_cases k1 : s.Kind = 1
 ·rw [yav k1, if_pos k1]; rfl
 ·rw [yau k1, if_neg k1]
  by_cases k2 : s.Kind = 2
  ·have hn : 1 ≤ s.N ∧ s.N ≤ 100 := by omega
   have e1 : total * s.N ≤ total * 100 := Int.mul_le_mul_of_nonneg_left hn.2 h0
   have e2 : 0 ≤ total * s.N := Int.mul_nonneg h0 (by omega)
   rw [yav k2, if_pos k2, zaj (n := total * s.N) (by omega) (by omega), Int.tdiv_eq_ediv_of_nonneg e2, zaj (by omega) (by omega)]
   rfl
  ·rw [yau k2, if_neg k2]; rfl
def flx : List Size → Nat → List Int
 | [], _ => []
 | s :: ss, i => if s.Kind = 0 then (i : Int) :: flx ss (i + 1) else flx ss (i + 1)
theorem zlC : ∀ (ss : List Size) (i : Nat), (flx ss i).length ≤ ss.length
 | [], _ => Nat.le_refl _
 | s :: ss, i => by
  have := zlC ss (i + 1)
  unfold flx
  split <;> simp only [List.length_cons] <;> omega
theorem zhX : ∀ (ss : List Size) (i : Nat) (x : Int), x ∈ flx ss i → (i : Int) ≤ x ∧ x < i + ss.length
 | s :: ss, i, x, h => by
  unfold flx at h
  simp only [List.length_cons]
  split at h
  ·rcases List.mem_cons.1 h with rfl | h
   ·omega
   ·have := zhX ss (i + 1) x h; omega
  ·have := zhX ss (i + 1) x h; omega
theorem zhY {total : Int} {sizes : List Size} (h0 : 0 ≤ total) (h1 : total ≤ 200) (hl : sizes.length ≤ 16) (hs : ∀ s ∈ sizes, sizeOK s) :
  ∀ (ss : List Size) (i : Nat) (out flex : List Int) (left : Int), sizes.drop i = ss → out.length = i → i + ss.length = sizes.length → flex.length ≤ i → -200 * i ≤ left → left ≤ 200 →
  iter (fun s => solve_Share_l1 total sizes s.1 s.2.1 s.2.2.1 s.2.2.2 : (List Int × List Int × Int × Int) → Option ((List Int × List Int × Int × Int) ⊕ (List Int × List Int × Int))) (out, flex, left, (i : Int)) = some (out ++ ss.map (wT total), flex ++ flx ss i, left - sumI (ss.map (wT total)))
 | [], i, out, flex, left, hd, ho, hi, hf, hb, hc => by
  refine zau ?_
  simp only [solve_Share_l1, letB]
  rw [yau (by simp only [List.length_nil] at hi; omega)]
  simp [flx, sumI]
 | s :: ss, i, out, flex, left, hd, ho, hi, hf, hb, hc => by
  obtain ⟨hlt, hget, hdrop⟩ := zci hd
  simp only [List.length_cons] at hi
  have hso : sizeOK s := hs s (hget ▸ yat hlt)
  have hw := zjh h0 h1 hso
  have hidx : idx sizes (i : Int) = some s := by rw [zaK hlt, hget]
  have hidx2 : idx (out ++ [wT total s]) (i : Int) = some (wT total s) := by
   rw [zaK (by simp; omega)]
   simp [← ho]
  have key : solve_Share_l1 total sizes out flex left (i : Int) = some (.inl (out ++ [wT total s], (if s.Kind = 0 then flex ++ [(i : Int)] else flex), left - wT total s, ((i + 1 : Nat) : Int))) := by
   simp only [solve_Share_l1, letB]
   rw [yav (show (i : Int) < (sizes.length : Int) by omega), zaj (n := (i : Int) + 1) (by omega) (by omega)]
   simp only [cond_true, hidx, Option.bind_some, zpl h0 h1 hso, zcs (show out.length < 1000000 by omega), hidx2, zcs (show flex.length < 1000000 by omega), zaj (n := left - wT total s) (show _ ≤ _ by omega) (show _ ≤ _ by omega)]
   by_cases h : s.Kind = 0
   ·rw [yav h, if_pos h]; rfl
   ·rw [yau h, if_neg h]; rfl
  refine (zaz key).trans ?_
  rw [zhY h0 h1 hl hs ss (i + 1) _ _ _ hdrop (by simp; omega) (by omega) (by split <;> (try simp) <;> omega) (by omega) (by omega)]
  simp only [List.map_cons, sumI, flx]
  congr 1
  refine Prod.ext ?_ (Prod.ext ?_ ?_)
  ·simp
  ·simp only; split <;> simp
  ·simp only; omega
theorem zol {total : Int} {n : Nat} (hn : n ≤ 16) (hnt : (n : Int) ≤ total) (ht : total ≤ 200) :
  ∀ (m : Nat) (out : List Int) (left : Int), out.length = n → m ≤ n → (∀ x ∈ out, 1 ≤ x ∧ x ≤ 200) → sumI out + left = total → left ≤ 200 → (left < 0 → ∀ j, m ≤ j → ∀ h : j < out.length, out[j] = 1) →
  ∃ out' left', iter (fun s => solve_Share_l2 s.1 s.2.1 s.2.2 : (List Int × Int × Int) → Option ((List Int × Int × Int) ⊕ (List Int × Int))) (out, left, (m : Int) - 1) = some (out', left') ∧ 0 ≤ left' ∧ out'.length = n ∧ (∀ x ∈ out', 1 ≤ x ∧ x ≤ 200) ∧ sumI out' + left' = total := by
 intro m
 induction m with
 | zero =>
  intro out left ho hm hr hs hl2 ht2
  have hl : 0 ≤ left := by
   rcases Int.lt_or_le left 0 with h | h
   ·have h1 := zhW out fun x hx => by
     obtain ⟨j, hj, rfl⟩ := List.mem_iff_getElem.1 hx
     exact ht2 h j (Nat.zero_le _) hj
    omega
   ·exact h
  refine ⟨out, left, zau ?_, hl, ho, hr, hs⟩
  simp only [solve_Share_l2, letB]
  rw [yau (by omega)]; rfl
 | succ m ih =>
  intro out left ho hm hr hs hl2 ht2
  have hex : 0 ≤ left → ∃ out' left', iter (fun s => solve_Share_l2 s.1 s.2.1 s.2.2 : (List Int × Int × Int) → Option ((List Int × Int × Int) ⊕ (List Int × Int))) (out, left, ((m + 1 : Nat) : Int) - 1) = some (out', left') ∧ 0 ≤ left' ∧ out'.length = n ∧ (∀ x ∈ out', 1 ≤ x ∧ x ≤ 200) ∧ sumI out' + left' = total := fun hl => by
   refine ⟨out, left, zau ?_, hl, ho, hr, hs⟩
   simp only [solve_Share_l2, letB]
   rw [yau (by omega)]; rfl
  rcases Int.lt_or_le left 0 with h | h
  ·have hlt : m < out.length := by omega
   have hx := hr out[m] (yat hlt)
   have hsum : (-3200 : Int) ≤ left := by
    have : ∀ l : List Int, (∀ x ∈ l, 1 ≤ x ∧ x ≤ 200) → sumI l ≤ 200 * l.length := by
     intro l
     induction l with
     | nil => intro _; simp [sumI]
     | cons y l ih =>
      intro hl
      have h1 := ih fun z hz => hl z (.tail _ hz)
      have h2 := hl y (.head _)
      simp only [sumI, List.length_cons]; omega
    have := this out hr
    omega
   have hidx : idx out (m : Int) = some out[m] := zaK hlt
   generalize hless : min (out[m] - 1) (0 - left) = less
   have hl0 : 0 ≤ less ∧ less ≤ out[m] - 1 ∧ less ≤ 0 - left := by omega
   have key : solve_Share_l2 out left (((m + 1 : Nat) : Int) - 1) = some (.inl (out.set m (out[m] - less), left + less, (m : Int) - 1)) := by
    simp only [solve_Share_l2, letB]
    rw [yav h, show ((m + 1 : Nat) : Int) - 1 = (m : Int) by omega]
    simp only [cond_true, hidx, Option.bind_some]
    rw [zaj (n := out[m] - 1) (by omega) (by omega), zaj (n := 0 - left) (by omega) (by omega), hless, zaj (n := out[m] - less) (by omega) (by omega), zaj (n := left + less) (by omega) (by omega), zaj (n := (m : Int) - 1) (by omega) (by omega)]
    unfold upI
    rw [Int.toNat_natCast]
   obtain ⟨out', left', e, r⟩ := ih (out.set m (out[m] - less)) (left + less) (by simp; omega) (by omega) (fun x hx => by
     rcases List.mem_or_eq_of_mem_set hx with hx | rfl
     ·exact hr x hx
     ·omega) (by rw [zdu out m _ hlt]; omega) (by omega) (fun hneg j hj hj2 => by
     by_cases hjm : j = m
     ·subst hjm
      rw [List.getElem_set_self]
      omega
     ·rw [List.getElem_set_ne (by omega)]
      exact ht2 h j (by omega) (by simpa using hj2))
   exact ⟨out', left', (zaz key).trans e, r⟩
  ·exact hex h
def give (left : Int) (k : Nat) (t : Nat) : Int := left / k + if (t : Int) < left % k then 1 else 0
def zdW (left : Int) (k : Nat) : Nat → Int
 | 0 => 0
 | t + 1 => zdW left k t + give left k t
theorem zji {left : Int} {k : Nat} (hk : 0 < k) (hl : 0 ≤ left) : ∀ t : Nat, t ≤ k → zdW left k t = t * (left / k) + min (t : Int) (left % k)
 | 0, _ => by
  have : 0 ≤ left % k := Int.emod_nonneg _ (by omega)
  simp only [zdW]; simp; omega
 | t + 1, h => by
  have h1 := zji hk hl t (by omega)
  simp only [zdW, give, h1]
  have e : ((t + 1 : Nat) : Int) * (left / k) = t * (left / k) + left / k := by rw [show ((t + 1 : Nat) : Int) = t + 1 by omega, Int.add_mul]; omega
  rw [e]
  split <;> omega
theorem zom {left : Int} {k : Nat} (hk : 0 < k) (hl : 0 ≤ left) : zdW left k k = left := by
 rw [zji hk hl k (Nat.le_refl _)]
 have h1 := Int.emod_lt_of_pos left (show (0 : Int) < k by omega)
 have h2 := Int.mul_ediv_add_emod left k
 omega
theorem zkw {j24 : List Int × List Int × Int} {j30 : List Int × Int} {n : Nat} (hn : n ≤ 16) (hfl : j24.2.1.length ≤ 16) (hfm : ∀ x ∈ j24.2.1, 0 ≤ x ∧ x < n) (hpos : 0 < j24.2.1.length) (hl0 : 0 ≤ j30.2) (hl1 : j30.2 ≤ 200) :
  ∀ (m t : Nat) (out : List Int), t + m = j24.2.1.length → out.length = n → (∀ x ∈ out, 1 ≤ x) → sumI out ≤ 200 + zdW j30.2 j24.2.1.length t → 0 ≤ zdW j30.2 j24.2.1.length t → zdW j30.2 j24.2.1.length t ≤ 400 →
  (∀ t', t ≤ t' → t' ≤ j24.2.1.length → 0 ≤ zdW j30.2 j24.2.1.length t' ∧ zdW j30.2 j24.2.1.length t' ≤ 400) →
  ∃ out', iter (fun s => solve_Share_l3 j24 j30 s.1 s.2 : (List Int × Int) → Option ((List Int × Int) ⊕ List Int)) (out, (t : Int)) = some out' ∧ out'.length = n ∧ (∀ x ∈ out', 1 ≤ x) ∧ sumI out' = sumI out + zdW j30.2 j24.2.1.length j24.2.1.length - zdW j30.2 j24.2.1.length t
 | 0, t, out, hm, ho, hr, hs, hg0, hg1, hg => by
  refine ⟨out, zau ?_, ho, hr, by rw [show t = j24.2.1.length by omega]; omega⟩
  simp only [solve_Share_l3, letB]
  rw [yau (by omega)]; rfl
 | m + 1, t, out, hm, ho, hr, hs, hg0, hg1, hg => by
  have hlt : t < j24.2.1.length := by omega
  have hx := hfm _ (yat hlt)
  obtain ⟨x, hxe⟩ : ∃ x : Nat, (x : Int) = j24.2.1[t] := ⟨j24.2.1[t].toNat, by omega⟩
  have hxn : x < out.length := by omega
  have hidx : idx j24.2.1 (t : Int) = some (x : Int) := by rw [zaK hlt, hxe]
  have hidx2 : idx out (x : Int) = some out[x] := zaK hxn
  have hox := hr _ (yat hxn)
  have hoy := zmc out hr _ (yat hxn)
  have hreq : req (decide ((j24.2.1.length : Int) ≠ 0)) = some () := by rw [yav (by omega)]; rfl
  have hk : (0 : Int) < (j24.2.1.length : Int) := by omega
  have hq : 0 ≤ j30.2 / (j24.2.1.length : Int) ∧ j30.2 / (j24.2.1.length : Int) ≤ 200 := ⟨Int.ediv_nonneg hl0 (by omega), Int.le_trans (Int.ediv_le_self _ hl0) hl1⟩
  have hgt := hg (t + 1) (by omega) (by omega)
  have hgive : 0 ≤ give j30.2 j24.2.1.length t ∧ give j30.2 j24.2.1.length t ≤ 201 := by unfold give; split <;> omega
  have key : solve_Share_l3 j24 j30 out (t : Int) = some (.inl (out.set x (out[x] + give j30.2 j24.2.1.length t), ((t + 1 : Nat) : Int))) := by
   simp only [solve_Share_l3, letB]
   rw [yav (show (t : Int) < (j24.2.1.length : Int) by omega), zaj (n := (t : Int) + 1) (by omega) (by omega)]
   simp only [cond_true, hidx, Option.bind_some, hidx2, hreq, Int.tdiv_eq_ediv_of_nonneg hl0, Int.tmod_eq_emod_of_nonneg hl0]
   rw [zaj (n := j30.2 / (j24.2.1.length : Int)) (by omega) (by omega), zaj (n := out[x] + j30.2 / (j24.2.1.length : Int)) (by omega) (by omega)]
   have hset : idx (upI out (x : Int) (out[x] + j30.2 / (j24.2.1.length : Int))) (x : Int) = some (out[x] + j30.2 / (j24.2.1.length : Int)) := by
    unfold upI
    rw [Int.toNat_natCast, zaK (by simp; omega), List.getElem_set_self]
   unfold give
   by_cases hb : (t : Int) < j30.2 % (j24.2.1.length : Int)
   ·rw [yav hb, if_pos hb]
    simp only [cond_true, hset, Option.bind_some]
    rw [zaj (n := out[x] + j30.2 / (j24.2.1.length : Int) + 1) (by omega) (by omega)]
    unfold upI
    rw [Int.toNat_natCast, List.set_set, Int.add_assoc]
    rfl
   ·rw [yau hb, if_neg hb]
    simp only [cond_false, Option.bind_some]
    unfold upI
    rw [Int.toNat_natCast, Int.add_zero]
    rfl
  obtain ⟨out', e, r1, r2, r3⟩ := zkw hn hfl hfm hpos hl0 hl1 m (t + 1) (out.set x (out[x] + give j30.2 j24.2.1.length t)) (by omega) (by simp; omega) (fun y hy => by
    rcases List.mem_or_eq_of_mem_set hy with hy | rfl
    ·exact hr y hy
    ·omega) (by rw [zdu out x _ hxn]; simp only [zdW]; omega) hgt.1 hgt.2 (fun t' h1 h2 => hg t' (by omega) h2)
  refine ⟨out', (zaz key).trans e, r1, r2, ?_⟩
  rw [r3, zdu out x _ hxn]
  simp only [zdW]
  omega
theorem zfE {sizes : List Size} (hl : sizes.length ≤ 16) (hs : ∀ s ∈ sizes, sizeOK s) : za8 sizes 57 = some false := by
 have loop : ∀ (ss : List Size) (i : Nat), sizes.drop i = ss → i + ss.length = sizes.length → iter (fun s => slices_IndexFunc_80_l1 sizes 57 s : Int → Option (Int ⊕ (Int ⊕ Unit))) (i : Int) = some (.inr ()) := by
  intro ss
  induction ss with
  | nil =>
   intro i hd hi
   refine zau ?_
   simp only [slices_IndexFunc_80_l1, letB]
   rw [yau (by simp only [List.length_nil] at hi; omega)]; rfl
  | cons s ss ih =>
   intro i hd hi
   obtain ⟨hlt, hget, hdrop⟩ := zci hd
   simp only [List.length_cons] at hi
   have hso : sizeOK s := hs s (hget ▸ yat hlt)
   refine (zaz (s' := ((i + 1 : Nat) : Int)) ?_).trans (ih (i + 1) hdrop (by omega))
   simp only [slices_IndexFunc_80_l1, letB]
   rw [yav (show (i : Int) < (sizes.length : Int) by omega), zaK hlt, hget, zaj (n := (i : Int) + 1) (by omega) (by omega)]
   simp only [cond_true, Option.bind_some, zcR, zmb, if_pos hso, letB]
   rfl
 unfold za8 zcc
 rw [show (0 : Int) = ((0 : Nat) : Int) from rfl, loop sizes 0 rfl (by omega)]
 rfl
theorem zea {total : Int} {sizes : List Size} (hn0 : 1 ≤ sizes.length) (hl : sizes.length ≤ 16) (hs : ∀ s ∈ sizes, sizeOK s) (h1 : total ≤ 200) (hlt : total < sizes.length) : zba total sizes = some ([], 90) := by
 unfold zba
 simp only [letB, zfE hl hs, Option.bind_some]
 rw [yau (by omega), yau (by omega), yau (by omega), yav hlt]
 rfl
theorem zjj {total : Int} {sizes : List Size} (hn0 : 1 ≤ sizes.length) (hl : sizes.length ≤ 16) (hs : ∀ s ∈ sizes, sizeOK s) (h1 : total ≤ 200) (hge : (sizes.length : Int) ≤ total) :
  ∃ l, zba total sizes = some (l, 0) ∧ l.length = sizes.length ∧ (∀ x ∈ l, 1 ≤ x) ∧ sumI l = total := by
 have hw : ∀ x ∈ sizes.map (wT total), 1 ≤ x ∧ x ≤ 200 := fun x hx => by
  obtain ⟨s, hm, rfl⟩ := List.mem_map.1 hx
  exact zjh (by omega) h1 (hs s hm)
 have e1 := zhY (by omega) h1 hl hs sizes 0 [] [] total rfl rfl (by omega) (Nat.le_refl _) (by omega) h1
 simp only [List.nil_append] at e1
 obtain ⟨out, left, e2, hl0, ho, hr, hsum⟩ := zol hl hge h1 sizes.length (sizes.map (wT total)) (total - sumI (sizes.map (wT total))) (by simp) (Nat.le_refl _) hw (by omega) (by have := zgw _ fun x hx => (hw x hx).1; omega) (fun _ j hj h => by simp at h; omega)
 have hr1 : ∀ x ∈ out, 1 ≤ x := fun x hx => (hr x hx).1
 have hoge := zgw out hr1
 have pre : zba total sizes = (letB (decide (((flx sizes 0).length : Int) = 0)) fun c31 =>
    bif c31 then (
     (idx out (w64 ((out.length : Int) - 1))).bind fun x33 =>
     (idx out (w64 ((out.length : Int) - 1))).bind fun x34 =>
     some (upI out (w64 ((out.length : Int) - 1)) (w64 (x33 + left)), 0))
    else (
     (iter (fun s => solve_Share_l3 (sizes.map (wT total), flx sizes 0, total - sumI (sizes.map (wT total))) (out, left) s.1 s.2 : (List Int × Int) → Option ((List Int × Int) ⊕ List Int)) (out, 0)).bind fun j48 =>
     some (j48, 0))) := by
  unfold zba
  simp only [letB, zfE hl hs, Option.bind_some]
  rw [yau (by omega), yau (by omega), yau (by omega), yau (by omega)]
  simp only [cond_false, Option.bind_some]
  rw [show (0 : Int) = ((0 : Nat) : Int) from rfl, e1]
  simp only [Option.bind_some]
  rw [show w64 (((sizes.map (wT total)).length : Int) - 1) = (sizes.length : Int) - 1 by rw [yal, zaj (by omega) (by omega)], e2]
  rfl
 rw [pre]
 simp only [letB]
 by_cases hf : (flx sizes 0).length = 0
 ·rw [yav (by omega), zaj (n := (out.length : Int) - 1) (by omega) (by omega), show (out.length : Int) - 1 = ((out.length - 1 : Nat) : Int) by omega, zaK (by omega)]
  simp only [cond_true, Option.bind_some]
  have hlast : out.length - 1 < out.length := by omega
  have hb := hr _ (yat hlast)
  rw [zaj (by omega) (by omega)]
  unfold upI
  rw [Int.toNat_natCast]
  refine ⟨_, rfl, by simp; omega, fun x hx => ?_, ?_⟩
  ·rcases List.mem_or_eq_of_mem_set hx with hx | rfl
   ·exact hr1 x hx
   ·omega
  ·rw [zdu out _ _ hlast]; omega
 ·rw [yau (by omega)]
  simp only [cond_false]
  have hfl := zlC sizes 0
  have hfp : 0 < (flx sizes 0).length := by omega
  have hg : ∀ t', 0 ≤ t' → t' ≤ (flx sizes 0).length → 0 ≤ zdW left (flx sizes 0).length t' ∧ zdW left (flx sizes 0).length t' ≤ 400 := fun t' _ ht => by
   rw [zji hfp hl0 t' ht]
   have a1 : 0 ≤ left % ((flx sizes 0).length : Int) := Int.emod_nonneg _ (by omega)
   have a2 : 0 ≤ left / ((flx sizes 0).length : Int) := Int.ediv_nonneg hl0 (by omega)
   have a3 : 0 ≤ (t' : Int) * (left / ((flx sizes 0).length : Int)) := Int.mul_nonneg (by omega) a2
   have a4 : (t' : Int) * (left / ((flx sizes 0).length : Int)) ≤ ((flx sizes 0).length : Int) * (left / ((flx sizes 0).length : Int)) := Int.mul_le_mul_of_nonneg_right (by omega) a2
   have a5 := Int.mul_ediv_add_emod left ((flx sizes 0).length : Int)
   omega
  have h0 := hg 0 (Nat.le_refl _) (by omega)
  obtain ⟨out', e3, r1, r2, r3⟩ := zkw (j24 := (sizes.map (wT total), flx sizes 0, total - sumI (sizes.map (wT total)))) (j30 := (out, left)) (n := sizes.length) hl (by show (flx sizes 0).length ≤ 16; omega) (fun x hx => by have := zhX sizes 0 x hx; omega) hfp hl0 (by show left ≤ 200; omega) (flx sizes 0).length 0 out (by show 0 + (flx sizes 0).length = (flx sizes 0).length; omega) ho hr1 (by show sumI out ≤ 200 + zdW left (flx sizes 0).length 0; simp only [zdW]; omega) h0.1 h0.2 hg
  rw [show (0 : Int) = ((0 : Nat) : Int) from rfl, e3]
  refine ⟨out', rfl, r1, r2, ?_⟩
  rw [r3]
  show sumI out + zdW left (flx sizes 0).length (flx sizes 0).length - zdW left (flx sizes 0).length 0 = total
  rw [zom hfp hl0]
  simp only [zdW]
  omega
end Go.Proofs.YtakdnfneikbjjaaGreatDoor.Am.Lay10

set_option linter.all false
namespace Go.Proofs.YtakdnfneikbjjaaGreatDoor.Am.Lay10
open Go.Proofs.YtakdnfneikbjjaaGreatDoor.Am.T
def Rok (r : Rect) : Prop := -5000 ≤ r.X ∧ 0 ≤ r.W ∧ r.W ≤ 200 ∧ r.X + r.W ≤ 5000 ∧ -5000 ≤ r.Y ∧ 0 ≤ r.H ∧ r.H ≤ 200 ∧ r.Y + r.H ≤ 5000
def Nice (r : Rect) : Prop := Rok r ∧ ((r.W = 0 ∨ r.H = 0) → r = ⟨0, 0, 0, 0⟩)
theorem zhZ {r : Rect} (h : Rok r) : cleanT r = if r.W = 0 ∨ r.H = 0 then ⟨0, 0, 0, 0⟩ else r := by
 obtain ⟨h1, h2, h3, h4, h5, h6, h7, h8⟩ := h
 unfold cleanT cl
 simp only
 have e1 : max (-5000) (min r.X 5000) = r.X := by omega
 have e2 : max (-5000) (min r.Y 5000) = r.Y := by omega
 rw [e1, e2]
 have e3 : max 0 (min r.W (min 200 (5000 - r.X))) = r.W := by omega
 have e4 : max 0 (min r.H (min 200 (5000 - r.Y))) = r.H := by omega
 rw [e3, e4]
theorem zbz (r : Rect) : Nice (cleanT r) := by
 unfold cleanT
 simp only
 have hx := zbl (n := r.X) (show (-5000 : Int) ≤ 5000 by omega)
 have hy := zbl (n := r.Y) (show (-5000 : Int) ≤ 5000 by omega)
 generalize cl r.X (-5000) 5000 = x at *
 generalize cl r.Y (-5000) 5000 = y at *
 have hw := zbl (n := r.W) (show (0 : Int) ≤ min 200 (5000 - x) by omega)
 have hh := zbl (n := r.H) (show (0 : Int) ≤ min 200 (5000 - y) by omega)
 split
 ·exact ⟨⟨by decide, by decide, by decide, by decide, by decide, by decide, by decide, by decide⟩, fun _ => rfl⟩
 ·rename_i h
  exact ⟨⟨hx.1, hw.1, by simp only; omega, by simp only; omega, hy.1, hh.1, by simp only; omega, by simp only; omega⟩, fun h2 => absurd h2 h⟩
theorem zfh {r : Rect} (h : Nice r) : cleanT r = r := by
 rw [zhZ h.1]
 split
 ·rename_i h2; exact (h.2 h2).symm
 ·rfl
def cutA (across : Bool) (r : Rect) (n : Int) : Rect := if across = true then { r with H := cl n 0 r.H } else { r with W := cl n 0 r.W }
def cutB (across : Bool) (r : Rect) (n : Int) : Rect := if across = true then { r with Y := r.Y + cl n 0 r.H, H := r.H - cl n 0 r.H } else { r with X := r.X + cl n 0 r.W, W := r.W - cl n 0 r.W }
def cutT (across : Bool) : Rect → List Int → List Rect
 | _, [] => []
 | r, n :: ns => cleanT (cutA across r n) :: cutT across (cutB across r n) ns
theorem zmd (across : Bool) : ∀ (r : Rect) (ns : List Int), (cutT across r ns).length = ns.length
 | _, [] => rfl
 | r, n :: ns => by simp only [cutT, List.length_cons, zmd across _ ns]
theorem zme {across : Bool} {r : Rect} {n : Int} (h : Rok r) : Rok (cutB across r n) := by
 obtain ⟨h1, h2, h3, h4, h5, h6, h7, h8⟩ := h
 have a := zbl (n := n) h2
 have b := zbl (n := n) h6
 unfold cutB Rok
 split <;> simp only <;> omega
theorem zmf {across : Bool} {ns : List Int} (hl : ns.length ≤ 16) : ∀ (ms : List Int) (i : Nat) (out : List Rect) (r : Rect), ns.drop i = ms → out.length = i → i + ms.length = ns.length → Rok r →
  ∃ r', iter (fun s => rect_Cut_l1 across ns s.1 s.2.1 s.2.2 : (List Rect × Int × Rect) → Option ((List Rect × Int × Rect) ⊕ (List Rect × Rect))) (out, (i : Int), r) = some (out ++ cutT across r ms, r')
 | [], i, out, r, hd, ho, hi, hr => by
  refine ⟨r, zau ?_⟩
  simp only [rect_Cut_l1, letB]
  rw [yau (by simp only [List.length_nil] at hi; omega)]
  simp [cutT]
 | n :: ms, i, out, r, hd, ho, hi, hr => by
  obtain ⟨hlt, hget, hdrop⟩ := zci hd
  simp only [List.length_cons] at hi
  obtain ⟨r', e⟩ := zmf hl ms (i + 1) (out ++ [cleanT (cutA across r n)]) (cutB across r n) hdrop (by simp; omega) (by omega) (zme hr)
  refine ⟨r', (zaz ?_).trans (e.trans ?_)⟩
  ·obtain ⟨h1, h2, h3, h4, h5, h6, h7, h8⟩ := hr
   have a := zbl (n := n) h2
   have b := zbl (n := n) h6
   simp only [rect_Cut_l1, letB]
   rw [yav (show (i : Int) < (ns.length : Int) by omega), zaK hlt, hget, zaj (n := (i : Int) + 1) (by omega) (by omega)]
   simp only [cond_true, Option.bind_some, zby, zdc]
   unfold cl at a b
   cases across with
   | true =>
    rw [zaj (n := r.Y + max 0 (min n r.H)) (by omega) (by omega), zaj (n := r.H - max 0 (min n r.H)) (by omega) (by omega)]
    simp only [cond_true, Option.bind_some, zcs (show out.length < 1000000 by omega)]
    rfl
   | false =>
    rw [zaj (n := r.X + max 0 (min n r.W)) (by omega) (by omega), zaj (n := r.W - max 0 (min n r.W)) (by omega) (by omega)]
    simp only [cond_false, Option.bind_some, zcs (show out.length < 1000000 by omega)]
    rfl
  ·simp [cutT]
theorem zpC {across : Bool} {r : Rect} {ns : List Int} (hl : ns.length ≤ 16) (hr : Nice r) : zff r ns across = some (cutT across r ns) := by
 unfold zff subB
 rw [zdc, zfh hr]
 simp only [Option.bind_some]
 rw [if_pos (by omega)]
 simp only [Option.bind_some]
 rw [show (min (ns.length : Int) 16).toNat = ns.length by omega, List.take_length]
 obtain ⟨r', e⟩ := zmf (across := across) hl ns 0 [] r rfl rfl (by omega) hr.1
 rw [show (0 : Int) = ((0 : Nat) : Int) from rfl, e]
 simp
def addC (sp : List Spot) (c : Rect × Bool) : List Spot := sp ++ [⟨sp.length, c.1, 0, c.2⟩]
theorem zmg (cs : List (Rect × Bool)) : ∀ sp : List Spot, (cs.foldl addC sp).length = sp.length + cs.length := by
 induction cs with
 | nil => intro sp; rfl
 | cons c cs ih => intro sp; rw [List.foldl_cons, ih]; simp [addC]; omega
theorem zmh {sp : List Spot} {r : Rect} {z : Int} {t : Bool} (h : sp.length < 1000000) : zaX ⟨sp⟩ r z t = some ⟨sp ++ [⟨sp.length, r, z, t⟩]⟩ := by
 unfold zaX
 rw [zcs h]; rfl
def stkT : Nat → Rect → List (Rect × Bool)
 | 0, r => [(cleanT r, false)]
 | k + 1, r => (cleanT { r with H := min 1 (max (r.H - 1) 0) }, true) :: stkT k { r with Y := r.Y + min 1 (max (r.H - 1) 0), H := r.H - min 1 (max (r.H - 1) 0) }
theorem zg5 : ∀ (k : Nat) (r : Rect), (stkT k r).length = k + 1
 | 0, _ => rfl
 | k + 1, r => by simp only [stkT, List.length_cons, zg5 k]
theorem zmi {xs : List Plan} (hl : xs.length ≤ 16) : ∀ (m i : Nat) (r : Rect) (sp : List Spot), i + m = xs.length → Rok r → sp.length + (m + 1) < 1000000 →
  ∃ r' sp', iter (fun s => layout_placer_layF_l8 xs s.1 s.2.1 s.2.2 : (Int × Rect × Placer) → Option ((Int × Rect × Placer) ⊕ (Rect × Placer))) ((i : Int), r, ⟨sp⟩) = some (r', ⟨sp'⟩) ∧ sp' ++ [⟨sp'.length, cleanT r', 0, false⟩] = (stkT m r).foldl addC sp ∧ sp'.length < 1000000
 | 0, i, r, sp, hi, hr, hs => by
  refine ⟨r, sp, zau ?_, rfl, by omega⟩
  simp only [layout_placer_layF_l8, letB]
  rw [yau (by omega)]; rfl
 | m + 1, i, r, sp, hi, hr, hs => by
  obtain ⟨h1, h2, h3, h4, h5, h6, h7, h8⟩ := hr
  obtain ⟨r', sp', e, e2, e3⟩ := zmi hl m (i + 1) { r with Y := r.Y + min 1 (max (r.H - 1) 0), H := r.H - min 1 (max (r.H - 1) 0) } (addC sp (cleanT { r with H := min 1 (max (r.H - 1) 0) }, true)) (by omega) (by unfold Rok; simp only; omega) (by simp [addC]; omega)
  refine ⟨r', sp', (zaz ?_).trans e, e2, e3⟩
  simp only [layout_placer_layF_l8, letB]
  rw [yav (show (i : Int) < (xs.length : Int) by omega), zaj (n := r.H - 1) (by omega) (by omega), zaj (n := (i : Int) + 1) (by omega) (by omega), zaj (n := r.Y + min 1 (max (r.H - 1) 0)) (by omega) (by omega), zaj (n := r.H - min 1 (max (r.H - 1) 0)) (by omega) (by omega)]
  simp only [cond_true, zdc, Option.bind_some, zmh (show sp.length < 1000000 by omega)]
  rfl
def Rt : Nat → Plan → Prop
 | 0, _ => False
 | d + 1, p => sizeOK p.Size ∧ (p.Kind = 1 ∨ (p.Kind ≠ 1 ∧ zfu p ∧ 1 ≤ p.Kids.length ∧ p.Kids.length ≤ 16 ∧ ∀ k ∈ p.Kids, Rt d k ∧ (p.Kind = 4 → k.Kind = 1)))
def sumN : List Nat → Nat
 | [] => 0
 | x :: l => x + sumN l
def lv : Nat → Plan → Nat
 | 0, _ => 0
 | d + 1, p => if p.Kind = 1 then 1 else sumN (p.Kids.map (lv d))
theorem zh0 {d : Nat} {q : Plan} (hd : ∀ k n n', 0 ≤ n → n ≤ 24 → mT d k n = (true, n') → Rt d k ∧ n' = n + lv d k) : ∀ (ks : List Plan) (n n' : Int), 0 ≤ n → n ≤ 24 → mKids (mT d) q ks n = (true, n') → (∀ k ∈ ks, Rt d k ∧ (q.Kind = 4 → k.Kind = 1)) ∧ n' = n + sumN (ks.map (lv d))
 | [], n, n', h0, h1, h => by
  unfold mKids at h
  cases h
  exact ⟨fun _ h => (by cases h), by simp [sumN]⟩
 | k :: ks, n, n', h0, h1, h => by
  unfold mKids at h
  split at h
  ·cases h
  ·rename_i h4
   split at h
   ·rename_i hb
    have hr := zg4 d k n h0 h1
    obtain ⟨a, b⟩ := hd k n (mT d k n).2 h0 h1 (Prod.ext hb rfl)
    have h4' := hr.2.2 hb
    have h5' := hr.1
    obtain ⟨c, e⟩ := zh0 hd ks _ n' (by omega) h4' h
    refine ⟨fun x hx => ?_, ?_⟩
    ·rcases List.mem_cons.1 hx with rfl | hx
     ·exact ⟨a, fun h => Classical.byContradiction fun hh => h4 ⟨h, hh⟩⟩
     ·exact c x hx
    ·simp only [List.map_cons, sumN]; omega
   ·cases h
theorem zmj : ∀ (d : Nat) (p : Plan) (n n' : Int), 0 ≤ n → n ≤ 24 → mT d p n = (true, n') → Rt d p ∧ n' = n + lv d p
 | 0, p, n, n', h0, h1, h => by cases h
 | d + 1, p, n, n', h0, h1, h => by
  unfold mT at h
  unfold Rt lv
  split at h
  ·cases h
  ·rename_i hs
   have hs : sizeOK p.Size := Classical.not_not.1 hs
   split at h
   ·rename_i hk
    obtain ⟨_, rfl⟩ := Prod.mk.inj h
    rw [if_pos hk]
    exact ⟨⟨hs, .inl hk⟩, rfl⟩
   ·rename_i hk
    split at h
    ·cases h
    ·rename_i hko
     have hko : zfu p := Classical.not_not.1 hko
     split at h
     ·cases h
     ·rename_i hlen
      obtain ⟨a, b⟩ := zh0 (zmj d) p.Kids n n' h0 h1 h
      rw [if_neg hk]
      exact ⟨⟨hs, .inr ⟨hk, hko, by omega, by omega, a⟩⟩, b⟩
noncomputable def lenT (total : Int) (sizes : List Size) : List Int := match zba total sizes with
 | some (l, e) => if e = 0 then l else List.replicate sizes.length 1
 | none => []
def totT (p : Plan) (r : Rect) : Int := if p.Kind = 3 then r.H else r.W
noncomputable def partsT (p : Plan) (r : Rect) : List Rect := cutT (decide (p.Kind = 3)) r (lenT (totT p r) (p.Kids.map Plan.Size))
noncomputable def layT : Nat → Plan → Rect → List (Rect × Bool)
 | 0, _, _ => []
 | d + 1, p, r => if p.Kind = 1 then [(r, false)] else if p.Kind = 4 then stkT (p.Kids.length - 1) r else (p.Kids.zip (partsT p r)).flatMap fun x => layT d x.1 x.2
theorem zmk {total : Int} {sizes : List Size} (hn0 : 1 ≤ sizes.length) (hl : sizes.length ≤ 16) (hs : ∀ s ∈ sizes, sizeOK s) (h1 : total ≤ 200) : (lenT total sizes).length = sizes.length := by
 unfold lenT
 by_cases hlt : total < sizes.length
 ·rw [zea hn0 hl hs h1 hlt]; simp
 ·obtain ⟨l, e, h2, _, _⟩ := zjj hn0 hl hs h1 (by omega)
  rw [e]; exact h2
theorem Rt.sizeOK {d : Nat} {p : Plan} (h : Rt d p) : sizeOK p.Size := by
 cases d with
 | zero => exact h.elim
 | succ d => exact h.1
theorem zgR {p : Plan} {r : Rect} (hr : Nice r) : totT p r ≤ 200 := by
 obtain ⟨h1, h2, h3, h4, h5, h6, h7, h8⟩ := hr.1
 unfold totT; split <;> assumption
theorem zgx {d : Nat} {p : Plan} {r : Rect} (hr : Nice r) (hn0 : 1 ≤ p.Kids.length) (hl : p.Kids.length ≤ 16) (hk : ∀ k ∈ p.Kids, Rt d k) : (partsT p r).length = p.Kids.length := by
 unfold partsT
 rw [zmd, zmk (by simpa using hn0) (by simpa using hl) (fun s hm => by
  obtain ⟨k, h1, rfl⟩ := List.mem_map.1 hm
  exact (hk k h1).sizeOK) (zgR hr), yal]
theorem zg6 : ∀ (d : Nat) (p : Plan) (r : Rect), Rt d p → Nice r → (layT d p r).length = lv d p
 | 0, p, r, h, hr => h.elim
 | d + 1, p, r, h, hr => by
  unfold layT lv
  obtain ⟨hs, h | ⟨hk, hko, hn0, hl, hks⟩⟩ := h
  ·rw [if_pos h, if_pos h]; rfl
  ·rw [if_neg hk, if_neg hk]
   by_cases h4 : p.Kind = 4
   ·rw [if_pos h4, zg5]
    have key : ∀ ks : List Plan, (∀ k ∈ ks, Rt d k ∧ k.Kind = 1) → sumN (ks.map (lv d)) = ks.length := by
     intro ks
     induction ks with
     | nil => intro _; rfl
     | cons k ks ih =>
      intro hh
      obtain ⟨a, b⟩ := hh k (.head _)
      simp only [List.map_cons, sumN, ih fun x hx => hh x (.tail _ hx), List.length_cons]
      cases d with
      | zero => exact a.elim
      | succ d => rw [lv, if_pos b]; omega
    rw [key _ fun k hm => ⟨(hks k hm).1, (hks k hm).2 h4⟩]; omega
   ·rw [if_neg h4]
    have hpl := zgx hr hn0 hl fun k hm => (hks k hm).1
    have hnice : ∀ x ∈ partsT p r, Nice x := by
     unfold partsT
     generalize lenT _ _ = ns
     have : ∀ (ns : List Int) (r : Rect), ∀ x ∈ cutT (decide (p.Kind = 3)) r ns, Nice x := by
      intro ns
      induction ns with
      | nil => intro r x hx; cases hx
      | cons n ns ih =>
       intro r x hx
       rcases List.mem_cons.1 hx with rfl | hx
       ·exact zbz _
       ·exact ih _ x hx
     exact this ns r
    have key : ∀ (ks : List Plan) (ps : List Rect), ks.length = ps.length → (∀ k ∈ ks, Rt d k) → (∀ x ∈ ps, Nice x) → ((ks.zip ps).flatMap fun x => layT d x.1 x.2).length = sumN (ks.map (lv d)) := by
     intro ks
     induction ks with
     | nil => intro ps _ _ _; rfl
     | cons k ks ih =>
      intro ps hlen hk1 hp1
      cases ps with
      | nil => cases hlen
      | cons x ps =>
       simp only [List.zip_cons_cons, yag, yar, List.map_cons, sumN]
       rw [zg6 d k x (hk1 k (.head _)) (hp1 x (.head _)), ih ps (by simpa using hlen) (fun y hy => hk1 y (.tail _ hy)) (fun y hy => hp1 y (.tail _ hy))]
    exact key _ _ hpl.symm (fun k hm => (hks k hm).1) hnice
theorem zh1 (across : Bool) : ∀ (ns : List Int) (r : Rect), ∀ x ∈ cutT across r ns, Nice x
 | [], r, x, hx => by cases hx
 | n :: ns, r, x, hx => by
  rcases List.mem_cons.1 hx with rfl | hx
  ·exact zbz _
  ·exact zh1 across ns _ x hx
theorem ziM {p : Plan} (hl : p.Kids.length ≤ 16) : ∀ (ks : List Plan) (i : Nat) (out : List Size), p.Kids.drop i = ks → out.length = i → i + ks.length = p.Kids.length →
  iter (fun s => layout_placer_splitF_l1 p s.1 s.2 : (List Size × Int) → Option ((List Size × Int) ⊕ List Size)) (out, (i : Int)) = some (out ++ ks.map Plan.Size)
 | [], i, out, hd, ho, hi => by
  refine zau ?_
  simp only [layout_placer_splitF_l1, letB]
  rw [yau (by simp only [List.length_nil] at hi; omega)]
  simp
 | k :: ks, i, out, hd, ho, hi => by
  obtain ⟨hlt, hget, hdrop⟩ := zci hd
  simp only [List.length_cons] at hi
  refine (zaz (s' := (out ++ [k.Size], ((i + 1 : Nat) : Int))) ?_).trans ((ziM hl ks (i + 1) _ hdrop (by simp; omega) (by omega)).trans (by simp))
  simp only [layout_placer_splitF_l1, letB]
  rw [yav (show (i : Int) < (p.Kids.length : Int) by omega), zaK hlt, hget, zaj (n := (i : Int) + 1) (by omega) (by omega)]
  simp only [cond_true, Option.bind_some, zcs (show out.length < 1000000 by omega)]
  rfl
theorem zkx {x12 : List Int} (hl : x12.length ≤ 16) : ∀ (m i : Nat) (a : List Int), a.length = i → i + m = x12.length → a = List.replicate i 1 →
  iter (fun s => layout_placer_splitF_l3 x12 s.1 s.2 : (List Int × Int) → Option ((List Int × Int) ⊕ List Int)) (a ++ List.replicate m 0, (i : Int)) = some (List.replicate (i + m) 1)
 | 0, i, a, ha, hi, h => by
  refine zau ?_
  simp only [layout_placer_splitF_l3, letB]
  rw [yau (by omega)]
  simp [h]
 | m + 1, i, a, ha, hi, h => by
  have hlt : i < (a ++ List.replicate (m + 1) (0 : Int)).length := by simp; omega
  refine (zaz (s' := ((a ++ [1]) ++ List.replicate m 0, ((i + 1 : Nat) : Int))) ?_).trans ((zkx hl m (i + 1) (a ++ [1]) (by simp; omega) (by omega) (by rw [h, List.replicate_succ'])).trans (by rw [show i + 1 + m = i + (m + 1) by omega]))
  simp only [layout_placer_splitF_l3, letB]
  rw [yav (show (i : Int) < (x12.length : Int) by omega), zaK hlt, zaj (n := (i : Int) + 1) (by omega) (by omega)]
  simp only [cond_true, Option.bind_some]
  unfold upI
  rw [Int.toNat_natCast]
  have : (a ++ List.replicate (m + 1) (0 : Int)).set i 1 = (a ++ [1]) ++ List.replicate m 0 := by
   rw [List.set_append_right _ _ (by omega), ha, Nat.sub_self, List.replicate_succ, List.set_cons_zero]
   simp
  rw [this]; rfl
theorem zml {p : Plan} {d : Nat} {rec : Placer → Plan → Rect → Option Placer} {ys : List Rect} (hy : ys.length = p.Kids.length) (hl : p.Kids.length ≤ 16)
  (hrec : ∀ k ∈ p.Kids, ∀ x ∈ ys, ∀ sp : List Spot, sp.length + (layT d k x).length < 1000000 → rec ⟨sp⟩ k x = some ⟨(layT d k x).foldl addC sp⟩) :
  ∀ (zs : List (Plan × Rect)) (i : Nat) (sp : List Spot), (p.Kids.zip ys).drop i = zs → i + zs.length = p.Kids.length → sp.length + (zs.flatMap fun x => layT d x.1 x.2).length < 1000000 →
  iter (fun s => layout_placer_splitF_l4 p rec ys s.1 s.2 : (Int × Placer) → Option ((Int × Placer) ⊕ Placer)) ((i : Int), ⟨sp⟩) = some ⟨(zs.flatMap fun x => layT d x.1 x.2).foldl addC sp⟩
 | [], i, sp, hd, hi, hs => by
  refine zau ?_
  simp only [layout_placer_splitF_l4, letB]
  rw [yau (by simp only [List.length_nil] at hi; omega)]
  rfl
 | z :: zs, i, sp, hd, hi, hs => by
  obtain ⟨hlt, hget, hdrop⟩ := zci hd
  simp only [List.length_cons] at hi
  have h1 : i < p.Kids.length := by omega
  have h2 : i < ys.length := by omega
  rw [List.getElem_zip] at hget
  subst hget
  simp only [yag, yar] at hs
  simp only [yag, List.foldl_append]
  have hr := hrec _ (yat h1) _ (yat h2) sp (by omega)
  refine (zaz (s' := (((i + 1 : Nat) : Int), ⟨(layT d p.Kids[i] ys[i]).foldl addC sp⟩)) ?_).trans (zml hy hl hrec zs (i + 1) _ hdrop (by omega) (by rw [zmg]; omega))
  simp only [layout_placer_splitF_l4, letB]
  rw [yav (show (i : Int) < (ys.length : Int) by omega), zaK h2, zaK h1, zaj (n := (i : Int) + 1) (by omega) (by omega)]
  simp only [cond_true, Option.bind_some, hr]
  rfl
theorem zpD : ∀ (d m : Nat) (p : Plan) (r : Rect) (sp : List Spot), Rt d p → Nice r → 2 * d ≤ m → sp.length + (layT d p r).length < 1000000 →
  (zan m).1 ⟨sp⟩ p r = some ⟨(layT d p r).foldl addC sp⟩
 | 0, m, p, r, sp, h, hr, hm, hs => h.elim
 | d + 1, 0, p, r, sp, h, hr, hm, hs => by omega
 | d + 1, 1, p, r, sp, h, hr, hm, hs => by omega
 | d + 1, m + 2, p, r, sp, h, hr, hm, hs => by
  obtain ⟨hsz, h | ⟨hk, hko, hn0, hl, hks⟩⟩ := h
  ·show za1 (zan (m + 1)).1 (zan (m + 1)).2 ⟨sp⟩ p r = _
   unfold za1
   unfold layT at hs ⊢
   rw [if_pos h] at hs ⊢
   simp only [letB]
   rw [yav h]
   simp only [cond_true, zmh (show sp.length < 1000000 by simp at hs; omega), Option.bind_some]
   rfl
  ·show za1 (zan (m + 1)).1 (zan (m + 1)).2 ⟨sp⟩ p r = _
   unfold za1
   simp only [letB]
   rw [yau hk]
   by_cases h4 : p.Kind = 4
   ·unfold layT at hs ⊢
    rw [if_neg hk, if_pos h4] at hs ⊢
    rw [zg5] at hs
    rw [yav h4]
    have hsub : subA p.Kids 1 = some (p.Kids.drop 1) := by
     unfold subA
     rw [if_pos (by omega)]; rfl
    obtain ⟨r', sp', e, e2, e3⟩ := zmi (xs := p.Kids.drop 1) (by simp; omega) (p.Kids.length - 1) 0 r sp (by simp) hr.1 (by omega)
    simp only [cond_true, cond_false, hsub, Option.bind_some]
    rw [show (0 : Int) = ((0 : Nat) : Int) from rfl, e]
    simp only [Option.bind_some, zdc]
    rw [show ((0 : Nat) : Int) = 0 from rfl, zmh e3]
    simp only [Option.bind_some]
    rw [e2]
   ·rw [yau h4]
    simp only [cond_false]
    have hsizes : ∀ s ∈ p.Kids.map Plan.Size, sizeOK s := fun s hm => by
     obtain ⟨k, h1, rfl⟩ := List.mem_map.1 hm
     exact (hks k h1).1.sizeOK
    have hpl := zgx hr hn0 hl fun k hm => (hks k hm).1
    unfold layT at hs ⊢
    rw [if_neg hk, if_neg h4] at hs ⊢
    have loop := zml (p := p) (d := d) (rec := (zan m).1) (ys := partsT p r) hpl hl (fun k hkm x hxm sp' hsp => zpD d m k x sp' (hks k hkm).1 (zh1 _ _ _ x hxm) (by omega) hsp) (p.Kids.zip (partsT p r)) 0 sp rfl (by rw [List.length_zip, hpl]; omega) hs
    have hsplit : (zan (m + 1)).2 ⟨sp⟩ p r = some ⟨((p.Kids.zip (partsT p r)).flatMap fun x => layT d x.1 x.2).foldl addC sp⟩ := by
     show zbr (zan m).1 (zan m).2 ⟨sp⟩ p r = _
     unfold zbr
     have htot : (bif decide (p.Kind = 3) then some r.H else some r.W : Option Int) = some (totT p r) := by
      unfold totT
      by_cases h3 : p.Kind = 3
      ·rw [yav h3, if_pos h3]; rfl
      ·rw [yau h3, if_neg h3]; rfl
     simp only [letB, htot, Option.bind_some]
     rw [show (0 : Int) = ((0 : Nat) : Int) from rfl, ziM hl p.Kids 0 [] rfl rfl (by omega)]
     simp only [Option.bind_some, List.nil_append, yal]
     by_cases hlt : totT p r < (p.Kids.map Plan.Size).length
     ·have hsh := zea (total := totT p r) (by simpa using hn0) (by simpa using hl) hsizes (zgR hr) hlt
      have hparts : partsT p r = cutT (decide (p.Kind = 3)) r (List.replicate p.Kids.length 1) := by
       unfold partsT lenT
       rw [hsh]; simp
      rw [hsh]
      simp only [Option.bind_some]
      have hmk : mkL (p.Kids.length : Int) (p.Kids.length : Int) (0 : Int) = some (List.replicate p.Kids.length 0) := by
       unfold mkL
       rw [if_pos (by rw [zoj]; omega), Int.toNat_natCast]
      rw [show decide ((90 : Int) ≠ ((0 : Nat) : Int)) = true by decide, show ((0 : Nat) : Int) = 0 from rfl, hmk]
      simp only [cond_true, Option.bind_some]
      have hones := zkx (x12 := List.replicate p.Kids.length 0) (by simpa using hl) p.Kids.length 0 [] rfl (by simp) rfl
      simp only [List.nil_append] at hones
      rw [show ((0 : Nat) : Int) = 0 from rfl] at hones loop
      rw [hones]
      simp only [Option.bind_some, Nat.zero_add]
      rw [zpC (by simpa using hl) hr]
      simp only [Option.bind_some]
      rw [← hparts, loop]
      rfl
     ·obtain ⟨l, hsh, hll, _, _⟩ := zjj (total := totT p r) (by simpa using hn0) (by simpa using hl) hsizes (zgR hr) (by omega)
      rw [yal] at hll
      have hparts : partsT p r = cutT (decide (p.Kind = 3)) r l := by
       unfold partsT lenT
       rw [hsh]; simp
      rw [hsh]
      simp only [Option.bind_some]
      rw [show decide ((0 : Int) ≠ ((0 : Nat) : Int)) = false by decide]
      simp only [cond_false]
      rw [zpC (by omega) hr]
      simp only [Option.bind_some]
      rw [← hparts, show (fun s : Int × Placer => layout_placer_splitF_l5 p (zan m).1 (partsT p r) s.1 s.2) = (fun s => layout_placer_splitF_l4 p (zan m).1 (partsT p r) s.1 s.2) from rfl, loop]
      rfl
    rw [hsplit]
    rfl
end Go.Proofs.YtakdnfneikbjjaaGreatDoor.Am.Lay10

set_option linter.all false
namespace Go.Proofs.YtakdnfneikbjjaaGreatDoor.Am.Lay10
open Go.Proofs.YtakdnfneikbjjaaGreatDoor.Am.T
def zjk : Nat → List (Rect × Bool) → List Spot
 | _, [] => []
 | b, c :: cs => ⟨b, c.1, 0, c.2⟩ :: zjk (b + 1) cs
theorem zjl : ∀ (cs : List (Rect × Bool)) (sp : List Spot), cs.foldl addC sp = sp ++ zjk sp.length cs
 | [], sp => by simp [zjk]
 | c :: cs, sp => by rw [List.foldl_cons, zjl cs]; simp [addC, zjk]
theorem zf4 : ∀ (cs : List (Rect × Bool)) (b : Nat), (zjk b cs).length = cs.length
 | [], b => rfl
 | c :: cs, b => by simp only [zjk, List.length_cons, zf4 cs]
theorem zpE {a b : Int} (h1 : -1000000 ≤ a ∧ a ≤ 1000000) (h2 : -1000000 ≤ b ∧ b ≤ 1000000) : zfe a b = some (a + b) := by
 unfold zfe
 simp only [letB]
 rw [zaj (by omega) (by omega)]
 by_cases ha : a > 0
 ·have hn : ¬ a < 0 := by omega
  by_cases hb : b > 0
  ·rw [yav ha, yav hb, yau (show ¬ a + b < 0 by omega), yau hn]; rfl
  ·rw [yav ha, yau hb, yau hn]; rfl
 ·by_cases hn : a < 0
  ·by_cases hb : b < 0
   ·rw [yau ha, yav hn, yav hb, yau (show ¬ a + b ≥ 0 by omega)]; rfl
   ·rw [yau ha, yav hn, yau hb]; rfl
  ·rw [yau ha, yau hn]; rfl
def zf5 (r : Rect) (dx dy : Int) : Rect := cleanT { cleanT r with X := (cleanT r).X + dx, Y := (cleanT r).Y + dy }
theorem zpm {r : Rect} {dx dy : Int} (h1 : -10000 ≤ dx ∧ dx ≤ 10000) (h2 : -10000 ≤ dy ∧ dy ≤ 10000) : zd9 r dx dy = some (zf5 r dx dy) := by
 unfold zd9 zf5
 rw [zdc]
 obtain ⟨a1, a2, a3, a4, a5, a6, a7, a8⟩ := (zbz r).1
 simp only [Option.bind_some]
 rw [zpE (by omega) (by omega)]
 simp only [Option.bind_some]
 rw [zpE (by omega) (by omega)]
 simp only [Option.bind_some, zdc]
def zon (a b : Rect) : Rect := cleanT ⟨cl a.X b.X (b.X + b.W - min a.W b.W), cl a.Y b.Y (b.Y + b.H - min a.H b.H), min a.W b.W, min a.H b.H⟩
theorem zp8 {a b : Rect} (ha : Nice a) (hb : Nice b) : zeX a b = some (zon a b) := by
 unfold zeX zon
 rw [zdc, zdc, zfh ha, zfh hb]
 obtain ⟨a1, a2, a3, a4, a5, a6, a7, a8⟩ := ha.1
 obtain ⟨b1, b2, b3, b4, b5, b6, b7, b8⟩ := hb.1
 simp only [Option.bind_some, zby]
 rw [zaj (n := b.X + b.W) (by omega) (by omega), zaj (n := b.Y + b.H) (by omega) (by omega), zaj (n := b.X + b.W - min a.W b.W) (by omega) (by omega), zaj (n := b.Y + b.H - min a.H b.H) (by omega) (by omega)]
 simp only [zdc, Option.bind_some]
 rfl
def fltT (r f : Rect) : Rect := zon (zf5 f r.X r.Y) r
def fltL (r : Rect) : List Rect → Nat → List Spot → List Spot
 | [], _, sp => sp
 | f :: fs, i, sp => fltL r fs (i + 1) (sp ++ [⟨sp.length, fltT r f, (i + 1 : Nat), false⟩])
theorem zmm {p : Plan} {r : Rect} (hr : Nice r) (hl : p.Float.length ≤ 24) : ∀ (fs : List Rect) (i : Nat) (sp : List Spot), p.Float.drop i = fs → i + fs.length = p.Float.length → sp.length + fs.length < 1000000 →
  iter (fun s => layout_Place_l1 p r s.1 s.2 : (Int × Placer) → Option ((Int × Placer) ⊕ Placer)) ((i : Int), ⟨sp⟩) = some ⟨fltL r fs i sp⟩
 | [], i, sp, hd, hi, hs => by
  refine zau ?_
  simp only [layout_Place_l1, letB]
  rw [yau (by simp only [List.length_nil] at hi; omega)]
  rfl
 | f :: fs, i, sp, hd, hi, hs => by
  obtain ⟨hlt, hget, hdrop⟩ := zci hd
  simp only [List.length_cons] at hi hs
  obtain ⟨a1, a2, a3, a4, a5, a6, a7, a8⟩ := hr.1
  refine (zaz (s' := (((i + 1 : Nat) : Int), ⟨sp ++ [⟨sp.length, fltT r f, (i + 1 : Nat), false⟩]⟩)) ?_).trans (zmm hr hl fs (i + 1) _ hdrop (by omega) (by simp; omega))
  simp only [layout_Place_l1, letB]
  rw [yav (show (i : Int) < (p.Float.length : Int) by omega), zaK hlt, hget, zaj (n := (i : Int) + 1) (by omega) (by omega)]
  simp only [cond_true, Option.bind_some]
  rw [zpm (by omega) (by omega)]
  simp only [Option.bind_some]
  rw [zp8 (show Nice (zf5 f r.X r.Y) from zbz _) hr]
  simp only [Option.bind_some]
  rw [zmh (by omega)]
  rfl
def okP (p : Plan) : Prop := (mT 12 p 0).1 = true ∧ (p.Float.length : Int) ≤ 24 - (mT 12 p 0).2
theorem zeb {p : Plan} (h : okP p) : Rt 12 p ∧ (mT 12 p 0).2 = lv 12 p ∧ lv 12 p + p.Float.length ≤ 24 := by
 obtain ⟨h1, h2⟩ := h
 obtain ⟨a, b⟩ := zmj 12 p 0 (mT 12 p 0).2 (by omega) (by omega) (Prod.ext h1 rfl)
 exact ⟨a, by omega, by omega⟩
noncomputable def placeT (p : Plan) (r : Rect) : List Spot := fltL (cleanT r) p.Float 0 (zjk 0 (layT 12 p (cleanT r)))
theorem zoo {p : Plan} (h : ¬ okP p) (r : Rect) : zb8 p r = some [] := by
 unfold zb8
 rw [zdA, if_neg (show ¬ (_ ∧ _) from h)]
 rfl
theorem zpn {p : Plan} (h : okP p) (r : Rect) : zb8 p r = some (placeT p r) := by
 obtain ⟨h1, h2, h3⟩ := zeb h
 unfold zb8 placeT
 rw [zdA, if_pos (show _ ∧ _ from h)]
 have hl := zg6 12 p (cleanT r) h1 (zbz r)
 have hlay := zpD 12 30 p (cleanT r) [] h1 (zbz r) (by omega) (by simp; omega)
 simp only [Option.bind_some, letB, zdc, zc3]
 rw [hlay]
 have hloop := zmm (p := p) (zbz r) (by omega) p.Float 0 (zjk 0 (layT 12 p (cleanT r))) rfl (by omega) (by rw [zf4]; omega)
 simp only [Option.bind_some, zjl, List.nil_append, List.length_nil]
 rw [show (0 : Int) = ((0 : Nat) : Int) from rfl, hloop]
 rfl
end Go.Proofs.YtakdnfneikbjjaaGreatDoor.Am.Lay10

set_option linter.all false
namespace Go.Proofs.YtakdnfneikbjjaaGreatDoor.Am.Lay10
open Go.Proofs.YtakdnfneikbjjaaGreatDoor.Am.T
end Go.Proofs.YtakdnfneikbjjaaGreatDoor.Am.Lay10

set_option linter.all false
namespace Go.Proofs.YtakdnfneikbjjaaGreatDoor.Am.Lay10
open Go.Proofs.YtakdnfneikbjjaaGreatDoor.Am.T
section
variable {dx dy : Int}
end
end Go.Proofs.YtakdnfneikbjjaaGreatDoor.Am.Lay10

set_option linter.all false
namespace Go.Proofs.YtakdnfneikbjjaaGreatDoor.Am.Lay10
open Go.Proofs.YtakdnfneikbjjaaGreatDoor.Am.T
theorem zqz {r : Rect} (h : Nice r) (hw : r.W = 0) : r = ⟨0, 0, 0, 0⟩ := h.2 (.inl hw)
theorem Nice.hpos {r : Rect} (h : Nice r) (hw : r.W ≠ 0) : 1 ≤ r.W ∧ 1 ≤ r.H := by
 obtain ⟨a1, a2, a3, a4, a5, a6, a7, a8⟩ := h.1
 refine ⟨by omega, ?_⟩
 by_cases hh : r.H = 0
 ·have := h.2 (.inr hh)
  rw [this] at hw
  exact absurd rfl hw
 ·omega
theorem zgy {q : Rect} (h : q.W ≤ 0 ∨ q.H ≤ 0) : cleanT q = ⟨0, 0, 0, 0⟩ := by
 unfold cleanT
 simp only
 rw [if_pos]
 have hx := zbl (n := q.X) (show (-5000 : Int) ≤ 5000 by omega)
 have hy := zbl (n := q.Y) (show (-5000 : Int) ≤ 5000 by omega)
 rcases h with h | h
 ·left
  rw [cl]; omega
 ·right
  rw [cl]; omega
def flS (r : Rect) : List Rect → Nat → Nat → List Spot
 | [], _, _ => []
 | f :: fs, i, b => ⟨b, fltT r f, (i + 1 : Nat), false⟩ :: flS r fs (i + 1) (b + 1)
theorem zop {r : Rect} : ∀ (fs : List Rect) (i : Nat) (sp : List Spot), fltL r fs i sp = sp ++ flS r fs i sp.length
 | [], i, sp => by simp [fltL, flS]
 | f :: fs, i, sp => by
  unfold fltL flS
  rw [zop fs (i + 1)]
  simp
theorem zoq {r : Rect} : ∀ (fs : List Rect) (i b : Nat), (flS r fs i b).length = fs.length
 | [], _, _ => rfl
 | f :: fs, i, b => by simp [flS, zoq fs]
theorem zor {p : Plan} {r : Rect} (hok : okP p) : (placeT p r).length = lv 12 p + p.Float.length := by
 obtain ⟨hR, _, _⟩ := zeb hok
 unfold placeT
 rw [zop, yar, zf4, zoq, zg6 12 p _ hR (zbz r)]
theorem zpo {p : Plan} (hok : okP p) : zcm p = some (((lv 12 p : Nat) : Int), ((p.Float.length : Nat) : Int)) := by
 obtain ⟨_, h, _⟩ := zeb hok
 unfold zcm
 rw [zdA, if_pos (show _ ∧ _ from hok)]
 unfold zcu
 rw [zgv 12 30 1 p 0 (by omega) (by omega) (by omega) (by omega) (by omega)]
 simp [letB, h]
theorem zos {p : Plan} (hok : ¬ okP p) : zcm p = some (0, 0) := by
 unfold zcm
 rw [zdA, if_neg (show ¬ (_ ∧ _) from hok)]
 rfl
end Go.Proofs.YtakdnfneikbjjaaGreatDoor.Am.Lay10

namespace Go.Proofs.YtakdnfneikbjjaaGreatDoor.Am
inductive Fits (P : Program) : TypeId → List V → Prop
 | bool {t : TypeId} (b : Bool) (h : P.underlying t = some .bool) : Fits P t [.bool b]
 | int {t : TypeId} {k : IntKind} (n : Int) (h : P.underlying t = some (.int k)) (hn : (Lit.int k n).wf = true) : Fits P t [.int k n]
 | str {t : TypeId} (s : List UInt8) (h : P.underlying t = some .string) (hs : s.length ≤ maxLen) : Fits P t [.str s]
 | nils {t e : TypeId} (h : P.underlying t = some (.slice e)) : Fits P t [.nils]
 | slice {t e : TypeId} (xs : List (List V)) (h : P.underlying t = some (.slice e)) (hl : xs.length ≤ maxLen) (hx : ∀ i, i < xs.length → Fits P e (xs.getD i [])) : Fits P t [.slice false (P.cellsOf e) xs]
 | struct {t : TypeId} {fs : Array Field} (cs : List V) (h : P.underlying t = some (.struct fs)) (hl : cs.length = P.cellsOf t) (hf : ∀ f ∈ fs.toList, Fits P f.type ((cs.drop f.offset).take (P.cellsOf f.type))) : Fits P t cs
 | array {t e : TypeId} {n : Nat} (cs : List V) (h : P.underlying t = some (.array n e)) (hl : cs.length = P.cellsOf t) (hf : ∀ i, i < n → Fits P e ((cs.drop (i * P.cellsOf e)).take (P.cellsOf e))) : Fits P t cs
def zot (P : Program) : Nat → List Field → Nat → Bool
 | n, [], m => n == m
 | n, f :: fs, m => f.offset == n && zot P (n + P.cellsOf f.type) fs m
section
variable {P : Program} {H : Type} {enc : TypeId × Value → H} {W : World}
def zdd (W : World) : Nat → Prop := fun c => c < W.heap.size
theorem zm4 {a : Addr} {v : Value} (h : W.cell? a = some v) : a.block < W.heap.size ∧ a.spot = none := by
 unfold World.cell? at h
 cases hb : W.heap[a.block]? with
 | none => rw [hb] at h; cases h
 | some o =>
  rw [hb] at h
  refine ⟨(yan.1 hb).1, ?_⟩
  cases o with
  | cells c _ _ =>
   simp only at h
   split at h
   ·cases h
   ·rename_i hs; simpa using hs
  | _ => cases h
def zp9 (P : Program) (W : World) (t : TypeId) (cs : List Value) : Prop :=
 ∃ vs : List V, vs.length = cs.length ∧ Fits P t vs ∧ ∀ k, k < cs.length → RB (zdd W) W (vs.getD k .undef) (cs.getD k undef)
def RBs (W : World) (vs : List V) (cs : List Value) : Prop := vs.length = cs.length ∧ ∀ k, k < cs.length → RB (zdd W) W (vs.getD k .undef) (cs.getD k undef)
theorem RBs.append {vs us : List V} {cs ds : List Value} (h : RBs W vs cs) (k : RBs W us ds) : RBs W (vs ++ us) (cs ++ ds) := by
 refine ⟨by simp [h.1, k.1], fun i hi => ?_⟩
 simp only [yad]
 have h1 := h.1
 by_cases hlt : i < cs.length
 ·have := h.2 i hlt
  simp only [yad] at this
  rw [yaq (by omega), yaq hlt]; exact this
 ·rw [yar] at hi
  have := k.2 (i - cs.length) (by omega)
  simp only [yad] at this
  rw [List.getElem?_append_right (by omega), List.getElem?_append_right (by omega), h1]; exact this
theorem zf6 {t : TypeId} {cs : List Value} : zp9 P W t cs ↔ ∃ vs, Fits P t vs ∧ RBs W vs cs :=
 ⟨fun ⟨vs, a, b, c⟩ => ⟨vs, b, a, c⟩, fun ⟨vs, b, a, c⟩ => ⟨vs, a, b, c⟩⟩
theorem zky {cs : List Value} : ∀ {fs : List Field} {n m : Nat}, zot P n fs m = true → m ≤ cs.length → (∀ f ∈ fs, zp9 P W f.type ((cs.drop f.offset).take (P.cellsOf f.type))) →
  n ≤ m ∧ ∃ vs, RBs W vs ((cs.drop n).take (m - n)) ∧ ∀ f ∈ fs, n ≤ f.offset ∧ Fits P f.type ((vs.drop (f.offset - n)).take (P.cellsOf f.type))
 | [], n, m, ht, hm, _ => by
  have : n = m := by simpa [zot] using ht
  subst this
  exact ⟨Nat.le_refl _, [], ⟨by simp, fun k hk => absurd hk (by simp)⟩, fun f hf => by cases hf⟩
 | f :: fs, n, m, ht, hm, hr => by
  simp only [zot, yae, beq_iff_eq] at ht
  obtain ⟨h0, ht⟩ := ht
  obtain ⟨hle, vs, hvs, hfs⟩ := zky ht hm fun g hg => hr g (.tail _ hg)
  obtain ⟨us, hfit, hus⟩ := zf6.1 (hr f (.head _))
  rw [h0] at hus
  have hul : us.length = P.cellsOf f.type := by rw [hus.1]; simp; omega
  have hsplit : (cs.drop n).take (m - n) = (cs.drop n).take (P.cellsOf f.type) ++ (cs.drop (n + P.cellsOf f.type)).take (m - (n + P.cellsOf f.type)) := by
   rw [← List.drop_drop, ← List.take_add]
   congr 1
   omega
  refine ⟨by omega, us ++ vs, by rw [hsplit]; exact hus.append hvs, fun g hg => ?_⟩
  cases hg with
  | head =>
   refine ⟨by omega, ?_⟩
   rw [h0, Nat.sub_self, List.drop_zero, List.take_append_of_le_length (by omega), List.take_of_length_le (by omega)]
   exact hfit
  | tail _ hg =>
   obtain ⟨h1, h2⟩ := hfs g hg
   refine ⟨by omega, ?_⟩
   rw [List.drop_append, List.drop_eq_nil_of_le (by omega), List.nil_append, hul]
   rw [show g.offset - n - P.cellsOf f.type = g.offset - (n + P.cellsOf f.type) from by omega]
   exact h2
theorem zlD {α : Type} {n : Nat} {p : Nat → α → Prop} (h : ∀ i, i < n → ∃ x, p i x) : ∃ l : List α, l.length = n ∧ ∀ i x, l[i]? = some x → p i x := by
 induction n with
 | zero => exact ⟨[], rfl, fun i x hx => by simp at hx⟩
 | succ n ih =>
  obtain ⟨l, hl, hp⟩ := ih fun i hi => h i (by omega)
  obtain ⟨x, hx⟩ := h n (by omega)
  refine ⟨l ++ [x], by simp [hl], fun i y hy => ?_⟩
  by_cases hi : i < l.length
  ·rw [yaq hi] at hy; exact hp i y hy
  ·rw [List.getElem?_append_right (by omega)] at hy
   have : i - l.length = 0 := by
    rcases Nat.eq_zero_or_pos (i - l.length) with h0 | h0
    ·exact h0
    ·rw [List.getElem?_eq_none (by simp; omega)] at hy; cases hy
   rw [this] at hy
   simp only [List.getElem?_cons_zero, yaa] at hy
   subst hy
   have : i = n := by omega
   subst this; exact hx
end
end Go.Proofs.YtakdnfneikbjjaaGreatDoor.Am

namespace Go.Proofs.YtakdnfneikbjjaaGreatDoor.Am
section
variable {P : Program} {W : World}
inductive ArgOK (W : World) : V → Value → Prop
 | leaf {x : V} {v : Value} (h : RB (zdd W) W x v) : ArgOK W x v
 | agg (cs : List V) (arr : Array Value) (hs : arr.size = cs.length) (h : ∀ k, k < cs.length → RB (zdd W) W (cs.getD k .undef) (arr.getD k undef)) : ArgOK W (.agg cs) (.agg arr)
def g0 (W : World) : G := ⟨id, id, fun _ => False, zdd W⟩
theorem RB.toR1 {x : V} {v : Value} (h : RB (zdd W) W x v) : R1 (g0 W) W 0 x v := by
 cases h with
 | func f => exact ⟨#[], rfl, rfl, fun k hk => absurd hk (by simp)⟩
 | bool b => exact RB.bool b
 | int k n => exact RB.int k n
 | str b => exact RB.str b
 | nilp => exact RB.nilp
 | nils => exact RB.nils
 | nilf => exact RB.nilf
 | nili => exact RB.nili
 | erri t x => exact RB.erri t x
 | slice sz xs a cap vs hs hp hc hz hv hr => exact RB.slice sz xs a cap vs hs hp hc hz hv hr
theorem RB.ok0 {x : V} {v : Value} (h : RB (zdd W) W x v) : x.ok0 = true := by
 cases h <;> rfl
theorem RB.cnt {x : V} {v : Value} (h : RB (zdd W) W x v) (c : Nat) : cnt0 c x v = 0 := by
 cases h <;> rfl
theorem ArgOK.r3 {x : V} {v : Value} (h : ArgOK W x v) (τ : Nat → Value) : R3 (g0 W) W 0 τ x v := by
 cases h with
 | leaf h =>
  have h1 := h.toR1
  cases h <;> exact h1
 | agg cs arr hs h => exact ⟨arr, rfl, hs, fun k hk => ⟨.inl (h k hk).ok0, (h k hk).toR1⟩⟩
theorem ArgOK.okArg {x : V} {v : Value} (h : ArgOK W x v) : x.okArg = true := by
 cases h with
 | leaf h => cases h <;> rfl
 | agg cs arr hs h =>
  simp only [V.okArg, yam]
  intro y hy
  obtain ⟨k, hk, rfl⟩ := List.getElem_of_mem hy
  have := (h k hk).ok0
  rwa [yad, yai hk] at this
theorem ArgOK.cnt {x : V} {v : Value} (h : ArgOK W x v) (c : Nat) : cnt2 c x v = 0 := by
 cases h with
 | leaf h =>
  have h1 := h.cnt c
  cases h <;> exact h1
 | agg cs arr hs h => exact zcU fun k hk => (h k hk).cnt c
theorem zqP {args : List V} {vs : Array Value} (hl : args.length = vs.toList.length) (ha : ∀ k, k < args.length → ArgOK W (args.getD k .undef) (vs.toList.getD k undef)) :
  SR (g0 W) W 0 (fun _ => 0) (fun _ => false) ⟨fun _ => .undef, fun _ => [], []⟩ #[] (args.zip vs.toList) := by
 have hmem : ∀ p ∈ args.zip vs.toList, ArgOK W p.1 p.2 := fun p hp => by
  obtain ⟨k, hk, rfl⟩ := List.getElem_of_mem hp
  have hk' : k < args.length := by simp at hk; omega
  have h1 := ha k hk'
  simp only [List.getElem_zip]
  rw [yad, yai hk', yad, yai (by omega)] at h1
  exact h1
 have hcP : ∀ c, cntP c (args.zip vs.toList) = 0 := fun c => by
  rw [zgX hl]; exact zcU fun k hk => (ha k hk).cnt c
 have hT : ∀ c, total (g0 W) W 0 (fun _ => 0) ⟨fun _ => .undef, fun _ => [], []⟩ #[] (args.zip vs.toList) c = za3 (g0 W) c := fun c => by
  have e1 : cntT c (fun _ => V.undef) #[] = 0 := rfl
  have e2 : cntB (g0 W) W c 0 (fun _ => []) = 0 := rfl
  have e3 : cntM (g0 W) W c [] = 0 := rfl
  unfold total
  simp only [e1, e2, e3, hcP]
  omega
 refine ⟨fun s => trivial, fun s _ => rfl, fun s d hd => (by cases hd), fun p hp => (hmem p hp).r3 _, fun p hp d hd => ?_, fun j => by simp [g0], fun j hj => absurd rfl hj, fun b hb => absurd hb (by simp), fun c => ?_, fun c hc => ?_⟩
 ·obtain ⟨b, o, e⟩ := zd2 (hmem p hp).okArg hd; cases e
 ·rw [hT]; unfold za3; split <;> omega
 ·rw [hT]; unfold za3
  rw [if_neg]
  show ¬ (c < W.heap.size)
  omega
theorem zou [Lay P] {T : Table} (hLd : Laid P (g0 W) W) (hT : TableOK P T) {f : Nat} {args : List V} {m' : List (List V)} {vs : Array Value} {b : Bool} (hret : RF T f args [] = some (.bool b, m')) (hl : args.length = vs.toList.length)
  (ha : ∀ k, k < args.length → ArgOK W (args.getD k .undef) (vs.toList.getD k undef)) : Calls P f vs W fun e W' => e = .returned (.bool b) ∧ RowKit.Below W.heap.size W W' := by
 obtain ⟨_, hcall⟩ := zjH hT (zlZ.1 hret)
 have hok : args.all V.okArg = true := yam.2 fun y hy => by
  obtain ⟨k, hk, rfl⟩ := List.getElem_of_mem hy
  have := (ha k hk).okArg
  rwa [yad, yai hk] at this
 refine (hcall (g0 W) W (fun _ => 0) vs (by simpa using hl.symm) hok hLd (zqP hl ha)).mono fun e W' ⟨v, g', he, hS, hE, _⟩ => ?_
 have hv : v = .bool b := R3.bool (hS.pend _ (.head _))
 exact ⟨by rw [he, hv], hE.os, hE.tape, hE.output, hE.size, fun k hk => (hE.pers k hk).2⟩
def zf7 (P : Program) (t : TypeId) (x : V) : Prop :=
 match P.underlying t with
 | some (.struct _) | some (.array _ _) => ∃ cs, x = .agg cs ∧ Fits P t cs
 | _ => Fits P t [x]
section
variable {H : Type} {enc : TypeId × Value → H}
theorem zkz (hl : laidOutB P = true) {W' : World} {sp : Nat → Bool} : ∀ {ts : List TypeId} {vs : List Value} {ds : List (DataW H)} {ps : List MemPlace}, (ts.all fun t => P.readableRec t && decide (t < P.types.size)) = true →
  DataW.TrodAll enc P W 0 (fun _ => true) true ts vs ds ps → (∀ p ∈ ps, W.sameAt W' p) → (∀ p ∈ ps, sp p.block = true) → DataW.TrodAll enc P W' 0 sp true ts vs ds ps
 | [], vs, ds, ps, _, h, _, _ => by
  obtain ⟨rfl, rfl, rfl⟩ := ChangeShapes.trodAll_nil h
  exact rfl
 | t :: ts, vs, ds, ps, hr, h, hs, hsp => by
  obtain ⟨v, vs', dd, ds', p, q, rfl, rfl, rfl, h0, r0⟩ := ChangeShapes.trodAll_cons h
  simp only [List.all_cons, yae, decide_eq_true_eq] at hr
  exact trodAll_cons_mk (WideElems.Trod_stays hl hr.1.1 hr.1.2 h0 (fun x hx => hs x (List.mem_append_left _ hx)) (fun x hx => hsp x (List.mem_append_left _ hx)))
   (zkz hl hr.2 r0 (fun x hx => hs x (List.mem_append_right _ hx)) (fun x hx => hsp x (List.mem_append_right _ hx)))
theorem zfF : ∀ {ts : List TypeId} {vs : List Value} {ds : List (DataW H)} {ps : List MemPlace}, DataW.TrodAll enc P W 0 (fun _ => true) true ts vs ds ps → ds.length = ts.length
 | [], vs, ds, ps, h => by obtain ⟨rfl, rfl, rfl⟩ := ChangeShapes.trodAll_nil h; rfl
 | t :: ts, vs, ds, ps, h => by
  obtain ⟨v, vs', dd, ds', p, q, rfl, rfl, rfl, h0, r0⟩ := ChangeShapes.trodAll_cons h
  simp [zfF r0]
open ChangeShapes in
theorem zjm {f : Func} {s : ChangeSpec} {apart fresh handsOn again : Bool} {W W' : World} {args : Array Value} {v : Value} {ds gs : List (DataW H)} {before pa pv : List MemPlace}
  (hW : DataW.Whole enc P f.params.toList s.vars apart W args.toList ds gs before)
  (hres : ∀ (b : Nat) (sp : Nat → Bool) (hd : Bool), DataW.TrodAll enc P W' b sp hd f.resultTypes.toList (v.resultList f.resultTypes.size) (s.fn H (ds ++ gs)).results [])
  (hargs : ∀ sp : Nat → Bool, (∀ p ∈ before, sp p.block = true) → DataW.TrodAll enc P W' 0 sp true f.params.toList args.toList (s.fn H (ds ++ gs)).args pa)
  (hvars : ∀ sp : Nat → Bool, (∀ p ∈ before, sp p.block = true) → DataW.TrodVars enc P W' sp s.vars (s.fn H (ds ++ gs)).vars pv)
  (hps : before = pa ++ pv) (hb : RowKit.Below W.heap.size W W')
  (hok : ∀ (j : Nat) (t : TypeId) (r : Value), f.resultTypes[j]? = some t → (v.resultList f.resultTypes.size)[j]? = some r → Value.okWide P W' .any 0 t r) :
  s.post enc P f apart fresh handsOn again W args v W' := by
 have hlt : ∀ p ∈ before, p.block < W.heap.size := fun p hp => hW.lt p hp
 have hold : ∀ p ∈ before, (fun b => decide (b < W.heap.size)) p.block = true := fun p hp => by simpa using hlt p hp
 refine ⟨ds, gs, before, [], pa, pv, hW, hres _ _ _, hargs _ hold, hvars _ hold, World.keptBut_mono (fun p hp => ⟨hp, ?_⟩) (hb.frame (· ∈ before)), fun _ => ?_⟩
 ·rw [hps, yak] at hp
  exact Or.inr hp
 ·obtain ⟨_, _, _, _, _, hz, hn⟩ := hW
  refine ⟨hok, _, _, ([] ++ pa) ++ pv, ⟨[] ++ pa, pv, trodAll_append (hargs _ (fun _ _ => rfl)) (hres _ _ _), hvars _ (fun _ _ => rfl), rfl, ?_, ?_⟩, ?_⟩
  ·intro b off hp
   have hp' : MemPlace.cell b off ∈ before := by rw [hps]; simpa using hp
   rw [hb.frozen (p := ⟨b, off, none⟩) (hlt _ hp')]
   exact hz b off hp'
  ·intro ha
   have := hn ha
   rw [hps] at this
   simpa using this
  ·intro p hp _
   rw [hps]
   simpa using hp
end
end
end Go.Proofs.YtakdnfneikbjjaaGreatDoor.Am

namespace Go.Proofs.YtakdnfneikbjjaaGreatDoor.Am
section
variable {P : Program}
theorem zpp {t : TypeId} {k : IntKind} (ht : P.underlying t = some (.int k)) {vs : List V} (h : Fits P t vs) : ∃ n, vs = [.int k n] ∧ (Lit.int k n).wf = true := by
 cases h <;> simp_all
theorem zov {t : TypeId} (ht : P.underlying t = some .bool) {vs : List V} (h : Fits P t vs) : ∃ b, vs = [.bool b] := by
 cases h <;> simp_all
theorem zpq {t : TypeId} (ht : P.underlying t = some .string) {vs : List V} (h : Fits P t vs) : ∃ s, vs = [.str s] ∧ s.length ≤ maxLen := by
 cases h <;> simp_all
theorem fits_slice {t e : TypeId} (ht : P.underlying t = some (.slice e)) {vs : List V} (h : Fits P t vs) : vs = [.nils] ∨ ∃ xs, vs = [.slice false (P.cellsOf e) xs] ∧ xs.length ≤ maxLen ∧ ∀ x ∈ xs, Fits P e x := by
 cases h with
 | nils => exact .inl rfl
 | slice xs h hl hx =>
  rw [ht] at h
  cases h
  refine .inr ⟨xs, rfl, hl, fun x hm => ?_⟩
  obtain ⟨i, hi, rfl⟩ := List.getElem_of_mem hm
  have := hx i hi
  rwa [yad, yai hi] at this
 | _ => simp_all
end
end Go.Proofs.YtakdnfneikbjjaaGreatDoor.Am

namespace Go.Proofs.YtakdnfneikbjjaaGreatDoor.Am
inductive LT where
 | bool
 | int (k : IntKind)
 | str
 | slice (e : TypeId)
 deriving DecidableEq
def zkA (P : Program) (F : TypeId → Option (List LT)) : Nat → List Field → Option (List LT)
 | _, [] => some []
 | n, f :: fs => if f.offset = n ∧ (F f.type).map List.length = some (P.cellsOf f.type) then (F f.type).bind fun l => (zkA P F (n + P.cellsOf f.type) fs).bind fun r => some (l ++ r) else none
def zih (P : Program) : Nat → TypeId → Option (List LT)
 | 0, _ => none
 | d + 1, t => match P.underlying t with
  | some .bool => some [.bool]
  | some (.int k) => some [.int k]
  | some .string => some [.str]
  | some (.slice e) => some [.slice e]
  | some (.struct fs) => (zkA P (zih P d) 0 fs.toList).bind fun l => if l.length = P.cellsOf t then some l else none
  | some (.array n e) => (zih P d e).bind fun l => if l.length = P.cellsOf e ∧ P.cellsOf t = n * P.cellsOf e then some (List.replicate n l).flatten else none
  | _ => none
def LV (P : Program) (l : LT) (v : V) : Prop :=
 match l with
 | .bool => ∃ b, v = .bool b
 | .int k => ∃ n, v = .int k n ∧ (Lit.int k n).wf = true
 | .str => ∃ s, v = .str s ∧ s.length ≤ maxLen
 | .slice e => v = .nils ∨ ∃ xs, v = .slice false (P.cellsOf e) xs ∧ xs.length ≤ maxLen ∧ ∀ x ∈ xs, Fits P e x
def LVs (P : Program) : List LT → List V → Prop
 | [], [] => True
 | l :: ls, v :: vs => LV P l v ∧ LVs P ls vs
 | _, _ => False
section
variable {P : Program}
theorem LVs.append : ∀ {ls ks : List LT} {vs us : List V}, LVs P ls vs → LVs P ks us → LVs P (ls ++ ks) (vs ++ us)
 | [], _, [], _, _, h => h
 | _ :: _, _, _ :: _, _, h, k => ⟨h.1, LVs.append h.2 k⟩
 | [], _, _ :: _, _, h, _ => h.elim
 | _ :: _, _, [], _, h, _ => h.elim
theorem LVs.len : ∀ {ls : List LT} {vs : List V}, LVs P ls vs → vs.length = ls.length
 | [], [], _ => rfl
 | _ :: _, _ :: _, h => by rw [List.length_cons, List.length_cons, LVs.len h.2]
 | [], _ :: _, h => h.elim
 | _ :: _, [], h => h.elim
theorem zkB {F : TypeId → Option (List LT)} (hF : ∀ t ls vs, F t = some ls → Fits P t vs → LVs P ls vs) {vs : List V} : ∀ {fs : List Field} {n : Nat} {ls : List LT}, zkA P F n fs = some ls → (∀ f ∈ fs, Fits P f.type ((vs.drop f.offset).take (P.cellsOf f.type))) →
  LVs P ls ((vs.drop n).take ls.length)
 | [], n, ls, h, _ => by
  simp only [zkA, yaa] at h
  subst h
  rw [List.length_nil, List.take_zero]; trivial
 | f :: fs, n, ls, h, hf => by
  simp only [zkA] at h
  split at h
  ·rename_i hc
   simp only [yab, yaa] at h
   obtain ⟨l, hl, r, hr, rfl⟩ := h
   have h1 := hF _ _ _ hl (hf f (.head _))
   have h2 := zkB hF hr fun g hg => hf g (.tail _ hg)
   have hlen : l.length = P.cellsOf f.type := by
    have := hc.2
    rw [hl] at this
    simpa using this
   rw [hc.1, ← hlen] at h1
   rw [← hlen] at h2
   have hsplit : (vs.drop n).take (l ++ r).length = (vs.drop n).take l.length ++ (vs.drop (n + l.length)).take r.length := by
    rw [yar, List.take_add, List.drop_drop]
   rw [hsplit]
   exact h1.append h2
  ·cases h
theorem zkC {l : List LT} {e : TypeId} (hF : ∀ vs, Fits P e vs → LVs P l vs) (hl : l.length = P.cellsOf e) {vs : List V} : ∀ {n i : Nat}, (∀ j, i ≤ j → j < i + n → Fits P e ((vs.drop (j * P.cellsOf e)).take (P.cellsOf e))) →
  LVs P (List.replicate n l).flatten ((vs.drop (i * P.cellsOf e)).take (n * P.cellsOf e))
 | 0, i, _ => by rw [Nat.zero_mul, List.take_zero]; trivial
 | n + 1, i, h => by
  have h1 := hF _ (h i (Nat.le_refl _) (by omega))
  have h2 := zkC hF hl (n := n) (i := i + 1) fun j hj hk => h j (by omega) (by omega)
  rw [List.replicate_succ, List.flatten_cons, Nat.succ_mul, Nat.add_comm, List.take_add, List.drop_drop]
  rw [Nat.succ_mul] at h2
  exact h1.append h2
theorem zgz : ∀ {d : Nat} {t : TypeId} {ls : List LT} {vs : List V}, zih P d t = some ls → Fits P t vs → LVs P ls vs := by
 intro d
 induction d with
 | zero => intro t ls vs h; cases h
 | succ d ih =>
  intro t ls vs h hf
  unfold zih at h
  split at h
  ·rename_i ht
   cases h
   obtain ⟨b, rfl⟩ := zov ht hf
   exact ⟨⟨b, rfl⟩, trivial⟩
  ·rename_i ht
   cases h
   obtain ⟨n, rfl, hw⟩ := zpp ht hf
   exact ⟨⟨n, rfl, hw⟩, trivial⟩
  ·rename_i ht
   cases h
   obtain ⟨s, rfl, hw⟩ := zpq ht hf
   exact ⟨⟨s, rfl, hw⟩, trivial⟩
  ·rename_i ht
   cases h
   rcases fits_slice ht hf with rfl | ⟨xs, rfl, h1, h2⟩
   ·exact ⟨.inl rfl, trivial⟩
   ·exact ⟨.inr ⟨xs, rfl, h1, h2⟩, trivial⟩
  ·rename_i fs ht
   simp only [yab] at h
   obtain ⟨l, hl, h⟩ := h
   split at h
   ·rename_i hc
    cases h
    cases hf with
    | struct _ ht2 hlen hff =>
     rw [ht] at ht2
     cases ht2
     have := zkB (vs := vs) (fun _ _ _ a b => ih a b) hl hff
     rwa [List.drop_zero, List.take_of_length_le (by omega)] at this
    | _ => simp_all
   ·cases h
  ·rename_i n e ht
   simp only [yab] at h
   obtain ⟨l, hl, h⟩ := h
   split at h
   ·rename_i hc
    cases h
    cases hf with
    | array _ ht2 hlen hff =>
     rw [ht] at ht2
     cases ht2
     have := zkC (vs := vs) (fun _ b => ih hl b) hc.1 (n := n) (i := 0) fun j _ hj => hff j (by omega)
     rwa [Nat.zero_mul, List.drop_zero, List.take_of_length_le (by omega)] at this
    | _ => simp_all
   ·cases h
  ·cases h
end
end Go.Proofs.YtakdnfneikbjjaaGreatDoor.Am

namespace Go.Proofs.YtakdnfneikbjjaaGreatDoor.Am
section
variable {P : Program} {W : World} {H : Type} {enc : TypeId × Value → H}
def zpF (x : V) (d : DataW H) : Prop := ∀ o z xs, x = .slice o z xs → ∃ elems spare, d = .slice elems spare ∧ elems.length = xs.length
theorem zqA {x : V} {v : Value} {t : TypeId} {d : DataW H} {ps : List MemPlace} (hf : zf7 P t x) (ha : ArgOK W x v) (h : DataW.Trod enc P W 0 (fun _ => true) true t v d ps) : zpF x d := by
 intro o z xs hx
 subst hx
 have hs : ∃ e, P.underlying t = some (.slice e) := by
  unfold zf7 at hf
  split at hf
  ·obtain ⟨cs, e, _⟩ := hf; cases e
  ·obtain ⟨cs, e, _⟩ := hf; cases e
  ·cases hf <;> first | exact ⟨_, by assumption⟩ | simp_all
 obtain ⟨e, ht⟩ := hs
 have hv : ∃ a cap, v = .slice (some a) xs.length cap := by
  cases ha with
  | leaf h => cases h with | slice _ _ a cap _ _ _ _ _ _ _ => exact ⟨a, cap, rfl⟩
 obtain ⟨a, cap, rfl⟩ := hv
 obtain ⟨fuel, h⟩ := h
 rcases DataW.trod_slice ht h with ⟨h1, _⟩ | ⟨a', len, cap', elems, rest, n, _, h1, h2, _, _, _, hel, _⟩
 ·simp [Value.cells] at h1
 ·simp only [yac] at h2
  refine ⟨_, _, h2.1, ?_⟩
  have e1 : len = xs.length := by
   have : (Value.slice (some a) xs.length cap).cells.toList = [.slice (some a) xs.length cap] := rfl
   rw [this] at h1
   injection h1 with h1 _
   injection h1 with _ h1 _
   exact h1.symm
  rw [yal, hel, e1]
end
end Go.Proofs.YtakdnfneikbjjaaGreatDoor.Am

set_option linter.all false
namespace Go.Proofs.YtakdnfneikbjjaaGreatDoor.Am.Lay10
open Go.Proofs.YtakdnfneikbjjaaGreatDoor.Am.T
theorem zpr {W : World} : Laid Go.Proofs.Tryz.prog (g0 W) W := by
 constructor
 ·intro t ht; exact absurd ht (List.not_mem_nil)
 ·intro t ht; exact absurd ht (List.not_mem_nil)
end Go.Proofs.YtakdnfneikbjjaaGreatDoor.Am.Lay10

set_option linter.all false
namespace Go.Proofs.YtakdnfneikbjjaaGreatDoor.Am.Lay10
open Go.Proofs.YtakdnfneikbjjaaGreatDoor.Am.T
def zps : Option TypeDesc → Bool
 | some (.struct _) => true
 | _ => false
theorem zow {P : Program} {t : TypeId} (hi : zps (P.underlying t) = true) (hl : zih P 8 t = some [.int .i64, .int .i64, .int .i64, .int .i64]) {x : V} (h : zf7 P t x) : ∃ k : Rect, Den [] (.agg k.c) x := by
 obtain ⟨fs, ht⟩ : ∃ fs, P.underlying t = some (.struct fs) := by
  unfold zps at hi
  split at hi
  ·exact ⟨_, by assumption⟩
  ·cases hi
 unfold zf7 at h
 rw [ht] at h
 obtain ⟨cs, rfl, hf⟩ := h
 have h3 := zgz hl hf
 have h4 : cs.length = 4 := h3.len
 match cs, h4 with
 | [x1, x2, x3, x4], _ =>
  obtain ⟨h1, h2, h3, h4, _⟩ := h3
  obtain ⟨a, rfl, _⟩ := h1
  obtain ⟨b, rfl, _⟩ := h2
  obtain ⟨c, rfl, _⟩ := h3
  obtain ⟨d, rfl, _⟩ := h4
  exact ⟨⟨a, b, c, d⟩, .agg (.cons (.base (.int _ _)) (.cons (.base (.int _ _)) (.cons (.base (.int _ _)) (.cons (.base (.int _ _)) .nil))))⟩
end Go.Proofs.YtakdnfneikbjjaaGreatDoor.Am.Lay10

namespace Go.Proofs.YtakdnfneikbjjaaGreatDoor.Am
section
variable {P : Program} {W : World} {H : Type} {enc : TypeId × Value → H}
def zqa (x : V) (d : DataW H) : Prop := zpF x d ∧ ∀ s, x = .str s → d = .lit (.string s)
theorem zqQ {x : V} {v : Value} {t : TypeId} {d : DataW H} {ps : List MemPlace} (hf : zf7 P t x) (ha : ArgOK W x v) (h : DataW.Trod enc P W 0 (fun _ => true) true t v d ps) : zqa x d := by
 refine ⟨zqA hf ha h, fun s hx => ?_⟩
 subst hx
 have ht : P.underlying t = some .string := by
  unfold zf7 at hf
  split at hf
  ·obtain ⟨cs, e, _⟩ := hf; cases e
  ·obtain ⟨cs, e, _⟩ := hf; cases e
  ·cases hf <;> first | assumption | simp_all
 obtain ⟨fuel, h⟩ := h
 obtain ⟨b, h1, h2⟩ := DataW.trod_string ht h
 have hv : ∃ b : ByteArray, v = .string b ∧ b.data.toList = s := by
  cases ha with
  | leaf h => cases h with | str b => exact ⟨b, rfl, rfl⟩
 obtain ⟨c, rfl, rfl⟩ := hv
 have : (Value.string c).cells.toList = [.string c] := rfl
 rw [this] at h1
 injection h1 with h1 _
 injection h1 with h1
 have h3 := (Prod.mk.inj h2.1).1
 subst h1
 exact h3
theorem zmn : ∀ {ts : List TypeId} {vs : List Value} {ds : List (DataW H)} {ps : List MemPlace} {args : List V}, DataW.TrodAll enc P W 0 (fun _ => true) true ts vs ds ps → args.length = vs.length → (∀ (j : Nat) (t : TypeId), ts[j]? = some t → zf7 P t (args.getD j .undef)) → (∀ k, k < args.length → ArgOK W (args.getD k .undef) (vs.getD k undef)) →
  ∀ (j : Nat) (d : DataW H), ds[j]? = some d → zqa (args.getD j .undef) d
 | [], vs, ds, ps, args, h, _, _, _, j, d, hd => by
  obtain ⟨rfl, rfl, rfl⟩ := ChangeShapes.trodAll_nil h
  simp at hd
 | t :: ts, vs, ds, ps, args, h, hl, hf, ha, j, d, hd => by
  obtain ⟨v, vs', dd, ds', p, q, rfl, rfl, rfl, h0, r0⟩ := ChangeShapes.trodAll_cons h
  match args, hl with
  | x :: args, hl =>
   cases j with
   | zero =>
    simp only [List.getElem?_cons_zero, yaa] at hd
    subst hd
    exact zqQ (hf 0 t rfl) (ha 0 (by simp)) h0
   | succ j =>
    exact zmn r0 (by simpa using hl) (fun i t' hi => hf (i + 1) t' hi) (fun k hk => ha (k + 1) (by simpa using hk)) j d hd
end
end Go.Proofs.YtakdnfneikbjjaaGreatDoor.Am

namespace Go.Proofs.YtakdnfneikbjjaaGreatDoor.Am
def sup1 (P : Program) (S : List TypeId) (t : TypeId) : Bool := match P.underlying t with
 | some .bool | some (.int _) | some .string => P.cellsOf t == 1
 | some (.slice e) => P.cellsOf t == 1 && decide (0 < P.cellsOf e) && S.contains e
 | some (.struct fs) => zot P 0 fs.toList (P.cellsOf t) && fs.toList.all fun f => S.contains f.type
 | _ => false
def supS (P : Program) (S : List TypeId) : Bool := S.all (sup1 P S)
section
variable {P : Program} {H : Type} {enc : TypeId × Value → H} {W : World}
theorem zox {S : List TypeId} (hS : supS P S = true) : ∀ {fuel : Nat} {t : TypeId}, S.contains t = true → ∀ {held : Bool} {cs : List Value} {x : DataW H × List MemPlace}, DataW.trod enc P W 0 (fun _ => true) held fuel t cs = some x → zp9 P W t cs := by
 intro fuel
 induction fuel with
 | zero => intro t _ held cs x hx; simp [DataW.trod] at hx
 | succ fuel ih =>
  intro t htS held cs x hx
  have h := yam.1 hS t (List.contains_iff_mem.1 htS)
  simp only [sup1] at h
  split at h
  ·rename_i ht
   obtain ⟨b, rfl, _⟩ := DataW.trod_bool ht hx
   exact ⟨[.bool b], rfl, .bool b ht, fun k hk => by
    have : k = 0 := by simpa using hk
    subst this; exact .bool b⟩
  ·rename_i kk ht
   obtain ⟨n, rfl, _, hwf⟩ := DataW.trod_int ht hx
   exact ⟨[.int kk n], rfl, .int n ht hwf, fun k hk => by
    have : k = 0 := by simpa using hk
    subst this; exact .int kk n⟩
  ·rename_i ht
   obtain ⟨s, rfl, _, hs⟩ := DataW.trod_string ht hx
   exact ⟨[.str s.data.toList], rfl, .str _ ht (by simpa using hs), fun k hk => by
    have : k = 0 := by simpa using hk
    subst this; exact .str s⟩
  ·rename_i e ht
   simp only [yae, beq_iff_eq, decide_eq_true_eq] at h
   obtain ⟨⟨_, hpos⟩, hsup⟩ := h
   rcases DataW.trod_slice ht hx with ⟨rfl, _⟩ | ⟨a, len, cap, elems, rest, n, hn, rfl, _, _, hlc, hcap, hel, he, hre, _⟩
   ·exact ⟨[.nils], rfl, .nils ht, fun k hk => by
     have : k = 0 := by simpa using hk
     subst this; exact .nils⟩
   ·cases hn
    have hone : ∀ i, i < len → ∃ vs : List V, Fits P e vs ∧ vs.length = P.cellsOf e ∧ ∀ k, k < P.cellsOf e → ∃ v, W.cell? ((a.add (i * P.cellsOf e)).add k) = some v ∧ RB (zdd W) W (vs.getD k .undef) v := fun i hi => by
     have h1 := he i hi
     rw [yai (by omega)] at h1
     simp only [yab] at h1
     obtain ⟨cs', hc1, hc2⟩ := h1
     obtain ⟨_, hl, hc⟩ := World.cells?_some hc1
     obtain ⟨vs, hf, hr⟩ := zf6.1 (ih hsup hc2)
     refine ⟨vs, hf, by rw [hr.1, hl], fun k hk => ⟨cs'.getD k undef, ?_, hr.2 k (by omega)⟩⟩
     rw [hc k hk, yad, yai (by omega)]; rfl
    obtain ⟨xs, hxl, hxs⟩ := zlD hone
    have hxs' : ∀ i, i < xs.length → Fits P e (xs.getD i []) ∧ (xs.getD i []).length = P.cellsOf e ∧ ∀ k, k < P.cellsOf e → ∃ v, W.cell? ((a.add (i * P.cellsOf e)).add k) = some v ∧ RB (zdd W) W ((xs.getD i []).getD k .undef) v := fun i hi => by
     rw [yad, yai hi]
     exact hxs i _ (yai hi)
    have hblk : 0 < cap → a.block < W.heap.size ∧ a.spot = none := fun hc0 => by
     have h00 : (a.add (0 * P.cellsOf e)).add 0 = a := by simp [Addr.add]
     have hcell : ∃ v, W.cell? a = some v := by
      by_cases h0 : 0 < len
      ·obtain ⟨v, hv, _⟩ := (hxs' 0 (by omega)).2.2 0 hpos
       rw [h00] at hv
       exact ⟨v, hv⟩
      ·have h1 := (hre rfl).2 0 (by omega)
       have h2 := (hre rfl).1
       have hl0 : len = 0 := by omega
       subst hl0
       rw [yai (by omega)] at h1
       simp only [yab] at h1
       obtain ⟨cs', hc1, _⟩ := h1
       obtain ⟨_, hl, hc⟩ := World.cells?_some hc1
       have h3 := hc 0 hpos
       rw [Nat.add_zero, h00, yai (by omega)] at h3
       exact ⟨_, h3⟩
     obtain ⟨v, hv⟩ := hcell
     exact zm4 hv
    refine ⟨[.slice false (P.cellsOf e) xs], rfl, .slice xs ht (by omega) (fun i hi => (hxs' i hi).1), fun k hk => ?_⟩
    have : k = 0 := by simpa using hk
    subst this
    simp only [List.getD_cons_zero]
    refine RB.slice_iff.2 ⟨a, cap, by rw [hxl], fun hc0 => (hblk hc0).2, fun hc0 => (hblk hc0).1, by omega, fun i hi => (hxs' i hi).2.1, fun i k hi hk => ?_⟩
    obtain ⟨v, hv, hr⟩ := (hxs' i hi).2.2 k hk
    refine ⟨v, ?_, hr⟩
    have hsp := (hblk (by omega)).2
    rw [zc6 hsp, zc6 rfl] at hv
    rw [← hv]
    simp [Nat.add_assoc]
  ·rename_i fs ht
   simp only [yae, yam] at h
   obtain ⟨htile, hall⟩ := h
   obtain ⟨xs, n, hn, _, hl, hxl, hf⟩ := DataW.trod_struct ht hx
   cases hn
   obtain ⟨_, vs, hvs, hfs⟩ := zky (P := P) (W := W) (cs := cs) htile (by omega) fun f hfm => by
    obtain ⟨i, hi⟩ := List.getElem?_of_mem hfm
    have hi' : i < fs.size := by have := (List.getElem?_eq_some_iff.1 hi).1; simpa using this
    have h1 := hf i f (by simpa using hi)
    rw [yai (by omega)] at h1
    exact ih (hall f hfm) h1
   rw [List.drop_zero, Nat.sub_zero, List.take_of_length_le (by omega)] at hvs
   exact zf6.2 ⟨vs, .struct vs ht (by rw [hvs.1, hl]) (fun f hfm => by simpa using (hfs f hfm).2), hvs⟩
  ·cases h
theorem zqb {S : List TypeId} (hS : supS P S = true) {t : TypeId} (hsup : S.contains t = true) {v : Value} {dd : DataW H} {ps : List MemPlace} {base : Nat} (hval : Value.okWide P W .any base t v) (h : DataW.Trod enc P W 0 (fun _ => true) true t v dd ps) :
  ∃ x, zf7 P t x ∧ ArgOK W x v := by
 obtain ⟨fuel, h⟩ := h
 obtain ⟨cs, hfit, hr⟩ := zf6.1 (zox hS hsup h)
 have agg : ∀ arr : Array Value, v = .agg arr → ArgOK W (.agg cs) v := fun arr e => by
  subst e
  have hc : (Value.agg arr).cells = arr := rfl
  rw [hc] at hr
  refine .agg cs arr (by have := hr.1; simpa using this.symm) fun k hk => ?_
  have := hr.2 k (by rw [← hr.1]; exact hk)
  rwa [zaG] at this
 have leaf : (∀ arr, v ≠ .agg arr) → cs.length = 1 → ∃ x, cs = [x] ∧ ArgOK W x v := fun hv h1 => by
  match cs, h1 with
  | [x], _ =>
   refine ⟨x, rfl, .leaf ?_⟩
   rw [zio hv] at hr
   exact hr.2 0 (by simp)
 unfold zf7
 unfold Value.okWide at hval
 cases hu : P.underlying t with
 | none => cases hfit <;> simp_all
 | some ud =>
  rw [hu] at hval
  cases ud with
  | struct fs => obtain ⟨arr, e, _⟩ := hval; exact ⟨.agg cs, ⟨cs, rfl, hfit⟩, agg arr e⟩
  | array n e => obtain ⟨arr, e, _⟩ := hval; exact ⟨.agg cs, ⟨cs, rfl, hfit⟩, agg arr e⟩
  | _ =>
   simp only at hval ⊢
   have h1 : cs.length = 1 := by cases hfit <;> first | rfl | simp_all
   have h2 : ∀ arr, v ≠ .agg arr := fun arr e => by
    subst e
    simp only [Cell.okWide, Cell.ok, hu] at hval
   obtain ⟨x, rfl, hx⟩ := leaf h2 h1
   exact ⟨x, hfit, hx⟩
theorem zmo {S : List TypeId} (hS : supS P S = true) : ∀ {ts : List TypeId} {vs : List Value} {ds : List (DataW H)} {ps : List MemPlace} {base : Nat}, (ts.all fun t => S.contains t) = true → (∀ (j : Nat) (t : TypeId) (v : Value), ts[j]? = some t → vs[j]? = some v → Value.okWide P W .any base t v) →
  DataW.TrodAll enc P W 0 (fun _ => true) true ts vs ds ps → ∃ args : List V, args.length = vs.length ∧ ts.length = vs.length ∧ (∀ (j : Nat) (t : TypeId), ts[j]? = some t → zf7 P t (args.getD j .undef)) ∧ ∀ k, k < args.length → ArgOK W (args.getD k .undef) (vs.getD k undef)
 | [], vs, ds, ps, base, _, _, h => by
  obtain ⟨rfl, rfl, rfl⟩ := ChangeShapes.trodAll_nil h
  exact ⟨[], rfl, rfl, fun j t hj => by simp at hj, fun k hk => absurd hk (by simp)⟩
 | t :: ts, vs, ds, ps, base, hsup, hval, h => by
  obtain ⟨v, vs', dd, ds', p, q, rfl, rfl, rfl, h0, r0⟩ := ChangeShapes.trodAll_cons h
  simp only [List.all_cons, yae] at hsup
  obtain ⟨x, hx1, hx2⟩ := zqb hS hsup.1 (hval 0 t v rfl rfl) h0
  obtain ⟨args, h1, h2, h3, h4⟩ := zmo hS hsup.2 (fun j t v hj hv => hval (j + 1) t v hj hv) r0
  refine ⟨x :: args, by simp [h1], by simp [h2], fun j t' hj => ?_, fun k hk => ?_⟩
  ·cases j with
   | zero => simp only [List.getElem?_cons_zero, yaa] at hj; subst hj; exact hx1
   | succ j => exact h3 j t' hj
  ·cases k with
   | zero => exact hx2
   | succ k => exact h4 k (by simpa using hk)
theorem zjn [Lay P] {T : Table} (hLd : Laid P (g0 W) W) (hT : TableOK P T) {f : Nat} {fn : Func} {tb : TypeId} {s : ChangeSpec} {apart fresh handsOn again : Bool} {S : List TypeId} (hS : supS P S = true) (hbool : P.underlying tb = some .bool) (hres : fn.resultTypes = #[tb]) (hvars : s.vars = [])
  (hspec : ∀ ds : List (DataW H), ds.length = fn.params.toList.length → s.fn H ds = { results := [.lit (.bool true)], args := ds }) (hl : laidOutB P = true) (hr : (fn.params.toList.all fun t => P.readableRec t && decide (t < P.types.size)) = true)
  (hsup : (fn.params.toList.all fun t => S.contains t) = true) {base : Nat} {args : Array Value} {ds gs : List (DataW H)} {before : List MemPlace}
  (law : ds.length = fn.params.toList.length → ∀ zs9 : List V, zs9.length = fn.params.toList.length → (∀ (j : Nat) (t : TypeId), fn.params.toList[j]? = some t → zf7 P t (zs9.getD j .undef)) → (∀ (j : Nat) (d : DataW H), ds[j]? = some d → zqa (zs9.getD j .undef) d) → ∃ m', RF T f zs9 [] = some (.bool true, m'))
  (hval : ∀ (j : Nat) t v, fn.params[j]? = some t → args[j]? = some v → Value.okWide P W .any base t v) (hW : DataW.Whole enc P fn.params.toList s.vars apart W args.toList ds gs before) :
  Calls P f args W fun e W' => ∃ v, e = .returned v ∧ s.post enc P fn apart fresh handsOn again W args v W' := by
 have hW' := hW
 obtain ⟨p, q, hA, hV, rfl, hfz, hnd⟩ := hW
 rw [hvars] at hV
 obtain ⟨rfl, rfl⟩ := ChangeShapes.trodVars_none hV
 obtain ⟨zs9, h1, h2, h3, h4⟩ := zmo (base := base) hS hsup (fun j t v hj hv => hval j t v (by simpa using hj) (by simpa using hv)) hA
 obtain ⟨m', hm⟩ := law (zfF hA) zs9 (by rw [h1, h2]) h3 (zmn hA h1 h3 h4)
 have hds : ds.length = fn.params.toList.length := zfF hA
 refine (zou hLd hT hm h1 h4).mono fun e W' ⟨he, hb⟩ => ?_
 subst he
 have hsp : s.fn H (ds ++ []) = { results := [.lit (.bool true)], args := ds } := by rw [List.append_nil]; exact hspec ds hds
 refine ⟨_, rfl, zjm (pa := p) (pv := []) hW' (fun b sp hd => ?_) (fun sp hspb => ?_) (fun sp _ => ?_) rfl hb (RowKit.ok_one hres rfl (RowKit.okWide_bool_mk hbool _))⟩
 ·rw [hsp, hres]
  exact trodAll_cons_mk (RowKit.shut_bool hbool true) rfl
 ·rw [hsp]
  exact zkz hl hr hA (fun x hx => hb.same (hW'.lt x (by simpa using hx))) (fun x hx => hspb x (by simpa using hx))
 ·rw [hsp, hvars]; exact rfl
end
end Go.Proofs.YtakdnfneikbjjaaGreatDoor.Am

set_option linter.all false
namespace Go.Proofs.YtakdnfneikbjjaaGreatDoor.Am.Lay10
open Go.Proofs.YtakdnfneikbjjaaGreatDoor.Am.T
theorem zoy {P : Program} {e : TypeId} (hl : zih P 8 e = some [.int .i64, .int .i64, .int .i64, .int .i64]) {cs : List V} (h : Fits P e cs) : ∃ k : Rect, Pw Den0 k.c cs := by
 have h3 := zgz hl h
 have h4 : cs.length = 4 := h3.len
 match cs, h4 with
 | [x1, x2, x3, x4], _ =>
  obtain ⟨h1, h2, h3, h4, _⟩ := h3
  obtain ⟨a, rfl, _⟩ := h1
  obtain ⟨b, rfl, _⟩ := h2
  obtain ⟨c, rfl, _⟩ := h3
  obtain ⟨d, rfl, _⟩ := h4
  exact ⟨⟨a, b, c, d⟩, .cons (.int _ _) (.cons (.int _ _) (.cons (.int _ _) (.cons (.int _ _) .nil)))⟩
theorem zh2 {P : Program} {e : TypeId} {α : Type} {c : α → List TV} : ∀ xs : List (List V), (∀ y ∈ xs, ∃ k : α, Pw Den0 (c k) y) → ∃ ks : List α, Pw (Pw Den0) (ks.map c) xs
 | [], _ => ⟨[], .nil⟩
 | y :: ys, hh => by
  obtain ⟨ks, h1⟩ := zh2 (P := P) (e := e) (c := c) ys fun z hz => hh z (.tail _ hz)
  obtain ⟨k, h2⟩ := hh y (.head _)
  exact ⟨k :: ks, .cons h2 h1⟩
theorem zkD {P : Program} {t e : TypeId} (hl : zih P 8 t = some [.int .i64, .int .i64, .int .i64, .str, .slice t, .slice e]) (hr : zih P 8 e = some [.int .i64, .int .i64, .int .i64, .int .i64]) (h6 : P.cellsOf t = 6) (h4 : P.cellsOf e = 4) : ∀ (n : Nat) (cs : List V), SizeOf.sizeOf cs < n → Fits P t cs → ∃ p : Plan, Pw Den0 (Plan.e p) cs
 | 0, cs, hn, _ => absurd hn (Nat.not_lt_zero _)
 | n + 1, cs, hn, h => by
  have h3 := zgz hl h
  have hlen : cs.length = 6 := h3.len
  match cs, hlen, hn with
  | [x1, x2, x3, x4, x5, x6], _, hn =>
   obtain ⟨h1, h2, h3, h4', h5, h6', _⟩ := h3
   obtain ⟨a, rfl, _⟩ := h1
   obtain ⟨b, rfl, _⟩ := h2
   obtain ⟨c, rfl, _⟩ := h3
   obtain ⟨s, rfl, _⟩ := h4'
   have hk : ∃ ks : List Plan, Den0 (.sl false 6 (Plan.cs ks)) x5 := by
    rcases h5 with rfl | ⟨xs, rfl, _, hx⟩
    ·exact ⟨[], .sln false 6⟩
    ·obtain ⟨ks, hk⟩ := zh2 (P := P) (e := e) (c := Plan.e) xs fun y hy => zkD hl hr h6 h4 n y (by
      have := List.sizeOf_lt_of_mem hy
      simp at hn; omega) (hx y hy)
     rw [h6]
     exact ⟨ks, .sl false 6 (by rw [Plan.cs_is]; exact hk)⟩
   have hf : ∃ fs : List Rect, Den0 (.sl false 4 (fs.map Rect.c)) x6 := by
    rcases h6' with rfl | ⟨xs, rfl, _, hx⟩
    ·exact ⟨[], .sln false 4⟩
    ·obtain ⟨ks, hk⟩ := zh2 (P := P) (e := e) (c := Rect.c) xs fun y hy => zoy hr (hx y hy)
     rw [h4]
     exact ⟨ks, .sl false 4 hk⟩
   obtain ⟨ks, hk⟩ := hk
   obtain ⟨fs, hf⟩ := hf
   exact ⟨⟨a, ⟨b, c⟩, s.map zet, ks, fs⟩, .cons (.int _ _) (.cons (.int _ _) (.cons (.int _ _) (.cons (.str s) (.cons hk (.cons hf .nil)))))⟩
theorem Pw.denB {ρ : List Nat} : ∀ {a : List TV} {b : List V}, Pw Den0 a b → Pw (Den ρ) a b
 | _, _, .nil => .nil
 | _, _, .cons h t => .cons (.base h) (Pw.denB t)
theorem zoz {P : Program} {t e : TypeId} (hi : zps (P.underlying t) = true) (hl : zih P 8 t = some [.int .i64, .int .i64, .int .i64, .str, .slice t, .slice e]) (hr : zih P 8 e = some [.int .i64, .int .i64, .int .i64, .int .i64]) (h6 : P.cellsOf t = 6) (h4 : P.cellsOf e = 4) {x : V} (h : zf7 P t x) : ∃ p : Plan, Den [] (.agg (Plan.e p)) x := by
 obtain ⟨fs, ht⟩ : ∃ fs, P.underlying t = some (.struct fs) := by
  unfold zps at hi
  split at hi
  ·exact ⟨_, by assumption⟩
  ·cases hi
 unfold zf7 at h
 rw [ht] at h
 obtain ⟨cs, rfl, hf⟩ := h
 obtain ⟨p, hp⟩ := zkD hl hr h6 h4 _ cs (Nat.lt_succ_self _) hf
 exact ⟨p, .agg (Pw.denB hp)⟩
end Go.Proofs.YtakdnfneikbjjaaGreatDoor.Am.Lay10
