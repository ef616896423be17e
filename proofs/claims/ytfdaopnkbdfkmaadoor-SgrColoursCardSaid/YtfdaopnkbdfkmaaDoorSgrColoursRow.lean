/-
SgrColours answers true whatever its input; the input reads as it did.
-/
import Derived.Test.YtfdaopnkbdfkmaaDoorAmSgrColoursRow4
import Derived.KernelRfl
import Derived.Test.YtfdaopnkbdfkmaaDoorCards
import Derived.Test.YtfdaopnkbdfkmaaDoorTie
import Derived.WalkKit
import Derived.ProofKit
import Derived.OpenShut
import Derived.Deep.DeepHandedRow
import Derived.Lib.LaidTab
/-
The numbers that make a style.
-/
namespace Go.Proofs.YtfdaopnkbdfkmaaDoor.Am.Sgr
def mk (a : Int) : Nat → List Int
  | 0 => []
  | i + 1 => if hasB a (msL.getD i 0) then mk a i ++ [nsL.getD i 0] else mk a i
def params (s : Sty) : List Int := 0 :: (mk (clean s).attr 5 ++ nums (clean s).fg 30 ++ nums (clean s).bg 40)
theorem mk_len (a : Int) : ∀ i, (mk a i).length ≤ i
  | 0 => Nat.le_refl _
  | i + 1 => by
    have := mk_len a i
    unfold mk; split
    · simp; omega
    · omega
theorem params_len (s : Sty) : (params s).length ≤ 16 := by
  have h1 := mk_len (clean s).attr 5
  have h2 := nums_len (clean s).fg 30
  have h3 := nums_len (clean s).bg 40
  simp only [params, List.length_cons, List.length_append]
  omega
theorem and_key : ∀ i < 5, ∀ q < 32, (decide (IntKind.wrap .i64 ((BitVec.ofInt 64 (q : Nat) &&& BitVec.ofInt 64 (mark (nsL.getD i 0))).toNat : Int) ≠ 0)) = hasB (q : Nat) (msL.getD i 0) := by decide
theorem and_has {a : Int} (h : attrB a = true) {i : Nat} (hi : i < 5) : (decide (IntKind.wrap .i64 ((BitVec.ofInt 64 a &&& BitVec.ofInt 64 (mark (nsL.getD i 0))).toNat : Int) ≠ 0)) = hasB a (msL.getD i 0) := by
  obtain ⟨q, rfl, hq⟩ := attr_of h
  exact and_key i hi q hq
theorem elemsZW_out {xs : List Int} {L : Ts} {B : Bs} {m : Ms} {k : List (List V) → Prop} (hk : k (ints xs)) : elemsZW 1 L B m (outV xs) k := by
  cases xs <;> exact hk
theorem ints_app {xs ys : List Int} : ints xs ++ ints ys = ints (xs ++ ys) := by simp [ints]
theorem mk_snoc {a : Int} {i : Nat} (h : hasB a (msL.getD i 0) = true) : ints (0 :: mk a i) ++ [[V.int .i64 (nsL.getD i 0)]] = ints (0 :: mk a (i + 1)) := by
  rw [mk, if_pos h]; simp [ints]
theorem mk_same {a : Int} {i : Nat} (h : hasB a (msL.getD i 0) = false) : mk a (i + 1) = mk a i := by rw [mk, if_neg (fun e => by rw [h] at e; cases e)]
section
variable {m : Ms} {s : Sty}
set_option maxRecDepth 20000 in
set_option maxHeartbeats 1000000 in
theorem params_ok (h : in64 s.attr) : RF ST 9 [.agg s.cells] m = some (outV (params s), m) := by
  refine RF_wp rfl v9 b9 ?_
  refine And.intro rfl (And.intro rfl ⟨rfl, ?_⟩)
  refine And.intro (Nat.le_of_ble_eq_true rfl) (And.intro rfl ?_)
  refine And.intro rfl (And.intro rfl ⟨_, _, clean_ok (s := s) h, ?_⟩)
  refine And.intro rfl (And.intro rfl ⟨⟨Nat.le_of_ble_eq_true rfl, rfl, rfl⟩, ?_⟩)
  refine And.intro ⟨rfl, Nat.le_of_ble_eq_true rfl, rfl⟩ ?_
  refine And.intro ⟨rfl, Nat.le_of_ble_eq_true rfl, rfl⟩ ?_
  refine And.intro ⟨rfl, Nat.le_of_ble_eq_true rfl, rfl⟩ ?_
  refine And.intro ⟨rfl, Nat.le_of_ble_eq_true rfl, rfl⟩ ?_
  refine And.intro ⟨rfl, Nat.le_of_ble_eq_true rfl, rfl⟩ ?_
  refine And.intro ⟨rfl, Nat.le_of_ble_eq_true rfl, rfl⟩ ?_
  have hr := right_clean s
  unfold params
  generalize clean s = c at *
  obtain ⟨hf, hb, hA⟩ := rightB_of.1 hr
  have hnf : RF ST 20 [.int .i64 c.fg, .int .i64 30, .int .i64 38] m = some (outV (nums c.fg 30), m) := numbers_ok hf (by decide) (by decide) rfl
  have hng : RF ST 20 [.int .i64 c.bg, .int .i64 40, .int .i64 48] m = some (outV (nums c.bg 40), m) := numbers_ok hb (by decide) (by decide) rfl
  have hFl := nums_len c.fg 30
  have hGl := nums_len c.bg 40
  have hM := mk_len c.attr 5
  generalize nums c.fg 30 = F at *
  generalize nums c.bg 40 = G at *
  have fin3 : ∀ F G : List Int, V.slice true 1 ((ints (0 :: mk c.attr 5) ++ ints F) ++ ints G) = outV (0 :: (mk c.attr 5 ++ F ++ G)) := fun F G => by
    rw [ints_app, ints_app]; rfl
  refine WP_loop (vars := v9) (bx := b9) (cuts := []) [0] (fun k L Bx m' => ∃ i : Nat, i + k = 5 ∧ L = [(1, .loc 0 0), (3, .slice true 1 (ints (0 :: mk c.attr i))), (9, .slice true 1 (ints nsL)), (10, .int .i64 5), (11, .int .i64 i)] ∧ Bx = [(0, c.cells)] ∧ m' = m) ?_ ?_
  · exact ⟨5, 0, rfl, rfl, rfl, rfl⟩
  · rintro k L Bx m' ⟨i, hi, rfl, rfl, rfl⟩
    have hml := mk_len c.attr i
    refine fun b hb' => ?_
    cases b <;> simp only [decide_eq_true_eq, decide_eq_false_iff_not] at hb'
    · have h5 : i = 5 := by omega
      subst h5
      refine ⟨_, rfl, rfl, ?_⟩
      refine And.intro rfl ⟨_, _, hnf, ?_⟩
      rcases F with _ | ⟨x, t⟩
      all_goals refine And.intro (by simp only [ints_len, List.length_cons, List.length_append, List.length_nil] at hFl hGl ⊢; unfold most; omega) ?_
      all_goals refine ⟨_, rfl, rfl, ?_⟩
      all_goals refine And.intro rfl ⟨_, _, hng, ?_⟩
      all_goals rcases G with _ | ⟨y, u⟩
      all_goals refine And.intro (by simp only [ints_len, List.length_cons, List.length_append, List.length_nil] at hFl hGl ⊢; unfold most; omega) ?_
      all_goals refine ⟨⟨rfl, Nat.le_refl _⟩, ?_, trim_same rfl⟩
      · exact fin3 [] []
      · exact fin3 [] (y :: u)
      · exact fin3 (x :: t) []
      · exact fin3 (x :: t) (y :: u)
    · have h5 : i < 5 := by omega
      obtain ⟨hx, hy, hx1, hx2, hy1, hy2⟩ := tab_key i h5
      have hand := and_has hA h5
      have hw1 : IntKind.wrap .i64 ((i : Int) + 1) = (i + 1 : Nat) := by rw [wrap64 (by omega) (by omega)]; omega
      refine And.intro ⟨Int.natCast_nonneg _, by rw [ints_len]; show (i : Int) < 5; omega⟩ ?_
      refine ⟨_, ints_get hx, _, rfl, ?_⟩
      refine ⟨_, rfl, rfl, ?_⟩
      refine And.intro rfl ⟨_, _, mark_ok, ?_⟩
      refine fun b h1 => ?_
      have h1 := hand.symm.trans h1
      cases b
      · exact ⟨k - 1, by omega, i + 1, by omega, cg2 (fun (z : List Int) (y : Int) => ([(1, .loc 0 0), (3, .slice true 1 (ints (0 :: z))), (9, .slice true 1 (ints nsL)), (10, .int .i64 5), (11, .int .i64 y)] : Ts)) (mk_same h1).symm hw1, rfl, rfl⟩
      · refine And.intro ⟨rfl, Nat.le_of_ble_eq_true rfl, rfl⟩ ?_
        refine And.intro (by rw [ints_len]; show (mk c.attr i).length + 1 + 1 ≤ most; unfold most; omega) ?_
        exact ⟨k - 1, by omega, i + 1, by omega, cg2 (fun (z : List (List V)) (y : Int) => ([(1, .loc 0 0), (3, .slice true 1 z), (9, .slice true 1 (ints nsL)), (10, .int .i64 5), (11, .int .i64 y)] : Ts)) (mk_snoc h1) hw1, rfl, rfl⟩
end
end Go.Proofs.YtfdaopnkbdfkmaaDoor.Am.Sgr

/-
The numbers that make a style, as the document has them.
-/
namespace Go.Proofs.YtfdaopnkbdfkmaaDoor.Am.Sgr
section
variable {m : Ms} {s : Sty}
set_option maxRecDepth 20000 in
set_option maxHeartbeats 2000000 in
theorem rparams_ok : RF ST 14 [.agg s.cells] m = some (outV (params s), m) := by
  refine RF_wp rfl v14 b14 ?_
  refine And.intro rfl (And.intro rfl ⟨rfl, ?_⟩)
  refine And.intro (Nat.le_of_ble_eq_true rfl) (And.intro rfl ?_)
  refine And.intro rfl (And.intro rfl ⟨_, _, rclean_ok (s := s), ?_⟩)
  refine And.intro rfl (And.intro rfl ⟨⟨Nat.le_of_ble_eq_true rfl, rfl, rfl⟩, ?_⟩)
  refine And.intro ⟨rfl, Nat.le_of_ble_eq_true rfl, rfl⟩ ?_
  refine And.intro rfl ⟨_, _, marks_ok, ?_⟩
  refine And.intro rfl (And.intro rfl (And.intro rfl ?_))
  have hr := right_clean s
  unfold params
  generalize clean s = c at *
  obtain ⟨hf, hb, hA⟩ := rightB_of.1 hr
  have hnf : RF ST 28 [.int .i64 c.fg, .int .i64 30] m = some (outV (nums c.fg 30), m) := rnumbers_ok hf (by decide) (by decide)
  have hng : RF ST 28 [.int .i64 c.bg, .int .i64 40] m = some (outV (nums c.bg 40), m) := rnumbers_ok hb (by decide) (by decide)
  have hFl := nums_len c.fg 30
  have hGl := nums_len c.bg 40
  have hM := mk_len c.attr 5
  generalize nums c.fg 30 = F at *
  generalize nums c.bg 40 = G at *
  refine WP_loop (vars := v14) (bx := b14) (cuts := []) [0] (fun k L Bx m' => ∃ i : Nat, i + k = 5 ∧ L = [(1, .loc 0 0), (3, .slice true 1 (ints (0 :: mk c.attr i))), (4, .slice false 1 (ints nsL)), (5, .slice false 1 (ints msL)), (6, .int .i64 i)] ∧ Bx = [(0, c.cells)] ∧ m = m') ?_ ?_
  · exact ⟨5, 0, rfl, rfl, rfl, rfl⟩
  rintro k L Bx m' ⟨i, hi, rfl, rfl, rfl⟩
  have hml := mk_len c.attr i
  refine fun b hb' => ?_
  rw [ints_len] at hb'
  cases b <;> simp only [decide_eq_true_eq, decide_eq_false_iff_not] at hb'
  rotate_left
  · have h5 : i < 5 := by simp only [nsL, List.length_cons, List.length_nil] at hb'; omega
    obtain ⟨hx, hy, hx1, hx2, hy1, hy2⟩ := tab_key i h5
    obtain ⟨ha1, ha2⟩ := attr_le hA
    have hw1 : IntKind.wrap .i64 ((i : Int) + 1) = (i + 1 : Nat) := by rw [wrap64 (by omega) (by omega)]; omega
    refine ⟨_, rfl, rfl, ?_⟩
    refine And.intro (Int.natCast_nonneg _) ⟨_, ints_get hy, _, rfl, ?_⟩
    cases h1 : hasB c.attr (msL.getD i 0) with
    | false =>
      refine And.intro rfl ⟨_, _, has_is ha1 ha2 hy1 h1, ?_⟩
      exact ⟨k - 1, by omega, i + 1, by omega, cg2 (fun (z : List Int) (y : Int) => ([(1, .loc 0 0), (3, .slice true 1 (ints (0 :: z))), (4, .slice false 1 (ints nsL)), (5, .slice false 1 (ints msL)), (6, .int .i64 y)] : Ts)) (mk_same h1).symm hw1, rfl, rfl⟩
    | true =>
      refine And.intro rfl ⟨_, _, has_is ha1 ha2 hy1 h1, ?_⟩
      refine And.intro (Int.natCast_nonneg _) ⟨_, ints_get hx, _, rfl, ?_⟩
      refine And.intro ⟨rfl, Nat.le_of_ble_eq_true rfl, rfl⟩ ?_
      refine And.intro (by rw [ints_len]; show (mk c.attr i).length + 1 + 1 ≤ most; unfold most; omega) ?_
      exact ⟨k - 1, by omega, i + 1, by omega, cg2 (fun (z : List (List V)) (y : Int) => ([(1, .loc 0 0), (3, .slice true 1 z), (4, .slice false 1 (ints nsL)), (5, .slice false 1 (ints msL)), (6, .int .i64 y)] : Ts)) (mk_snoc h1) hw1, rfl, rfl⟩
  have h5 : i = 5 := by simp only [nsL, List.length_cons, List.length_nil] at hb'; omega
  subst h5
  refine ⟨_, rfl, rfl, ?_⟩
  refine And.intro rfl ⟨_, _, hnf, ?_⟩
  cases F with
  | nil =>
    refine WP_loop (vars := v14) (bx := b14) (cuts := []) [0] (fun k L Bx m' => L = [(1, .loc 0 0), (3, .slice true 1 (ints (0 :: mk c.attr 5 ++ []))), (7, .nils), (8, .int .i64 0)] ∧ Bx = [(0, c.cells)] ∧ m = m') ?_ ?_
    · exact ⟨0, congrArg (fun z : List Int => ([(1, .loc 0 0), (3, .slice true 1 (ints z)), (7, .nils), (8, .int .i64 0)] : Ts)) (List.append_nil _).symm, rfl, rfl⟩
    rintro k L Bx m' ⟨rfl, rfl, rfl⟩
    refine fun b hb => ?_
    subst hb
    generalize hN : ([] : List Int) = F at *
    refine ⟨_, rfl, rfl, ?_⟩
    refine And.intro rfl ⟨_, _, hng, ?_⟩
    cases G with
    | nil =>
      refine WP_loop (vars := v14) (bx := b14) (cuts := []) [] (fun k L Bx m' => L = [(3, .slice true 1 (ints (0 :: (mk c.attr 5 ++ F) ++ []))), (9, .nils), (10, .int .i64 0)] ∧ Bx = [] ∧ m = m') ?_ ?_
      · exact ⟨0, congrArg (fun z : List Int => ([(3, .slice true 1 (ints z)), (9, .nils), (10, .int .i64 0)] : Ts)) (List.append_nil _).symm, rfl, rfl⟩
      rintro k L Bx m' ⟨rfl, rfl, rfl⟩
      refine fun b hb => ?_
      subst hb
      generalize hN : ([] : List Int) = G at *
      refine ⟨⟨rfl, Nat.le_refl _⟩, ?_, trim_same rfl⟩
      show V.slice true 1 (ints (0 :: (mk c.attr 5 ++ F ++ G))) = outV (0 :: (mk c.attr 5 ++ F ++ G))
      rfl
    | cons x t =>
      refine WP_loop (vars := v14) (bx := b14) (cuts := []) [] (fun k L Bx m' => ∃ i : Nat, i + k = (x :: t).length ∧ L = [(3, .slice true 1 (ints (0 :: (mk c.attr 5 ++ F) ++ (x :: t).take i))), (9, .slice false 1 (ints (x :: t))), (10, .int .i64 i)] ∧ Bx = [] ∧ m = m') ?_ ?_
      · exact ⟨(x :: t).length, 0, by omega, congrArg (fun z : List Int => ([(3, .slice true 1 (ints z)), (9, .slice false 1 (ints (x :: t))), (10, .int .i64 0)] : Ts)) (List.append_nil _).symm, rfl, rfl⟩
      rintro k L Bx m' ⟨i, hi, rfl, rfl, rfl⟩
      refine fun b hb => ?_
      rw [ints_len] at hb
      generalize hN : x :: t = G at *
      cases b <;> simp only [decide_eq_true_eq, decide_eq_false_iff_not] at hb
      rotate_left
      · have hlt : i < G.length := by omega
        have hx := List.getElem?_eq_getElem hlt
        have hw1 : IntKind.wrap .i64 ((i : Int) + 1) = (i + 1 : Nat) := by rw [wrap64 (by omega) (by omega)]; omega
        have hap : ints (0 :: (mk c.attr 5 ++ F) ++ G.take i) ++ [[V.int .i64 G[i]]] = ints (0 :: (mk c.attr 5 ++ F) ++ G.take (i + 1)) := by
          rw [List.take_add_one, hx]; simp only [ints, Option.toList_some, List.map_append, List.map_cons, List.map_nil, List.append_assoc, List.cons_append]
        refine And.intro (Int.natCast_nonneg _) ⟨_, ints_get hx, _, rfl, ?_⟩
        refine And.intro ⟨rfl, Nat.le_of_ble_eq_true rfl, rfl⟩ ?_
        refine And.intro (by rw [ints_len]; simp only [List.length_append, List.length_cons, List.length_take, List.length_nil, ints_len, List.length_set, List.length_replicate]; unfold most; omega) ?_
        exact ⟨k - 1, by omega, i + 1, by omega, cg2 (fun (z : List (List V)) (y : Int) => ([(3, .slice true 1 z), (9, .slice false 1 (ints G)), (10, .int .i64 y)] : Ts)) hap hw1, rfl, rfl⟩
      have hi' : i = G.length := by omega
      subst hi'
      rw [List.take_length] at *
      refine ⟨⟨rfl, Nat.le_refl _⟩, ?_, trim_same rfl⟩
      show V.slice true 1 (ints (0 :: (mk c.attr 5 ++ F ++ G))) = outV (0 :: (mk c.attr 5 ++ F ++ G))
      rfl
  | cons x t =>
    refine WP_loop (vars := v14) (bx := b14) (cuts := []) [0] (fun k L Bx m' => ∃ i : Nat, i + k = (x :: t).length ∧ L = [(1, .loc 0 0), (3, .slice true 1 (ints (0 :: mk c.attr 5 ++ (x :: t).take i))), (7, .slice false 1 (ints (x :: t))), (8, .int .i64 i)] ∧ Bx = [(0, c.cells)] ∧ m = m') ?_ ?_
    · exact ⟨(x :: t).length, 0, by omega, congrArg (fun z : List Int => ([(1, .loc 0 0), (3, .slice true 1 (ints z)), (7, .slice false 1 (ints (x :: t))), (8, .int .i64 0)] : Ts)) (List.append_nil _).symm, rfl, rfl⟩
    rintro k L Bx m' ⟨i, hi, rfl, rfl, rfl⟩
    refine fun b hb => ?_
    rw [ints_len] at hb
    generalize hN : x :: t = F at *
    cases b <;> simp only [decide_eq_true_eq, decide_eq_false_iff_not] at hb
    rotate_left
    · have hlt : i < F.length := by omega
      have hx := List.getElem?_eq_getElem hlt
      have hw1 : IntKind.wrap .i64 ((i : Int) + 1) = (i + 1 : Nat) := by rw [wrap64 (by omega) (by omega)]; omega
      have hap : ints (0 :: mk c.attr 5 ++ F.take i) ++ [[V.int .i64 F[i]]] = ints (0 :: mk c.attr 5 ++ F.take (i + 1)) := by
        rw [List.take_add_one, hx]; simp only [ints, Option.toList_some, List.map_append, List.map_cons, List.map_nil, List.append_assoc, List.cons_append]
      refine And.intro (Int.natCast_nonneg _) ⟨_, ints_get hx, _, rfl, ?_⟩
      refine And.intro ⟨rfl, Nat.le_of_ble_eq_true rfl, rfl⟩ ?_
      refine And.intro (by rw [ints_len]; simp only [List.length_append, List.length_cons, List.length_take, List.length_nil, ints_len, List.length_set, List.length_replicate]; unfold most; omega) ?_
      exact ⟨k - 1, by omega, i + 1, by omega, cg2 (fun (z : List (List V)) (y : Int) => ([(1, .loc 0 0), (3, .slice true 1 z), (7, .slice false 1 (ints F)), (8, .int .i64 y)] : Ts)) hap hw1, rfl, rfl⟩
    have hi' : i = F.length := by omega
    subst hi'
    rw [List.take_length] at *
    refine ⟨_, rfl, rfl, ?_⟩
    refine And.intro rfl ⟨_, _, hng, ?_⟩
    cases G with
    | nil =>
      refine WP_loop (vars := v14) (bx := b14) (cuts := []) [] (fun k L Bx m' => L = [(3, .slice true 1 (ints (0 :: (mk c.attr 5 ++ F) ++ []))), (9, .nils), (10, .int .i64 0)] ∧ Bx = [] ∧ m = m') ?_ ?_
      · exact ⟨0, congrArg (fun z : List Int => ([(3, .slice true 1 (ints z)), (9, .nils), (10, .int .i64 0)] : Ts)) (List.append_nil _).symm, rfl, rfl⟩
      rintro k L Bx m' ⟨rfl, rfl, rfl⟩
      refine fun b hb => ?_
      subst hb
      generalize hN : ([] : List Int) = G at *
      refine ⟨⟨rfl, Nat.le_refl _⟩, ?_, trim_same rfl⟩
      show V.slice true 1 (ints (0 :: (mk c.attr 5 ++ F ++ G))) = outV (0 :: (mk c.attr 5 ++ F ++ G))
      rfl
    | cons x t =>
      refine WP_loop (vars := v14) (bx := b14) (cuts := []) [] (fun k L Bx m' => ∃ i : Nat, i + k = (x :: t).length ∧ L = [(3, .slice true 1 (ints (0 :: (mk c.attr 5 ++ F) ++ (x :: t).take i))), (9, .slice false 1 (ints (x :: t))), (10, .int .i64 i)] ∧ Bx = [] ∧ m = m') ?_ ?_
      · exact ⟨(x :: t).length, 0, by omega, congrArg (fun z : List Int => ([(3, .slice true 1 (ints z)), (9, .slice false 1 (ints (x :: t))), (10, .int .i64 0)] : Ts)) (List.append_nil _).symm, rfl, rfl⟩
      rintro k L Bx m' ⟨i, hi, rfl, rfl, rfl⟩
      refine fun b hb => ?_
      rw [ints_len] at hb
      generalize hN : x :: t = G at *
      cases b <;> simp only [decide_eq_true_eq, decide_eq_false_iff_not] at hb
      rotate_left
      · have hlt : i < G.length := by omega
        have hx := List.getElem?_eq_getElem hlt
        have hw1 : IntKind.wrap .i64 ((i : Int) + 1) = (i + 1 : Nat) := by rw [wrap64 (by omega) (by omega)]; omega
        have hap : ints (0 :: (mk c.attr 5 ++ F) ++ G.take i) ++ [[V.int .i64 G[i]]] = ints (0 :: (mk c.attr 5 ++ F) ++ G.take (i + 1)) := by
          rw [List.take_add_one, hx]; simp only [ints, Option.toList_some, List.map_append, List.map_cons, List.map_nil, List.append_assoc, List.cons_append]
        refine And.intro (Int.natCast_nonneg _) ⟨_, ints_get hx, _, rfl, ?_⟩
        refine And.intro ⟨rfl, Nat.le_of_ble_eq_true rfl, rfl⟩ ?_
        refine And.intro (by rw [ints_len]; simp only [List.length_append, List.length_cons, List.length_take, List.length_nil, ints_len, List.length_set, List.length_replicate]; unfold most; omega) ?_
        exact ⟨k - 1, by omega, i + 1, by omega, cg2 (fun (z : List (List V)) (y : Int) => ([(3, .slice true 1 z), (9, .slice false 1 (ints G)), (10, .int .i64 y)] : Ts)) hap hw1, rfl, rfl⟩
      have hi' : i = G.length := by omega
      subst hi'
      rw [List.take_length] at *
      refine ⟨⟨rfl, Nat.le_refl _⟩, ?_, trim_same rfl⟩
      show V.slice true 1 (ints (0 :: (mk c.attr 5 ++ F ++ G))) = outV (0 :: (mk c.attr 5 ++ F ++ G))
      rfl
end
end Go.Proofs.YtfdaopnkbdfkmaaDoor.Am.Sgr

/-
Apply, walked.
-/
namespace Go.Proofs.YtfdaopnkbdfkmaaDoor.Am.Sgr
section
variable {m : Ms} {s : Sty}
theorem last_get {x : List V} : (m ++ [x])[m.length]? = some x := by simp
theorem last_set {x y : List V} : (m ++ [x]).set m.length y = m ++ [y] := by simp
theorem clean_right {s : Sty} (h : rightB s = true) : clean s = s := by rw [clean, if_pos h]
theorem setL_fg {c : Sty} (o : Option Int) : setL (m ++ [c.cells]) m.length c.cells (0 + 0) o = m ++ [(setFg c o).cells] := by
  cases o with
  | none => rfl
  | some v => exact last_set
theorem setL_bg {c : Sty} (o : Option Int) : setL (m ++ [c.cells]) m.length c.cells (0 + 1) o = m ++ [(setBg c o).cells] := by
  cases o with
  | none => rfl
  | some v => exact last_set
theorem trim_last {r : V} {x : List V} (h : r.top2 = 0) : trim r m (m ++ [x]) = m := by
  unfold trim
  rw [h, if_pos (Nat.zero_le _)]
  simp
theorem ints_take {xs : List Int} {k : Nat} : (ints xs).take k = ints (xs.take k) := by simp [ints]
theorem ints_drop {xs : List Int} {k : Nat} : (ints xs).drop k = ints (xs.drop k) := by simp [ints]
set_option maxRecDepth 20000 in
set_option maxHeartbeats 1000000 in
theorem apply_nil (h : in64 s.attr) {v : V} (hv : IV v []) : RF ST 8 [.agg s.cells, v] m = some (.agg zero.cells, m) := by
  cases hv <;> refine RF_wp rfl v8 b8 ?_
  all_goals refine And.intro rfl (And.intro rfl ⟨rfl, ?_⟩)
  all_goals refine ⟨_, last_get, And.intro (Nat.le_of_ble_eq_true rfl) (And.intro rfl ?_)⟩
  all_goals refine And.intro rfl (And.intro rfl ⟨_, _, clean_ok (s := s) h, ?_⟩)
  all_goals refine And.intro rfl (And.intro rfl ⟨_, last_get, ⟨Nat.le_of_ble_eq_true rfl, rfl, rfl, Nat.zero_le _⟩, ?_⟩)
  all_goals refine fun c hc => ?_
  all_goals subst hc
  all_goals refine And.intro rfl (And.intro rfl ⟨⟨Nat.le_of_ble_eq_true rfl, rfl, rfl⟩, ?_⟩)
  all_goals refine ⟨Nat.le_of_ble_eq_true rfl, ⟨rfl, by simp⟩, rfl, ?_⟩
  all_goals exact (congrArg _ last_set).trans (trim_last rfl)
set_option maxRecDepth 20000 in
set_option maxHeartbeats 1000000 in
theorem apply_cons (h : in64 s.attr) {xs : List Int} (hx : xs ≠ []) (_hl : xs.length ≤ maxLen) : RF ST 8 [.agg s.cells, .slice false 1 (ints xs)] m = some (.agg (app (clean s) (xs.take 16)).cells, m) := by
  refine RF_wp rfl v8 b8 ?_
  refine And.intro rfl (And.intro rfl ⟨rfl, ?_⟩)
  refine ⟨_, last_get, And.intro (Nat.le_of_ble_eq_true rfl) (And.intro rfl ?_)⟩
  refine And.intro rfl (And.intro rfl ⟨_, _, clean_ok (s := s) h, ?_⟩)
  refine And.intro rfl (And.intro rfl ⟨_, last_get, ⟨Nat.le_of_ble_eq_true rfl, rfl, rfl, Nat.zero_le _⟩, ?_⟩)
  refine fun c hc => ?_
  have hpos : 0 < xs.length := List.length_pos_iff.2 hx
  have hc' : c = false := by rw [← hc, ints_len]; exact decide_eq_false (by omega)
  subst hc'
  have hmin : (min ((ints xs).length : Int) 16).toNat = min xs.length 16 := by rw [ints_len]; omega
  refine And.intro (by rw [ints_len]; omega) (And.intro ⟨Nat.zero_le _, by rw [hmin, ints_len]; omega⟩ ?_)
  have hys : (((ints xs).drop 0).take ((min ((ints xs).length : Int) 16).toNat - 0)) = ints (xs.take 16) := by
    rw [hmin, List.drop_zero, Nat.sub_zero, ints_take]
    congr 1
    rw [List.take_eq_take_iff]
    omega
  generalize hy : xs.take 16 = ys at *
  have hyl : ys.length ≤ 16 := by rw [← hy, List.length_take]; omega
  refine WP_loop (vars := v8) (bx := b8) (cuts := []) [0] (fun k L Bx m' => ∃ (i : Nat) (c : Sty), i + k = ys.length ∧ rightB c = true ∧ app c (ys.drop i) = app (clean s) ys ∧ L = [(1, .slice false 1 (ints ys)), (2, .ptr m.length 0), (4, .loc 0 0), (5, .int .i64 i)] ∧ Bx = [(0, cl 0 0 0)] ∧ m' = m ++ [c.cells]) ?_ ?_
  · exact ⟨ys.length, 0, clean s, by omega, right_clean s, rfl, congrArg (fun z : List (List V) => ([(1, .slice false 1 z), (2, .ptr m.length 0), (4, .loc 0 0), (5, .int .i64 0)] : Ts)) hys, rfl, last_set⟩
  · rintro k L Bx m' ⟨i, c, hi, hr, ha, rfl, rfl, rfl⟩
    refine fun b hb => ?_
    rw [ints_len] at hb
    cases b <;> simp only [decide_eq_true_eq, decide_eq_false_iff_not] at hb
    · have hd : ys.drop i = [] := List.drop_eq_nil_of_le (by omega)
      rw [hd, app_nil] at ha
      refine ⟨_, last_get, And.intro (Nat.le_of_ble_eq_true rfl) (And.intro rfl ?_)⟩
      refine And.intro rfl (And.intro rfl ⟨⟨Nat.le_of_ble_eq_true rfl, rfl, rfl⟩, ?_⟩)
      rw [← ha]
      exact ⟨Nat.le_of_ble_eq_true rfl, ⟨rfl, by simp⟩, rfl, trim_last rfl⟩
    · have hlt : i < ys.length := by omega
      have hn := List.getElem?_eq_getElem hlt
      have hd : ys.drop i = ys[i] :: ys.drop (i + 1) := List.drop_eq_getElem_cons hlt
      generalize ys[i] = n at *
      rw [hd] at ha
      have hw : IntKind.wrap .i64 ((i : Int) + 1) = (i + 1 : Nat) := by rw [wrap64 (by omega) (by omega)]; omega
      have hsl : ((ints ys).drop (IntKind.wrap .i64 ((i : Int) + 1)).toNat).take ((ints ys).length - (IntKind.wrap .i64 ((i : Int) + 1)).toNat) = ints (ys.drop (i + 1)) := by
        rw [hw, ints_len, ints_drop, ints_take, Int.toNat_natCast, List.take_of_length_le (by rw [List.length_drop]; omega)]
      have hl2 : (ys.drop (i + 1)).length ≤ maxLen := by rw [List.length_drop]; unfold maxLen; omega
      have hq := long_le (ys.drop (i + 1))
      rw [List.length_drop] at hq
      have hw2 : IntKind.wrap .i64 (IntKind.wrap .i64 ((i : Int) + (long (ys.drop (i + 1))).1) + 1) = (i + 1 + (long (ys.drop (i + 1))).1 : Nat) := by
        have e : IntKind.wrap .i64 ((i : Int) + (long (ys.drop (i + 1))).1) = (i + (long (ys.drop (i + 1))).1 : Nat) := by rw [wrap64 (by omega) (by omega)]; omega
        rw [e, wrap64 (by omega) (by omega)]; omega
      have hdd : (ys.drop (i + 1)).drop (long (ys.drop (i + 1))).1 = ys.drop (i + 1 + (long (ys.drop (i + 1))).1) := by rw [List.drop_drop]
      refine And.intro (Int.natCast_nonneg _) ⟨_, ints_get hn, _, rfl, ?_⟩
      refine fun b h1 => ?_
      cases b <;> simp only [decide_eq_true_eq, decide_eq_false_iff_not] at h1
      · refine fun b h2 => ?_
        cases b <;> simp only [decide_eq_true_eq, decide_eq_false_iff_not] at h2
        · refine ⟨_, last_get, And.intro (Nat.le_of_ble_eq_true rfl) (And.intro rfl ?_)⟩
          refine And.intro rfl (And.intro rfl ⟨_, _, one_ok (s := c) (rightB_of.1 hr).2.2, ?_⟩)
          refine And.intro rfl (And.intro rfl ⟨_, last_get, ⟨Nat.le_of_ble_eq_true rfl, rfl, rfl, Nat.zero_le _⟩, ?_⟩)
          exact ⟨k - 1, by omega, i + 1, one c n, by omega, right_one hr, (app_one h1 h2).symm.trans ha, congrArg (fun z : Int => ([(1, .slice false 1 (ints ys)), (2, .ptr m.length 0), (4, .loc 0 0), (5, .int .i64 z)] : Ts)) hw, rfl, last_set⟩
        · refine And.intro (by rw [hw]; omega) (And.intro ⟨by rw [hw, ints_len]; omega, Nat.le_refl _⟩ ?_)
          refine And.intro rfl ⟨_, _, (congrArg (fun z => RF ST 17 [.ptr m.length (0 + 1), .slice false 1 z] (m ++ [c.cells])) hsl).trans (long_ok (off := 0 + 1) hl2 last_get rfl), ?_⟩
          exact ⟨k - 1 - (long (ys.drop (i + 1))).1, by omega, i + 1 + (long (ys.drop (i + 1))).1, setBg c (long (ys.drop (i + 1))).2, by omega, right_bg hr, (congrArg (app _) hdd.symm).trans ((app_48 h2).symm.trans ha), congrArg (fun z : Int => ([(1, .slice false 1 (ints ys)), (2, .ptr m.length 0), (4, .loc 0 0), (5, .int .i64 z)] : Ts)) hw2, rfl, setL_bg _⟩
      · refine And.intro (by rw [hw]; omega) (And.intro ⟨by rw [hw, ints_len]; omega, Nat.le_refl _⟩ ?_)
        refine And.intro rfl ⟨_, _, (congrArg (fun z => RF ST 17 [.ptr m.length (0 + 0), .slice false 1 z] (m ++ [c.cells])) hsl).trans (long_ok (off := 0 + 0) hl2 last_get rfl), ?_⟩
        exact ⟨k - 1 - (long (ys.drop (i + 1))).1, by omega, i + 1 + (long (ys.drop (i + 1))).1, setFg c (long (ys.drop (i + 1))).2, by omega, right_fg hr, (congrArg (app _) hdd.symm).trans ((app_38 h1).symm.trans ha), congrArg (fun z : Int => ([(1, .slice false 1 (ints ys)), (2, .ptr m.length 0), (4, .loc 0 0), (5, .int .i64 z)] : Ts)) hw2, rfl, setL_fg _⟩
theorem apply_ok (h : in64 s.attr) {v : V} {xs : List Int} (hv : IV v xs) (hl : xs.length ≤ maxLen) : RF ST 8 [.agg s.cells, v] m = some (.agg (apply s xs).cells, m) := by
  by_cases hx : xs = []
  · subst hx
    rw [apply_nil h hv, apply, if_pos rfl]
  · cases hv with
    | nil => exact absurd rfl hx
    | sl => rw [apply_cons h hx hl, apply, if_neg hx]
end
end Go.Proofs.YtfdaopnkbdfkmaaDoor.Am.Sgr

/-
The document's Apply, walked.
-/
namespace Go.Proofs.YtfdaopnkbdfkmaaDoor.Am.Sgr
theorem long_other {r : List Int} (h5 : ¬ (2 ≤ r.length ∧ r.getD 0 0 = 5)) (h2 : ¬ (4 ≤ r.length ∧ r.getD 0 0 = 2)) : long r = (r.length, none) := by
  unfold long
  rw [if_pos]
  match r with
  | [] => exact .inl rfl
  | x :: t =>
    have e0 : (x :: t).getD 0 0 = x := rfl
    rw [e0, List.length_cons] at h5 h2
    by_cases q2 : x = 2
    · subst q2; right; show t.length + 1 ≤ 3; omega
    · by_cases q5 : x = 5
      · subst q5; right; show t.length + 1 ≤ 1; omega
      · left; simp [need, q2, q5]
section
variable {m : Ms} {s : Sty}
set_option maxRecDepth 20000 in
set_option maxHeartbeats 1000000 in
theorem rapply_nil {v : V} (hv : IV v []) : RF ST 10 [.agg s.cells, v] m = some (.agg zero.cells, m) := by
  cases hv <;> refine RF_wp rfl v10 b10 ?_
  all_goals refine And.intro rfl (And.intro rfl ⟨rfl, ?_⟩)
  all_goals refine And.intro (Nat.le_of_ble_eq_true rfl) (And.intro rfl ?_)
  all_goals refine And.intro rfl (And.intro rfl ⟨_, _, rclean_ok (s := s), ?_⟩)
  all_goals refine And.intro rfl (And.intro rfl ⟨⟨Nat.le_of_ble_eq_true rfl, rfl, rfl⟩, ?_⟩)
  all_goals refine fun c hc => ?_
  all_goals subst hc
  all_goals refine And.intro rfl (And.intro rfl ⟨⟨Nat.le_of_ble_eq_true rfl, rfl, rfl⟩, ?_⟩)
  all_goals exact ⟨Nat.le_of_ble_eq_true rfl, ⟨rfl, by simp⟩, rfl, trim_same rfl⟩
theorem ints_len0 : (ints []).length = 0 := rfl
theorem byteOf_is {n : Int} {b : Bool} (h : byteB n = b) : RF ST 23 [.int .i64 n] m = some (.bool b, m) := by rw [byteOf_ok, h]
set_option maxRecDepth 20000 in
set_option maxHeartbeats 4000000 in
theorem rapply_cons {xs : List Int} (hx : xs ≠ []) : RF ST 10 [.agg s.cells, .slice false 1 (ints xs)] m = some (.agg (app (clean s) (xs.take 16)).cells, m) := by
  refine RF_wp rfl v10 b10 ?_
  refine And.intro rfl (And.intro rfl ⟨rfl, ?_⟩)
  refine And.intro (Nat.le_of_ble_eq_true rfl) (And.intro rfl ?_)
  refine And.intro rfl (And.intro rfl ⟨_, _, rclean_ok (s := s), ?_⟩)
  refine And.intro rfl (And.intro rfl ⟨⟨Nat.le_of_ble_eq_true rfl, rfl, rfl⟩, ?_⟩)
  refine fun c hc => ?_
  have hpos : 0 < xs.length := List.length_pos_iff.2 hx
  have hc' : c = false := by rw [← hc, ints_len]; exact decide_eq_false (by omega)
  subst hc'
  have hyl : (xs.take 16).length ≤ 16 := by rw [List.length_take]; omega
  have hys : ((ints xs).drop 0).take (16 - 0) = ints (xs.take 16) := by rw [List.drop_zero, ints_take]
  have hyx : xs.length ≤ 16 → ints xs = ints (xs.take 16) := fun h => by rw [List.take_of_length_le h]
  generalize xs.take 16 = ys at *
  have hzs : ∃ zs, zs = ints ys := ⟨_, rfl⟩
  refine fun c hc => ?_
  rw [ints_len] at hc
  cases c <;> simp only [decide_eq_true_eq, decide_eq_false_iff_not] at hc
  all_goals (try refine And.intro (by decide) (And.intro ⟨Nat.zero_le _, by rw [ints_len]; show 16 ≤ _; omega⟩ ?_))
  all_goals refine WP_loop (vars := v10) (bx := b10) (cuts := []) [0, 1] (fun k L Bx mm => ∃ (i : Nat) (c : Sty), i + k = ys.length ∧ rightB c = true ∧ app c (ys.drop i) = app (clean s) ys ∧ L = [(1, .slice false 1 (ints ys)), (2, .loc 0 0), (4, .loc 1 0), (5, .int .i64 i)] ∧ Bx = [(0, c.cells), (1, cl 0 0 0)] ∧ mm = m) ?_ ?_
  · exact ⟨ys.length, 0, clean s, by omega, right_clean s, rfl, congrArg (fun z : List (List V) => ([(1, .slice false 1 z), (2, .loc 0 0), (4, .loc 1 0), (5, .int .i64 0)] : Ts)) (hyx (by omega)), rfl, rfl⟩
  rotate_left
  · exact ⟨ys.length, 0, clean s, by omega, right_clean s, rfl, congrArg (fun z : List (List V) => ([(1, .slice false 1 z), (2, .loc 0 0), (4, .loc 1 0), (5, .int .i64 0)] : Ts)) hys, rfl, rfl⟩
  all_goals
    rintro k L Bx mm ⟨i, c, hi, hr, ha, rfl, rfl, rfl⟩
    refine fun b hb => ?_
    rw [ints_len] at hb
    cases b <;> simp only [decide_eq_true_eq, decide_eq_false_iff_not] at hb
    · have hd : ys.drop i = [] := List.drop_eq_nil_of_le (by omega)
      rw [hd, app_nil] at ha
      refine And.intro (Nat.le_of_ble_eq_true rfl) (And.intro rfl ?_)
      refine And.intro rfl (And.intro rfl ⟨⟨Nat.le_of_ble_eq_true rfl, rfl, rfl⟩, ?_⟩)
      rw [← ha]
      exact ⟨Nat.le_of_ble_eq_true rfl, ⟨rfl, by simp⟩, rfl, trim_same rfl⟩
    · have hlt : i < ys.length := by omega
      have hn := List.getElem?_eq_getElem hlt
      have hd : ys.drop i = ys[i] :: ys.drop (i + 1) := List.drop_eq_getElem_cons hlt
      generalize ys[i] = n at *
      rw [hd] at ha
      have hw : IntKind.wrap .i64 ((i : Int) + 1) = (i + 1 : Nat) := by rw [wrap64 (by omega) (by omega)]; omega
      have hsl : ((ints ys).drop (IntKind.wrap .i64 ((i : Int) + 1)).toNat).take ((ints ys).length - (IntKind.wrap .i64 ((i : Int) + 1)).toNat) = ints (ys.drop (i + 1)) := by
        rw [hw, ints_len, ints_drop, ints_take, Int.toNat_natCast, List.take_of_length_le (by rw [List.length_drop]; omega)]
      have hlr : (ys.drop (i + 1)).length + i + 1 = ys.length := by rw [List.length_drop]; omega
      have hdd : (ys.drop (i + 1)).drop (long (ys.drop (i + 1))).1 = ys.drop (i + 1 + (long (ys.drop (i + 1))).1) := by rw [List.drop_drop]
      have hq := long_le (ys.drop (i + 1))
      refine And.intro (Int.natCast_nonneg _) ⟨_, ints_get hn, _, rfl, ?_⟩
      refine fun b h1 => ?_
      cases b <;> simp only [decide_eq_true_eq, decide_eq_false_iff_not] at h1
      · have hn3 : n = 38 := by omega
        refine And.intro (by rw [hw]; omega) (And.intro ⟨by rw [hw, ints_len]; omega, Nat.le_refl _⟩ ?_)
        generalize ys.drop (i + 1) = r at *
        rw [hsl]
        by_cases q5 : ∃ v t, r = 5 :: v :: t
        · obtain ⟨v, t, rfl⟩ := q5
          rw [List.length_cons, List.length_cons] at hlr
          have hw2 : IntKind.wrap .i64 (IntKind.wrap .i64 ((i : Int) + 1) + 2) = (i + 1 + 2 : Nat) := by rw [hw, wrap64 (by omega) (by omega)]; omega
          cases hb1 : byteB v with
          | true =>
            have hv := byte_of hb1
            have hl : long (5 :: v :: t) = (2, some (v + 1)) := by rw [long1, if_pos (by simp [hb1])]; simp [acc]
            rw [hl] at hdd
            have ew : IntKind.wrap .i64 (v + 1) = v + 1 := wrap64 (by omega) (by omega)
            have ha' := (congrArg (app _) hdd.symm).trans (((app_38 hn3).trans (by rw [hl])).symm.trans ha)
            have hr' := right_fg (r := 5 :: v :: t) hr
            rw [hl] at hr'
            repeat' first
              | (refine fun b h => ?_; cases b <;> simp only [decide_eq_true_eq, decide_eq_false_iff_not, ints_len, List.length_cons, ge_iff_le, not_true_eq_false , ew] at h <;> first | (exfalso; omega) | skip)
              | refine And.intro (by decide) ⟨_, rfl, _, rfl, ?_⟩
              | refine And.intro rfl ⟨_, _, byteOf_is hb1, ?_⟩
              | refine And.intro rfl ⟨⟨Nat.le_of_ble_eq_true rfl, rfl, rfl⟩, ?_⟩
              | refine And.intro (Nat.le_of_ble_eq_true rfl) ?_
              | refine And.intro rfl ?_
              | fail
            exact ⟨k - 1 - 2, by omega, i + 1 + 2, setFg c (some (v + 1)), by omega, hr', ha', congrArg (fun z : Int => ([(1, .slice false 1 (ints ys)), (2, .loc 0 0), (4, .loc 1 0), (5, .int .i64 z)] : Ts)) hw2, congrArg (fun z : Int => ([(0, (setFg c (some z)).cells), (1, cl 0 0 0)] : Bs)) ew, rfl⟩
          | false =>
            have hl : long (5 :: v :: t) = (2, none) := by rw [long1, if_neg (by simp [hb1])]
            rw [hl] at hdd
            have ha' := (congrArg (app _) hdd.symm).trans (((app_38 hn3).trans (by rw [hl])).symm.trans ha)
            repeat' first
              | (refine fun b h => ?_; cases b <;> simp only [decide_eq_true_eq, decide_eq_false_iff_not, ints_len, List.length_cons, ge_iff_le, not_true_eq_false ] at h <;> first | (exfalso; omega) | skip)
              | refine And.intro (by decide) ⟨_, rfl, _, rfl, ?_⟩
              | refine And.intro rfl ⟨_, _, byteOf_is hb1, ?_⟩
              | refine And.intro rfl ⟨⟨Nat.le_of_ble_eq_true rfl, rfl, rfl⟩, ?_⟩
              | refine And.intro (Nat.le_of_ble_eq_true rfl) ?_
              | refine And.intro rfl ?_
              | fail
            exact ⟨k - 1 - 2, by omega, i + 1 + 2, c, by omega, hr, ha', congrArg (fun z : Int => ([(1, .slice false 1 (ints ys)), (2, .loc 0 0), (4, .loc 1 0), (5, .int .i64 z)] : Ts)) hw2, rfl, rfl⟩
        · by_cases q2 : ∃ x y z t, r = 2 :: x :: y :: z :: t
          · obtain ⟨x, y, z, t, rfl⟩ := q2
            rw [List.length_cons, List.length_cons, List.length_cons, List.length_cons] at hlr
            have hw4 : IntKind.wrap .i64 (IntKind.wrap .i64 ((i : Int) + 1) + 4) = (i + 1 + 4 : Nat) := by rw [hw, wrap64 (by omega) (by omega)]; omega
            by_cases hb : byteB x = true ∧ byteB y = true ∧ byteB z = true
            · obtain ⟨hb1, hb2, hb3⟩ := hb
              have hx := byte_of hb1
              have hy := byte_of hb2
              have hz := byte_of hb3
              have hl : long (2 :: x :: y :: z :: t) = (4, some (16777216 + x * 65536 + y * 256 + z)) := by
                rw [long3, if_pos (by simp [hb1, hb2, hb3])]
                have : acc [x, y, z] 3 + 16777216 = 16777216 + x * 65536 + y * 256 + z := by simp [acc]; omega
                rw [this]
              rw [hl] at hdd
              have e1 : IntKind.wrap .i64 (x * 65536) = x * 65536 := wrap64 (by omega) (by omega)
              have e2 : IntKind.wrap .i64 (16777216 + x * 65536) = 16777216 + x * 65536 := wrap64 (by omega) (by omega)
              have e3 : IntKind.wrap .i64 (y * 256) = y * 256 := wrap64 (by omega) (by omega)
              have e4 : IntKind.wrap .i64 (16777216 + x * 65536 + y * 256) = 16777216 + x * 65536 + y * 256 := wrap64 (by omega) (by omega)
              have e5 : IntKind.wrap .i64 (16777216 + x * 65536 + y * 256 + z) = 16777216 + x * 65536 + y * 256 + z := wrap64 (by omega) (by omega)
              have ew : IntKind.wrap .i64 (IntKind.wrap .i64 (IntKind.wrap .i64 (16777216 + IntKind.wrap .i64 (x * 65536)) + IntKind.wrap .i64 (y * 256)) + z) = 16777216 + x * 65536 + y * 256 + z := by rw [e1, e2, e3, e4, e5]
              have ha' := (congrArg (app _) hdd.symm).trans (((app_38 hn3).trans (by rw [hl])).symm.trans ha)
              have hr' := right_fg (r := 2 :: x :: y :: z :: t) hr
              rw [hl] at hr'
              repeat' first
                | (refine fun b h => ?_; cases b <;> simp only [decide_eq_true_eq, decide_eq_false_iff_not, ints_len, List.length_cons, ge_iff_le, not_true_eq_false , ew] at h <;> first | (exfalso; omega) | skip)
                | refine And.intro (by decide) ⟨_, rfl, _, rfl, ?_⟩
                | refine And.intro rfl ⟨_, _, byteOf_is hb1, ?_⟩
                | refine And.intro rfl ⟨_, _, byteOf_is hb2, ?_⟩
                | refine And.intro rfl ⟨_, _, byteOf_is hb3, ?_⟩
                | refine And.intro rfl ⟨⟨Nat.le_of_ble_eq_true rfl, rfl, rfl⟩, ?_⟩
                | refine And.intro (Nat.le_of_ble_eq_true rfl) ?_
                | refine And.intro rfl ?_
                | fail
              exact ⟨k - 1 - 4, by omega, i + 1 + 4, setFg c (some (16777216 + x * 65536 + y * 256 + z)), by omega, hr', ha', congrArg (fun z : Int => ([(1, .slice false 1 (ints ys)), (2, .loc 0 0), (4, .loc 1 0), (5, .int .i64 z)] : Ts)) hw4, congrArg (fun z : Int => ([(0, (setFg c (some z)).cells), (1, cl 0 0 0)] : Bs)) ew, rfl⟩
            · have hl : long (2 :: x :: y :: z :: t) = (4, none) := by rw [long3, if_neg (by simpa using hb)]
              rw [hl] at hdd
              have ha' := (congrArg (app _) hdd.symm).trans (((app_38 hn3).trans (by rw [hl])).symm.trans ha)
              have hb' : ∃ b1 b2 b3, byteB x = b1 ∧ byteB y = b2 ∧ byteB z = b3 ∧ (b1 = false ∨ (b1 = true ∧ b2 = false) ∨ (b1 = true ∧ b2 = true ∧ b3 = false)) := by
                refine ⟨_, _, _, rfl, rfl, rfl, ?_⟩
                cases h1 : byteB x <;> cases h2 : byteB y <;> cases h3 : byteB z <;> simp_all
              obtain ⟨b1, b2, b3, hb1, hb2, hb3, hbb⟩ := hb'
              rcases hbb with rfl | ⟨rfl, rfl⟩ | ⟨rfl, rfl, rfl⟩
              all_goals repeat' first
                | (refine fun b h => ?_; cases b <;> simp only [decide_eq_true_eq, decide_eq_false_iff_not, ints_len, List.length_cons, ge_iff_le, not_true_eq_false ] at h <;> first | (exfalso; omega) | skip)
                | refine And.intro (by decide) ⟨_, rfl, _, rfl, ?_⟩
                | refine And.intro rfl ⟨_, _, byteOf_is hb1, ?_⟩
                | refine And.intro rfl ⟨_, _, byteOf_is hb2, ?_⟩
                | refine And.intro rfl ⟨_, _, byteOf_is hb3, ?_⟩
                | refine And.intro rfl ⟨⟨Nat.le_of_ble_eq_true rfl, rfl, rfl⟩, ?_⟩
                | refine And.intro (Nat.le_of_ble_eq_true rfl) ?_
                | refine And.intro rfl ?_
                | fail
              all_goals exact ⟨k - 1 - 4, by omega, i + 1 + 4, c, by omega, hr, ha', congrArg (fun z : Int => ([(1, .slice false 1 (ints ys)), (2, .loc 0 0), (4, .loc 1 0), (5, .int .i64 z)] : Ts)) hw4, rfl, rfl⟩
          · have H5 : ¬ (2 ≤ r.length ∧ r.getD 0 0 = 5) := fun h => by
              match r, h with
              | x :: v :: t, h => exact q5 ⟨v, t, by have : x = 5 := h.2; rw [this]⟩
            have H2 : ¬ (4 ≤ r.length ∧ r.getD 0 0 = 2) := fun h => by
              match r, h with
              | x :: a :: b :: c :: t, h => exact q2 ⟨a, b, c, t, by have : x = 2 := h.2; rw [this]⟩
              | [_], h => exact absurd h.1 (by simp)
              | [_, _], h => exact absurd h.1 (by simp)
              | [_, _, _], h => exact absurd h.1 (by simp)
            have hl := long_other H5 H2
            have hcc : c = app (clean s) ys := by
              rw [app_38 hn3, hl] at ha
              rw [← ha, List.drop_eq_nil_of_le (Nat.le_refl _)]; rfl
            clear hsl hdd hlr hl hq q5 q2
            cases r with
            | nil =>
              repeat' first
                | (refine fun b h => ?_; cases b <;> simp only [decide_eq_true_eq, decide_eq_false_iff_not, ints_len, List.length_cons, ge_iff_le, not_true_eq_false , List.length_nil] at h <;> first | (exfalso; omega) | skip)
                | refine And.intro (by decide) ⟨_, rfl, _, rfl, ?_⟩
                | refine And.intro rfl ⟨⟨Nat.le_of_ble_eq_true rfl, rfl, rfl⟩, ?_⟩
                | refine And.intro (Nat.le_of_ble_eq_true rfl) ?_
                | refine And.intro rfl ?_
                | fail
              all_goals exact ⟨⟨rfl, Nat.le_refl _⟩, congrArg (fun z => V.agg (Sty.cells z)) hcc, trim_same rfl⟩
            | cons x t =>
              have e0 : (x :: t).getD 0 0 = x := rfl
              rw [e0, List.length_cons] at H5 H2
              repeat' first
                | (refine fun b h => ?_; cases b <;> simp only [decide_eq_true_eq, decide_eq_false_iff_not, ints_len, List.length_cons, ge_iff_le, not_true_eq_false ] at h <;> first | (exfalso; omega) | skip)
                | refine And.intro (by decide) ⟨_, rfl, _, rfl, ?_⟩
                | refine And.intro rfl ⟨⟨Nat.le_of_ble_eq_true rfl, rfl, rfl⟩, ?_⟩
                | refine And.intro (Nat.le_of_ble_eq_true rfl) ?_
                | refine And.intro rfl ?_
                | fail
              all_goals exact ⟨⟨rfl, Nat.le_refl _⟩, congrArg (fun z => V.agg (Sty.cells z)) hcc, trim_same rfl⟩
      · refine fun b h2 => ?_
        cases b <;> simp only [decide_eq_true_eq, decide_eq_false_iff_not] at h2
        rotate_left
        · refine And.intro (Nat.le_of_ble_eq_true rfl) (And.intro rfl ?_)
          refine And.intro rfl (And.intro rfl ⟨_, _, rone_ok (s := c) (rightB_of.1 hr).2.2, ?_⟩)
          refine And.intro rfl (And.intro rfl ⟨⟨Nat.le_of_ble_eq_true rfl, rfl, rfl⟩, ?_⟩)
          exact ⟨k - 1, by omega, i + 1, one c n, by omega, right_one hr, (app_one h1 h2).symm.trans ha, congrArg (fun z : Int => ([(1, .slice false 1 (ints ys)), (2, .loc 0 0), (4, .loc 1 0), (5, .int .i64 z)] : Ts)) hw, rfl, rfl⟩
        have hn3 : n = 48 := by omega
        refine And.intro (by rw [hw]; omega) (And.intro ⟨by rw [hw, ints_len]; omega, Nat.le_refl _⟩ ?_)
        generalize ys.drop (i + 1) = r at *
        rw [hsl]
        by_cases q5 : ∃ v t, r = 5 :: v :: t
        · obtain ⟨v, t, rfl⟩ := q5
          rw [List.length_cons, List.length_cons] at hlr
          have hw2 : IntKind.wrap .i64 (IntKind.wrap .i64 ((i : Int) + 1) + 2) = (i + 1 + 2 : Nat) := by rw [hw, wrap64 (by omega) (by omega)]; omega
          cases hb1 : byteB v with
          | true =>
            have hv := byte_of hb1
            have hl : long (5 :: v :: t) = (2, some (v + 1)) := by rw [long1, if_pos (by simp [hb1])]; simp [acc]
            rw [hl] at hdd
            have ew : IntKind.wrap .i64 (v + 1) = v + 1 := wrap64 (by omega) (by omega)
            have ha' := (congrArg (app _) hdd.symm).trans (((app_48 hn3).trans (by rw [hl])).symm.trans ha)
            have hr' := right_bg (r := 5 :: v :: t) hr
            rw [hl] at hr'
            repeat' first
              | (refine fun b h => ?_; cases b <;> simp only [decide_eq_true_eq, decide_eq_false_iff_not, ints_len, List.length_cons, ge_iff_le, not_true_eq_false , ew] at h <;> first | (exfalso; omega) | skip)
              | refine And.intro (by decide) ⟨_, rfl, _, rfl, ?_⟩
              | refine And.intro rfl ⟨_, _, byteOf_is hb1, ?_⟩
              | refine And.intro rfl ⟨⟨Nat.le_of_ble_eq_true rfl, rfl, rfl⟩, ?_⟩
              | refine And.intro (Nat.le_of_ble_eq_true rfl) ?_
              | refine And.intro rfl ?_
              | fail
            exact ⟨k - 1 - 2, by omega, i + 1 + 2, setBg c (some (v + 1)), by omega, hr', ha', congrArg (fun z : Int => ([(1, .slice false 1 (ints ys)), (2, .loc 0 0), (4, .loc 1 0), (5, .int .i64 z)] : Ts)) hw2, congrArg (fun z : Int => ([(0, (setBg c (some z)).cells), (1, cl 0 0 0)] : Bs)) ew, rfl⟩
          | false =>
            have hl : long (5 :: v :: t) = (2, none) := by rw [long1, if_neg (by simp [hb1])]
            rw [hl] at hdd
            have ha' := (congrArg (app _) hdd.symm).trans (((app_48 hn3).trans (by rw [hl])).symm.trans ha)
            repeat' first
              | (refine fun b h => ?_; cases b <;> simp only [decide_eq_true_eq, decide_eq_false_iff_not, ints_len, List.length_cons, ge_iff_le, not_true_eq_false ] at h <;> first | (exfalso; omega) | skip)
              | refine And.intro (by decide) ⟨_, rfl, _, rfl, ?_⟩
              | refine And.intro rfl ⟨_, _, byteOf_is hb1, ?_⟩
              | refine And.intro rfl ⟨⟨Nat.le_of_ble_eq_true rfl, rfl, rfl⟩, ?_⟩
              | refine And.intro (Nat.le_of_ble_eq_true rfl) ?_
              | refine And.intro rfl ?_
              | fail
            exact ⟨k - 1 - 2, by omega, i + 1 + 2, c, by omega, hr, ha', congrArg (fun z : Int => ([(1, .slice false 1 (ints ys)), (2, .loc 0 0), (4, .loc 1 0), (5, .int .i64 z)] : Ts)) hw2, rfl, rfl⟩
        · by_cases q2 : ∃ x y z t, r = 2 :: x :: y :: z :: t
          · obtain ⟨x, y, z, t, rfl⟩ := q2
            rw [List.length_cons, List.length_cons, List.length_cons, List.length_cons] at hlr
            have hw4 : IntKind.wrap .i64 (IntKind.wrap .i64 ((i : Int) + 1) + 4) = (i + 1 + 4 : Nat) := by rw [hw, wrap64 (by omega) (by omega)]; omega
            by_cases hb : byteB x = true ∧ byteB y = true ∧ byteB z = true
            · obtain ⟨hb1, hb2, hb3⟩ := hb
              have hx := byte_of hb1
              have hy := byte_of hb2
              have hz := byte_of hb3
              have hl : long (2 :: x :: y :: z :: t) = (4, some (16777216 + x * 65536 + y * 256 + z)) := by
                rw [long3, if_pos (by simp [hb1, hb2, hb3])]
                have : acc [x, y, z] 3 + 16777216 = 16777216 + x * 65536 + y * 256 + z := by simp [acc]; omega
                rw [this]
              rw [hl] at hdd
              have e1 : IntKind.wrap .i64 (x * 65536) = x * 65536 := wrap64 (by omega) (by omega)
              have e2 : IntKind.wrap .i64 (16777216 + x * 65536) = 16777216 + x * 65536 := wrap64 (by omega) (by omega)
              have e3 : IntKind.wrap .i64 (y * 256) = y * 256 := wrap64 (by omega) (by omega)
              have e4 : IntKind.wrap .i64 (16777216 + x * 65536 + y * 256) = 16777216 + x * 65536 + y * 256 := wrap64 (by omega) (by omega)
              have e5 : IntKind.wrap .i64 (16777216 + x * 65536 + y * 256 + z) = 16777216 + x * 65536 + y * 256 + z := wrap64 (by omega) (by omega)
              have ew : IntKind.wrap .i64 (IntKind.wrap .i64 (IntKind.wrap .i64 (16777216 + IntKind.wrap .i64 (x * 65536)) + IntKind.wrap .i64 (y * 256)) + z) = 16777216 + x * 65536 + y * 256 + z := by rw [e1, e2, e3, e4, e5]
              have ha' := (congrArg (app _) hdd.symm).trans (((app_48 hn3).trans (by rw [hl])).symm.trans ha)
              have hr' := right_bg (r := 2 :: x :: y :: z :: t) hr
              rw [hl] at hr'
              repeat' first
                | (refine fun b h => ?_; cases b <;> simp only [decide_eq_true_eq, decide_eq_false_iff_not, ints_len, List.length_cons, ge_iff_le, not_true_eq_false , ew] at h <;> first | (exfalso; omega) | skip)
                | refine And.intro (by decide) ⟨_, rfl, _, rfl, ?_⟩
                | refine And.intro rfl ⟨_, _, byteOf_is hb1, ?_⟩
                | refine And.intro rfl ⟨_, _, byteOf_is hb2, ?_⟩
                | refine And.intro rfl ⟨_, _, byteOf_is hb3, ?_⟩
                | refine And.intro rfl ⟨⟨Nat.le_of_ble_eq_true rfl, rfl, rfl⟩, ?_⟩
                | refine And.intro (Nat.le_of_ble_eq_true rfl) ?_
                | refine And.intro rfl ?_
                | fail
              exact ⟨k - 1 - 4, by omega, i + 1 + 4, setBg c (some (16777216 + x * 65536 + y * 256 + z)), by omega, hr', ha', congrArg (fun z : Int => ([(1, .slice false 1 (ints ys)), (2, .loc 0 0), (4, .loc 1 0), (5, .int .i64 z)] : Ts)) hw4, congrArg (fun z : Int => ([(0, (setBg c (some z)).cells), (1, cl 0 0 0)] : Bs)) ew, rfl⟩
            · have hl : long (2 :: x :: y :: z :: t) = (4, none) := by rw [long3, if_neg (by simpa using hb)]
              rw [hl] at hdd
              have ha' := (congrArg (app _) hdd.symm).trans (((app_48 hn3).trans (by rw [hl])).symm.trans ha)
              have hb' : ∃ b1 b2 b3, byteB x = b1 ∧ byteB y = b2 ∧ byteB z = b3 ∧ (b1 = false ∨ (b1 = true ∧ b2 = false) ∨ (b1 = true ∧ b2 = true ∧ b3 = false)) := by
                refine ⟨_, _, _, rfl, rfl, rfl, ?_⟩
                cases h1 : byteB x <;> cases h2 : byteB y <;> cases h3 : byteB z <;> simp_all
              obtain ⟨b1, b2, b3, hb1, hb2, hb3, hbb⟩ := hb'
              rcases hbb with rfl | ⟨rfl, rfl⟩ | ⟨rfl, rfl, rfl⟩
              all_goals repeat' first
                | (refine fun b h => ?_; cases b <;> simp only [decide_eq_true_eq, decide_eq_false_iff_not, ints_len, List.length_cons, ge_iff_le, not_true_eq_false ] at h <;> first | (exfalso; omega) | skip)
                | refine And.intro (by decide) ⟨_, rfl, _, rfl, ?_⟩
                | refine And.intro rfl ⟨_, _, byteOf_is hb1, ?_⟩
                | refine And.intro rfl ⟨_, _, byteOf_is hb2, ?_⟩
                | refine And.intro rfl ⟨_, _, byteOf_is hb3, ?_⟩
                | refine And.intro rfl ⟨⟨Nat.le_of_ble_eq_true rfl, rfl, rfl⟩, ?_⟩
                | refine And.intro (Nat.le_of_ble_eq_true rfl) ?_
                | refine And.intro rfl ?_
                | fail
              all_goals exact ⟨k - 1 - 4, by omega, i + 1 + 4, c, by omega, hr, ha', congrArg (fun z : Int => ([(1, .slice false 1 (ints ys)), (2, .loc 0 0), (4, .loc 1 0), (5, .int .i64 z)] : Ts)) hw4, rfl, rfl⟩
          · have H5 : ¬ (2 ≤ r.length ∧ r.getD 0 0 = 5) := fun h => by
              match r, h with
              | x :: v :: t, h => exact q5 ⟨v, t, by have : x = 5 := h.2; rw [this]⟩
            have H2 : ¬ (4 ≤ r.length ∧ r.getD 0 0 = 2) := fun h => by
              match r, h with
              | x :: a :: b :: c :: t, h => exact q2 ⟨a, b, c, t, by have : x = 2 := h.2; rw [this]⟩
              | [_], h => exact absurd h.1 (by simp)
              | [_, _], h => exact absurd h.1 (by simp)
              | [_, _, _], h => exact absurd h.1 (by simp)
            have hl := long_other H5 H2
            have hcc : c = app (clean s) ys := by
              rw [app_48 hn3, hl] at ha
              rw [← ha, List.drop_eq_nil_of_le (Nat.le_refl _)]; rfl
            clear hsl hdd hlr hl hq q5 q2
            cases r with
            | nil =>
              repeat' first
                | (refine fun b h => ?_; cases b <;> simp only [decide_eq_true_eq, decide_eq_false_iff_not, ints_len, List.length_cons, ge_iff_le, not_true_eq_false , List.length_nil] at h <;> first | (exfalso; omega) | skip)
                | refine And.intro (by decide) ⟨_, rfl, _, rfl, ?_⟩
                | refine And.intro rfl ⟨⟨Nat.le_of_ble_eq_true rfl, rfl, rfl⟩, ?_⟩
                | refine And.intro (Nat.le_of_ble_eq_true rfl) ?_
                | refine And.intro rfl ?_
                | fail
              all_goals exact ⟨⟨rfl, Nat.le_refl _⟩, congrArg (fun z => V.agg (Sty.cells z)) hcc, trim_same rfl⟩
            | cons x t =>
              have e0 : (x :: t).getD 0 0 = x := rfl
              rw [e0, List.length_cons] at H5 H2
              repeat' first
                | (refine fun b h => ?_; cases b <;> simp only [decide_eq_true_eq, decide_eq_false_iff_not, ints_len, List.length_cons, ge_iff_le, not_true_eq_false ] at h <;> first | (exfalso; omega) | skip)
                | refine And.intro (by decide) ⟨_, rfl, _, rfl, ?_⟩
                | refine And.intro rfl ⟨⟨Nat.le_of_ble_eq_true rfl, rfl, rfl⟩, ?_⟩
                | refine And.intro (Nat.le_of_ble_eq_true rfl) ?_
                | refine And.intro rfl ?_
                | fail
              all_goals exact ⟨⟨rfl, Nat.le_refl _⟩, congrArg (fun z => V.agg (Sty.cells z)) hcc, trim_same rfl⟩
theorem rapply_ok {v : V} {xs : List Int} (hv : IV v xs) : RF ST 10 [.agg s.cells, v] m = some (.agg (apply s xs).cells, m) := by
  by_cases hx : xs = []
  · subst hx
    rw [rapply_nil hv, apply, if_pos rfl]
  · cases hv with
    | nil => exact absurd rfl hx
    | sl => rw [rapply_cons hx, apply, if_neg hx]
end
end Go.Proofs.YtfdaopnkbdfkmaaDoor.Am.Sgr

/-
The document's examples, for sgr; lists that are the same.
-/
namespace Go.Proofs.YtfdaopnkbdfkmaaDoor.Am.Sgr
theorem sty_eq {e f : Sty} : eqV (.plain [.int, .int, .int]) (.agg e.cells) (.agg f.cells) = some (decide (e = f)) := by
  obtain ⟨k, a, b⟩ := e
  obtain ⟨k', a', b'⟩ := f
  show some ((k == k') && ((a == a') && ((b == b') && true))) = _
  congr 1
  rw [Bool.eq_iff_iff]
  simp
theorem take_succ_eq {xs ys : List Int} {i : Nat} {x y : Int} (hx : xs[i]? = some x) (hy : ys[i]? = some y) (h : xs.take i = ys.take i) (e : x = y) : xs.take (i + 1) = ys.take (i + 1) := by
  rw [List.take_add_one, List.take_add_one, hx, hy, h, e]
section
variable {m : Ms}
set_option maxRecDepth 20000 in
theorem same_sl {xs ys : List Int} (hx : xs.length ≤ maxLen) : RF ST 13 [.slice false 1 (ints xs), .slice false 1 (ints ys)] m = some (.bool (decide (xs = ys)), m) := by
  refine RF_wp rfl v13 b13 ?_
  refine And.intro rfl ?_
  refine fun c hc => ?_
  rw [ints_len, ints_len] at hc
  cases c
  · simp only [decide_eq_false_iff_not, ne_eq, Decidable.not_not] at hc
    have hl : xs.length = ys.length := by omega
    refine WP_loop (vars := v13) (bx := b13) (cuts := []) [] (fun k L Bx m' => ∃ i : Nat, k + i = xs.length ∧ xs.take i = ys.take i ∧ L = [(0, .slice false 1 (ints xs)), (1, .slice false 1 (ints ys)), (5, .int .i64 i)] ∧ Bx = [] ∧ m' = m) ?_ ?_
    · exact ⟨xs.length, 0, rfl, rfl, rfl, rfl, rfl⟩
    · rintro k L Bx m' ⟨i, hi, ht, rfl, rfl, rfl⟩
      refine fun c hc => ?_
      rw [ints_len] at hc
      cases c
      · simp only [decide_eq_false_iff_not] at hc
        have he : xs = ys := by
          rwa [List.take_of_length_le (by omega), List.take_of_length_le (by omega)] at ht
        rw [decide_eq_true he]
        exact ⟨⟨rfl, by simp⟩, rfl, trim_same rfl⟩
      · simp only [decide_eq_true_eq] at hc
        have hxi := List.getElem?_eq_getElem (show i < xs.length from by omega)
        have hyi := List.getElem?_eq_getElem (show i < ys.length from by omega)
        refine And.intro (Int.natCast_nonneg _) ⟨_, ints_get hxi, _, rfl, ?_⟩
        refine And.intro (Int.natCast_nonneg _) ⟨_, ints_get hyi, _, rfl, ?_⟩
        refine fun c hc2 => ?_
        cases c
        · simp only [decide_eq_false_iff_not, ne_eq, Decidable.not_not] at hc2
          refine ⟨k - 1, by omega, i + 1, by omega, take_succ_eq hxi hyi ht hc2, ?_, rfl, rfl⟩
          have := wrap64 (n := (i : Int) + 1) (by omega) (by unfold maxLen at hx; omega)
          show [(0, V.slice false 1 (ints xs)), (1, V.slice false 1 (ints ys)), (5, V.int .i64 (IntKind.wrap .i64 ((i : Int) + 1)))] = _
          rw [this]; rfl
        · simp only [decide_eq_true_eq] at hc2
          have hne : xs ≠ ys := fun e => by
            subst e
            rw [hxi] at hyi
            exact hc2 rfl
          rw [decide_eq_false hne]
          exact ⟨⟨rfl, by simp⟩, rfl, trim_same rfl⟩
  · simp only [decide_eq_true_eq] at hc
    have hne : xs ≠ ys := fun e => hc (by rw [e])
    rw [decide_eq_false hne]
    exact ⟨⟨rfl, by simp⟩, rfl, trim_same rfl⟩
theorem same_ns {ys : List Int} : RF ST 13 [.nils, .slice false 1 (ints ys)] m = some (.bool (decide (([] : List Int) = ys)), m) := by
  refine RF_wp rfl v13 b13 ?_
  refine And.intro rfl ?_
  refine fun c hc => ?_
  rw [ints_len] at hc
  cases c
  · simp only [decide_eq_false_iff_not, ne_eq, Decidable.not_not] at hc
    have hy : ys = [] := List.length_eq_zero_iff.1 (by simp only [List.length_nil] at hc; omega)
    subst hy
    refine WP_loop (vars := v13) (bx := b13) (cuts := []) [] (fun k L Bx m' => L = [(0, .nils), (1, .slice false 1 (ints [])), (5, .int .i64 0)] ∧ Bx = [] ∧ m' = m) ?_ ?_
    · exact ⟨0, rfl, rfl, rfl⟩
    · rintro k L Bx m' ⟨rfl, rfl, rfl⟩
      refine fun c hc => ?_
      cases c
      · exact ⟨⟨rfl, by simp⟩, rfl, trim_same rfl⟩
      · exact absurd hc (by decide)
  · simp only [decide_eq_true_eq] at hc
    have hne : ([] : List Int) ≠ ys := fun e => hc (by rw [← e]; rfl)
    rw [decide_eq_false hne]
    exact ⟨⟨rfl, by simp⟩, rfl, trim_same rfl⟩
theorem same_sn {xs : List Int} : RF ST 13 [.slice false 1 (ints xs), .nils] m = some (.bool (decide (xs = [])), m) := by
  refine RF_wp rfl v13 b13 ?_
  refine And.intro rfl ?_
  refine fun c hc => ?_
  rw [ints_len] at hc
  cases c
  · simp only [decide_eq_false_iff_not, ne_eq, Decidable.not_not] at hc
    have hy : xs = [] := List.length_eq_zero_iff.1 (by simp only [List.length_nil] at hc; omega)
    subst hy
    refine WP_loop (vars := v13) (bx := b13) (cuts := []) [] (fun k L Bx m' => L = [(0, .slice false 1 (ints [])), (1, .nils), (5, .int .i64 0)] ∧ Bx = [] ∧ m' = m) ?_ ?_
    · exact ⟨0, rfl, rfl, rfl⟩
    · rintro k L Bx m' ⟨rfl, rfl, rfl⟩
      refine fun c hc => ?_
      cases c
      · exact ⟨⟨rfl, by simp⟩, rfl, trim_same rfl⟩
      · exact absurd hc (by decide)
  · simp only [decide_eq_true_eq] at hc
    have hne : xs ≠ [] := fun e => hc (by rw [e]; rfl)
    rw [decide_eq_false hne]
    exact ⟨⟨rfl, by simp⟩, rfl, trim_same rfl⟩
theorem same_nn : RF ST 13 [.nils, .nils] m = some (.bool true, m) := by
  refine RF_wp rfl v13 b13 ?_
  refine And.intro rfl ?_
  refine fun c hc => ?_
  cases c
  · refine WP_loop (vars := v13) (bx := b13) (cuts := []) [] (fun k L Bx m' => L = [(0, .nils), (1, .nils), (5, .int .i64 0)] ∧ Bx = [] ∧ m' = m) ?_ ?_
    · exact ⟨0, rfl, rfl, rfl⟩
    · rintro k L Bx m' ⟨rfl, rfl, rfl⟩
      refine fun c hc => ?_
      cases c
      · exact ⟨⟨rfl, by simp⟩, rfl, trim_same rfl⟩
      · exact absurd hc (by decide)
  · exact absurd hc (by decide)
theorem same_ok {a b : V} {xs ys : List Int} (ha : IV a xs) (hb : IV b ys) (hx : xs.length ≤ maxLen) : RF ST 13 [a, b] m = some (.bool (decide (xs = ys)), m) := by
  cases ha with
  | nil => cases hb with
    | nil => rw [same_nn]; rfl
    | sl => exact same_ns
  | sl => cases hb with
    | nil => exact same_sn
    | sl => exact same_sl hx


set_option maxRecDepth 20000 in
theorem between_same {s : Sty} (h : in64 s.attr) : RF ST 15 [.agg s.cells, .agg s.cells] m = some (.nils, m) := by
  refine RF_wp rfl v15 b15 ?_
  refine And.intro rfl (And.intro rfl ⟨rfl, And.intro rfl ⟨rfl, ?_⟩⟩)
  refine And.intro (Nat.le_of_ble_eq_true rfl) (And.intro rfl ?_)
  refine And.intro rfl (And.intro rfl ⟨_, _, clean_ok (s := s) h, ?_⟩)
  refine And.intro (Nat.le_of_ble_eq_true rfl) (And.intro rfl ?_)
  refine And.intro rfl (And.intro rfl ⟨_, _, clean_ok (s := s) h, ?_⟩)
  refine And.intro rfl (And.intro rfl ⟨_, sty_eq (e := clean s) (f := clean s), ?_⟩)
  refine fun c hc => ?_
  have hc' : c = true := by rw [← hc]; simp
  subst hc'
  exact ⟨⟨rfl, Nat.le_refl _⟩, rfl, trim_same rfl⟩
def sa : Sty := ⟨2, 0, 1⟩
theorem ap {xs : List Int} {t : Sty} (hl : xs.length ≤ maxLen) (h : apply zero xs = t) : RF ST 8 [.agg zero.cells, .slice false 1 (ints xs)] m = some (.agg t.cells, m) := by
  rw [apply_ok (s := zero) ⟨by decide, by decide⟩ (.sl xs) hl, h]
theorem ap1 : RF ST 8 [.agg zero.cells, .slice false 1 (ints [1, 31])] m = some (.agg sa.cells, m) := ap (by decide) (by decide +kernel)
theorem ap2 : RF ST 8 [.agg zero.cells, .slice false 1 (ints [38, 5, 200])] m = some (.agg (Sty.mk 201 0 0).cells, m) := ap (by decide) (by decide +kernel)
theorem ap3 : RF ST 8 [.agg zero.cells, .slice false 1 (ints [38, 2, 1, 2, 3])] m = some (.agg (Sty.mk 16843267 0 0).cells, m) := ap (by decide) (by decide +kernel)
theorem ap4 : RF ST 8 [.agg zero.cells, .slice false 1 (ints [38, 5, 300, 1])] m = some (.agg (Sty.mk 0 0 1).cells, m) := ap (by decide) (by decide +kernel)
theorem ap5 : RF ST 8 [.agg zero.cells, .slice false 1 (ints [38, 7, 1])] m = some (.agg zero.cells, m) := ap (by decide) (by decide +kernel)
theorem pa1 : RF ST 9 [.agg (Sty.mk 0 2 1).cells] m = some (outV [0, 1, 41], m) := by
  rw [params_ok (s := ⟨0, 2, 1⟩) ⟨by decide, by decide⟩, show params ⟨0, 2, 1⟩ = [0, 1, 41] from by decide +kernel]
theorem sm1 : RF ST 13 [.slice false 1 (ints [0, 1, 41]), .slice false 1 (ints [0, 1, 41])] m = some (.bool true, m) := by
  rw [same_ok (.sl _) (.sl _) (by decide)]; rfl
theorem ri1 : RF ST 11 [.agg sa.cells] m = some (.bool true, m) := right_is ⟨by decide, by decide⟩ (by decide)
theorem bt1 : RF ST 15 [.agg sa.cells, .agg sa.cells] m = some (.nils, m) := between_same ⟨by decide, by decide⟩
set_option maxRecDepth 20000 in
set_option maxHeartbeats 2000000 in
theorem alive_ok : RF ST 7 [] m = some (.bool true, m) := by
  refine RF_wp rfl v7 b7 ?_
  repeat' first
    | refine And.intro rfl ⟨_, _, ap1, ?_⟩
    | refine And.intro rfl ⟨_, _, ap2, ?_⟩
    | refine And.intro rfl ⟨_, _, ap3, ?_⟩
    | refine And.intro rfl ⟨_, _, ap4, ?_⟩
    | refine And.intro rfl ⟨_, _, ap5, ?_⟩
    | refine And.intro rfl ⟨_, _, pa1, ?_⟩
    | refine And.intro rfl ⟨_, _, sm1, ?_⟩
    | refine And.intro rfl ⟨_, _, ri1, ?_⟩
    | refine And.intro rfl ⟨_, _, bt1, ?_⟩
    | (refine fun c h => ?_; subst h)
    | refine And.intro rfl ?_
    | refine And.intro ⟨rfl, Nat.le_of_ble_eq_true rfl, rfl⟩ ?_
    | refine And.intro ⟨Nat.le_of_ble_eq_true rfl, rfl, rfl⟩ ?_
    | refine And.intro (Nat.le_of_ble_eq_true rfl) ?_
    | refine ⟨_, rfl, rfl, ?_⟩
    | refine ⟨true, rfl, ?_⟩
    | fail
  exact ⟨⟨rfl, Nat.le_refl _⟩, rfl, trim_same rfl⟩
end
end Go.Proofs.YtfdaopnkbdfkmaaDoor.Am.Sgr

/-
SgrColours, printed.
-/
set_option linter.all false
namespace Go.Proofs.YtfdaopnkbdfkmaaDoor.Am.Sgr
open Go.Proofs.YtfdaopnkbdfkmaaDoor.Am.T (TV Ts Bs Ms CallT CallT.any CallT.sub CallT.quiet con_low con_new WP_seq WP_reg WP_skip WP_ret WP_exit WP_block WP_cond WP_condC WP_cut WP_iter WPO_f WPO_t WPO_grp WPO_then iter)
open Go.Proofs.YtfdaopnkbdfkmaaDoor.Am.T
namespace P
-- 24 casement/sgr.colour
noncomputable def sgr_colour (n : Int) : Option Bool :=
  letB (decide (n ≥ 0)) fun c1 =>
  (bif c1 then (
    letB (decide (n ≤ 256)) fun c3 =>
    some (c3)) else some false).bind fun g2 =>
  (bif g2 then some true else (
    letB (decide (n ≥ 16777216)) fun c6 =>
    (bif c6 then (
      letB (decide (n < 33554432)) fun c8 =>
      some (c8)) else some false).bind fun g7 =>
    some (g7))).bind fun g5 =>
  some g5
set_option maxRecDepth 20000 in
theorem sgr_colour_ok {n : Int} {r : Bool} (h : sgr_colour n = some r) : CallT true (RF ST) 24 [.int .i64 n] [] (.bool r) [] := by
  refine CallT.quiet (con_low (af := a24) rfl rfl ?_) rfl
  unfold sgr_colour at h
  refine WP_seq ?_
  refine WP_reg [0] [] ?_
  refine WPO_f ?_
  refine WP_seq ?_
  refine WP_reg [2] [] ?_
  refine WPO_then 3 ?_
  refine WPO_f ?_
  refine fun c1 hc1 => ?_
  replace h := letB_inv hc1 h
  obtain ⟨g2, hg2, h⟩ := bind_inv h
  refine WPO_grp 3 8 [0, 8] g2 ?_ ?_
  · clear h
    replace h := hg2
    clear hg2
    cases hb4 : c1 with
    | true =>
      replace h := bif_t hb4 h
      refine WPO_f ?_
      refine fun c3 hc3 => ?_
      replace h := letB_inv hc3 h
      cases h
      exact ⟨rfl, rfl, rfl⟩
    | false =>
      replace h := bif_f hb4 h
      cases h
      refine WPO_f ?_
      exact ⟨rfl, rfl, rfl⟩
  refine WPO_then 1 ?_
  refine WPO_f ?_
  obtain ⟨g5, hg5, h⟩ := bind_inv h
  refine WPO_grp 7 16 [16] g5 ?_ ?_
  · clear h
    replace h := hg5
    clear hg5
    cases hb10 : g2 with
    | false =>
      replace h := bif_f hb10 h
      refine WPO_then 3 ?_
      refine WPO_f ?_
      refine fun c6 hc6 => ?_
      replace h := letB_inv hc6 h
      obtain ⟨g7, hg7, h⟩ := bind_inv h
      refine WPO_grp 3 15 [9, 15] g7 ?_ ?_
      · clear h
        replace h := hg7
        clear hg7
        cases hb9 : c6 with
        | true =>
          replace h := bif_t hb9 h
          refine WPO_f ?_
          refine fun c8 hc8 => ?_
          replace h := letB_inv hc8 h
          cases h
          exact ⟨rfl, rfl, rfl⟩
        | false =>
          replace h := bif_f hb9 h
          cases h
          refine WPO_f ?_
          exact ⟨rfl, rfl, rfl⟩
      refine WPO_f ?_
      cases h
      exact ⟨rfl, rfl, rfl⟩
    | true =>
      replace h := bif_t hb10 h
      cases h
      refine WPO_f ?_
      exact ⟨rfl, rfl, rfl⟩
  refine WPO_f ?_
  refine WP_ret ?_
  cases h
  exact ⟨rfl, rfl, rfl, rfl, rfl⟩
structure Style where
  Fg : Int
  Bg : Int
  Attr : Int
def Style.c (x : Style) : List TV := [.int .i64 x.Fg, .int .i64 x.Bg, .int .i64 x.Attr]
noncomputable def sgr_alive : Option Bool := some true
theorem sgr_alive_ok {r : Bool} (h : sgr_alive = some r) : CallT true (RF ST) 7 [] [] (.bool r) [] := by
  cases h
  refine CallT.pure fun ρ m a ha => ?_
  cases ha
  exact ⟨_, alive_ok, .base (.bool true)⟩
def Style.sty (s : Style) : Sty := ⟨s.Fg, s.Bg, s.Attr⟩
def Sty.P (s : Sty) : Style := ⟨s.fg, s.bg, s.attr⟩
def okStyle (s : Style) (xs : List Int) : Prop := in64 s.Attr ∧ xs.length ≤ 16
open Classical in
noncomputable def sgr_Apply (s : Style) (xs : List Int) : Option Style := if okStyle s xs then some (Sty.P (apply s.sty xs)) else none
theorem den_style {ρ : List Nat} {s : Style} {v : V} (h : Den ρ (.agg (Style.c s)) v) : v = .agg s.sty.cells := by
  obtain ⟨cs', rfl, hc⟩ := den_agg h
  obtain ⟨a, _, rfl, ha, hc⟩ := pw_cons hc
  obtain ⟨b, _, rfl, hb, hc⟩ := pw_cons hc
  obtain ⟨c, _, rfl, hcc, hc⟩ := pw_cons hc
  rw [den_int ha, den_int hb, den_int hcc, pw_nil hc]; rfl
theorem style_den {ρ : List Nat} (s : Sty) : Den ρ (.agg (Style.c (Sty.P s))) (.agg s.cells) := .agg (.cons (.base (.int _ _)) (.cons (.base (.int _ _)) (.cons (.base (.int _ _)) .nil)))
theorem sgr_Apply_ok {s_ : Style} {xs : List Int} {r : Style} (h : sgr_Apply s_ xs = some r) : CallT true (RF ST) 8 [.agg (Style.c s_), .sl false 1 (List.map ei64 xs)] [] (.agg (Style.c r)) [] := by
  unfold sgr_Apply at h
  by_cases hk : okStyle s_ xs
  · rw [if_pos hk] at h
    cases h
    refine CallT.pure fun ρ m a ha => ?_
    obtain ⟨x, _, rfl, hx, ha⟩ := pw_cons ha
    obtain ⟨y, _, rfl, hy, ha⟩ := pw_cons ha
    rw [den_style hx, pw_nil ha]
    have hi : IV y xs := by
      rcases den_sl hy with ⟨rfl, e⟩ | ⟨ys, rfl, hp⟩
      · have : xs = [] := by simpa using e
        subst this; exact .nil
      · rw [pw_ints hp]; exact .sl xs
    exact ⟨_, apply_ok hk.1 hi (Nat.le_trans hk.2 (by decide)), style_den _⟩
  · rw [if_neg hk] at h; cases h
-- 11 casement/sgr.Right
noncomputable def sgr_Right (s_ : Style) : Option Bool :=
  (sgr_colour s_.Fg).bind fun y1 =>
  (bif y1 then (
    (sgr_colour s_.Bg).bind fun y3 =>
    some (y3)) else some false).bind fun g2 =>
  (bif g2 then (
    letB (decide ((iAndNot .i64 s_.Attr 31) = 0)) fun c6 =>
    some (c6)) else some false).bind fun g5 =>
  some g5
set_option maxRecDepth 20000 in
theorem sgr_Right_ok {s_ : Style} {r : Bool} (h : sgr_Right s_ = some r) : CallT true (RF ST) 11 [.agg (Style.c s_)] [] (.bool r) [] := by
  refine CallT.quiet (con_low (af := a11) rfl rfl ?_) rfl
  unfold sgr_Right at h
  refine WP_seq ?_
  refine WP_reg [1] [0] ?_
  refine WPO_f ?_
  refine WP_seq ?_
  refine WP_reg [2] [0] ?_
  refine WPO_then 4 ?_
  refine WPO_f ?_
  obtain ⟨y1, hy1, h⟩ := bind_inv h
  refine ⟨_, _, CallT.any (sgr_colour_ok hy1) rfl _ rfl, ?_⟩
  obtain ⟨g2, hg2, h⟩ := bind_inv h
  refine WPO_grp 4 10 [1, 10] g2 ?_ ?_
  · clear h
    replace h := hg2
    clear hg2
    cases hb4 : y1 with
    | true =>
      replace h := bif_t hb4 h
      refine WPO_f ?_
      obtain ⟨y3, hy3, h⟩ := bind_inv h
      refine ⟨_, _, CallT.any (sgr_colour_ok hy3) rfl _ rfl, ?_⟩
      cases h
      exact ⟨rfl, rfl, rfl⟩
    | false =>
      replace h := bif_f hb4 h
      cases h
      refine WPO_f ?_
      exact ⟨rfl, rfl, rfl⟩
  refine WPO_then 1 ?_
  refine WPO_f ?_
  obtain ⟨g5, hg5, h⟩ := bind_inv h
  refine WPO_grp 5 16 [16] g5 ?_ ?_
  · clear h
    replace h := hg5
    clear hg5
    cases hb7 : g2 with
    | true =>
      replace h := bif_t hb7 h
      refine WPO_f ?_
      refine fun c6 hc6 => ?_
      replace h := letB_inv hc6 h
      cases h
      exact ⟨rfl, rfl, rfl⟩
    | false =>
      replace h := bif_f hb7 h
      cases h
      refine WPO_f ?_
      exact ⟨rfl, rfl, rfl⟩
  refine WPO_f ?_
  refine WP_ret ?_
  cases h
  exact ⟨rfl, rfl, rfl, rfl, rfl⟩
-- 6 casement/casementlaw05.SgrColours
noncomputable def casementlaw05_SgrColours (s_ : Style) (n : Int) (r_ : Int) (g : Int) (b : Int) : Option Bool :=
  (sgr_alive).bind fun y1 =>
  bif (!y1) then (
    some false)
  else (
    (sgr_Right s_).bind fun y3 =>
    bif (!y3) then (
      (sgr_Apply s_ [1]).bind fun y5 =>
      letB ((decide (y5.Fg = 0) && (decide (y5.Bg = 0) && (decide (y5.Attr = 1) && true)))) fun c6 =>
      some c6)
    else (
      (sgr_Apply s_ [38, 5, iAnd .i64 n 255]).bind fun y7 =>
      letB (!((decide (y7.Fg = w64 ((iAnd .i64 n 255) + 1)) && (decide (y7.Bg = s_.Bg) && (decide (y7.Attr = s_.Attr) && true))))) fun c8 =>
      (bif c8 then some true else (
        (sgr_Apply s_ [48, 5, iAnd .i64 n 255]).bind fun y10 =>
        letB (!((decide (y10.Fg = s_.Fg) && (decide (y10.Bg = w64 ((iAnd .i64 n 255) + 1)) && (decide (y10.Attr = s_.Attr) && true))))) fun c11 =>
        some (c11))).bind fun g9 =>
      bif g9 then (
        some false)
      else (
        letB (decide ((iAnd .i64 n 255) < 8)) fun c14 =>
        (bif c14 then (
          (sgr_Apply s_ [w64 (30 + (iAnd .i64 n 255))]).bind fun y16 =>
          letB (!((decide (y16.Fg = w64 ((iAnd .i64 n 255) + 1)) && (decide (y16.Bg = s_.Bg) && (decide (y16.Attr = s_.Attr) && true))))) fun c17 =>
          (bif c17 then some true else (
            (sgr_Apply s_ [w64 (40 + (iAnd .i64 n 255))]).bind fun y19 =>
            letB (!((decide (y19.Fg = s_.Fg) && (decide (y19.Bg = w64 ((iAnd .i64 n 255) + 1)) && (decide (y19.Attr = s_.Attr) && true))))) fun c20 =>
            some (c20))).bind fun g18 =>
          some (g18)) else some false).bind fun g15 =>
        (bif g15 then some true else (
          letB (decide ((iAnd .i64 n 255) ≥ 8)) fun c24 =>
          (bif c24 then (
            letB (decide ((iAnd .i64 n 255) < 16)) fun c26 =>
            some (c26)) else some false).bind fun g25 =>
          (bif g25 then (
            (sgr_Apply s_ [w64 (82 + (iAnd .i64 n 255))]).bind fun y29 =>
            letB (!((decide (y29.Fg = w64 ((iAnd .i64 n 255) + 1)) && (decide (y29.Bg = s_.Bg) && (decide (y29.Attr = s_.Attr) && true))))) fun c30 =>
            (bif c30 then some true else (
              (sgr_Apply s_ [w64 (92 + (iAnd .i64 n 255))]).bind fun y32 =>
              letB (!((decide (y32.Fg = s_.Fg) && (decide (y32.Bg = w64 ((iAnd .i64 n 255) + 1)) && (decide (y32.Attr = s_.Attr) && true))))) fun c33 =>
              some (c33))).bind fun g31 =>
            some (g31)) else some false).bind fun g28 =>
          some (g28))).bind fun g23 =>
        bif g23 then (
          some false)
        else (
          (sgr_Apply s_ [38, 2, iAnd .i64 r_ 255, iAnd .i64 g 255, iAnd .i64 b 255]).bind fun y38 =>
          letB (!((decide (y38.Fg = w64 ((w64 ((w64 (16777216 + (iShl .i64 (iAnd .i64 r_ 255) 16))) + (iShl .i64 (iAnd .i64 g 255) 8))) + (iAnd .i64 b 255))) && (decide (y38.Bg = s_.Bg) && (decide (y38.Attr = s_.Attr) && true))))) fun c39 =>
          (bif c39 then some true else (
            (sgr_Apply s_ [48, 2, iAnd .i64 r_ 255, iAnd .i64 g 255, iAnd .i64 b 255]).bind fun y41 =>
            letB (!((decide (y41.Fg = s_.Fg) && (decide (y41.Bg = w64 ((w64 ((w64 (16777216 + (iShl .i64 (iAnd .i64 r_ 255) 16))) + (iShl .i64 (iAnd .i64 g 255) 8))) + (iAnd .i64 b 255))) && (decide (y41.Attr = s_.Attr) && true))))) fun c42 =>
            some (c42))).bind fun g40 =>
          bif g40 then (
            some false)
          else (
            (sgr_Apply s_ [39]).bind fun y45 =>
            letB ((decide (y45.Fg = 0) && (decide (y45.Bg = s_.Bg) && (decide (y45.Attr = s_.Attr) && true)))) fun c46 =>
            (bif c46 then (
              (sgr_Apply s_ [49]).bind fun y48 =>
              letB ((decide (y48.Fg = s_.Fg) && (decide (y48.Bg = 0) && (decide (y48.Attr = s_.Attr) && true)))) fun c49 =>
              some (c49)) else some false).bind fun g47 =>
            (bif g47 then (
              (sgr_Apply s_ [0]).bind fun y52 =>
              letB ((decide (y52.Fg = 0) && (decide (y52.Bg = 0) && (decide (y52.Attr = 0) && true)))) fun c53 =>
              some (c53)) else some false).bind fun g51 =>
            some g51)))))
set_option maxRecDepth 20000 in
set_option maxHeartbeats 4000000 in
theorem casementlaw05_SgrColours_ok {s_ : Style} {n : Int} {r_ : Int} {g : Int} {b : Int} {r : Bool} (h : casementlaw05_SgrColours s_ n r_ g b = some r) : CallT true (RF ST) 6 [.agg (Style.c s_), .int .i64 n, .int .i64 r_, .int .i64 g, .int .i64 b] [] (.bool r) [] := by
  refine CallT.quiet (con_low (af := a6) rfl rfl ?_) rfl
  unfold casementlaw05_SgrColours at h
  refine WP_seq ?_
  refine WP_reg [1, 2, 3, 4, 5] [0] ?_
  refine WPO_f ?_
  refine WP_seq ?_
  refine WP_seq ?_
  refine WP_reg [1, 2, 3, 4, 5, 14] [0] ?_
  refine WPO_f ?_
  obtain ⟨y1, hy1, h⟩ := bind_inv h
  refine ⟨_, _, CallT.any (sgr_alive_ok hy1) rfl _ rfl, ?_⟩
  refine WP_cond (b := (!y1)) rfl (fun hb2 => ?_) (fun hb2 => ?_)
  · replace h := bif_t hb2 h
    refine WP_seq ?_
    refine WP_reg [10] [0] ?_
    refine WPO_f ?_
    refine WP_ret ?_
    cases h
    exact ⟨rfl, rfl, rfl, rfl, rfl⟩
  · replace h := bif_f hb2 h
    refine WP_skip ?_
    refine WP_seq ?_
    refine WP_seq ?_
    refine WP_reg [1, 2, 3, 4, 5, 17] [0] ?_
    refine WPO_f ?_
    obtain ⟨y3, hy3, h⟩ := bind_inv h
    refine ⟨_, _, CallT.any (sgr_Right_ok hy3) rfl _ rfl, ?_⟩
    refine WP_cond (b := (!y3)) rfl (fun hb4 => ?_) (fun hb4 => ?_)
    · replace h := bif_t hb4 h
      refine WP_seq ?_
      refine WP_reg [10] [0] ?_
      refine WPO_f ?_
      refine ⟨List.map ei64 ([1] : List Int), rfl, ?_⟩
      obtain ⟨y5, hy5, h⟩ := bind_inv h
      refine ⟨_, _, CallT.any (sgr_Apply_ok hy5) rfl _ rfl, ?_⟩
      refine fun c6 hc6 => ?_
      replace h := letB_inv hc6 h
      refine WP_ret ?_
      cases h
      exact ⟨rfl, rfl, rfl, rfl, rfl⟩
    · replace h := bif_f hb4 h
      refine WP_skip ?_
      refine WP_seq ?_
      refine WP_reg [1, 2, 3, 4, 5] [0] ?_
      refine WPO_f ?_
      refine WP_seq ?_
      refine WP_reg [1, 2, 3, 4, 5] [0] ?_
      refine WPO_f ?_
      refine WP_seq ?_
      refine WP_reg [1, 2, 3, 4, 5] [0] ?_
      refine WPO_f ?_
      refine WP_seq ?_
      refine WP_reg [1, 2, 3, 4, 5] [0] ?_
      refine WPO_f ?_
      refine WP_seq ?_
      refine WP_reg [1, 2, 3, 4, 5, 11, 12] [0, 1, 2] ?_
      refine WPO_t ?_
      refine WP_seq ?_
      refine WP_reg [1, 2, 3, 4, 5, 11, 12] [0, 1, 2] ?_
      refine WPO_f ?_
      refine WP_seq ?_
      refine WP_reg [1, 2, 3, 4, 5, 11, 12] [0, 1, 2] ?_
      refine WPO_f ?_
      refine WP_seq ?_
      refine WP_seq ?_
      refine WP_reg [1, 2, 3, 4, 5, 11, 12, 52] [0, 1, 2] ?_
      refine WPO_then 7 ?_
      refine WPO_t ?_
      refine ⟨List.map ei64 ([38, 5, iAnd .i64 n 255] : List Int), rfl, ?_⟩
      obtain ⟨y7, hy7, h⟩ := bind_inv h
      refine ⟨_, _, CallT.any (sgr_Apply_ok hy7) rfl _ rfl, ?_⟩
      refine fun c8 hc8 => ?_
      replace h := letB_inv hc8 h
      obtain ⟨g9, hg9, h⟩ := bind_inv h
      refine WPO_grp 7 52 [1, 2, 3, 4, 5, 11, 12, 52] g9 ?_ ?_
      · clear h
        replace h := hg9
        clear hg9
        cases hb12 : c8 with
        | false =>
          replace h := bif_f hb12 h
          refine WPO_t ?_
          refine ⟨List.map ei64 ([48, 5, iAnd .i64 n 255] : List Int), rfl, ?_⟩
          obtain ⟨y10, hy10, h⟩ := bind_inv h
          refine ⟨_, _, CallT.any (sgr_Apply_ok hy10) rfl _ rfl, ?_⟩
          refine fun c11 hc11 => ?_
          replace h := letB_inv hc11 h
          cases h
          exact ⟨rfl, rfl, rfl⟩
        | true =>
          replace h := bif_t hb12 h
          cases h
          refine WPO_t ?_
          exact ⟨rfl, rfl, rfl⟩
      refine WPO_t ?_
      refine WP_cond (b := g9) rfl (fun hb13 => ?_) (fun hb13 => ?_)
      · replace h := bif_t hb13 h
        refine WP_seq ?_
        refine WP_reg [10] [0, 1, 2] ?_
        refine WPO_f ?_
        refine WP_ret ?_
        cases h
        exact ⟨rfl, rfl, rfl, rfl, rfl⟩
      · replace h := bif_f hb13 h
        refine WP_skip ?_
        refine WP_seq ?_
        refine WP_seq ?_
        refine WP_reg [2, 3, 4, 5, 11, 12, 98] [0, 1, 2] ?_
        refine WPO_then 3 ?_
        refine WPO_t ?_
        refine fun c14 hc14 => ?_
        replace h := letB_inv hc14 h
        obtain ⟨g15, hg15, h⟩ := bind_inv h
        refine WPO_grp 17 72 [1, 2, 3, 4, 5, 11, 12, 72] g15 ?_ ?_
        · clear h
          replace h := hg15
          clear hg15
          cases hb22 : c14 with
          | true =>
            replace h := bif_t hb22 h
            refine WPO_then 8 ?_
            refine WPO_t ?_
            refine ⟨List.map ei64 ([w64 (30 + (iAnd .i64 n 255))] : List Int), rfl, ?_⟩
            obtain ⟨y16, hy16, h⟩ := bind_inv h
            refine ⟨_, _, CallT.any (sgr_Apply_ok hy16) rfl _ rfl, ?_⟩
            refine fun c17 hc17 => ?_
            replace h := letB_inv hc17 h
            obtain ⟨g18, hg18, h⟩ := bind_inv h
            refine WPO_grp 8 71 [1, 2, 3, 4, 5, 11, 12, 55, 71] g18 ?_ ?_
            · clear h
              replace h := hg18
              clear hg18
              cases hb21 : c17 with
              | false =>
                replace h := bif_f hb21 h
                refine WPO_t ?_
                refine ⟨List.map ei64 ([w64 (40 + (iAnd .i64 n 255))] : List Int), rfl, ?_⟩
                obtain ⟨y19, hy19, h⟩ := bind_inv h
                refine ⟨_, _, CallT.any (sgr_Apply_ok hy19) rfl _ rfl, ?_⟩
                refine fun c20 hc20 => ?_
                replace h := letB_inv hc20 h
                cases h
                exact ⟨rfl, rfl, rfl⟩
              | true =>
                replace h := bif_t hb21 h
                cases h
                refine WPO_t ?_
                exact ⟨rfl, rfl, rfl⟩
            refine WPO_t ?_
            cases h
            exact ⟨rfl, rfl, rfl⟩
          | false =>
            replace h := bif_f hb22 h
            cases h
            refine WPO_t ?_
            exact ⟨rfl, rfl, rfl⟩
        refine WPO_then 1 ?_
        refine WPO_t ?_
        obtain ⟨g23, hg23, h⟩ := bind_inv h
        refine WPO_grp 25 98 [2, 3, 4, 5, 11, 12, 98] g23 ?_ ?_
        · clear h
          replace h := hg23
          clear hg23
          cases hb36 : g15 with
          | false =>
            replace h := bif_f hb36 h
            refine WPO_then 3 ?_
            refine WPO_t ?_
            refine fun c24 hc24 => ?_
            replace h := letB_inv hc24 h
            obtain ⟨g25, hg25, h⟩ := bind_inv h
            refine WPO_grp 3 79 [1, 2, 3, 4, 5, 11, 12, 73, 79] g25 ?_ ?_
            · clear h
              replace h := hg25
              clear hg25
              cases hb27 : c24 with
              | true =>
                replace h := bif_t hb27 h
                refine WPO_t ?_
                refine fun c26 hc26 => ?_
                replace h := letB_inv hc26 h
                cases h
                exact ⟨rfl, rfl, rfl⟩
              | false =>
                replace h := bif_f hb27 h
                cases h
                refine WPO_t ?_
                exact ⟨rfl, rfl, rfl⟩
            refine WPO_then 1 ?_
            refine WPO_t ?_
            obtain ⟨g28, hg28, h⟩ := bind_inv h
            refine WPO_grp 17 97 [2, 3, 4, 5, 11, 12, 73, 97] g28 ?_ ?_
            · clear h
              replace h := hg28
              clear hg28
              cases hb35 : g25 with
              | true =>
                replace h := bif_t hb35 h
                refine WPO_then 8 ?_
                refine WPO_t ?_
                refine ⟨List.map ei64 ([w64 (82 + (iAnd .i64 n 255))] : List Int), rfl, ?_⟩
                obtain ⟨y29, hy29, h⟩ := bind_inv h
                refine ⟨_, _, CallT.any (sgr_Apply_ok hy29) rfl _ rfl, ?_⟩
                refine fun c30 hc30 => ?_
                replace h := letB_inv hc30 h
                obtain ⟨g31, hg31, h⟩ := bind_inv h
                refine WPO_grp 8 96 [2, 3, 4, 5, 11, 12, 73, 80, 96] g31 ?_ ?_
                · clear h
                  replace h := hg31
                  clear hg31
                  cases hb34 : c30 with
                  | false =>
                    replace h := bif_f hb34 h
                    refine WPO_t ?_
                    refine ⟨List.map ei64 ([w64 (92 + (iAnd .i64 n 255))] : List Int), rfl, ?_⟩
                    obtain ⟨y32, hy32, h⟩ := bind_inv h
                    refine ⟨_, _, CallT.any (sgr_Apply_ok hy32) rfl _ rfl, ?_⟩
                    refine fun c33 hc33 => ?_
                    replace h := letB_inv hc33 h
                    cases h
                    exact ⟨rfl, rfl, rfl⟩
                  | true =>
                    replace h := bif_t hb34 h
                    cases h
                    refine WPO_t ?_
                    exact ⟨rfl, rfl, rfl⟩
                refine WPO_t ?_
                cases h
                exact ⟨rfl, rfl, rfl⟩
              | false =>
                replace h := bif_f hb35 h
                cases h
                refine WPO_t ?_
                exact ⟨rfl, rfl, rfl⟩
            refine WPO_t ?_
            cases h
            exact ⟨rfl, rfl, rfl⟩
          | true =>
            replace h := bif_t hb36 h
            cases h
            refine WPO_t ?_
            exact ⟨rfl, rfl, rfl⟩
        refine WPO_t ?_
        refine WP_cond (b := g23) rfl (fun hb37 => ?_) (fun hb37 => ?_)
        · replace h := bif_t hb37 h
          refine WP_seq ?_
          refine WP_reg [10] [0, 1, 2] ?_
          refine WPO_f ?_
          refine WP_ret ?_
          cases h
          exact ⟨rfl, rfl, rfl, rfl, rfl⟩
        · replace h := bif_f hb37 h
          refine WP_skip ?_
          refine WP_seq ?_
          refine WP_reg [2, 3, 4, 5, 11, 12] [0, 1, 2] ?_
          refine WPO_f ?_
          refine And.intro (by decide) ?_
          refine And.intro (by decide) ?_
          refine WP_seq ?_
          refine WP_reg [2, 3, 4, 5, 11, 12] [0, 1, 2] ?_
          refine WPO_f ?_
          refine WP_seq ?_
          refine WP_seq ?_
          refine WP_reg [5, 11, 12, 128] [0, 1, 2] ?_
          refine WPO_then 9 ?_
          refine WPO_t ?_
          refine ⟨List.map ei64 ([38, 2, iAnd .i64 r_ 255, iAnd .i64 g 255, iAnd .i64 b 255] : List Int), rfl, ?_⟩
          obtain ⟨y38, hy38, h⟩ := bind_inv h
          refine ⟨_, _, CallT.any (sgr_Apply_ok hy38) rfl _ rfl, ?_⟩
          refine fun c39 hc39 => ?_
          replace h := letB_inv hc39 h
          obtain ⟨g40, hg40, h⟩ := bind_inv h
          refine WPO_grp 9 128 [5, 11, 12, 128] g40 ?_ ?_
          · clear h
            replace h := hg40
            clear hg40
            cases hb43 : c39 with
            | false =>
              replace h := bif_f hb43 h
              refine WPO_t ?_
              refine ⟨List.map ei64 ([48, 2, iAnd .i64 r_ 255, iAnd .i64 g 255, iAnd .i64 b 255] : List Int), rfl, ?_⟩
              obtain ⟨y41, hy41, h⟩ := bind_inv h
              refine ⟨_, _, CallT.any (sgr_Apply_ok hy41) rfl _ rfl, ?_⟩
              refine fun c42 hc42 => ?_
              replace h := letB_inv hc42 h
              cases h
              exact ⟨rfl, rfl, rfl⟩
            | true =>
              replace h := bif_t hb43 h
              cases h
              refine WPO_t ?_
              exact ⟨rfl, rfl, rfl⟩
          refine WPO_t ?_
          refine WP_cond (b := g40) rfl (fun hb44 => ?_) (fun hb44 => ?_)
          · replace h := bif_t hb44 h
            refine WP_seq ?_
            refine WP_reg [10] [0, 1, 2] ?_
            refine WPO_f ?_
            refine WP_ret ?_
            cases h
            exact ⟨rfl, rfl, rfl, rfl, rfl⟩
          · replace h := bif_f hb44 h
            refine WP_skip ?_
            refine WP_seq ?_
            refine WP_reg [5, 11, 12] [0, 1, 2] ?_
            refine WPO_f ?_
            refine WP_seq ?_
            refine WP_reg [5, 11, 12] [0, 1, 2] ?_
            refine WPO_f ?_
            refine WP_seq ?_
            refine WP_reg [10] [0, 1, 2] ?_
            refine WPO_then 6 ?_
            refine WPO_t ?_
            refine ⟨List.map ei64 ([39] : List Int), rfl, ?_⟩
            obtain ⟨y45, hy45, h⟩ := bind_inv h
            refine ⟨_, _, CallT.any (sgr_Apply_ok hy45) rfl _ rfl, ?_⟩
            refine fun c46 hc46 => ?_
            replace h := letB_inv hc46 h
            obtain ⟨g47, hg47, h⟩ := bind_inv h
            refine WPO_grp 6 142 [5, 142] g47 ?_ ?_
            · clear h
              replace h := hg47
              clear hg47
              cases hb50 : c46 with
              | true =>
                replace h := bif_t hb50 h
                refine WPO_t ?_
                refine ⟨List.map ei64 ([49] : List Int), rfl, ?_⟩
                obtain ⟨y48, hy48, h⟩ := bind_inv h
                refine ⟨_, _, CallT.any (sgr_Apply_ok hy48) rfl _ rfl, ?_⟩
                refine fun c49 hc49 => ?_
                replace h := letB_inv hc49 h
                cases h
                exact ⟨rfl, rfl, rfl⟩
              | false =>
                replace h := bif_f hb50 h
                cases h
                refine WPO_t ?_
                exact ⟨rfl, rfl, rfl⟩
            refine WPO_then 1 ?_
            refine WPO_t ?_
            obtain ⟨g51, hg51, h⟩ := bind_inv h
            refine WPO_grp 6 149 [149] g51 ?_ ?_
            · clear h
              replace h := hg51
              clear hg51
              cases hb54 : g47 with
              | true =>
                replace h := bif_t hb54 h
                refine WPO_t ?_
                refine ⟨List.map ei64 ([0] : List Int), rfl, ?_⟩
                obtain ⟨y52, hy52, h⟩ := bind_inv h
                refine ⟨_, _, CallT.any (sgr_Apply_ok hy52) rfl _ rfl, ?_⟩
                refine fun c53 hc53 => ?_
                replace h := letB_inv hc53 h
                cases h
                exact ⟨rfl, rfl, rfl⟩
              | false =>
                replace h := bif_f hb54 h
                cases h
                refine WPO_t ?_
                exact ⟨rfl, rfl, rfl⟩
            refine WPO_t ?_
            refine WP_ret ?_
            cases h
            exact ⟨rfl, rfl, rfl, rfl, rfl⟩
end P
end Go.Proofs.YtfdaopnkbdfkmaaDoor.Am.Sgr

/-
SgrColours.
-/
namespace Go.Proofs.YtfdaopnkbdfkmaaDoor.Am.Sgr
def b255 (n : Int) : Int := IntKind.wrap .i64 ((BitVec.ofInt (IntKind.bits .i64) n &&& BitVec.ofInt (IntKind.bits .i64) 255).toNat : Int)
theorem b255_le (n : Int) : 0 ≤ b255 n ∧ b255 n ≤ 255 := by
  have h : (BitVec.ofInt (IntKind.bits .i64) n &&& BitVec.ofInt (IntKind.bits .i64) 255).toNat ≤ 255 := by
    rw [BitVec.toNat_and]
    exact Nat.le_trans Nat.and_le_right (by decide)
  have e : b255 n = ((BitVec.ofInt (IntKind.bits .i64) n &&& BitVec.ofInt (IntKind.bits .i64) 255).toNat : Int) := wrap64 (by omega) (by omega)
  rw [e]; omega
def xrgb (r g b : Int) : Int := IntKind.wrap .i64 (IntKind.wrap .i64 (IntKind.wrap .i64 (16777216 + IntKind.wrap .i64 (r * 2 ^ 16)) + IntKind.wrap .i64 (g * 2 ^ 8)) + b)
theorem xrgb_eq {r g b : Int} (hr : 0 ≤ r ∧ r ≤ 255) (hg : 0 ≤ g ∧ g ≤ 255) (hb : 0 ≤ b ∧ b ≤ 255) : xrgb r g b = 16777216 + r * 65536 + g * 256 + b := by
  unfold xrgb
  rw [wrap64 (n := r * 2 ^ 16) (by omega) (by omega), wrap64 (n := g * 2 ^ 8) (by omega) (by omega), wrap64 (n := 16777216 + r * 2 ^ 16) (by omega) (by omega), wrap64 (n := 16777216 + r * 2 ^ 16 + g * 2 ^ 8) (by omega) (by omega), wrap64 (by omega) (by omega)]
  omega
theorem apr {s t : Sty} {xs : List Int} (hr : rightB s = true) (h0 : xs ≠ []) (hl : xs.length ≤ 16) (h : app s xs = t) : RF ST 8 [.agg s.cells, .slice false 1 (ints xs)] [] = some (.agg t.cells, []) := by
  rw [apply_ok (attr64 hr) (.sl xs) (by unfold maxLen; omega), apply, if_neg h0, clean_right hr, List.take_of_length_le hl, h]
section
variable {s : Sty} {N r g b : Int}
theorem c_fg5 (h : 0 ≤ N ∧ N ≤ 255) : app s [38, 5, N] = ⟨IntKind.wrap .i64 (N + 1), s.bg, s.attr⟩ := by
  rw [app_38 rfl, long1, if_pos (by simp [byteB]; omega), wrap64 (by omega) (by omega)]
  show Sty.mk (acc [N] 1 + 1) s.bg s.attr = _
  simp [acc]
theorem c_bg5 (h : 0 ≤ N ∧ N ≤ 255) : app s [48, 5, N] = ⟨s.fg, IntKind.wrap .i64 (N + 1), s.attr⟩ := by
  rw [app_48 rfl, long1, if_pos (by simp [byteB]; omega), wrap64 (by omega) (by omega)]
  show Sty.mk s.fg (acc [N] 1 + 1) s.attr = _
  simp [acc]
theorem c_fg2 (hr : 0 ≤ r ∧ r ≤ 255) (hg : 0 ≤ g ∧ g ≤ 255) (hb : 0 ≤ b ∧ b ≤ 255) : app s [38, 2, r, g, b] = ⟨xrgb r g b, s.bg, s.attr⟩ := by
  rw [app_38 rfl, long3, if_pos (by simp [byteB]; omega), xrgb_eq hr hg hb]
  show Sty.mk (acc [r, g, b] 3 + 16777216) s.bg s.attr = _
  have : acc [r, g, b] 3 + 16777216 = 16777216 + r * 65536 + g * 256 + b := by simp [acc]; omega
  rw [this]
theorem c_bg2 (hr : 0 ≤ r ∧ r ≤ 255) (hg : 0 ≤ g ∧ g ≤ 255) (hb : 0 ≤ b ∧ b ≤ 255) : app s [48, 2, r, g, b] = ⟨s.fg, xrgb r g b, s.attr⟩ := by
  rw [app_48 rfl, long3, if_pos (by simp [byteB]; omega), xrgb_eq hr hg hb]
  show Sty.mk s.fg (acc [r, g, b] 3 + 16777216) s.attr = _
  have : acc [r, g, b] 3 + 16777216 = 16777216 + r * 65536 + g * 256 + b := by simp [acc]; omega
  rw [this]
theorem c_30 (h : 0 ≤ N ∧ N < 8) : app s [IntKind.wrap .i64 (30 + N)] = ⟨IntKind.wrap .i64 (N + 1), s.bg, s.attr⟩ := by
  rw [wrap64 (n := 30 + N) (by omega) (by omega), wrap64 (n := N + 1) (by omega) (by omega), app_one (by omega) (by omega), app_nil, one, if_neg (by omega), if_pos (by omega), show 30 + N - 29 = N + 1 by omega]
theorem c_40 (h : 0 ≤ N ∧ N < 8) : app s [IntKind.wrap .i64 (40 + N)] = ⟨s.fg, IntKind.wrap .i64 (N + 1), s.attr⟩ := by
  rw [wrap64 (n := 40 + N) (by omega) (by omega), wrap64 (n := N + 1) (by omega) (by omega), app_one (by omega) (by omega), app_nil, one, if_neg (by omega), if_neg (by omega), if_neg (by omega), if_neg (by omega), if_pos (by omega), show 40 + N - 39 = N + 1 by omega]
theorem c_82 (h : 8 ≤ N ∧ N < 16) : app s [IntKind.wrap .i64 (82 + N)] = ⟨IntKind.wrap .i64 (N + 1), s.bg, s.attr⟩ := by
  rw [wrap64 (n := 82 + N) (by omega) (by omega), wrap64 (n := N + 1) (by omega) (by omega), app_one (by omega) (by omega), app_nil, one, if_neg (by omega), if_neg (by omega), if_pos (by omega), show 82 + N - 81 = N + 1 by omega]
theorem c_92 (h : 8 ≤ N ∧ N < 16) : app s [IntKind.wrap .i64 (92 + N)] = ⟨s.fg, IntKind.wrap .i64 (N + 1), s.attr⟩ := by
  rw [wrap64 (n := 92 + N) (by omega) (by omega), wrap64 (n := N + 1) (by omega) (by omega), app_one (by omega) (by omega), app_nil, one, if_neg (by omega), if_neg (by omega), if_neg (by omega), if_neg (by omega), if_neg (by omega), if_pos (by omega), show 92 + N - 91 = N + 1 by omega]
end
end Go.Proofs.YtfdaopnkbdfkmaaDoor.Am.Sgr

/-
SgrColours: the law of the printed function.
-/
namespace Go.Proofs.YtfdaopnkbdfkmaaDoor.Am.Sgr
open P Go.Proofs.YtfdaopnkbdfkmaaDoor.Am.T
theorem pcolour_is (n : Int) : sgr_colour n = some (colB n) := by
  unfold sgr_colour letB colB
  by_cases h1 : 0 ≤ n <;> by_cases h2 : n ≤ 256 <;> by_cases h3 : 16777216 ≤ n <;> by_cases h4 : n < 33554432 <;> simp [h1, h2, h3, h4]
theorem attr_is {n : Int} (h : in64 n) : decide (iAndNot .i64 n 31 = 0) = attrB n := by
  have k : iAndNot .i64 n 31 = 0 ↔ attrB n = true := andNot31 h
  by_cases h0 : iAndNot .i64 n 31 = 0
  · rw [decide_eq_true h0, k.1 h0]
  · rw [decide_eq_false h0]; exact (Bool.eq_false_iff.2 fun e => h0 (k.2 e)).symm
theorem pright_is {s : Style} (h : in64 s.Attr) : sgr_Right s = some (rightB s.sty) := by
  unfold sgr_Right letB rightB Style.sty
  rw [pcolour_is, pcolour_is, attr_is h]
  cases colB s.Fg <;> cases colB s.Bg <;> rfl
theorem papr {s : Style} {t : Sty} {xs : List Int} (hr : rightB s.sty = true) (h0 : xs ≠ []) (hl : xs.length ≤ 16) (h : app s.sty xs = t) : sgr_Apply s xs = some (Sty.P t) := by
  unfold sgr_Apply
  rw [if_pos ⟨attr64 hr, hl⟩, apply, if_neg h0, clean_right hr, List.take_of_length_le hl, h]
theorem colours_wrong {s : Style} (h : in64 s.Attr) (hr : rightB s.sty = false) {n r g b : Int} : casementlaw05_SgrColours s n r g b = some true := by
  have k : sgr_Apply s [1] = some ⟨0, 0, 1⟩ := by
    unfold sgr_Apply
    rw [if_pos ⟨h, by decide⟩]
    show some (Sty.P (app (clean s.sty) [1])) = _
    rw [clean, if_neg (by rw [hr]; exact Bool.false_ne_true)]; rfl
  unfold casementlaw05_SgrColours sgr_alive
  rw [pright_is h, hr, k]
  rfl
theorem same1 {a b c : Int} : (decide (a = a) && (decide (b = b) && (decide (c = c) && true))) = true := by simp
theorem colours_right {s : Style} (hr : rightB s.sty = true) {n r g b : Int} : casementlaw05_SgrColours s n r g b = some true := by
  unfold casementlaw05_SgrColours sgr_alive
  rw [pright_is (attr64 hr), hr]
  have hN := b255_le n
  have hR := b255_le r
  have hG := b255_le g
  have hB := b255_le b
  rw [show b255 n = iAnd .i64 n 255 from rfl] at hN
  rw [show b255 r = iAnd .i64 r 255 from rfl] at hR
  rw [show b255 g = iAnd .i64 g 255 from rfl] at hG
  rw [show b255 b = iAnd .i64 b 255 from rfl] at hB
  have ex : ∀ R G B : Int, w64 (w64 (w64 (16777216 + iShl .i64 R 16) + iShl .i64 G 8) + B) = xrgb R G B := fun _ _ _ => rfl
  simp only [ex]
  generalize iAnd .i64 n 255 = N at *
  generalize iAnd .i64 r 255 = R at *
  generalize iAnd .i64 g 255 = G at *
  generalize iAnd .i64 b 255 = B at *
  rw [papr (xs := [38, 5, N]) hr (by simp) (by simp) (c_fg5 hN), papr (xs := [48, 5, N]) hr (by simp) (by simp) (c_bg5 hN), papr (xs := [38, 2, R, G, B]) hr (by simp) (by simp) (c_fg2 hR hG hB), papr (xs := [48, 2, R, G, B]) hr (by simp) (by simp) (c_bg2 hR hG hB), papr (xs := [39]) hr (by simp) (by simp) (t := ⟨0, s.Bg, s.Attr⟩) rfl, papr (xs := [49]) hr (by simp) (by simp) (t := ⟨s.Fg, 0, s.Attr⟩) rfl, papr (xs := [0]) hr (by simp) (by simp) (t := zero) rfl]
  by_cases h8 : N < 8
  · rw [papr (xs := [w64 (30 + N)]) hr (by simp) (by simp) (c_30 ⟨hN.1, h8⟩), papr (xs := [w64 (40 + N)]) hr (by simp) (by simp) (c_40 ⟨hN.1, h8⟩)]
    generalize xrgb R G B = X
    simp [letB, h8, Sty.P, Style.sty, zero, show ¬ 8 ≤ N by omega]
  · by_cases h16 : N < 16
    · rw [papr (xs := [w64 (82 + N)]) hr (by simp) (by simp) (c_82 ⟨by omega, h16⟩), papr (xs := [w64 (92 + N)]) hr (by simp) (by simp) (c_92 ⟨by omega, h16⟩)]
      simp [letB, h8, h16, Sty.P, Style.sty, zero, show 8 ≤ N by omega]
    · simp [letB, h8, h16, Sty.P, Style.sty, zero, show 8 ≤ N by omega]
theorem sgrColours_ok {s : Sty} (h : in64 s.attr) {n r g b : Int} : ∃ m', RF ST 6 [.agg s.cells, .int .i64 n, .int .i64 r, .int .i64 g, .int .i64 b] [] = some (.bool true, m') := by
  have k : casementlaw05_SgrColours (Sty.P s) n r g b = some true := by
    cases hr : rightB s with
    | true => exact colours_right (s := Sty.P s) hr
    | false => exact colours_wrong (s := Sty.P s) h hr
  exact CallT.law (casementlaw05_SgrColours_ok k) (.cons (style_den s) (.cons (.base (.int _ _)) (.cons (.base (.int _ _)) (.cons (.base (.int _ _)) (.cons (.base (.int _ _)) .nil)))))
end Go.Proofs.YtfdaopnkbdfkmaaDoor.Am.Sgr

/-
SgrPlays.
-/
namespace Go.Proofs.YtfdaopnkbdfkmaaDoor.Am.Sgr
theorem same_sty {A : Sty} : eqV (.plain [.int, .int, .int]) (.agg A.cells) (.agg A.cells) = some true := by rw [sty_eq]; simp
set_option maxRecDepth 20000 in
set_option maxHeartbeats 2000000 in
theorem sgrPlays_ok {s : Sty} (h : in64 s.attr) {a : V} {xs : List Int} (hv : IV a xs) (hl : xs.length ≤ maxLen) : RF ST 3 [.agg s.cells, a] [] = some (.bool true, []) := by
  have hA := apply_ok (m := []) h hv hl
  have hB := rapply_ok (m := []) (s := s) hv
  have hR := right_is (m := []) (attr64 (right_apply s xs)) (right_apply s xs)
  generalize apply s xs = A at *
  obtain ⟨r, hr⟩ : ∃ r, rightB s = r := ⟨_, rfl⟩
  have h1 := right_is (m := []) h hr
  have h2 := rright_is (m := []) hr
  have hP := params_ok (m := []) h
  have hQ := rparams_ok (m := []) (s := s)
  have hpl := params_len s
  unfold params at hP hQ hpl
  generalize mk (clean s).attr 5 ++ nums (clean s).fg 30 ++ nums (clean s).bg 40 = Q at *
  have hS : RF ST 13 [.slice false 1 (ints (0 :: Q)), .slice false 1 (ints (0 :: Q))] [] = some (.bool true, []) := by
    rw [same_ok (.sl _) (.sl _) (by unfold maxLen; omega)]; simp
  cases hv <;> refine RF_wp rfl v3 b3 ?_ <;> cases r
  all_goals repeat' first
    | refine And.intro rfl ⟨_, _, alive_ok, ?_⟩
    | refine And.intro rfl ⟨_, _, hA, ?_⟩
    | refine And.intro rfl ⟨_, _, hB, ?_⟩
    | refine And.intro rfl ⟨_, _, hR, ?_⟩
    | refine And.intro rfl ⟨_, _, h1, ?_⟩
    | refine And.intro rfl ⟨_, _, h2, ?_⟩
    | refine And.intro rfl ⟨_, _, hP, ?_⟩
    | refine And.intro rfl ⟨_, _, hQ, ?_⟩
    | refine And.intro rfl ⟨_, _, hS, ?_⟩
    | (refine fun c h => ?_; subst h)
    | refine And.intro rfl ?_
    | refine And.intro ⟨rfl, Nat.le_of_ble_eq_true rfl, rfl⟩ ?_
    | refine And.intro ⟨Nat.le_of_ble_eq_true rfl, rfl, rfl⟩ ?_
    | refine And.intro (Nat.le_of_ble_eq_true rfl) ?_
    | refine ⟨_, rfl, rfl, ?_⟩
    | refine ⟨true, same_sty (A := A), ?_⟩
    | fail
  all_goals exact ⟨⟨rfl, Nat.le_refl _⟩, rfl, trim_same rfl⟩
end Go.Proofs.YtfdaopnkbdfkmaaDoor.Am.Sgr

/-
What the laws' arguments are.
-/
namespace Go.Proofs.YtfdaopnkbdfkmaaDoor.Am.Sgr
theorem wf64 {n : Int} (h : (Lit.int .i64 n).wf = true) : in64 n := by
  simp [Lit.wf, IntKind.min, IntKind.max, IntKind.signed, IntKind.bits] at h
  exact ⟨by omega, by omega⟩
def isStr : Option TypeDesc → Bool
  | some (.struct _) => true
  | _ => false
theorem fits_sty {P : Program} {t : TypeId} (hi : isStr (P.underlying t) = true) (hl : leafs P 8 t = some [.int .i64, .int .i64, .int .i64]) {x : V} (h : FitsV P t x) : ∃ s : Sty, x = .agg s.cells ∧ in64 s.attr := by
  obtain ⟨fs, ht⟩ : ∃ fs, P.underlying t = some (.struct fs) := by
    unfold isStr at hi
    split at hi
    · exact ⟨_, by assumption⟩
    · cases hi
  unfold FitsV at h
  rw [ht] at h
  obtain ⟨cs, rfl, hf⟩ := h
  have h3 := fits_leafs hl hf
  have h4 : cs.length = 3 := h3.len
  match cs, h4 with
  | [x1, x2, x3], _ =>
    obtain ⟨h1, h2, h3, _⟩ := h3
    obtain ⟨a, rfl, _⟩ := h1
    obtain ⟨b, rfl, _⟩ := h2
    obtain ⟨c, rfl, hc⟩ := h3
    exact ⟨⟨a, b, c⟩, rfl, wf64 hc⟩
end Go.Proofs.YtfdaopnkbdfkmaaDoor.Am.Sgr

/-
SgrColours answers true whatever its input; the input reads as it did.
-/
namespace Go.Proofs.YtfdaopnkbdfkmaaDoor
open Go.Proofs.YtfdaopnkbdfkmaaDoor.Am Go.Proofs.YtfdaopnkbdfkmaaDoor.Am.Sgr
open Go.ChangeShapes Go.WideShapes Go.ChangeAt Go.RowKit
namespace sgrColours
theorem own : ownKnob Tryd.prog.godebug = none := by kernel_rfl
theorem laidB : laidOutB Tryd.prog = true := by kernel_rfl
theorem law (l : List V) (hl : l.length = Tryd.f6.params.toList.length) (h : ∀ (j : Nat) (t : TypeId), Tryd.f6.params.toList[j]? = some t → FitsV Tryd.prog t (l.getD j .undef)) : ∃ m', RF ST 6 l [] = some (.bool true, m') := by
  have hln : l.length = 5 := hl
  match l, hln with
  | [x0, x1, x2, x3, x4], _ =>
    have h0 := h 0 _ rfl
    have h1 := h 1 _ rfl
    have h2 := h 2 _ rfl
    have h3 := h 3 _ rfl
    have h4 := h 4 _ rfl
    have u3 : Tryd.prog.underlying 3 = some (.int .i64) := by kernel_rfl
    obtain ⟨s, rfl, hs⟩ := fits_sty (by kernel_rfl) (by kernel_rfl) h0
    obtain ⟨n, e1, _⟩ := fits_int u3 (fitsV_leaf u3 h1 (fun _ e => by cases e) (fun _ _ e => by cases e))
    obtain ⟨r, e2, _⟩ := fits_int u3 (fitsV_leaf u3 h2 (fun _ e => by cases e) (fun _ _ e => by cases e))
    obtain ⟨g, e3, _⟩ := fits_int u3 (fitsV_leaf u3 h3 (fun _ e => by cases e) (fun _ _ e => by cases e))
    obtain ⟨b, e4, _⟩ := fits_int u3 (fitsV_leaf u3 h4 (fun _ e => by cases e) (fun _ _ e => by cases e))
    cases e1
    cases e2
    cases e3
    cases e4
    exact sgrColours_ok hs

/-- A world for the witness: the settled one, the tables as their initialisers lay them. -/
noncomputable def laidWorld (os : Os) : World :=
  { World.holding Tryd.prog os ⟨#[], #[], []⟩ with heap := ((((World.holding Tryd.prog os ⟨#[], #[], []⟩).heap.modify 0 fun
      | .cells _ t frozen => .cells #[.int .u64 1, .int .u64 10, .int .u64 100, .int .u64 1000, .int .u64 10000, .int .u64 100000, .int .u64 1000000, .int .u64 10000000, .int .u64 100000000, .int .u64 1000000000, .int .u64 10000000000, .int .u64 100000000000, .int .u64 1000000000000, .int .u64 10000000000000, .int .u64 100000000000000, .int .u64 1000000000000000, .int .u64 10000000000000000, .int .u64 100000000000000000, .int .u64 1000000000000000000, .int .u64 10000000000000000000] t frozen
      | o => o).modify 1 fun
      | .cells _ t frozen => .cells #[.int .u8 0, .int .u8 1, .int .u8 28, .int .u8 2, .int .u8 29, .int .u8 14, .int .u8 24, .int .u8 3, .int .u8 30, .int .u8 22, .int .u8 20, .int .u8 15, .int .u8 25, .int .u8 17, .int .u8 4, .int .u8 8, .int .u8 31, .int .u8 27, .int .u8 13, .int .u8 23, .int .u8 21, .int .u8 19, .int .u8 16, .int .u8 7, .int .u8 26, .int .u8 12, .int .u8 18, .int .u8 6, .int .u8 11, .int .u8 5, .int .u8 10, .int .u8 9] t frozen
      | o => o).modify 2 fun
      | .cells _ t frozen => .cells #[.int .u8 0, .int .u8 1, .int .u8 56, .int .u8 2, .int .u8 57, .int .u8 49, .int .u8 28, .int .u8 3, .int .u8 61, .int .u8 58, .int .u8 42, .int .u8 50, .int .u8 38, .int .u8 29, .int .u8 17, .int .u8 4, .int .u8 62, .int .u8 47, .int .u8 59, .int .u8 36, .int .u8 45, .int .u8 43, .int .u8 51, .int .u8 22, .int .u8 53, .int .u8 39, .int .u8 33, .int .u8 30, .int .u8 24, .int .u8 18, .int .u8 12, .int .u8 5, .int .u8 63, .int .u8 55, .int .u8 48, .int .u8 27, .int .u8 60, .int .u8 41, .int .u8 37, .int .u8 16, .int .u8 46, .int .u8 35, .int .u8 44, .int .u8 21, .int .u8 52, .int .u8 32, .int .u8 23, .int .u8 11, .int .u8 54, .int .u8 26, .int .u8 40, .int .u8 15, .int .u8 34, .int .u8 20, .int .u8 31, .int .u8 10, .int .u8 25, .int .u8 14, .int .u8 19, .int .u8 9, .int .u8 13, .int .u8 8, .int .u8 7, .int .u8 6] t frozen
      | o => o) }
theorem laid_met (os : Os) : laidMet Tryd.prog Rows.sgrColoursRow.laid ((laidWorld os).forCall (fun _ _ => 0) ⟨#[], #[.agg #[.int .i64 0, .int .i64 0, .int .i64 0], .int .i64 0, .int .i64 0, .int .i64 0, .int .i64 0], []⟩).memory :=
  laidMet_of_run' 8 (by kernel_rfl) (by kernel_rfl)
theorem reads (os : Os) {H : Type} (enc : TypeId × Value → H) : ∃ places, DataW.whole enc Tryd.prog ((laidWorld os).forCall (fun _ _ => 0) ⟨#[], #[.agg #[.int .i64 0, .int .i64 0, .int .i64 0], .int .i64 0, .int .i64 0, .int .i64 0, .int .i64 0], []⟩).memory Tryd.f6.params.toList Rows.sgrColoursSpec.vars false (#[.agg #[.int .i64 0, .int .i64 0, .int .i64 0], .int .i64 0, .int .i64 0, .int .i64 0, .int .i64 0] : Array Value).toList 8 = some ([.agg [.lit (.int .i64 0), .lit (.int .i64 0), .lit (.int .i64 0)], .lit (.int .i64 0), .lit (.int .i64 0), .lit (.int .i64 0), .lit (.int .i64 0)], [], places) :=
  ⟨[], by kernel_rfl⟩

set_option maxRecDepth 100000 in
theorem lifted (os : Os) (started : os.Started) (H : Type) (enc : TypeId × Value → H) (F : Stop.Interp) :
    ReturnsInHanded {} Tryd.checked os 6 .any ((OpenSpec.ofChange Rows.sgrColoursSpec).preRow enc Tryd.prog Tryd.f6 Rows.sgrColoursRow.domain false Rows.sgrColoursRow.laid) (((OpenSpec.ofChange Rows.sgrColoursSpec).at F).post enc Tryd.prog Tryd.f6 false true false false) := by
  obtain ⟨places, hx⟩ := reads os enc
  refine returnsInHanded_of_row (C := Tryd.checked) (s := OpenSpec.ofChange Rows.sgrColoursSpec) own started (by kernel_rfl) Tryd.func6
    (witness_row_at (enc := enc) (C := Tryd.checked) false (laidWorld os) #[.agg #[.int .i64 0, .int .i64 0, .int .i64 0], .int .i64 0, .int .i64 0, .int .i64 0, .int .i64 0] rfl (by kernel_rfl) (by kernel_rfl) (by kernel_rfl)
      (OpenSpec.preRow_of_cond 8 hx (by kernel_rfl) (fun k hk => by cases hk) (by kernel_rfl) (laid_met os))) ?_
  intro W base args ds gs before hval hW _ _ _ _ _ _
  exact law_contract ST_ok (tb := 4) (d := 8) (by kernel_rfl) (by kernel_rfl) rfl
    (fun ds hd => by
      have hdn : ds.length = 5 := hd
      match ds, hdn with
      | [_, _, _, _, _], _ => rfl) laidB (by kernel_rfl) (by kernel_rfl) law hval hW

theorem said : Rows.SgrColoursSaid :=
  OpenClaim.holds_of_cond 6 Tryd.f6 rfl rfl rfl rfl rfl rfl rfl ⟨rfl, rfl, rfl, rfl, rfl⟩ rfl rfl rfl rfl rfl (by kernel_rfl) Tryd.func6 (by kernel_rfl)
    (of_decide_eq_true (by kernel_rfl)) (by unfold Func.isWrapper; first | (rw [if_pos (by decide +kernel)]; kernel_rfl) | (rw [if_neg (by decide +kernel)]; exact ⟨rfl, rfl⟩))
    (fun os started H enc _ F => by rw [OpenClaim.pre_eq_preRow]; exact lifted os started H enc F)

theorem nowant : (Tryd.f6.params.toList.all fun t => Tryd.prog.wantsStandIn t == false) = true := by kernel_rfl
theorem plain (f : FuncId) (fn : Func) (hf : Tryd.pinned.checked.prog.funcNamed "casement/casementlaw05.SgrColours" = some f) (hfn : Tryd.pinned.checked.prog.funcs[f]? = some fn) :
    false = Tryd.pinned.checked.prog.looks [] ∧ ∀ (j : Nat) t, fn.params[j]? = some t → Tryd.pinned.checked.prog.wantsStandIn t = false := by
  obtain rfl : f = 6 := Option.some.inj ((show Tryd.prog.funcNamed "casement/casementlaw05.SgrColours" = some 6 by kernel_rfl).symm.trans hf) |>.symm
  obtain rfl : fn = Tryd.f6 := (Option.some.inj (Tryd.func6.symm.trans hfn)).symm
  refine ⟨by kernel_rfl, fun j t ht => ?_⟩
  exact beq_iff_eq.1 (List.all_eq_true.1 nowant t (Array.mem_toList_iff.2 (Array.mem_of_getElem? ht)))

theorem holds : Rows.SgrColoursCardSaid :=
  Claim7.holds_tied_plain_at .later [] _ _ _ _ said (fun _ h => by cases h) (by kernel_rfl) (fun _ h => by cases h) sgrColours_row_tie rfl ⟨rfl, rfl⟩ (by kernel_rfl) rfl plain (by kernel_rfl)
#print axioms holds
end sgrColours
end Go.Proofs.YtfdaopnkbdfkmaaDoor
