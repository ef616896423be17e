/-
SgrSteps answers true whatever its input; the input reads as it did.
-/
import Derived.Test.YtfdaopnkbdfkmaaDoorAmSgrStepsRow3
import Derived.KernelRfl
import Derived.Test.YtfdaopnkbdfkmaaDoorCards
import Derived.Test.YtfdaopnkbdfkmaaDoorTie
import Derived.WalkKit
import Derived.ProofKit
import Derived.OpenShut
import Derived.Deep.DeepHandedRow
import Derived.Lib.LaidTab
/-
Numbers make of a style: number by number.
-/
namespace Go.Proofs.YtfdaopnkbdfkmaaDoor.Am.Sgr
def setFg (s : Sty) : Option Int → Sty
  | none => s
  | some v => { s with fg := v }
def setBg (s : Sty) : Option Int → Sty
  | none => s
  | some v => { s with bg := v }
def appG : Nat → Sty → List Int → Sty
  | 0, s, _ => s
  | _ + 1, s, [] => s
  | k + 1, s, n :: r => if n = 38 then appG k (setFg s (long r).2) (r.drop (long r).1) else if n = 48 then appG k (setBg s (long r).2) (r.drop (long r).1) else appG k (one s n) r
def app (s : Sty) (xs : List Int) : Sty := appG xs.length s xs
def apply (s : Sty) (xs : List Int) : Sty := if xs = [] then zero else app (clean s) (xs.take 16)
theorem appG_any : ∀ {k k' : Nat} {s : Sty} {xs : List Int}, xs.length ≤ k → xs.length ≤ k' → appG k s xs = appG k' s xs
  | 0, 0, _, _, _, _ => rfl
  | 0, k' + 1, _, [], _, _ => rfl
  | k + 1, 0, _, [], _, _ => rfl
  | k + 1, k' + 1, _, [], _, _ => rfl
  | 0, _, _, _ :: _, h, _ => absurd h (by simp)
  | _ + 1, 0, _, _ :: _, _, h => absurd h (by simp)
  | k + 1, k' + 1, s, n :: r, h, h' => by
    simp only [List.length_cons] at h h'
    have hd : (r.drop (long r).1).length ≤ r.length := by rw [List.length_drop]; omega
    unfold appG
    rw [appG_any (k := k) (k' := k') (xs := r.drop (long r).1) (s := setFg s (long r).2) (by omega) (by omega), appG_any (k := k) (k' := k') (xs := r.drop (long r).1) (s := setBg s (long r).2) (by omega) (by omega), appG_any (k := k) (k' := k') (xs := r) (s := one s n) (by omega) (by omega)]
theorem app_nil {s : Sty} : app s [] = s := rfl
theorem app_cons {s : Sty} {n : Int} {r : List Int} : app s (n :: r) = if n = 38 then app (setFg s (long r).2) (r.drop (long r).1) else if n = 48 then app (setBg s (long r).2) (r.drop (long r).1) else app (one s n) r := by
  have hd : (r.drop (long r).1).length ≤ r.length := by rw [List.length_drop]; omega
  unfold app
  rw [List.length_cons, appG, appG_any (k := r.length) (k' := (r.drop (long r).1).length) hd (Nat.le_refl _), appG_any (k := r.length) (k' := (r.drop (long r).1).length) hd (Nat.le_refl _)]
theorem app_38 {s : Sty} {n : Int} {r : List Int} (h : n = 38) : app s (n :: r) = app (setFg s (long r).2) (r.drop (long r).1) := by rw [app_cons, if_pos h]
theorem app_48 {s : Sty} {n : Int} {r : List Int} (h : n = 48) : app s (n :: r) = app (setBg s (long r).2) (r.drop (long r).1) := by rw [app_cons, if_neg (by omega), if_pos h]
theorem app_one {s : Sty} {n : Int} {r : List Int} (h1 : n ≠ 38) (h2 : n ≠ 48) : app s (n :: r) = app (one s n) r := by rw [app_cons, if_neg h1, if_neg h2]
theorem long_le (r : List Int) : (long r).1 ≤ r.length := by
  unfold long
  split
  · exact Nat.le_refl _
  · rename_i h
    split <;> simp only <;> omega
theorem rightB_of {s : Sty} : rightB s = true ↔ colB s.fg = true ∧ colB s.bg = true ∧ attrB s.attr = true := by simp [rightB]
theorem right_zero : rightB zero = true := by decide
theorem right_clean (s : Sty) : rightB (clean s) = true := by
  unfold clean; split
  · assumption
  · exact right_zero
theorem acc_get {l l' : List Int} : ∀ {i : Nat}, (∀ j < i, l.getD j 0 = l'.getD j 0) → acc l i = acc l' i
  | 0, _ => rfl
  | i + 1, h => by rw [acc, acc, acc_get fun j hj => h j (by omega), h i (by omega)]
theorem long_col {r : List Int} {v : Int} (h : (long r).2 = some v) : colB v = true := by
  match r with
  | [] => cases h
  | x :: t =>
    by_cases h2 : x = 2
    · subst h2
      match t with
      | a :: b :: c :: t =>
        rw [long3] at h
        by_cases hb : [a, b, c].all byteB = true
        · simp only [if_pos hb, Option.some.injEq] at h
          simp only [List.all_cons, List.all_nil, Bool.and_eq_true, Bool.and_true] at hb
          have h1 := byte_of hb.1; have h2 := byte_of hb.2.1; have h3 := byte_of hb.2.2
          have : acc [a, b, c] 3 = (a * 256 + b) * 256 + c := by simp [acc]
          simp [colB]; omega
        · simp only [if_neg hb] at h; cases h
      | [] => exact nomatch h
      | [_] => exact nomatch h
      | [_, _] => exact nomatch h
    · by_cases h5 : x = 5
      · subst h5
        match t with
        | a :: t =>
          rw [long1] at h
          by_cases hb : [a].all byteB = true
          · simp only [if_pos hb, Option.some.injEq] at h
            simp only [List.all_cons, List.all_nil, Bool.and_true] at hb
            have h1 := byte_of hb
            have : acc [a] 1 = a := by simp [acc]
            simp [colB]; omega
          · simp only [if_neg hb] at h; cases h
        | [] => exact nomatch h
      · unfold long at h
        rw [if_pos (.inl (by simp [need, h2, h5]))] at h
        cases h
theorem right_fg {s : Sty} {r : List Int} (h : rightB s = true) : rightB (setFg s (long r).2) = true := by
  cases e : (long r).2 with
  | none => exact h
  | some v =>
    rw [rightB_of] at h ⊢
    exact ⟨long_col e, h.2⟩
theorem right_bg {s : Sty} {r : List Int} (h : rightB s = true) : rightB (setBg s (long r).2) = true := by
  cases e : (long r).2 with
  | none => exact h
  | some v =>
    rw [rightB_of] at h ⊢
    exact ⟨h.1, long_col e, h.2.2⟩
theorem attrOne_key : ∀ q < 32, ∀ y ∈ [1, 2, 4, 8, 16], attrB (wi (q : Nat) y) = true ∧ attrB (wo (q : Nat) y) = true := by decide
theorem right_attr {a n : Int} (h : attrB a = true) : attrB (attrOne a n) = true := by
  have k : ∀ a, attrB a = true → ∀ y ∈ [1, 2, 4, 8, 16], attrB (wi a y) = true ∧ attrB (wo a y) = true := fun a h => by
    obtain ⟨q, rfl, hq⟩ := attr_of h
    exact attrOne_key q hq
  unfold attrOne
  repeat' split
  · exact (k _ (k a h 1 (by decide)).2 2 (by decide)).2
  all_goals first
    | exact h
    | exact (k a h 1 (by decide)).1
    | exact (k a h 2 (by decide)).1
    | exact (k a h 4 (by decide)).1
    | exact (k a h 8 (by decide)).1
    | exact (k a h 16 (by decide)).1
    | exact (k a h 4 (by decide)).2
    | exact (k a h 8 (by decide)).2
    | exact (k a h 16 (by decide)).2
theorem right_one {s : Sty} {n : Int} (h : rightB s = true) : rightB (one s n) = true := by
  have h' := rightB_of.1 h
  unfold one
  repeat' split
  · exact right_zero
  all_goals rw [rightB_of]
  all_goals refine ⟨?_, ?_, ?_⟩
  all_goals first
    | exact h'.1
    | exact h'.2.1
    | exact h'.2.2
    | exact right_attr h'.2.2
    | (simp [colB]; done)
    | (simp [colB]; omega)
theorem right_app : ∀ {k : Nat} {s : Sty} {xs : List Int}, rightB s = true → rightB (appG k s xs) = true
  | 0, _, _, h => h
  | _ + 1, _, [], h => h
  | k + 1, s, n :: r, h => by
    unfold appG
    split
    · exact right_app (right_fg h)
    · split
      · exact right_app (right_bg h)
      · exact right_app (right_one h)
theorem right_apply (s : Sty) (xs : List Int) : rightB (apply s xs) = true := by
  unfold apply; split
  · exact right_zero
  · exact right_app (right_clean s)
theorem attr64 {s : Sty} (h : rightB s = true) : in64 s.attr := by
  have := attr_le (rightB_of.1 h).2.2
  exact ⟨by omega, by omega⟩
end Go.Proofs.YtfdaopnkbdfkmaaDoor.Am.Sgr

/-
The numbers of a colour.
-/
namespace Go.Proofs.YtfdaopnkbdfkmaaDoor.Am.Sgr
/-- A list of numbers that is made. -/
def outV : List Int → V
  | [] => .nils
  | x :: xs => .slice true 1 (ints (x :: xs))
theorem outV_share (xs : List Int) : IV (outV xs).share xs := by
  cases xs with
  | nil => exact .nil
  | cons x xs => exact .sl _
def nums (n base : Int) : List Int :=
  if n = 0 then [] else if n ≤ 8 then [base + n - 1] else if n ≤ 256 then [base + 8, 5, n - 1]
  else [base + 8, 2, (n - 16777216) / 65536, (n - 16777216) / 256 % 256, (n - 16777216) % 256]
theorem nums_len (n base : Int) : (nums n base).length ≤ 5 := by
  unfold nums; repeat' split
  all_goals simp
theorem and255 {x : Int} (h0 : 0 ≤ x) (h1 : x < 1000000000) : IntKind.wrap .i64 ((BitVec.ofInt 64 x &&& BitVec.ofInt 64 255).toNat : Int) = x % 256 := by
  obtain ⟨a, rfl⟩ := Int.eq_ofNat_of_zero_le h0
  have e1 : (BitVec.ofInt 64 (a : Int)).toNat = a := by rw [BitVec.toNat_ofInt]; omega
  have e2 : (BitVec.ofInt 64 (255 : Int)).toNat = 2 ^ 8 - 1 := by decide
  rw [BitVec.toNat_and, e1, e2, Nat.and_two_pow_sub_one_eq_mod, wrap64 (by omega) (by omega)]
  omega
theorem col_of {n : Int} (h : colB n = true) : (0 ≤ n ∧ n ≤ 256) ∨ (16777216 ≤ n ∧ n < 33554432) := by simpa [colB] using h
section
variable {m : Ms} {n b : Int}
theorem n_1 (_hc : 0 ≤ n) (hb : 0 ≤ b) (hb2 : b ≤ 100) (hn : n ≠ 0) (h8 : n ≤ 8) : V.slice true 1 [[.int .i64 (IntKind.wrap .i64 (IntKind.wrap .i64 (b + n) - 1))]] = outV (nums n b) := by
  rw [wrap64 (n := b + n) (by omega) (by omega), wrap64 (by omega) (by omega), nums, if_neg hn, if_pos h8]; rfl
theorem n_2 (hc : 0 ≤ n) (hn : n ≠ 0) (h8 : ¬ n ≤ 8) (h2 : n ≤ 256) : V.slice true 1 [[.int .i64 (b + 8)], [.int .i64 5], [.int .i64 (IntKind.wrap .i64 (n - 1))]] = outV (nums n b) := by
  rw [wrap64 (by omega) (by omega), nums, if_neg hn, if_neg h8, if_pos h2]; rfl
theorem n_3 (hc : 16777216 ≤ n) (hc2 : n < 33554432) : V.slice true 1 [[.int .i64 (b + 8)], [.int .i64 2], [.int .i64 (IntKind.wrap .i64 ((BitVec.ofInt 64 (n.fdiv (2 ^ 16)) &&& BitVec.ofInt 64 255).toNat : Int))], [.int .i64 (IntKind.wrap .i64 ((BitVec.ofInt 64 (n.fdiv (2 ^ 8)) &&& BitVec.ofInt 64 255).toNat : Int))], [.int .i64 (IntKind.wrap .i64 ((BitVec.ofInt 64 n &&& BitVec.ofInt 64 255).toNat : Int))]] = outV (nums n b) := by
  rw [Int.fdiv_eq_ediv_of_nonneg n (by decide), Int.fdiv_eq_ediv_of_nonneg n (by decide), and255 (x := n / 2 ^ 16) (by omega) (by omega), and255 (x := n / 2 ^ 8) (by omega) (by omega), and255 (x := n) (by omega) (by omega), nums, if_neg (by omega), if_neg (by omega), if_neg (by omega)]
  have e1 : n / 2 ^ 16 % 256 = (n - 16777216) / 65536 := by omega
  have e2 : n / 2 ^ 8 % 256 = (n - 16777216) / 256 % 256 := by omega
  have e3 : n % 256 = (n - 16777216) % 256 := by omega
  rw [e1, e2, e3]; rfl
set_option maxRecDepth 20000 in
theorem numbers_ok {lg : Int} (hc : colB n = true) (hb : 0 ≤ b) (hb2 : b ≤ 100) (hlg : lg = b + 8) : RF ST 20 [.int .i64 n, .int .i64 b, .int .i64 lg] m = some (outV (nums n b), m) := by
  have hc := col_of hc
  subst hlg
  refine RF_wp rfl v20 b20 ?_
  refine And.intro rfl ?_
  repeat' first
    | (refine fun c h => ?_; cases c <;> simp only [decide_eq_true_eq, decide_eq_false_iff_not] at h <;> first | (exfalso; omega) | skip)
    | refine And.intro (by decide) ?_
    | refine And.intro ⟨rfl, Nat.le_of_ble_eq_true rfl, rfl⟩ ?_
    | fail
  all_goals refine And.intro ⟨rfl, Nat.le_refl _⟩ (And.intro ?_ (trim_same rfl))
  · exact n_3 (by omega) (by omega)
  · exact n_2 (by omega) (by omega) (by omega) (by omega)
  · exact n_1 (by omega) hb hb2 (by omega) (by omega)
  · rename_i h; subst h; rfl
set_option maxRecDepth 20000 in
theorem rnumbers_ok (hc : colB n = true) (hb : 0 ≤ b) (hb2 : b ≤ 100) : RF ST 28 [.int .i64 n, .int .i64 b] m = some (outV (nums n b), m) := by
  have hc := col_of hc
  have hw8 : IntKind.wrap .i64 (b + 8) = b + 8 := wrap64 (by omega) (by omega)
  refine RF_wp rfl v28 b28 ?_
  refine And.intro rfl ?_
  repeat' first
    | (refine fun c h => ?_; cases c <;> simp only [decide_eq_true_eq, decide_eq_false_iff_not] at h <;> first | (exfalso; omega) | skip)
    | refine And.intro (by decide) ?_
    | refine And.intro ⟨rfl, Nat.le_of_ble_eq_true rfl, rfl⟩ ?_
    | fail
  all_goals refine And.intro ⟨rfl, Nat.le_refl _⟩ (And.intro ?_ (trim_same rfl))
  · show V.slice true 1 [[.int .i64 (IntKind.wrap .i64 (b + 8))], [.int .i64 2], [.int .i64 (IntKind.wrap .i64 ((IntKind.wrap .i64 (n - 16777216)).tdiv 65536))], [.int .i64 ((IntKind.wrap .i64 ((IntKind.wrap .i64 (n - 16777216)).tdiv 256)).tmod 256)], [.int .i64 ((IntKind.wrap .i64 (n - 16777216)).tmod 256)]] = _
    rw [hw8, wrap64 (n := n - 16777216) (by omega) (by omega), Int.tdiv_eq_ediv_of_nonneg (by omega), Int.tdiv_eq_ediv_of_nonneg (by omega), wrap64 (n := (n - 16777216) / 65536) (by omega) (by omega), wrap64 (n := (n - 16777216) / 256) (by omega) (by omega), Int.tmod_eq_emod_of_nonneg (by omega), Int.tmod_eq_emod_of_nonneg (by omega), nums, if_neg (by omega), if_neg (by omega), if_neg (by omega)]
    rfl
  · exact (congrArg (fun z => V.slice true 1 [[.int .i64 z], [.int .i64 5], [.int .i64 (IntKind.wrap .i64 (n - 1))]]) hw8).trans (n_2 (by omega) (by omega) (by omega) (by omega))
  · exact n_1 (by omega) hb hb2 (by omega) (by omega)
  · rename_i h; subst h; rfl
end
end Go.Proofs.YtfdaopnkbdfkmaaDoor.Am.Sgr

/-
The numbers that make a style.
-/
namespace Go.Proofs.YtfdaopnkbdfkmaaDoor.Am.Sgr
def mk (a : Int) : Nat → List Int
  | 0 => []
  | i + 1 => if hasB a (msL.getD i 0) then mk a i ++ [nsL.getD i 0] else mk a i
def params (s : Sty) : List Int := 0 :: (mk (clean s).attr 5 ++ nums (clean s).fg 30 ++ nums (clean s).bg 40)
theorem mk_len (a : Int) : ∀ i, (mk a i).length ≤ i
  | 0 => Nat.le_refl _
  | i + 1 => by
    have := mk_len a i
    unfold mk; split
    · simp; omega
    · omega
theorem params_len (s : Sty) : (params s).length ≤ 16 := by
  have h1 := mk_len (clean s).attr 5
  have h2 := nums_len (clean s).fg 30
  have h3 := nums_len (clean s).bg 40
  simp only [params, List.length_cons, List.length_append]
  omega
theorem and_key : ∀ i < 5, ∀ q < 32, (decide (IntKind.wrap .i64 ((BitVec.ofInt 64 (q : Nat) &&& BitVec.ofInt 64 (mark (nsL.getD i 0))).toNat : Int) ≠ 0)) = hasB (q : Nat) (msL.getD i 0) := by decide
theorem and_has {a : Int} (h : attrB a = true) {i : Nat} (hi : i < 5) : (decide (IntKind.wrap .i64 ((BitVec.ofInt 64 a &&& BitVec.ofInt 64 (mark (nsL.getD i 0))).toNat : Int) ≠ 0)) = hasB a (msL.getD i 0) := by
  obtain ⟨q, rfl, hq⟩ := attr_of h
  exact and_key i hi q hq
theorem elemsZW_out {xs : List Int} {L : Ts} {B : Bs} {m : Ms} {k : List (List V) → Prop} (hk : k (ints xs)) : elemsZW 1 L B m (outV xs) k := by
  cases xs <;> exact hk
theorem ints_app {xs ys : List Int} : ints xs ++ ints ys = ints (xs ++ ys) := by simp [ints]
theorem mk_snoc {a : Int} {i : Nat} (h : hasB a (msL.getD i 0) = true) : ints (0 :: mk a i) ++ [[V.int .i64 (nsL.getD i 0)]] = ints (0 :: mk a (i + 1)) := by
  rw [mk, if_pos h]; simp [ints]
theorem mk_same {a : Int} {i : Nat} (h : hasB a (msL.getD i 0) = false) : mk a (i + 1) = mk a i := by rw [mk, if_neg (fun e => by rw [h] at e; cases e)]
section
variable {m : Ms} {s : Sty}
set_option maxRecDepth 20000 in
set_option maxHeartbeats 1000000 in
theorem params_ok (h : in64 s.attr) : RF ST 9 [.agg s.cells] m = some (outV (params s), m) := by
  refine RF_wp rfl v9 b9 ?_
  refine And.intro rfl (And.intro rfl ⟨rfl, ?_⟩)
  refine And.intro (Nat.le_of_ble_eq_true rfl) (And.intro rfl ?_)
  refine And.intro rfl (And.intro rfl ⟨_, _, clean_ok (s := s) h, ?_⟩)
  refine And.intro rfl (And.intro rfl ⟨⟨Nat.le_of_ble_eq_true rfl, rfl, rfl⟩, ?_⟩)
  refine And.intro ⟨rfl, Nat.le_of_ble_eq_true rfl, rfl⟩ ?_
  refine And.intro ⟨rfl, Nat.le_of_ble_eq_true rfl, rfl⟩ ?_
  refine And.intro ⟨rfl, Nat.le_of_ble_eq_true rfl, rfl⟩ ?_
  refine And.intro ⟨rfl, Nat.le_of_ble_eq_true rfl, rfl⟩ ?_
  refine And.intro ⟨rfl, Nat.le_of_ble_eq_true rfl, rfl⟩ ?_
  refine And.intro ⟨rfl, Nat.le_of_ble_eq_true rfl, rfl⟩ ?_
  have hr := right_clean s
  unfold params
  generalize clean s = c at *
  obtain ⟨hf, hb, hA⟩ := rightB_of.1 hr
  have hnf : RF ST 20 [.int .i64 c.fg, .int .i64 30, .int .i64 38] m = some (outV (nums c.fg 30), m) := numbers_ok hf (by decide) (by decide) rfl
  have hng : RF ST 20 [.int .i64 c.bg, .int .i64 40, .int .i64 48] m = some (outV (nums c.bg 40), m) := numbers_ok hb (by decide) (by decide) rfl
  have hFl := nums_len c.fg 30
  have hGl := nums_len c.bg 40
  have hM := mk_len c.attr 5
  generalize nums c.fg 30 = F at *
  generalize nums c.bg 40 = G at *
  have fin3 : ∀ F G : List Int, V.slice true 1 ((ints (0 :: mk c.attr 5) ++ ints F) ++ ints G) = outV (0 :: (mk c.attr 5 ++ F ++ G)) := fun F G => by
    rw [ints_app, ints_app]; rfl
  refine WP_loop (vars := v9) (bx := b9) (cuts := []) [0] (fun k L Bx m' => ∃ i : Nat, i + k = 5 ∧ L = [(1, .loc 0 0), (3, .slice true 1 (ints (0 :: mk c.attr i))), (9, .slice true 1 (ints nsL)), (10, .int .i64 5), (11, .int .i64 i)] ∧ Bx = [(0, c.cells)] ∧ m' = m) ?_ ?_
  · exact ⟨5, 0, rfl, rfl, rfl, rfl⟩
  · rintro k L Bx m' ⟨i, hi, rfl, rfl, rfl⟩
    have hml := mk_len c.attr i
    refine fun b hb' => ?_
    cases b <;> simp only [decide_eq_true_eq, decide_eq_false_iff_not] at hb'
    · have h5 : i = 5 := by omega
      subst h5
      refine ⟨_, rfl, rfl, ?_⟩
      refine And.intro rfl ⟨_, _, hnf, ?_⟩
      rcases F with _ | ⟨x, t⟩
      all_goals refine And.intro (by simp only [ints_len, List.length_cons, List.length_append, List.length_nil] at hFl hGl ⊢; unfold most; omega) ?_
      all_goals refine ⟨_, rfl, rfl, ?_⟩
      all_goals refine And.intro rfl ⟨_, _, hng, ?_⟩
      all_goals rcases G with _ | ⟨y, u⟩
      all_goals refine And.intro (by simp only [ints_len, List.length_cons, List.length_append, List.length_nil] at hFl hGl ⊢; unfold most; omega) ?_
      all_goals refine ⟨⟨rfl, Nat.le_refl _⟩, ?_, trim_same rfl⟩
      · exact fin3 [] []
      · exact fin3 [] (y :: u)
      · exact fin3 (x :: t) []
      · exact fin3 (x :: t) (y :: u)
    · have h5 : i < 5 := by omega
      obtain ⟨hx, hy, hx1, hx2, hy1, hy2⟩ := tab_key i h5
      have hand := and_has hA h5
      have hw1 : IntKind.wrap .i64 ((i : Int) + 1) = (i + 1 : Nat) := by rw [wrap64 (by omega) (by omega)]; omega
      refine And.intro ⟨Int.natCast_nonneg _, by rw [ints_len]; show (i : Int) < 5; omega⟩ ?_
      refine ⟨_, ints_get hx, _, rfl, ?_⟩
      refine ⟨_, rfl, rfl, ?_⟩
      refine And.intro rfl ⟨_, _, mark_ok, ?_⟩
      refine fun b h1 => ?_
      have h1 := hand.symm.trans h1
      cases b
      · exact ⟨k - 1, by omega, i + 1, by omega, cg2 (fun (z : List Int) (y : Int) => ([(1, .loc 0 0), (3, .slice true 1 (ints (0 :: z))), (9, .slice true 1 (ints nsL)), (10, .int .i64 5), (11, .int .i64 y)] : Ts)) (mk_same h1).symm hw1, rfl, rfl⟩
      · refine And.intro ⟨rfl, Nat.le_of_ble_eq_true rfl, rfl⟩ ?_
        refine And.intro (by rw [ints_len]; show (mk c.attr i).length + 1 + 1 ≤ most; unfold most; omega) ?_
        exact ⟨k - 1, by omega, i + 1, by omega, cg2 (fun (z : List (List V)) (y : Int) => ([(1, .loc 0 0), (3, .slice true 1 z), (9, .slice true 1 (ints nsL)), (10, .int .i64 5), (11, .int .i64 y)] : Ts)) (mk_snoc h1) hw1, rfl, rfl⟩
end
end Go.Proofs.YtfdaopnkbdfkmaaDoor.Am.Sgr

/-
The numbers that make a style, as the document has them.
-/
namespace Go.Proofs.YtfdaopnkbdfkmaaDoor.Am.Sgr
section
variable {m : Ms} {s : Sty}
set_option maxRecDepth 20000 in
set_option maxHeartbeats 2000000 in
theorem rparams_ok : RF ST 14 [.agg s.cells] m = some (outV (params s), m) := by
  refine RF_wp rfl v14 b14 ?_
  refine And.intro rfl (And.intro rfl ⟨rfl, ?_⟩)
  refine And.intro (Nat.le_of_ble_eq_true rfl) (And.intro rfl ?_)
  refine And.intro rfl (And.intro rfl ⟨_, _, rclean_ok (s := s), ?_⟩)
  refine And.intro rfl (And.intro rfl ⟨⟨Nat.le_of_ble_eq_true rfl, rfl, rfl⟩, ?_⟩)
  refine And.intro ⟨rfl, Nat.le_of_ble_eq_true rfl, rfl⟩ ?_
  refine And.intro rfl ⟨_, _, marks_ok, ?_⟩
  refine And.intro rfl (And.intro rfl (And.intro rfl ?_))
  have hr := right_clean s
  unfold params
  generalize clean s = c at *
  obtain ⟨hf, hb, hA⟩ := rightB_of.1 hr
  have hnf : RF ST 28 [.int .i64 c.fg, .int .i64 30] m = some (outV (nums c.fg 30), m) := rnumbers_ok hf (by decide) (by decide)
  have hng : RF ST 28 [.int .i64 c.bg, .int .i64 40] m = some (outV (nums c.bg 40), m) := rnumbers_ok hb (by decide) (by decide)
  have hFl := nums_len c.fg 30
  have hGl := nums_len c.bg 40
  have hM := mk_len c.attr 5
  generalize nums c.fg 30 = F at *
  generalize nums c.bg 40 = G at *
  refine WP_loop (vars := v14) (bx := b14) (cuts := []) [0] (fun k L Bx m' => ∃ i : Nat, i + k = 5 ∧ L = [(1, .loc 0 0), (3, .slice true 1 (ints (0 :: mk c.attr i))), (4, .slice false 1 (ints nsL)), (5, .slice false 1 (ints msL)), (6, .int .i64 i)] ∧ Bx = [(0, c.cells)] ∧ m = m') ?_ ?_
  · exact ⟨5, 0, rfl, rfl, rfl, rfl⟩
  rintro k L Bx m' ⟨i, hi, rfl, rfl, rfl⟩
  have hml := mk_len c.attr i
  refine fun b hb' => ?_
  rw [ints_len] at hb'
  cases b <;> simp only [decide_eq_true_eq, decide_eq_false_iff_not] at hb'
  rotate_left
  · have h5 : i < 5 := by simp only [nsL, List.length_cons, List.length_nil] at hb'; omega
    obtain ⟨hx, hy, hx1, hx2, hy1, hy2⟩ := tab_key i h5
    obtain ⟨ha1, ha2⟩ := attr_le hA
    have hw1 : IntKind.wrap .i64 ((i : Int) + 1) = (i + 1 : Nat) := by rw [wrap64 (by omega) (by omega)]; omega
    refine ⟨_, rfl, rfl, ?_⟩
    refine And.intro (Int.natCast_nonneg _) ⟨_, ints_get hy, _, rfl, ?_⟩
    cases h1 : hasB c.attr (msL.getD i 0) with
    | false =>
      refine And.intro rfl ⟨_, _, has_is ha1 ha2 hy1 h1, ?_⟩
      exact ⟨k - 1, by omega, i + 1, by omega, cg2 (fun (z : List Int) (y : Int) => ([(1, .loc 0 0), (3, .slice true 1 (ints (0 :: z))), (4, .slice false 1 (ints nsL)), (5, .slice false 1 (ints msL)), (6, .int .i64 y)] : Ts)) (mk_same h1).symm hw1, rfl, rfl⟩
    | true =>
      refine And.intro rfl ⟨_, _, has_is ha1 ha2 hy1 h1, ?_⟩
      refine And.intro (Int.natCast_nonneg _) ⟨_, ints_get hx, _, rfl, ?_⟩
      refine And.intro ⟨rfl, Nat.le_of_ble_eq_true rfl, rfl⟩ ?_
      refine And.intro (by rw [ints_len]; show (mk c.attr i).length + 1 + 1 ≤ most; unfold most; omega) ?_
      exact ⟨k - 1, by omega, i + 1, by omega, cg2 (fun (z : List (List V)) (y : Int) => ([(1, .loc 0 0), (3, .slice true 1 z), (4, .slice false 1 (ints nsL)), (5, .slice false 1 (ints msL)), (6, .int .i64 y)] : Ts)) (mk_snoc h1) hw1, rfl, rfl⟩
  have h5 : i = 5 := by simp only [nsL, List.length_cons, List.length_nil] at hb'; omega
  subst h5
  refine ⟨_, rfl, rfl, ?_⟩
  refine And.intro rfl ⟨_, _, hnf, ?_⟩
  cases F with
  | nil =>
    refine WP_loop (vars := v14) (bx := b14) (cuts := []) [0] (fun k L Bx m' => L = [(1, .loc 0 0), (3, .slice true 1 (ints (0 :: mk c.attr 5 ++ []))), (7, .nils), (8, .int .i64 0)] ∧ Bx = [(0, c.cells)] ∧ m = m') ?_ ?_
    · exact ⟨0, congrArg (fun z : List Int => ([(1, .loc 0 0), (3, .slice true 1 (ints z)), (7, .nils), (8, .int .i64 0)] : Ts)) (List.append_nil _).symm, rfl, rfl⟩
    rintro k L Bx m' ⟨rfl, rfl, rfl⟩
    refine fun b hb => ?_
    subst hb
    generalize hN : ([] : List Int) = F at *
    refine ⟨_, rfl, rfl, ?_⟩
    refine And.intro rfl ⟨_, _, hng, ?_⟩
    cases G with
    | nil =>
      refine WP_loop (vars := v14) (bx := b14) (cuts := []) [] (fun k L Bx m' => L = [(3, .slice true 1 (ints (0 :: (mk c.attr 5 ++ F) ++ []))), (9, .nils), (10, .int .i64 0)] ∧ Bx = [] ∧ m = m') ?_ ?_
      · exact ⟨0, congrArg (fun z : List Int => ([(3, .slice true 1 (ints z)), (9, .nils), (10, .int .i64 0)] : Ts)) (List.append_nil _).symm, rfl, rfl⟩
      rintro k L Bx m' ⟨rfl, rfl, rfl⟩
      refine fun b hb => ?_
      subst hb
      generalize hN : ([] : List Int) = G at *
      refine ⟨⟨rfl, Nat.le_refl _⟩, ?_, trim_same rfl⟩
      show V.slice true 1 (ints (0 :: (mk c.attr 5 ++ F ++ G))) = outV (0 :: (mk c.attr 5 ++ F ++ G))
      rfl
    | cons x t =>
      refine WP_loop (vars := v14) (bx := b14) (cuts := []) [] (fun k L Bx m' => ∃ i : Nat, i + k = (x :: t).length ∧ L = [(3, .slice true 1 (ints (0 :: (mk c.attr 5 ++ F) ++ (x :: t).take i))), (9, .slice false 1 (ints (x :: t))), (10, .int .i64 i)] ∧ Bx = [] ∧ m = m') ?_ ?_
      · exact ⟨(x :: t).length, 0, by omega, congrArg (fun z : List Int => ([(3, .slice true 1 (ints z)), (9, .slice false 1 (ints (x :: t))), (10, .int .i64 0)] : Ts)) (List.append_nil _).symm, rfl, rfl⟩
      rintro k L Bx m' ⟨i, hi, rfl, rfl, rfl⟩
      refine fun b hb => ?_
      rw [ints_len] at hb
      generalize hN : x :: t = G at *
      cases b <;> simp only [decide_eq_true_eq, decide_eq_false_iff_not] at hb
      rotate_left
      · have hlt : i < G.length := by omega
        have hx := List.getElem?_eq_getElem hlt
        have hw1 : IntKind.wrap .i64 ((i : Int) + 1) = (i + 1 : Nat) := by rw [wrap64 (by omega) (by omega)]; omega
        have hap : ints (0 :: (mk c.attr 5 ++ F) ++ G.take i) ++ [[V.int .i64 G[i]]] = ints (0 :: (mk c.attr 5 ++ F) ++ G.take (i + 1)) := by
          rw [List.take_add_one, hx]; simp only [ints, Option.toList_some, List.map_append, List.map_cons, List.map_nil, List.append_assoc, List.cons_append]
        refine And.intro (Int.natCast_nonneg _) ⟨_, ints_get hx, _, rfl, ?_⟩
        refine And.intro ⟨rfl, Nat.le_of_ble_eq_true rfl, rfl⟩ ?_
        refine And.intro (by rw [ints_len]; simp only [List.length_append, List.length_cons, List.length_take, List.length_nil, ints_len, List.length_set, List.length_replicate]; unfold most; omega) ?_
        exact ⟨k - 1, by omega, i + 1, by omega, cg2 (fun (z : List (List V)) (y : Int) => ([(3, .slice true 1 z), (9, .slice false 1 (ints G)), (10, .int .i64 y)] : Ts)) hap hw1, rfl, rfl⟩
      have hi' : i = G.length := by omega
      subst hi'
      rw [List.take_length] at *
      refine ⟨⟨rfl, Nat.le_refl _⟩, ?_, trim_same rfl⟩
      show V.slice true 1 (ints (0 :: (mk c.attr 5 ++ F ++ G))) = outV (0 :: (mk c.attr 5 ++ F ++ G))
      rfl
  | cons x t =>
    refine WP_loop (vars := v14) (bx := b14) (cuts := []) [0] (fun k L Bx m' => ∃ i : Nat, i + k = (x :: t).length ∧ L = [(1, .loc 0 0), (3, .slice true 1 (ints (0 :: mk c.attr 5 ++ (x :: t).take i))), (7, .slice false 1 (ints (x :: t))), (8, .int .i64 i)] ∧ Bx = [(0, c.cells)] ∧ m = m') ?_ ?_
    · exact ⟨(x :: t).length, 0, by omega, congrArg (fun z : List Int => ([(1, .loc 0 0), (3, .slice true 1 (ints z)), (7, .slice false 1 (ints (x :: t))), (8, .int .i64 0)] : Ts)) (List.append_nil _).symm, rfl, rfl⟩
    rintro k L Bx m' ⟨i, hi, rfl, rfl, rfl⟩
    refine fun b hb => ?_
    rw [ints_len] at hb
    generalize hN : x :: t = F at *
    cases b <;> simp only [decide_eq_true_eq, decide_eq_false_iff_not] at hb
    rotate_left
    · have hlt : i < F.length := by omega
      have hx := List.getElem?_eq_getElem hlt
      have hw1 : IntKind.wrap .i64 ((i : Int) + 1) = (i + 1 : Nat) := by rw [wrap64 (by omega) (by omega)]; omega
      have hap : ints (0 :: mk c.attr 5 ++ F.take i) ++ [[V.int .i64 F[i]]] = ints (0 :: mk c.attr 5 ++ F.take (i + 1)) := by
        rw [List.take_add_one, hx]; simp only [ints, Option.toList_some, List.map_append, List.map_cons, List.map_nil, List.append_assoc, List.cons_append]
      refine And.intro (Int.natCast_nonneg _) ⟨_, ints_get hx, _, rfl, ?_⟩
      refine And.intro ⟨rfl, Nat.le_of_ble_eq_true rfl, rfl⟩ ?_
      refine And.intro (by rw [ints_len]; simp only [List.length_append, List.length_cons, List.length_take, List.length_nil, ints_len, List.length_set, List.length_replicate]; unfold most; omega) ?_
      exact ⟨k - 1, by omega, i + 1, by omega, cg2 (fun (z : List (List V)) (y : Int) => ([(1, .loc 0 0), (3, .slice true 1 z), (7, .slice false 1 (ints F)), (8, .int .i64 y)] : Ts)) hap hw1, rfl, rfl⟩
    have hi' : i = F.length := by omega
    subst hi'
    rw [List.take_length] at *
    refine ⟨_, rfl, rfl, ?_⟩
    refine And.intro rfl ⟨_, _, hng, ?_⟩
    cases G with
    | nil =>
      refine WP_loop (vars := v14) (bx := b14) (cuts := []) [] (fun k L Bx m' => L = [(3, .slice true 1 (ints (0 :: (mk c.attr 5 ++ F) ++ []))), (9, .nils), (10, .int .i64 0)] ∧ Bx = [] ∧ m = m') ?_ ?_
      · exact ⟨0, congrArg (fun z : List Int => ([(3, .slice true 1 (ints z)), (9, .nils), (10, .int .i64 0)] : Ts)) (List.append_nil _).symm, rfl, rfl⟩
      rintro k L Bx m' ⟨rfl, rfl, rfl⟩
      refine fun b hb => ?_
      subst hb
      generalize hN : ([] : List Int) = G at *
      refine ⟨⟨rfl, Nat.le_refl _⟩, ?_, trim_same rfl⟩
      show V.slice true 1 (ints (0 :: (mk c.attr 5 ++ F ++ G))) = outV (0 :: (mk c.attr 5 ++ F ++ G))
      rfl
    | cons x t =>
      refine WP_loop (vars := v14) (bx := b14) (cuts := []) [] (fun k L Bx m' => ∃ i : Nat, i + k = (x :: t).length ∧ L = [(3, .slice true 1 (ints (0 :: (mk c.attr 5 ++ F) ++ (x :: t).take i))), (9, .slice false 1 (ints (x :: t))), (10, .int .i64 i)] ∧ Bx = [] ∧ m = m') ?_ ?_
      · exact ⟨(x :: t).length, 0, by omega, congrArg (fun z : List Int => ([(3, .slice true 1 (ints z)), (9, .slice false 1 (ints (x :: t))), (10, .int .i64 0)] : Ts)) (List.append_nil _).symm, rfl, rfl⟩
      rintro k L Bx m' ⟨i, hi, rfl, rfl, rfl⟩
      refine fun b hb => ?_
      rw [ints_len] at hb
      generalize hN : x :: t = G at *
      cases b <;> simp only [decide_eq_true_eq, decide_eq_false_iff_not] at hb
      rotate_left
      · have hlt : i < G.length := by omega
        have hx := List.getElem?_eq_getElem hlt
        have hw1 : IntKind.wrap .i64 ((i : Int) + 1) = (i + 1 : Nat) := by rw [wrap64 (by omega) (by omega)]; omega
        have hap : ints (0 :: (mk c.attr 5 ++ F) ++ G.take i) ++ [[V.int .i64 G[i]]] = ints (0 :: (mk c.attr 5 ++ F) ++ G.take (i + 1)) := by
          rw [List.take_add_one, hx]; simp only [ints, Option.toList_some, List.map_append, List.map_cons, List.map_nil, List.append_assoc, List.cons_append]
        refine And.intro (Int.natCast_nonneg _) ⟨_, ints_get hx, _, rfl, ?_⟩
        refine And.intro ⟨rfl, Nat.le_of_ble_eq_true rfl, rfl⟩ ?_
        refine And.intro (by rw [ints_len]; simp only [List.length_append, List.length_cons, List.length_take, List.length_nil, ints_len, List.length_set, List.length_replicate]; unfold most; omega) ?_
        exact ⟨k - 1, by omega, i + 1, by omega, cg2 (fun (z : List (List V)) (y : Int) => ([(3, .slice true 1 z), (9, .slice false 1 (ints G)), (10, .int .i64 y)] : Ts)) hap hw1, rfl, rfl⟩
      have hi' : i = G.length := by omega
      subst hi'
      rw [List.take_length] at *
      refine ⟨⟨rfl, Nat.le_refl _⟩, ?_, trim_same rfl⟩
      show V.slice true 1 (ints (0 :: (mk c.attr 5 ++ F ++ G))) = outV (0 :: (mk c.attr 5 ++ F ++ G))
      rfl
end
end Go.Proofs.YtfdaopnkbdfkmaaDoor.Am.Sgr

/-
Apply, walked.
-/
namespace Go.Proofs.YtfdaopnkbdfkmaaDoor.Am.Sgr
section
variable {m : Ms} {s : Sty}
theorem last_get {x : List V} : (m ++ [x])[m.length]? = some x := by simp
theorem last_set {x y : List V} : (m ++ [x]).set m.length y = m ++ [y] := by simp
theorem clean_right {s : Sty} (h : rightB s = true) : clean s = s := by rw [clean, if_pos h]
theorem setL_fg {c : Sty} (o : Option Int) : setL (m ++ [c.cells]) m.length c.cells (0 + 0) o = m ++ [(setFg c o).cells] := by
  cases o with
  | none => rfl
  | some v => exact last_set
theorem setL_bg {c : Sty} (o : Option Int) : setL (m ++ [c.cells]) m.length c.cells (0 + 1) o = m ++ [(setBg c o).cells] := by
  cases o with
  | none => rfl
  | some v => exact last_set
theorem trim_last {r : V} {x : List V} (h : r.top2 = 0) : trim r m (m ++ [x]) = m := by
  unfold trim
  rw [h, if_pos (Nat.zero_le _)]
  simp
theorem ints_take {xs : List Int} {k : Nat} : (ints xs).take k = ints (xs.take k) := by simp [ints]
theorem ints_drop {xs : List Int} {k : Nat} : (ints xs).drop k = ints (xs.drop k) := by simp [ints]
set_option maxRecDepth 20000 in
set_option maxHeartbeats 1000000 in
theorem apply_nil (h : in64 s.attr) {v : V} (hv : IV v []) : RF ST 8 [.agg s.cells, v] m = some (.agg zero.cells, m) := by
  cases hv <;> refine RF_wp rfl v8 b8 ?_
  all_goals refine And.intro rfl (And.intro rfl ⟨rfl, ?_⟩)
  all_goals refine ⟨_, last_get, And.intro (Nat.le_of_ble_eq_true rfl) (And.intro rfl ?_)⟩
  all_goals refine And.intro rfl (And.intro rfl ⟨_, _, clean_ok (s := s) h, ?_⟩)
  all_goals refine And.intro rfl (And.intro rfl ⟨_, last_get, ⟨Nat.le_of_ble_eq_true rfl, rfl, rfl, Nat.zero_le _⟩, ?_⟩)
  all_goals refine fun c hc => ?_
  all_goals subst hc
  all_goals refine And.intro rfl (And.intro rfl ⟨⟨Nat.le_of_ble_eq_true rfl, rfl, rfl⟩, ?_⟩)
  all_goals refine ⟨Nat.le_of_ble_eq_true rfl, ⟨rfl, by simp⟩, rfl, ?_⟩
  all_goals exact (congrArg _ last_set).trans (trim_last rfl)
set_option maxRecDepth 20000 in
set_option maxHeartbeats 1000000 in
theorem apply_cons (h : in64 s.attr) {xs : List Int} (hx : xs ≠ []) (_hl : xs.length ≤ maxLen) : RF ST 8 [.agg s.cells, .slice false 1 (ints xs)] m = some (.agg (app (clean s) (xs.take 16)).cells, m) := by
  refine RF_wp rfl v8 b8 ?_
  refine And.intro rfl (And.intro rfl ⟨rfl, ?_⟩)
  refine ⟨_, last_get, And.intro (Nat.le_of_ble_eq_true rfl) (And.intro rfl ?_)⟩
  refine And.intro rfl (And.intro rfl ⟨_, _, clean_ok (s := s) h, ?_⟩)
  refine And.intro rfl (And.intro rfl ⟨_, last_get, ⟨Nat.le_of_ble_eq_true rfl, rfl, rfl, Nat.zero_le _⟩, ?_⟩)
  refine fun c hc => ?_
  have hpos : 0 < xs.length := List.length_pos_iff.2 hx
  have hc' : c = false := by rw [← hc, ints_len]; exact decide_eq_false (by omega)
  subst hc'
  have hmin : (min ((ints xs).length : Int) 16).toNat = min xs.length 16 := by rw [ints_len]; omega
  refine And.intro (by rw [ints_len]; omega) (And.intro ⟨Nat.zero_le _, by rw [hmin, ints_len]; omega⟩ ?_)
  have hys : (((ints xs).drop 0).take ((min ((ints xs).length : Int) 16).toNat - 0)) = ints (xs.take 16) := by
    rw [hmin, List.drop_zero, Nat.sub_zero, ints_take]
    congr 1
    rw [List.take_eq_take_iff]
    omega
  generalize hy : xs.take 16 = ys at *
  have hyl : ys.length ≤ 16 := by rw [← hy, List.length_take]; omega
  refine WP_loop (vars := v8) (bx := b8) (cuts := []) [0] (fun k L Bx m' => ∃ (i : Nat) (c : Sty), i + k = ys.length ∧ rightB c = true ∧ app c (ys.drop i) = app (clean s) ys ∧ L = [(1, .slice false 1 (ints ys)), (2, .ptr m.length 0), (4, .loc 0 0), (5, .int .i64 i)] ∧ Bx = [(0, cl 0 0 0)] ∧ m' = m ++ [c.cells]) ?_ ?_
  · exact ⟨ys.length, 0, clean s, by omega, right_clean s, rfl, congrArg (fun z : List (List V) => ([(1, .slice false 1 z), (2, .ptr m.length 0), (4, .loc 0 0), (5, .int .i64 0)] : Ts)) hys, rfl, last_set⟩
  · rintro k L Bx m' ⟨i, c, hi, hr, ha, rfl, rfl, rfl⟩
    refine fun b hb => ?_
    rw [ints_len] at hb
    cases b <;> simp only [decide_eq_true_eq, decide_eq_false_iff_not] at hb
    · have hd : ys.drop i = [] := List.drop_eq_nil_of_le (by omega)
      rw [hd, app_nil] at ha
      refine ⟨_, last_get, And.intro (Nat.le_of_ble_eq_true rfl) (And.intro rfl ?_)⟩
      refine And.intro rfl (And.intro rfl ⟨⟨Nat.le_of_ble_eq_true rfl, rfl, rfl⟩, ?_⟩)
      rw [← ha]
      exact ⟨Nat.le_of_ble_eq_true rfl, ⟨rfl, by simp⟩, rfl, trim_last rfl⟩
    · have hlt : i < ys.length := by omega
      have hn := List.getElem?_eq_getElem hlt
      have hd : ys.drop i = ys[i] :: ys.drop (i + 1) := List.drop_eq_getElem_cons hlt
      generalize ys[i] = n at *
      rw [hd] at ha
      have hw : IntKind.wrap .i64 ((i : Int) + 1) = (i + 1 : Nat) := by rw [wrap64 (by omega) (by omega)]; omega
      have hsl : ((ints ys).drop (IntKind.wrap .i64 ((i : Int) + 1)).toNat).take ((ints ys).length - (IntKind.wrap .i64 ((i : Int) + 1)).toNat) = ints (ys.drop (i + 1)) := by
        rw [hw, ints_len, ints_drop, ints_take, Int.toNat_natCast, List.take_of_length_le (by rw [List.length_drop]; omega)]
      have hl2 : (ys.drop (i + 1)).length ≤ maxLen := by rw [List.length_drop]; unfold maxLen; omega
      have hq := long_le (ys.drop (i + 1))
      rw [List.length_drop] at hq
      have hw2 : IntKind.wrap .i64 (IntKind.wrap .i64 ((i : Int) + (long (ys.drop (i + 1))).1) + 1) = (i + 1 + (long (ys.drop (i + 1))).1 : Nat) := by
        have e : IntKind.wrap .i64 ((i : Int) + (long (ys.drop (i + 1))).1) = (i + (long (ys.drop (i + 1))).1 : Nat) := by rw [wrap64 (by omega) (by omega)]; omega
        rw [e, wrap64 (by omega) (by omega)]; omega
      have hdd : (ys.drop (i + 1)).drop (long (ys.drop (i + 1))).1 = ys.drop (i + 1 + (long (ys.drop (i + 1))).1) := by rw [List.drop_drop]
      refine And.intro (Int.natCast_nonneg _) ⟨_, ints_get hn, _, rfl, ?_⟩
      refine fun b h1 => ?_
      cases b <;> simp only [decide_eq_true_eq, decide_eq_false_iff_not] at h1
      · refine fun b h2 => ?_
        cases b <;> simp only [decide_eq_true_eq, decide_eq_false_iff_not] at h2
        · refine ⟨_, last_get, And.intro (Nat.le_of_ble_eq_true rfl) (And.intro rfl ?_)⟩
          refine And.intro rfl (And.intro rfl ⟨_, _, one_ok (s := c) (rightB_of.1 hr).2.2, ?_⟩)
          refine And.intro rfl (And.intro rfl ⟨_, last_get, ⟨Nat.le_of_ble_eq_true rfl, rfl, rfl, Nat.zero_le _⟩, ?_⟩)
          exact ⟨k - 1, by omega, i + 1, one c n, by omega, right_one hr, (app_one h1 h2).symm.trans ha, congrArg (fun z : Int => ([(1, .slice false 1 (ints ys)), (2, .ptr m.length 0), (4, .loc 0 0), (5, .int .i64 z)] : Ts)) hw, rfl, last_set⟩
        · refine And.intro (by rw [hw]; omega) (And.intro ⟨by rw [hw, ints_len]; omega, Nat.le_refl _⟩ ?_)
          refine And.intro rfl ⟨_, _, (congrArg (fun z => RF ST 17 [.ptr m.length (0 + 1), .slice false 1 z] (m ++ [c.cells])) hsl).trans (long_ok (off := 0 + 1) hl2 last_get rfl), ?_⟩
          exact ⟨k - 1 - (long (ys.drop (i + 1))).1, by omega, i + 1 + (long (ys.drop (i + 1))).1, setBg c (long (ys.drop (i + 1))).2, by omega, right_bg hr, (congrArg (app _) hdd.symm).trans ((app_48 h2).symm.trans ha), congrArg (fun z : Int => ([(1, .slice false 1 (ints ys)), (2, .ptr m.length 0), (4, .loc 0 0), (5, .int .i64 z)] : Ts)) hw2, rfl, setL_bg _⟩
      · refine And.intro (by rw [hw]; omega) (And.intro ⟨by rw [hw, ints_len]; omega, Nat.le_refl _⟩ ?_)
        refine And.intro rfl ⟨_, _, (congrArg (fun z => RF ST 17 [.ptr m.length (0 + 0), .slice false 1 z] (m ++ [c.cells])) hsl).trans (long_ok (off := 0 + 0) hl2 last_get rfl), ?_⟩
        exact ⟨k - 1 - (long (ys.drop (i + 1))).1, by omega, i + 1 + (long (ys.drop (i + 1))).1, setFg c (long (ys.drop (i + 1))).2, by omega, right_fg hr, (congrArg (app _) hdd.symm).trans ((app_38 h1).symm.trans ha), congrArg (fun z : Int => ([(1, .slice false 1 (ints ys)), (2, .ptr m.length 0), (4, .loc 0 0), (5, .int .i64 z)] : Ts)) hw2, rfl, setL_fg _⟩
theorem apply_ok (h : in64 s.attr) {v : V} {xs : List Int} (hv : IV v xs) (hl : xs.length ≤ maxLen) : RF ST 8 [.agg s.cells, v] m = some (.agg (apply s xs).cells, m) := by
  by_cases hx : xs = []
  · subst hx
    rw [apply_nil h hv, apply, if_pos rfl]
  · cases hv with
    | nil => exact absurd rfl hx
    | sl => rw [apply_cons h hx hl, apply, if_neg hx]
end
end Go.Proofs.YtfdaopnkbdfkmaaDoor.Am.Sgr

/-
The document's Apply, walked.
-/
namespace Go.Proofs.YtfdaopnkbdfkmaaDoor.Am.Sgr
theorem long_other {r : List Int} (h5 : ¬ (2 ≤ r.length ∧ r.getD 0 0 = 5)) (h2 : ¬ (4 ≤ r.length ∧ r.getD 0 0 = 2)) : long r = (r.length, none) := by
  unfold long
  rw [if_pos]
  match r with
  | [] => exact .inl rfl
  | x :: t =>
    have e0 : (x :: t).getD 0 0 = x := rfl
    rw [e0, List.length_cons] at h5 h2
    by_cases q2 : x = 2
    · subst q2; right; show t.length + 1 ≤ 3; omega
    · by_cases q5 : x = 5
      · subst q5; right; show t.length + 1 ≤ 1; omega
      · left; simp [need, q2, q5]
section
variable {m : Ms} {s : Sty}
set_option maxRecDepth 20000 in
set_option maxHeartbeats 1000000 in
theorem rapply_nil {v : V} (hv : IV v []) : RF ST 10 [.agg s.cells, v] m = some (.agg zero.cells, m) := by
  cases hv <;> refine RF_wp rfl v10 b10 ?_
  all_goals refine And.intro rfl (And.intro rfl ⟨rfl, ?_⟩)
  all_goals refine And.intro (Nat.le_of_ble_eq_true rfl) (And.intro rfl ?_)
  all_goals refine And.intro rfl (And.intro rfl ⟨_, _, rclean_ok (s := s), ?_⟩)
  all_goals refine And.intro rfl (And.intro rfl ⟨⟨Nat.le_of_ble_eq_true rfl, rfl, rfl⟩, ?_⟩)
  all_goals refine fun c hc => ?_
  all_goals subst hc
  all_goals refine And.intro rfl (And.intro rfl ⟨⟨Nat.le_of_ble_eq_true rfl, rfl, rfl⟩, ?_⟩)
  all_goals exact ⟨Nat.le_of_ble_eq_true rfl, ⟨rfl, by simp⟩, rfl, trim_same rfl⟩
theorem ints_len0 : (ints []).length = 0 := rfl
theorem byteOf_is {n : Int} {b : Bool} (h : byteB n = b) : RF ST 23 [.int .i64 n] m = some (.bool b, m) := by rw [byteOf_ok, h]
set_option maxRecDepth 20000 in
set_option maxHeartbeats 4000000 in
theorem rapply_cons {xs : List Int} (hx : xs ≠ []) : RF ST 10 [.agg s.cells, .slice false 1 (ints xs)] m = some (.agg (app (clean s) (xs.take 16)).cells, m) := by
  refine RF_wp rfl v10 b10 ?_
  refine And.intro rfl (And.intro rfl ⟨rfl, ?_⟩)
  refine And.intro (Nat.le_of_ble_eq_true rfl) (And.intro rfl ?_)
  refine And.intro rfl (And.intro rfl ⟨_, _, rclean_ok (s := s), ?_⟩)
  refine And.intro rfl (And.intro rfl ⟨⟨Nat.le_of_ble_eq_true rfl, rfl, rfl⟩, ?_⟩)
  refine fun c hc => ?_
  have hpos : 0 < xs.length := List.length_pos_iff.2 hx
  have hc' : c = false := by rw [← hc, ints_len]; exact decide_eq_false (by omega)
  subst hc'
  have hyl : (xs.take 16).length ≤ 16 := by rw [List.length_take]; omega
  have hys : ((ints xs).drop 0).take (16 - 0) = ints (xs.take 16) := by rw [List.drop_zero, ints_take]
  have hyx : xs.length ≤ 16 → ints xs = ints (xs.take 16) := fun h => by rw [List.take_of_length_le h]
  generalize xs.take 16 = ys at *
  have hzs : ∃ zs, zs = ints ys := ⟨_, rfl⟩
  refine fun c hc => ?_
  rw [ints_len] at hc
  cases c <;> simp only [decide_eq_true_eq, decide_eq_false_iff_not] at hc
  all_goals (try refine And.intro (by decide) (And.intro ⟨Nat.zero_le _, by rw [ints_len]; show 16 ≤ _; omega⟩ ?_))
  all_goals refine WP_loop (vars := v10) (bx := b10) (cuts := []) [0, 1] (fun k L Bx mm => ∃ (i : Nat) (c : Sty), i + k = ys.length ∧ rightB c = true ∧ app c (ys.drop i) = app (clean s) ys ∧ L = [(1, .slice false 1 (ints ys)), (2, .loc 0 0), (4, .loc 1 0), (5, .int .i64 i)] ∧ Bx = [(0, c.cells), (1, cl 0 0 0)] ∧ mm = m) ?_ ?_
  · exact ⟨ys.length, 0, clean s, by omega, right_clean s, rfl, congrArg (fun z : List (List V) => ([(1, .slice false 1 z), (2, .loc 0 0), (4, .loc 1 0), (5, .int .i64 0)] : Ts)) (hyx (by omega)), rfl, rfl⟩
  rotate_left
  · exact ⟨ys.length, 0, clean s, by omega, right_clean s, rfl, congrArg (fun z : List (List V) => ([(1, .slice false 1 z), (2, .loc 0 0), (4, .loc 1 0), (5, .int .i64 0)] : Ts)) hys, rfl, rfl⟩
  all_goals
    rintro k L Bx mm ⟨i, c, hi, hr, ha, rfl, rfl, rfl⟩
    refine fun b hb => ?_
    rw [ints_len] at hb
    cases b <;> simp only [decide_eq_true_eq, decide_eq_false_iff_not] at hb
    · have hd : ys.drop i = [] := List.drop_eq_nil_of_le (by omega)
      rw [hd, app_nil] at ha
      refine And.intro (Nat.le_of_ble_eq_true rfl) (And.intro rfl ?_)
      refine And.intro rfl (And.intro rfl ⟨⟨Nat.le_of_ble_eq_true rfl, rfl, rfl⟩, ?_⟩)
      rw [← ha]
      exact ⟨Nat.le_of_ble_eq_true rfl, ⟨rfl, by simp⟩, rfl, trim_same rfl⟩
    · have hlt : i < ys.length := by omega
      have hn := List.getElem?_eq_getElem hlt
      have hd : ys.drop i = ys[i] :: ys.drop (i + 1) := List.drop_eq_getElem_cons hlt
      generalize ys[i] = n at *
      rw [hd] at ha
      have hw : IntKind.wrap .i64 ((i : Int) + 1) = (i + 1 : Nat) := by rw [wrap64 (by omega) (by omega)]; omega
      have hsl : ((ints ys).drop (IntKind.wrap .i64 ((i : Int) + 1)).toNat).take ((ints ys).length - (IntKind.wrap .i64 ((i : Int) + 1)).toNat) = ints (ys.drop (i + 1)) := by
        rw [hw, ints_len, ints_drop, ints_take, Int.toNat_natCast, List.take_of_length_le (by rw [List.length_drop]; omega)]
      have hlr : (ys.drop (i + 1)).length + i + 1 = ys.length := by rw [List.length_drop]; omega
      have hdd : (ys.drop (i + 1)).drop (long (ys.drop (i + 1))).1 = ys.drop (i + 1 + (long (ys.drop (i + 1))).1) := by rw [List.drop_drop]
      have hq := long_le (ys.drop (i + 1))
      refine And.intro (Int.natCast_nonneg _) ⟨_, ints_get hn, _, rfl, ?_⟩
      refine fun b h1 => ?_
      cases b <;> simp only [decide_eq_true_eq, decide_eq_false_iff_not] at h1
      · have hn3 : n = 38 := by omega
        refine And.intro (by rw [hw]; omega) (And.intro ⟨by rw [hw, ints_len]; omega, Nat.le_refl _⟩ ?_)
        generalize ys.drop (i + 1) = r at *
        rw [hsl]
        by_cases q5 : ∃ v t, r = 5 :: v :: t
        · obtain ⟨v, t, rfl⟩ := q5
          rw [List.length_cons, List.length_cons] at hlr
          have hw2 : IntKind.wrap .i64 (IntKind.wrap .i64 ((i : Int) + 1) + 2) = (i + 1 + 2 : Nat) := by rw [hw, wrap64 (by omega) (by omega)]; omega
          cases hb1 : byteB v with
          | true =>
            have hv := byte_of hb1
            have hl : long (5 :: v :: t) = (2, some (v + 1)) := by rw [long1, if_pos (by simp [hb1])]; simp [acc]
            rw [hl] at hdd
            have ew : IntKind.wrap .i64 (v + 1) = v + 1 := wrap64 (by omega) (by omega)
            have ha' := (congrArg (app _) hdd.symm).trans (((app_38 hn3).trans (by rw [hl])).symm.trans ha)
            have hr' := right_fg (r := 5 :: v :: t) hr
            rw [hl] at hr'
            repeat' first
              | (refine fun b h => ?_; cases b <;> simp only [decide_eq_true_eq, decide_eq_false_iff_not, ints_len, List.length_cons, ge_iff_le, not_true_eq_false , ew] at h <;> first | (exfalso; omega) | skip)
              | refine And.intro (by decide) ⟨_, rfl, _, rfl, ?_⟩
              | refine And.intro rfl ⟨_, _, byteOf_is hb1, ?_⟩
              | refine And.intro rfl ⟨⟨Nat.le_of_ble_eq_true rfl, rfl, rfl⟩, ?_⟩
              | refine And.intro (Nat.le_of_ble_eq_true rfl) ?_
              | refine And.intro rfl ?_
              | fail
            exact ⟨k - 1 - 2, by omega, i + 1 + 2, setFg c (some (v + 1)), by omega, hr', ha', congrArg (fun z : Int => ([(1, .slice false 1 (ints ys)), (2, .loc 0 0), (4, .loc 1 0), (5, .int .i64 z)] : Ts)) hw2, congrArg (fun z : Int => ([(0, (setFg c (some z)).cells), (1, cl 0 0 0)] : Bs)) ew, rfl⟩
          | false =>
            have hl : long (5 :: v :: t) = (2, none) := by rw [long1, if_neg (by simp [hb1])]
            rw [hl] at hdd
            have ha' := (congrArg (app _) hdd.symm).trans (((app_38 hn3).trans (by rw [hl])).symm.trans ha)
            repeat' first
              | (refine fun b h => ?_; cases b <;> simp only [decide_eq_true_eq, decide_eq_false_iff_not, ints_len, List.length_cons, ge_iff_le, not_true_eq_false ] at h <;> first | (exfalso; omega) | skip)
              | refine And.intro (by decide) ⟨_, rfl, _, rfl, ?_⟩
              | refine And.intro rfl ⟨_, _, byteOf_is hb1, ?_⟩
              | refine And.intro rfl ⟨⟨Nat.le_of_ble_eq_true rfl, rfl, rfl⟩, ?_⟩
              | refine And.intro (Nat.le_of_ble_eq_true rfl) ?_
              | refine And.intro rfl ?_
              | fail
            exact ⟨k - 1 - 2, by omega, i + 1 + 2, c, by omega, hr, ha', congrArg (fun z : Int => ([(1, .slice false 1 (ints ys)), (2, .loc 0 0), (4, .loc 1 0), (5, .int .i64 z)] : Ts)) hw2, rfl, rfl⟩
        · by_cases q2 : ∃ x y z t, r = 2 :: x :: y :: z :: t
          · obtain ⟨x, y, z, t, rfl⟩ := q2
            rw [List.length_cons, List.length_cons, List.length_cons, List.length_cons] at hlr
            have hw4 : IntKind.wrap .i64 (IntKind.wrap .i64 ((i : Int) + 1) + 4) = (i + 1 + 4 : Nat) := by rw [hw, wrap64 (by omega) (by omega)]; omega
            by_cases hb : byteB x = true ∧ byteB y = true ∧ byteB z = true
            · obtain ⟨hb1, hb2, hb3⟩ := hb
              have hx := byte_of hb1
              have hy := byte_of hb2
              have hz := byte_of hb3
              have hl : long (2 :: x :: y :: z :: t) = (4, some (16777216 + x * 65536 + y * 256 + z)) := by
                rw [long3, if_pos (by simp [hb1, hb2, hb3])]
                have : acc [x, y, z] 3 + 16777216 = 16777216 + x * 65536 + y * 256 + z := by simp [acc]; omega
                rw [this]
              rw [hl] at hdd
              have e1 : IntKind.wrap .i64 (x * 65536) = x * 65536 := wrap64 (by omega) (by omega)
              have e2 : IntKind.wrap .i64 (16777216 + x * 65536) = 16777216 + x * 65536 := wrap64 (by omega) (by omega)
              have e3 : IntKind.wrap .i64 (y * 256) = y * 256 := wrap64 (by omega) (by omega)
              have e4 : IntKind.wrap .i64 (16777216 + x * 65536 + y * 256) = 16777216 + x * 65536 + y * 256 := wrap64 (by omega) (by omega)
              have e5 : IntKind.wrap .i64 (16777216 + x * 65536 + y * 256 + z) = 16777216 + x * 65536 + y * 256 + z := wrap64 (by omega) (by omega)
              have ew : IntKind.wrap .i64 (IntKind.wrap .i64 (IntKind.wrap .i64 (16777216 + IntKind.wrap .i64 (x * 65536)) + IntKind.wrap .i64 (y * 256)) + z) = 16777216 + x * 65536 + y * 256 + z := by rw [e1, e2, e3, e4, e5]
              have ha' := (congrArg (app _) hdd.symm).trans (((app_38 hn3).trans (by rw [hl])).symm.trans ha)
              have hr' := right_fg (r := 2 :: x :: y :: z :: t) hr
              rw [hl] at hr'
              repeat' first
                | (refine fun b h => ?_; cases b <;> simp only [decide_eq_true_eq, decide_eq_false_iff_not, ints_len, List.length_cons, ge_iff_le, not_true_eq_false , ew] at h <;> first | (exfalso; omega) | skip)
                | refine And.intro (by decide) ⟨_, rfl, _, rfl, ?_⟩
                | refine And.intro rfl ⟨_, _, byteOf_is hb1, ?_⟩
                | refine And.intro rfl ⟨_, _, byteOf_is hb2, ?_⟩
                | refine And.intro rfl ⟨_, _, byteOf_is hb3, ?_⟩
                | refine And.intro rfl ⟨⟨Nat.le_of_ble_eq_true rfl, rfl, rfl⟩, ?_⟩
                | refine And.intro (Nat.le_of_ble_eq_true rfl) ?_
                | refine And.intro rfl ?_
                | fail
              exact ⟨k - 1 - 4, by omega, i + 1 + 4, setFg c (some (16777216 + x * 65536 + y * 256 + z)), by omega, hr', ha', congrArg (fun z : Int => ([(1, .slice false 1 (ints ys)), (2, .loc 0 0), (4, .loc 1 0), (5, .int .i64 z)] : Ts)) hw4, congrArg (fun z : Int => ([(0, (setFg c (some z)).cells), (1, cl 0 0 0)] : Bs)) ew, rfl⟩
            · have hl : long (2 :: x :: y :: z :: t) = (4, none) := by rw [long3, if_neg (by simpa using hb)]
              rw [hl] at hdd
              have ha' := (congrArg (app _) hdd.symm).trans (((app_38 hn3).trans (by rw [hl])).symm.trans ha)
              have hb' : ∃ b1 b2 b3, byteB x = b1 ∧ byteB y = b2 ∧ byteB z = b3 ∧ (b1 = false ∨ (b1 = true ∧ b2 = false) ∨ (b1 = true ∧ b2 = true ∧ b3 = false)) := by
                refine ⟨_, _, _, rfl, rfl, rfl, ?_⟩
                cases h1 : byteB x <;> cases h2 : byteB y <;> cases h3 : byteB z <;> simp_all
              obtain ⟨b1, b2, b3, hb1, hb2, hb3, hbb⟩ := hb'
              rcases hbb with rfl | ⟨rfl, rfl⟩ | ⟨rfl, rfl, rfl⟩
              all_goals repeat' first
                | (refine fun b h => ?_; cases b <;> simp only [decide_eq_true_eq, decide_eq_false_iff_not, ints_len, List.length_cons, ge_iff_le, not_true_eq_false ] at h <;> first | (exfalso; omega) | skip)
                | refine And.intro (by decide) ⟨_, rfl, _, rfl, ?_⟩
                | refine And.intro rfl ⟨_, _, byteOf_is hb1, ?_⟩
                | refine And.intro rfl ⟨_, _, byteOf_is hb2, ?_⟩
                | refine And.intro rfl ⟨_, _, byteOf_is hb3, ?_⟩
                | refine And.intro rfl ⟨⟨Nat.le_of_ble_eq_true rfl, rfl, rfl⟩, ?_⟩
                | refine And.intro (Nat.le_of_ble_eq_true rfl) ?_
                | refine And.intro rfl ?_
                | fail
              all_goals exact ⟨k - 1 - 4, by omega, i + 1 + 4, c, by omega, hr, ha', congrArg (fun z : Int => ([(1, .slice false 1 (ints ys)), (2, .loc 0 0), (4, .loc 1 0), (5, .int .i64 z)] : Ts)) hw4, rfl, rfl⟩
          · have H5 : ¬ (2 ≤ r.length ∧ r.getD 0 0 = 5) := fun h => by
              match r, h with
              | x :: v :: t, h => exact q5 ⟨v, t, by have : x = 5 := h.2; rw [this]⟩
            have H2 : ¬ (4 ≤ r.length ∧ r.getD 0 0 = 2) := fun h => by
              match r, h with
              | x :: a :: b :: c :: t, h => exact q2 ⟨a, b, c, t, by have : x = 2 := h.2; rw [this]⟩
              | [_], h => exact absurd h.1 (by simp)
              | [_, _], h => exact absurd h.1 (by simp)
              | [_, _, _], h => exact absurd h.1 (by simp)
            have hl := long_other H5 H2
            have hcc : c = app (clean s) ys := by
              rw [app_38 hn3, hl] at ha
              rw [← ha, List.drop_eq_nil_of_le (Nat.le_refl _)]; rfl
            clear hsl hdd hlr hl hq q5 q2
            cases r with
            | nil =>
              repeat' first
                | (refine fun b h => ?_; cases b <;> simp only [decide_eq_true_eq, decide_eq_false_iff_not, ints_len, List.length_cons, ge_iff_le, not_true_eq_false , List.length_nil] at h <;> first | (exfalso; omega) | skip)
                | refine And.intro (by decide) ⟨_, rfl, _, rfl, ?_⟩
                | refine And.intro rfl ⟨⟨Nat.le_of_ble_eq_true rfl, rfl, rfl⟩, ?_⟩
                | refine And.intro (Nat.le_of_ble_eq_true rfl) ?_
                | refine And.intro rfl ?_
                | fail
              all_goals exact ⟨⟨rfl, Nat.le_refl _⟩, congrArg (fun z => V.agg (Sty.cells z)) hcc, trim_same rfl⟩
            | cons x t =>
              have e0 : (x :: t).getD 0 0 = x := rfl
              rw [e0, List.length_cons] at H5 H2
              repeat' first
                | (refine fun b h => ?_; cases b <;> simp only [decide_eq_true_eq, decide_eq_false_iff_not, ints_len, List.length_cons, ge_iff_le, not_true_eq_false ] at h <;> first | (exfalso; omega) | skip)
                | refine And.intro (by decide) ⟨_, rfl, _, rfl, ?_⟩
                | refine And.intro rfl ⟨⟨Nat.le_of_ble_eq_true rfl, rfl, rfl⟩, ?_⟩
                | refine And.intro (Nat.le_of_ble_eq_true rfl) ?_
                | refine And.intro rfl ?_
                | fail
              all_goals exact ⟨⟨rfl, Nat.le_refl _⟩, congrArg (fun z => V.agg (Sty.cells z)) hcc, trim_same rfl⟩
      · refine fun b h2 => ?_
        cases b <;> simp only [decide_eq_true_eq, decide_eq_false_iff_not] at h2
        rotate_left
        · refine And.intro (Nat.le_of_ble_eq_true rfl) (And.intro rfl ?_)
          refine And.intro rfl (And.intro rfl ⟨_, _, rone_ok (s := c) (rightB_of.1 hr).2.2, ?_⟩)
          refine And.intro rfl (And.intro rfl ⟨⟨Nat.le_of_ble_eq_true rfl, rfl, rfl⟩, ?_⟩)
          exact ⟨k - 1, by omega, i + 1, one c n, by omega, right_one hr, (app_one h1 h2).symm.trans ha, congrArg (fun z : Int => ([(1, .slice false 1 (ints ys)), (2, .loc 0 0), (4, .loc 1 0), (5, .int .i64 z)] : Ts)) hw, rfl, rfl⟩
        have hn3 : n = 48 := by omega
        refine And.intro (by rw [hw]; omega) (And.intro ⟨by rw [hw, ints_len]; omega, Nat.le_refl _⟩ ?_)
        generalize ys.drop (i + 1) = r at *
        rw [hsl]
        by_cases q5 : ∃ v t, r = 5 :: v :: t
        · obtain ⟨v, t, rfl⟩ := q5
          rw [List.length_cons, List.length_cons] at hlr
          have hw2 : IntKind.wrap .i64 (IntKind.wrap .i64 ((i : Int) + 1) + 2) = (i + 1 + 2 : Nat) := by rw [hw, wrap64 (by omega) (by omega)]; omega
          cases hb1 : byteB v with
          | true =>
            have hv := byte_of hb1
            have hl : long (5 :: v :: t) = (2, some (v + 1)) := by rw [long1, if_pos (by simp [hb1])]; simp [acc]
            rw [hl] at hdd
            have ew : IntKind.wrap .i64 (v + 1) = v + 1 := wrap64 (by omega) (by omega)
            have ha' := (congrArg (app _) hdd.symm).trans (((app_48 hn3).trans (by rw [hl])).symm.trans ha)
            have hr' := right_bg (r := 5 :: v :: t) hr
            rw [hl] at hr'
            repeat' first
              | (refine fun b h => ?_; cases b <;> simp only [decide_eq_true_eq, decide_eq_false_iff_not, ints_len, List.length_cons, ge_iff_le, not_true_eq_false , ew] at h <;> first | (exfalso; omega) | skip)
              | refine And.intro (by decide) ⟨_, rfl, _, rfl, ?_⟩
              | refine And.intro rfl ⟨_, _, byteOf_is hb1, ?_⟩
              | refine And.intro rfl ⟨⟨Nat.le_of_ble_eq_true rfl, rfl, rfl⟩, ?_⟩
              | refine And.intro (Nat.le_of_ble_eq_true rfl) ?_
              | refine And.intro rfl ?_
              | fail
            exact ⟨k - 1 - 2, by omega, i + 1 + 2, setBg c (some (v + 1)), by omega, hr', ha', congrArg (fun z : Int => ([(1, .slice false 1 (ints ys)), (2, .loc 0 0), (4, .loc 1 0), (5, .int .i64 z)] : Ts)) hw2, congrArg (fun z : Int => ([(0, (setBg c (some z)).cells), (1, cl 0 0 0)] : Bs)) ew, rfl⟩
          | false =>
            have hl : long (5 :: v :: t) = (2, none) := by rw [long1, if_neg (by simp [hb1])]
            rw [hl] at hdd
            have ha' := (congrArg (app _) hdd.symm).trans (((app_48 hn3).trans (by rw [hl])).symm.trans ha)
            repeat' first
              | (refine fun b h => ?_; cases b <;> simp only [decide_eq_true_eq, decide_eq_false_iff_not, ints_len, List.length_cons, ge_iff_le, not_true_eq_false ] at h <;> first | (exfalso; omega) | skip)
              | refine And.intro (by decide) ⟨_, rfl, _, rfl, ?_⟩
              | refine And.intro rfl ⟨_, _, byteOf_is hb1, ?_⟩
              | refine And.intro rfl ⟨⟨Nat.le_of_ble_eq_true rfl, rfl, rfl⟩, ?_⟩
              | refine And.intro (Nat.le_of_ble_eq_true rfl) ?_
              | refine And.intro rfl ?_
              | fail
            exact ⟨k - 1 - 2, by omega, i + 1 + 2, c, by omega, hr, ha', congrArg (fun z : Int => ([(1, .slice false 1 (ints ys)), (2, .loc 0 0), (4, .loc 1 0), (5, .int .i64 z)] : Ts)) hw2, rfl, rfl⟩
        · by_cases q2 : ∃ x y z t, r = 2 :: x :: y :: z :: t
          · obtain ⟨x, y, z, t, rfl⟩ := q2
            rw [List.length_cons, List.length_cons, List.length_cons, List.length_cons] at hlr
            have hw4 : IntKind.wrap .i64 (IntKind.wrap .i64 ((i : Int) + 1) + 4) = (i + 1 + 4 : Nat) := by rw [hw, wrap64 (by omega) (by omega)]; omega
            by_cases hb : byteB x = true ∧ byteB y = true ∧ byteB z = true
            · obtain ⟨hb1, hb2, hb3⟩ := hb
              have hx := byte_of hb1
              have hy := byte_of hb2
              have hz := byte_of hb3
              have hl : long (2 :: x :: y :: z :: t) = (4, some (16777216 + x * 65536 + y * 256 + z)) := by
                rw [long3, if_pos (by simp [hb1, hb2, hb3])]
                have : acc [x, y, z] 3 + 16777216 = 16777216 + x * 65536 + y * 256 + z := by simp [acc]; omega
                rw [this]
              rw [hl] at hdd
              have e1 : IntKind.wrap .i64 (x * 65536) = x * 65536 := wrap64 (by omega) (by omega)
              have e2 : IntKind.wrap .i64 (16777216 + x * 65536) = 16777216 + x * 65536 := wrap64 (by omega) (by omega)
              have e3 : IntKind.wrap .i64 (y * 256) = y * 256 := wrap64 (by omega) (by omega)
              have e4 : IntKind.wrap .i64 (16777216 + x * 65536 + y * 256) = 16777216 + x * 65536 + y * 256 := wrap64 (by omega) (by omega)
              have e5 : IntKind.wrap .i64 (16777216 + x * 65536 + y * 256 + z) = 16777216 + x * 65536 + y * 256 + z := wrap64 (by omega) (by omega)
              have ew : IntKind.wrap .i64 (IntKind.wrap .i64 (IntKind.wrap .i64 (16777216 + IntKind.wrap .i64 (x * 65536)) + IntKind.wrap .i64 (y * 256)) + z) = 16777216 + x * 65536 + y * 256 + z := by rw [e1, e2, e3, e4, e5]
              have ha' := (congrArg (app _) hdd.symm).trans (((app_48 hn3).trans (by rw [hl])).symm.trans ha)
              have hr' := right_bg (r := 2 :: x :: y :: z :: t) hr
              rw [hl] at hr'
              repeat' first
                | (refine fun b h => ?_; cases b <;> simp only [decide_eq_true_eq, decide_eq_false_iff_not, ints_len, List.length_cons, ge_iff_le, not_true_eq_false , ew] at h <;> first | (exfalso; omega) | skip)
                | refine And.intro (by decide) ⟨_, rfl, _, rfl, ?_⟩
                | refine And.intro rfl ⟨_, _, byteOf_is hb1, ?_⟩
                | refine And.intro rfl ⟨_, _, byteOf_is hb2, ?_⟩
                | refine And.intro rfl ⟨_, _, byteOf_is hb3, ?_⟩
                | refine And.intro rfl ⟨⟨Nat.le_of_ble_eq_true rfl, rfl, rfl⟩, ?_⟩
                | refine And.intro (Nat.le_of_ble_eq_true rfl) ?_
                | refine And.intro rfl ?_
                | fail
              exact ⟨k - 1 - 4, by omega, i + 1 + 4, setBg c (some (16777216 + x * 65536 + y * 256 + z)), by omega, hr', ha', congrArg (fun z : Int => ([(1, .slice false 1 (ints ys)), (2, .loc 0 0), (4, .loc 1 0), (5, .int .i64 z)] : Ts)) hw4, congrArg (fun z : Int => ([(0, (setBg c (some z)).cells), (1, cl 0 0 0)] : Bs)) ew, rfl⟩
            · have hl : long (2 :: x :: y :: z :: t) = (4, none) := by rw [long3, if_neg (by simpa using hb)]
              rw [hl] at hdd
              have ha' := (congrArg (app _) hdd.symm).trans (((app_48 hn3).trans (by rw [hl])).symm.trans ha)
              have hb' : ∃ b1 b2 b3, byteB x = b1 ∧ byteB y = b2 ∧ byteB z = b3 ∧ (b1 = false ∨ (b1 = true ∧ b2 = false) ∨ (b1 = true ∧ b2 = true ∧ b3 = false)) := by
                refine ⟨_, _, _, rfl, rfl, rfl, ?_⟩
                cases h1 : byteB x <;> cases h2 : byteB y <;> cases h3 : byteB z <;> simp_all
              obtain ⟨b1, b2, b3, hb1, hb2, hb3, hbb⟩ := hb'
              rcases hbb with rfl | ⟨rfl, rfl⟩ | ⟨rfl, rfl, rfl⟩
              all_goals repeat' first
                | (refine fun b h => ?_; cases b <;> simp only [decide_eq_true_eq, decide_eq_false_iff_not, ints_len, List.length_cons, ge_iff_le, not_true_eq_false ] at h <;> first | (exfalso; omega) | skip)
                | refine And.intro (by decide) ⟨_, rfl, _, rfl, ?_⟩
                | refine And.intro rfl ⟨_, _, byteOf_is hb1, ?_⟩
                | refine And.intro rfl ⟨_, _, byteOf_is hb2, ?_⟩
                | refine And.intro rfl ⟨_, _, byteOf_is hb3, ?_⟩
                | refine And.intro rfl ⟨⟨Nat.le_of_ble_eq_true rfl, rfl, rfl⟩, ?_⟩
                | refine And.intro (Nat.le_of_ble_eq_true rfl) ?_
                | refine And.intro rfl ?_
                | fail
              all_goals exact ⟨k - 1 - 4, by omega, i + 1 + 4, c, by omega, hr, ha', congrArg (fun z : Int => ([(1, .slice false 1 (ints ys)), (2, .loc 0 0), (4, .loc 1 0), (5, .int .i64 z)] : Ts)) hw4, rfl, rfl⟩
          · have H5 : ¬ (2 ≤ r.length ∧ r.getD 0 0 = 5) := fun h => by
              match r, h with
              | x :: v :: t, h => exact q5 ⟨v, t, by have : x = 5 := h.2; rw [this]⟩
            have H2 : ¬ (4 ≤ r.length ∧ r.getD 0 0 = 2) := fun h => by
              match r, h with
              | x :: a :: b :: c :: t, h => exact q2 ⟨a, b, c, t, by have : x = 2 := h.2; rw [this]⟩
              | [_], h => exact absurd h.1 (by simp)
              | [_, _], h => exact absurd h.1 (by simp)
              | [_, _, _], h => exact absurd h.1 (by simp)
            have hl := long_other H5 H2
            have hcc : c = app (clean s) ys := by
              rw [app_48 hn3, hl] at ha
              rw [← ha, List.drop_eq_nil_of_le (Nat.le_refl _)]; rfl
            clear hsl hdd hlr hl hq q5 q2
            cases r with
            | nil =>
              repeat' first
                | (refine fun b h => ?_; cases b <;> simp only [decide_eq_true_eq, decide_eq_false_iff_not, ints_len, List.length_cons, ge_iff_le, not_true_eq_false , List.length_nil] at h <;> first | (exfalso; omega) | skip)
                | refine And.intro (by decide) ⟨_, rfl, _, rfl, ?_⟩
                | refine And.intro rfl ⟨⟨Nat.le_of_ble_eq_true rfl, rfl, rfl⟩, ?_⟩
                | refine And.intro (Nat.le_of_ble_eq_true rfl) ?_
                | refine And.intro rfl ?_
                | fail
              all_goals exact ⟨⟨rfl, Nat.le_refl _⟩, congrArg (fun z => V.agg (Sty.cells z)) hcc, trim_same rfl⟩
            | cons x t =>
              have e0 : (x :: t).getD 0 0 = x := rfl
              rw [e0, List.length_cons] at H5 H2
              repeat' first
                | (refine fun b h => ?_; cases b <;> simp only [decide_eq_true_eq, decide_eq_false_iff_not, ints_len, List.length_cons, ge_iff_le, not_true_eq_false ] at h <;> first | (exfalso; omega) | skip)
                | refine And.intro (by decide) ⟨_, rfl, _, rfl, ?_⟩
                | refine And.intro rfl ⟨⟨Nat.le_of_ble_eq_true rfl, rfl, rfl⟩, ?_⟩
                | refine And.intro (Nat.le_of_ble_eq_true rfl) ?_
                | refine And.intro rfl ?_
                | fail
              all_goals exact ⟨⟨rfl, Nat.le_refl _⟩, congrArg (fun z => V.agg (Sty.cells z)) hcc, trim_same rfl⟩
theorem rapply_ok {v : V} {xs : List Int} (hv : IV v xs) : RF ST 10 [.agg s.cells, v] m = some (.agg (apply s xs).cells, m) := by
  by_cases hx : xs = []
  · subst hx
    rw [rapply_nil hv, apply, if_pos rfl]
  · cases hv with
    | nil => exact absurd rfl hx
    | sl => rw [rapply_cons hx, apply, if_neg hx]
end
end Go.Proofs.YtfdaopnkbdfkmaaDoor.Am.Sgr

/-
The document's examples, for sgr; lists that are the same.
-/
namespace Go.Proofs.YtfdaopnkbdfkmaaDoor.Am.Sgr
theorem sty_eq {e f : Sty} : eqV (.plain [.int, .int, .int]) (.agg e.cells) (.agg f.cells) = some (decide (e = f)) := by
  obtain ⟨k, a, b⟩ := e
  obtain ⟨k', a', b'⟩ := f
  show some ((k == k') && ((a == a') && ((b == b') && true))) = _
  congr 1
  rw [Bool.eq_iff_iff]
  simp
theorem take_succ_eq {xs ys : List Int} {i : Nat} {x y : Int} (hx : xs[i]? = some x) (hy : ys[i]? = some y) (h : xs.take i = ys.take i) (e : x = y) : xs.take (i + 1) = ys.take (i + 1) := by
  rw [List.take_add_one, List.take_add_one, hx, hy, h, e]
section
variable {m : Ms}
set_option maxRecDepth 20000 in
theorem same_sl {xs ys : List Int} (hx : xs.length ≤ maxLen) : RF ST 13 [.slice false 1 (ints xs), .slice false 1 (ints ys)] m = some (.bool (decide (xs = ys)), m) := by
  refine RF_wp rfl v13 b13 ?_
  refine And.intro rfl ?_
  refine fun c hc => ?_
  rw [ints_len, ints_len] at hc
  cases c
  · simp only [decide_eq_false_iff_not, ne_eq, Decidable.not_not] at hc
    have hl : xs.length = ys.length := by omega
    refine WP_loop (vars := v13) (bx := b13) (cuts := []) [] (fun k L Bx m' => ∃ i : Nat, k + i = xs.length ∧ xs.take i = ys.take i ∧ L = [(0, .slice false 1 (ints xs)), (1, .slice false 1 (ints ys)), (5, .int .i64 i)] ∧ Bx = [] ∧ m' = m) ?_ ?_
    · exact ⟨xs.length, 0, rfl, rfl, rfl, rfl, rfl⟩
    · rintro k L Bx m' ⟨i, hi, ht, rfl, rfl, rfl⟩
      refine fun c hc => ?_
      rw [ints_len] at hc
      cases c
      · simp only [decide_eq_false_iff_not] at hc
        have he : xs = ys := by
          rwa [List.take_of_length_le (by omega), List.take_of_length_le (by omega)] at ht
        rw [decide_eq_true he]
        exact ⟨⟨rfl, by simp⟩, rfl, trim_same rfl⟩
      · simp only [decide_eq_true_eq] at hc
        have hxi := List.getElem?_eq_getElem (show i < xs.length from by omega)
        have hyi := List.getElem?_eq_getElem (show i < ys.length from by omega)
        refine And.intro (Int.natCast_nonneg _) ⟨_, ints_get hxi, _, rfl, ?_⟩
        refine And.intro (Int.natCast_nonneg _) ⟨_, ints_get hyi, _, rfl, ?_⟩
        refine fun c hc2 => ?_
        cases c
        · simp only [decide_eq_false_iff_not, ne_eq, Decidable.not_not] at hc2
          refine ⟨k - 1, by omega, i + 1, by omega, take_succ_eq hxi hyi ht hc2, ?_, rfl, rfl⟩
          have := wrap64 (n := (i : Int) + 1) (by omega) (by unfold maxLen at hx; omega)
          show [(0, V.slice false 1 (ints xs)), (1, V.slice false 1 (ints ys)), (5, V.int .i64 (IntKind.wrap .i64 ((i : Int) + 1)))] = _
          rw [this]; rfl
        · simp only [decide_eq_true_eq] at hc2
          have hne : xs ≠ ys := fun e => by
            subst e
            rw [hxi] at hyi
            exact hc2 rfl
          rw [decide_eq_false hne]
          exact ⟨⟨rfl, by simp⟩, rfl, trim_same rfl⟩
  · simp only [decide_eq_true_eq] at hc
    have hne : xs ≠ ys := fun e => hc (by rw [e])
    rw [decide_eq_false hne]
    exact ⟨⟨rfl, by simp⟩, rfl, trim_same rfl⟩
theorem same_ns {ys : List Int} : RF ST 13 [.nils, .slice false 1 (ints ys)] m = some (.bool (decide (([] : List Int) = ys)), m) := by
  refine RF_wp rfl v13 b13 ?_
  refine And.intro rfl ?_
  refine fun c hc => ?_
  rw [ints_len] at hc
  cases c
  · simp only [decide_eq_false_iff_not, ne_eq, Decidable.not_not] at hc
    have hy : ys = [] := List.length_eq_zero_iff.1 (by simp only [List.length_nil] at hc; omega)
    subst hy
    refine WP_loop (vars := v13) (bx := b13) (cuts := []) [] (fun k L Bx m' => L = [(0, .nils), (1, .slice false 1 (ints [])), (5, .int .i64 0)] ∧ Bx = [] ∧ m' = m) ?_ ?_
    · exact ⟨0, rfl, rfl, rfl⟩
    · rintro k L Bx m' ⟨rfl, rfl, rfl⟩
      refine fun c hc => ?_
      cases c
      · exact ⟨⟨rfl, by simp⟩, rfl, trim_same rfl⟩
      · exact absurd hc (by decide)
  · simp only [decide_eq_true_eq] at hc
    have hne : ([] : List Int) ≠ ys := fun e => hc (by rw [← e]; rfl)
    rw [decide_eq_false hne]
    exact ⟨⟨rfl, by simp⟩, rfl, trim_same rfl⟩
theorem same_sn {xs : List Int} : RF ST 13 [.slice false 1 (ints xs), .nils] m = some (.bool (decide (xs = [])), m) := by
  refine RF_wp rfl v13 b13 ?_
  refine And.intro rfl ?_
  refine fun c hc => ?_
  rw [ints_len] at hc
  cases c
  · simp only [decide_eq_false_iff_not, ne_eq, Decidable.not_not] at hc
    have hy : xs = [] := List.length_eq_zero_iff.1 (by simp only [List.length_nil] at hc; omega)
    subst hy
    refine WP_loop (vars := v13) (bx := b13) (cuts := []) [] (fun k L Bx m' => L = [(0, .slice false 1 (ints [])), (1, .nils), (5, .int .i64 0)] ∧ Bx = [] ∧ m' = m) ?_ ?_
    · exact ⟨0, rfl, rfl, rfl⟩
    · rintro k L Bx m' ⟨rfl, rfl, rfl⟩
      refine fun c hc => ?_
      cases c
      · exact ⟨⟨rfl, by simp⟩, rfl, trim_same rfl⟩
      · exact absurd hc (by decide)
  · simp only [decide_eq_true_eq] at hc
    have hne : xs ≠ [] := fun e => hc (by rw [e]; rfl)
    rw [decide_eq_false hne]
    exact ⟨⟨rfl, by simp⟩, rfl, trim_same rfl⟩
theorem same_nn : RF ST 13 [.nils, .nils] m = some (.bool true, m) := by
  refine RF_wp rfl v13 b13 ?_
  refine And.intro rfl ?_
  refine fun c hc => ?_
  cases c
  · refine WP_loop (vars := v13) (bx := b13) (cuts := []) [] (fun k L Bx m' => L = [(0, .nils), (1, .nils), (5, .int .i64 0)] ∧ Bx = [] ∧ m' = m) ?_ ?_
    · exact ⟨0, rfl, rfl, rfl⟩
    · rintro k L Bx m' ⟨rfl, rfl, rfl⟩
      refine fun c hc => ?_
      cases c
      · exact ⟨⟨rfl, by simp⟩, rfl, trim_same rfl⟩
      · exact absurd hc (by decide)
  · exact absurd hc (by decide)
theorem same_ok {a b : V} {xs ys : List Int} (ha : IV a xs) (hb : IV b ys) (hx : xs.length ≤ maxLen) : RF ST 13 [a, b] m = some (.bool (decide (xs = ys)), m) := by
  cases ha with
  | nil => cases hb with
    | nil => rw [same_nn]; rfl
    | sl => exact same_ns
  | sl => cases hb with
    | nil => exact same_sn
    | sl => exact same_sl hx


set_option maxRecDepth 20000 in
theorem between_same {s : Sty} (h : in64 s.attr) : RF ST 15 [.agg s.cells, .agg s.cells] m = some (.nils, m) := by
  refine RF_wp rfl v15 b15 ?_
  refine And.intro rfl (And.intro rfl ⟨rfl, And.intro rfl ⟨rfl, ?_⟩⟩)
  refine And.intro (Nat.le_of_ble_eq_true rfl) (And.intro rfl ?_)
  refine And.intro rfl (And.intro rfl ⟨_, _, clean_ok (s := s) h, ?_⟩)
  refine And.intro (Nat.le_of_ble_eq_true rfl) (And.intro rfl ?_)
  refine And.intro rfl (And.intro rfl ⟨_, _, clean_ok (s := s) h, ?_⟩)
  refine And.intro rfl (And.intro rfl ⟨_, sty_eq (e := clean s) (f := clean s), ?_⟩)
  refine fun c hc => ?_
  have hc' : c = true := by rw [← hc]; simp
  subst hc'
  exact ⟨⟨rfl, Nat.le_refl _⟩, rfl, trim_same rfl⟩
def sa : Sty := ⟨2, 0, 1⟩
theorem ap {xs : List Int} {t : Sty} (hl : xs.length ≤ maxLen) (h : apply zero xs = t) : RF ST 8 [.agg zero.cells, .slice false 1 (ints xs)] m = some (.agg t.cells, m) := by
  rw [apply_ok (s := zero) ⟨by decide, by decide⟩ (.sl xs) hl, h]
theorem ap1 : RF ST 8 [.agg zero.cells, .slice false 1 (ints [1, 31])] m = some (.agg sa.cells, m) := ap (by decide) (by decide +kernel)
theorem ap2 : RF ST 8 [.agg zero.cells, .slice false 1 (ints [38, 5, 200])] m = some (.agg (Sty.mk 201 0 0).cells, m) := ap (by decide) (by decide +kernel)
theorem ap3 : RF ST 8 [.agg zero.cells, .slice false 1 (ints [38, 2, 1, 2, 3])] m = some (.agg (Sty.mk 16843267 0 0).cells, m) := ap (by decide) (by decide +kernel)
theorem ap4 : RF ST 8 [.agg zero.cells, .slice false 1 (ints [38, 5, 300, 1])] m = some (.agg (Sty.mk 0 0 1).cells, m) := ap (by decide) (by decide +kernel)
theorem ap5 : RF ST 8 [.agg zero.cells, .slice false 1 (ints [38, 7, 1])] m = some (.agg zero.cells, m) := ap (by decide) (by decide +kernel)
theorem pa1 : RF ST 9 [.agg (Sty.mk 0 2 1).cells] m = some (outV [0, 1, 41], m) := by
  rw [params_ok (s := ⟨0, 2, 1⟩) ⟨by decide, by decide⟩, show params ⟨0, 2, 1⟩ = [0, 1, 41] from by decide +kernel]
theorem sm1 : RF ST 13 [.slice false 1 (ints [0, 1, 41]), .slice false 1 (ints [0, 1, 41])] m = some (.bool true, m) := by
  rw [same_ok (.sl _) (.sl _) (by decide)]; rfl
theorem ri1 : RF ST 11 [.agg sa.cells] m = some (.bool true, m) := right_is ⟨by decide, by decide⟩ (by decide)
theorem bt1 : RF ST 15 [.agg sa.cells, .agg sa.cells] m = some (.nils, m) := between_same ⟨by decide, by decide⟩
set_option maxRecDepth 20000 in
set_option maxHeartbeats 2000000 in
theorem alive_ok : RF ST 7 [] m = some (.bool true, m) := by
  refine RF_wp rfl v7 b7 ?_
  repeat' first
    | refine And.intro rfl ⟨_, _, ap1, ?_⟩
    | refine And.intro rfl ⟨_, _, ap2, ?_⟩
    | refine And.intro rfl ⟨_, _, ap3, ?_⟩
    | refine And.intro rfl ⟨_, _, ap4, ?_⟩
    | refine And.intro rfl ⟨_, _, ap5, ?_⟩
    | refine And.intro rfl ⟨_, _, pa1, ?_⟩
    | refine And.intro rfl ⟨_, _, sm1, ?_⟩
    | refine And.intro rfl ⟨_, _, ri1, ?_⟩
    | refine And.intro rfl ⟨_, _, bt1, ?_⟩
    | (refine fun c h => ?_; subst h)
    | refine And.intro rfl ?_
    | refine And.intro ⟨rfl, Nat.le_of_ble_eq_true rfl, rfl⟩ ?_
    | refine And.intro ⟨Nat.le_of_ble_eq_true rfl, rfl, rfl⟩ ?_
    | refine And.intro (Nat.le_of_ble_eq_true rfl) ?_
    | refine ⟨_, rfl, rfl, ?_⟩
    | refine ⟨true, rfl, ?_⟩
    | fail
  exact ⟨⟨rfl, Nat.le_refl _⟩, rfl, trim_same rfl⟩
end
end Go.Proofs.YtfdaopnkbdfkmaaDoor.Am.Sgr

/-
SgrPlays.
-/
namespace Go.Proofs.YtfdaopnkbdfkmaaDoor.Am.Sgr
theorem same_sty {A : Sty} : eqV (.plain [.int, .int, .int]) (.agg A.cells) (.agg A.cells) = some true := by rw [sty_eq]; simp
set_option maxRecDepth 20000 in
set_option maxHeartbeats 2000000 in
theorem sgrPlays_ok {s : Sty} (h : in64 s.attr) {a : V} {xs : List Int} (hv : IV a xs) (hl : xs.length ≤ maxLen) : RF ST 3 [.agg s.cells, a] [] = some (.bool true, []) := by
  have hA := apply_ok (m := []) h hv hl
  have hB := rapply_ok (m := []) (s := s) hv
  have hR := right_is (m := []) (attr64 (right_apply s xs)) (right_apply s xs)
  generalize apply s xs = A at *
  obtain ⟨r, hr⟩ : ∃ r, rightB s = r := ⟨_, rfl⟩
  have h1 := right_is (m := []) h hr
  have h2 := rright_is (m := []) hr
  have hP := params_ok (m := []) h
  have hQ := rparams_ok (m := []) (s := s)
  have hpl := params_len s
  unfold params at hP hQ hpl
  generalize mk (clean s).attr 5 ++ nums (clean s).fg 30 ++ nums (clean s).bg 40 = Q at *
  have hS : RF ST 13 [.slice false 1 (ints (0 :: Q)), .slice false 1 (ints (0 :: Q))] [] = some (.bool true, []) := by
    rw [same_ok (.sl _) (.sl _) (by unfold maxLen; omega)]; simp
  cases hv <;> refine RF_wp rfl v3 b3 ?_ <;> cases r
  all_goals repeat' first
    | refine And.intro rfl ⟨_, _, alive_ok, ?_⟩
    | refine And.intro rfl ⟨_, _, hA, ?_⟩
    | refine And.intro rfl ⟨_, _, hB, ?_⟩
    | refine And.intro rfl ⟨_, _, hR, ?_⟩
    | refine And.intro rfl ⟨_, _, h1, ?_⟩
    | refine And.intro rfl ⟨_, _, h2, ?_⟩
    | refine And.intro rfl ⟨_, _, hP, ?_⟩
    | refine And.intro rfl ⟨_, _, hQ, ?_⟩
    | refine And.intro rfl ⟨_, _, hS, ?_⟩
    | (refine fun c h => ?_; subst h)
    | refine And.intro rfl ?_
    | refine And.intro ⟨rfl, Nat.le_of_ble_eq_true rfl, rfl⟩ ?_
    | refine And.intro ⟨Nat.le_of_ble_eq_true rfl, rfl, rfl⟩ ?_
    | refine And.intro (Nat.le_of_ble_eq_true rfl) ?_
    | refine ⟨_, rfl, rfl, ?_⟩
    | refine ⟨true, same_sty (A := A), ?_⟩
    | fail
  all_goals exact ⟨⟨rfl, Nat.le_refl _⟩, rfl, trim_same rfl⟩
end Go.Proofs.YtfdaopnkbdfkmaaDoor.Am.Sgr

/-
What the laws' arguments are.
-/
namespace Go.Proofs.YtfdaopnkbdfkmaaDoor.Am.Sgr
theorem wf64 {n : Int} (h : (Lit.int .i64 n).wf = true) : in64 n := by
  simp [Lit.wf, IntKind.min, IntKind.max, IntKind.signed, IntKind.bits] at h
  exact ⟨by omega, by omega⟩
def isStr : Option TypeDesc → Bool
  | some (.struct _) => true
  | _ => false
theorem fits_sty {P : Program} {t : TypeId} (hi : isStr (P.underlying t) = true) (hl : leafs P 8 t = some [.int .i64, .int .i64, .int .i64]) {x : V} (h : FitsV P t x) : ∃ s : Sty, x = .agg s.cells ∧ in64 s.attr := by
  obtain ⟨fs, ht⟩ : ∃ fs, P.underlying t = some (.struct fs) := by
    unfold isStr at hi
    split at hi
    · exact ⟨_, by assumption⟩
    · cases hi
  unfold FitsV at h
  rw [ht] at h
  obtain ⟨cs, rfl, hf⟩ := h
  have h3 := fits_leafs hl hf
  have h4 : cs.length = 3 := h3.len
  match cs, h4 with
  | [x1, x2, x3], _ =>
    obtain ⟨h1, h2, h3, _⟩ := h3
    obtain ⟨a, rfl, _⟩ := h1
    obtain ⟨b, rfl, _⟩ := h2
    obtain ⟨c, rfl, hc⟩ := h3
    exact ⟨⟨a, b, c⟩, rfl, wf64 hc⟩
end Go.Proofs.YtfdaopnkbdfkmaaDoor.Am.Sgr

/-
A right style's numbers make it of any style.
-/
namespace Go.Proofs.YtfdaopnkbdfkmaaDoor.Am.Sgr
theorem app_append : ∀ {xs ys : List Int} {s : Sty}, (∀ x ∈ xs, x ≠ 38 ∧ x ≠ 48) → app s (xs ++ ys) = app (app s xs) ys
  | [], _, _, _ => rfl
  | x :: xs, ys, s, h => by
    have hx := h x (.head _)
    rw [List.cons_append, app_one hx.1 hx.2, app_one hx.1 hx.2, app_append fun y hy => h y (.tail _ hy)]
theorem mk_key : ∀ q < 32, app zero (mk (q : Nat) 5) = ⟨0, 0, q⟩ ∧ ∀ x ∈ mk (q : Nat) 5, x ≠ 38 ∧ x ≠ 48 := by decide +kernel
theorem app_fg {f b a : Int} {ys : List Int} (h : colB f = true) : app ⟨0, b, a⟩ (nums f 30 ++ ys) = app ⟨f, b, a⟩ ys := by
  have hc := col_of h
  unfold nums
  split
  · rename_i h0; subst h0; rfl
  · split
    · rw [List.cons_append, List.nil_append, app_one (by omega) (by omega), one, if_neg (by omega), if_pos (by omega)]
      rw [show 30 + f - 1 - 29 = f by omega]
    · split
      · rw [List.cons_append, List.cons_append, List.cons_append, List.nil_append, app_38 (by omega), long1, if_pos (by simp [byteB]; omega)]
        show app ⟨acc [f - 1] 1 + 1, b, a⟩ ys = _
        rw [show acc [f - 1] 1 + 1 = f from by simp [acc]]
      · simp only [List.cons_append, List.nil_append]
        rw [app_38 (by omega), long3, if_pos (by simp [byteB]; omega)]
        show app ⟨acc [(f - 16777216) / 65536, (f - 16777216) / 256 % 256, (f - 16777216) % 256] 3 + 16777216, b, a⟩ ys = _
        rw [show acc [(f - 16777216) / 65536, (f - 16777216) / 256 % 256, (f - 16777216) % 256] 3 + 16777216 = f from by simp [acc]; omega]
theorem app_bg {f b a : Int} {ys : List Int} (h : colB b = true) : app ⟨f, 0, a⟩ (nums b 40 ++ ys) = app ⟨f, b, a⟩ ys := by
  have hc := col_of h
  unfold nums
  split
  · rename_i h0; subst h0; rfl
  · split
    · rw [List.cons_append, List.nil_append, app_one (by omega) (by omega), one, if_neg (by omega), if_neg (by omega), if_neg (by omega), if_neg (by omega), if_pos (by omega)]
      rw [show 40 + b - 1 - 39 = b by omega]
    · split
      · rw [List.cons_append, List.cons_append, List.cons_append, List.nil_append, app_48 (by omega), long1, if_pos (by simp [byteB]; omega)]
        show app ⟨f, acc [b - 1] 1 + 1, a⟩ ys = _
        rw [show acc [b - 1] 1 + 1 = b from by simp [acc]]
      · simp only [List.cons_append, List.nil_append]
        rw [app_48 (by omega), long3, if_pos (by simp [byteB]; omega)]
        show app ⟨f, acc [(b - 16777216) / 65536, (b - 16777216) / 256 % 256, (b - 16777216) % 256] 3 + 16777216, a⟩ ys = _
        rw [show acc [(b - 16777216) / 65536, (b - 16777216) / 256 % 256, (b - 16777216) % 256] 3 + 16777216 = b from by simp [acc]; omega]
/-- WHAT SgrMakes SAYS. -/
theorem apply_params (a b : Sty) : apply a (params b) = clean b := by
  have hl := params_len b
  unfold apply
  rw [if_neg (by simp [params]), List.take_of_length_le hl]
  unfold params
  have hr := right_clean b
  generalize clean b = c at *
  obtain ⟨hf, hb, hA⟩ := rightB_of.1 hr
  obtain ⟨q, hq, hq2⟩ := attr_of hA
  obtain ⟨k1, k2⟩ := mk_key q hq2
  rw [app_one (by decide) (by decide), show one (clean a) 0 = zero from rfl, List.append_assoc, hq, app_append k2, k1, app_fg hf]
  have := app_bg (f := c.fg) (a := (q : Int)) (ys := []) hb
  rw [List.append_nil] at this
  rw [this, app_nil, ← hq]
end Go.Proofs.YtfdaopnkbdfkmaaDoor.Am.Sgr

/-
SgrSteps.
-/
namespace Go.Proofs.YtfdaopnkbdfkmaaDoor.Am.Sgr
def sh (xs : List Int) : Nat → List Int
  | 0 => []
  | i + 1 => if i < 16 ∧ xs.getD i 0 ≠ 38 ∧ xs.getD i 0 ≠ 48 then sh xs i ++ [xs.getD i 0] else sh xs i
theorem sh_len (xs : List Int) : ∀ i, (sh xs i).length ≤ min i 16
  | 0 => Nat.zero_le _
  | i + 1 => by
    have := sh_len xs i
    unfold sh; split
    · rw [List.length_append, List.length_singleton]; omega
    · omega
theorem sh_no (xs : List Int) : ∀ i, ∀ x ∈ sh xs i, x ≠ 38 ∧ x ≠ 48
  | 0 => fun x h => (nomatch h)
  | i + 1 => fun x h => by
    unfold sh at h
    split at h
    · rename_i hc
      rcases List.mem_append.1 h with h | h
      · exact sh_no xs i x h
      · rw [List.mem_singleton.1 h]; exact hc.2
    · exact sh_no xs i x h
/-- WHAT SgrSteps SAYS. -/
theorem apply_parts {s : Sty} {S : List Int} {p : Nat} (hl : S.length ≤ 16) (h0 : 0 < p) (h1 : p < S.length) (hn : ∀ x ∈ S, x ≠ 38 ∧ x ≠ 48) : apply (apply s (S.take p)) (S.drop p) = apply s S := by
  have e1 : apply s (S.take p) = app (clean s) (S.take p) := by
    unfold apply
    rw [if_neg (by intro e; have := congrArg List.length e; rw [List.length_take, List.length_nil] at this; omega), List.take_of_length_le (by rw [List.length_take]; omega)]
  have e2 : apply s S = app (clean s) S := by
    unfold apply
    rw [if_neg (by intro e; rw [e] at h1; simp at h1), List.take_of_length_le hl]
  have hr : rightB (app (clean s) (S.take p)) = true := right_app (right_clean s)
  rw [e1, e2]
  unfold apply
  rw [if_neg (by intro e; have := congrArg List.length e; rw [List.length_drop, List.length_nil] at this; omega), List.take_of_length_le (l := S.drop p) (by rw [List.length_drop]; omega), clean_right hr, ← app_append (fun x hx => hn x (List.mem_of_mem_take hx)), List.take_append_drop]
set_option maxRecDepth 20000 in
set_option maxHeartbeats 1000000 in
theorem sgrSteps_nil {s : Sty} {p : Int} : RF ST 5 [.agg s.cells, .nils, .int .i64 p] [] = some (.bool true, []) := by
  refine RF_wp rfl v5 b5 ?_
  refine And.intro rfl (And.intro rfl ⟨rfl, ?_⟩)
  refine And.intro rfl ⟨_, _, alive_ok, ?_⟩
  refine WP_loop (vars := v5) (bx := b5) (cuts := []) [0] (fun k L Bx m' => L = [(2, .int .i64 p), (3, .loc 0 0), (7, .slice true 1 []), (13, .nils), (14, .int .i64 0), (15, .int .i64 0)] ∧ Bx = [(0, s.cells)] ∧ [] = m') ?_ ?_
  · exact ⟨0, rfl, rfl, rfl⟩
  rintro k L Bx m' ⟨rfl, rfl, rfl⟩
  refine fun b hb => ?_
  subst hb
  refine fun b h1 => ?_
  cases b
  · refine fun b h2 => ?_
    have : b = true := by
      rw [← h2]
      simp only [decide_eq_false_iff_not] at h1
      exact decide_eq_true (by show p ≥ 0; omega)
    subst this
    exact ⟨⟨rfl, Nat.le_refl _⟩, rfl, trim_same rfl⟩
  · exact ⟨⟨rfl, Nat.le_refl _⟩, rfl, trim_same rfl⟩
set_option maxRecDepth 20000 in
set_option maxHeartbeats 2000000 in
theorem sgrSteps_sl {s : Sty} (h : in64 s.attr) {xs : List Int} (hl : xs.length ≤ maxLen) {p : Int} : RF ST 5 [.agg s.cells, .slice false 1 (ints xs), .int .i64 p] [] = some (.bool true, []) := by
  refine RF_wp rfl v5 b5 ?_
  refine And.intro rfl (And.intro rfl ⟨rfl, ?_⟩)
  refine And.intro rfl ⟨_, _, alive_ok, ?_⟩
  refine WP_loop (vars := v5) (bx := b5) (cuts := []) [0] (fun k L Bx m' => ∃ i : Nat, i + k = xs.length ∧ L = [(2, .int .i64 p), (3, .loc 0 0), (7, .slice true 1 (ints (sh xs i))), (13, .slice false 1 (ints xs)), (14, .int .i64 ((ints xs).length : Int)), (15, .int .i64 i)] ∧ Bx = [(0, s.cells)] ∧ [] = m') ?_ ?_
  · exact ⟨xs.length, 0, by omega, rfl, rfl, rfl⟩
  rintro k L Bx m' ⟨i, hi, rfl, rfl, rfl⟩
  have hsl := sh_len xs i
  have h16 : (sh xs i).length ≤ 16 := Nat.le_trans hsl (Nat.min_le_right _ _)
  have hm : (sh xs i).length + 1 ≤ most := by unfold most; omega
  refine fun b hb => ?_
  rw [ints_len] at hb
  cases b <;> simp only [decide_eq_true_eq, decide_eq_false_iff_not] at hb
  rotate_left
  · have hlt : i < xs.length := by omega
    have hx : xs[i]? = some (xs.getD i 0) := by rw [List.getD_eq_getElem?_getD, List.getElem?_eq_getElem hlt]; rfl
    have hw1 : IntKind.wrap .i64 ((i : Int) + 1) = (i + 1 : Nat) := by unfold maxLen at hl; rw [wrap64 (by omega) (by omega)]; omega
    have hs : sh xs (i + 1) = if i < 16 ∧ xs.getD i 0 ≠ 38 ∧ xs.getD i 0 ≠ 48 then sh xs i ++ [xs.getD i 0] else sh xs i := rfl
    generalize xs.getD i 0 = x at *
    have no : ¬ (i < 16 ∧ x ≠ 38 ∧ x ≠ 48) → ∃ n', n' < k ∧ ∃ j : Nat, j + n' = xs.length ∧ ([(2, .int .i64 p), (3, .loc 0 0), (7, .slice true 1 (ints (sh xs i))), (13, .slice false 1 (ints xs)), (14, .int .i64 ((ints xs).length : Int)), (15, .int .i64 (IntKind.wrap .i64 ((i : Int) + 1)))] : Ts) = [(2, .int .i64 p), (3, .loc 0 0), (7, .slice true 1 (ints (sh xs j))), (13, .slice false 1 (ints xs)), (14, .int .i64 ((ints xs).length : Int)), (15, .int .i64 j)] ∧ ([(0, s.cells)] : Bs) = [(0, s.cells)] ∧ ([] : Ms) = [] := fun hc => by
      rw [if_neg hc] at hs
      exact ⟨k - 1, by omega, i + 1, by omega, by rw [hs, hw1], rfl, rfl⟩
    refine And.intro (Int.natCast_nonneg _) ⟨_, ints_get hx, _, rfl, ?_⟩
    refine fun b h1 => ?_
    cases b <;> simp only [decide_eq_true_eq, decide_eq_false_iff_not] at h1
    · exact no (by omega)
    · refine fun b h2 => ?_
      cases b <;> simp only [decide_eq_true_eq, decide_eq_false_iff_not] at h2
      · exact no (by omega)
      · refine fun b h3 => ?_
        cases b <;> simp only [decide_eq_true_eq, decide_eq_false_iff_not] at h3
        · exact no (by omega)
        · refine And.intro ⟨rfl, Nat.le_of_ble_eq_true rfl, rfl⟩ ?_
          refine And.intro (by rw [ints_len]; exact hm) ?_
          rw [if_pos ⟨by omega, h2, h3⟩] at hs
          have hap : ints (sh xs i) ++ [[V.int .i64 x]] = ints (sh xs (i + 1)) := by rw [hs]; simp [ints]
          exact ⟨k - 1, by omega, i + 1, by omega, cg2 (fun (z : List (List V)) (y : Int) => ([(2, .int .i64 p), (3, .loc 0 0), (7, .slice true 1 z), (13, .slice false 1 (ints xs)), (14, .int .i64 ((ints xs).length : Int)), (15, .int .i64 y)] : Ts)) hap hw1, rfl, rfl⟩
  have hno := sh_no xs i
  generalize sh xs i = S at *
  have hS : S.length ≤ 16 := h16
  refine fun b h1 => ?_
  cases b <;> simp only [decide_eq_true_eq, decide_eq_false_iff_not] at h1
  · refine fun b h2 => ?_
    rw [ints_len] at h2
    cases b <;> simp only [decide_eq_true_eq, decide_eq_false_iff_not] at h2
    · obtain ⟨q, rfl⟩ := Int.eq_ofNat_of_zero_le (show 0 ≤ p by omega)
      have hq1 : 0 < q := by omega
      have hq2 : q < S.length := by omega
      have e1 : ((ints S).drop 0).take (((q : Nat) : Int).toNat - 0) = ints (S.take q) := by rw [List.drop_zero, Int.toNat_natCast, Nat.sub_zero, ints_take]
      have e2 : ((ints S).drop ((q : Nat) : Int).toNat).take ((ints S).length - ((q : Nat) : Int).toNat) = ints (S.drop q) := by
        rw [ints_len, ints_drop, ints_take, Int.toNat_natCast, List.take_of_length_le (by rw [List.length_drop]; omega)]
      have hA := apply_ok (m := []) h (.sl (S.take q)) (by rw [List.length_take]; unfold maxLen; omega)
      have hB := apply_ok (m := []) (attr64 (right_apply s (S.take q))) (.sl (S.drop q)) (by rw [List.length_drop]; unfold maxLen; omega)
      have hC := apply_ok (m := []) h (.sl S) (by unfold maxLen; omega)
      rw [apply_parts hS hq1 hq2 hno] at hB
      generalize apply s (S.take q) = A at *
      generalize apply s S = C at *
      rw [← e1] at hA
      rw [← e2] at hB
      refine And.intro (Nat.le_of_ble_eq_true rfl) (And.intro rfl ?_)
      refine And.intro (Int.natCast_nonneg _) (And.intro ⟨Nat.zero_le _, by rw [ints_len]; omega⟩ ?_)
      refine And.intro rfl (And.intro rfl ⟨_, _, hA, ?_⟩)
      refine And.intro (Int.natCast_nonneg _) (And.intro ⟨by rw [ints_len]; omega, Nat.le_refl _⟩ ?_)
      refine And.intro rfl (And.intro rfl ⟨_, _, hB, ?_⟩)
      refine And.intro (Nat.le_of_ble_eq_true rfl) (And.intro rfl ?_)
      refine And.intro rfl (And.intro rfl ⟨_, _, hC, ?_⟩)
      refine And.intro rfl (And.intro rfl ⟨true, same_sty (A := C), ?_⟩)
      refine fun b h3 => ?_
      subst h3
      exact ⟨⟨rfl, Nat.le_refl _⟩, rfl, trim_same rfl⟩
    · exact ⟨⟨rfl, Nat.le_refl _⟩, rfl, trim_same rfl⟩
  · exact ⟨⟨rfl, Nat.le_refl _⟩, rfl, trim_same rfl⟩
theorem sgrSteps_ok {s : Sty} (h : in64 s.attr) {a : V} {xs : List Int} (hv : IV a xs) (hl : xs.length ≤ maxLen) {p : Int} : RF ST 5 [.agg s.cells, a, .int .i64 p] [] = some (.bool true, []) := by
  cases hv with
  | nil => exact sgrSteps_nil
  | sl => exact sgrSteps_sl h hl
end Go.Proofs.YtfdaopnkbdfkmaaDoor.Am.Sgr

/-
SgrSteps answers true whatever its input; the input reads as it did.
-/
namespace Go.Proofs.YtfdaopnkbdfkmaaDoor
open Go.Proofs.YtfdaopnkbdfkmaaDoor.Am Go.Proofs.YtfdaopnkbdfkmaaDoor.Am.Sgr
open Go.ChangeShapes Go.WideShapes Go.ChangeAt Go.RowKit
namespace sgrSteps
theorem own : ownKnob Tryd.prog.godebug = none := by kernel_rfl
theorem laidB : laidOutB Tryd.prog = true := by kernel_rfl
theorem law (l : List V) (hl : l.length = Tryd.f5.params.toList.length) (h : ∀ (j : Nat) (t : TypeId), Tryd.f5.params.toList[j]? = some t → FitsV Tryd.prog t (l.getD j .undef)) : ∃ m', RF ST 5 l [] = some (.bool true, m') := by
  have hln : l.length = 3 := hl
  match l, hln with
  | [x0, x1, x2], _ =>
    have h0 := h 0 _ rfl
    have h1 := h 1 _ rfl
    have h2 := h 2 _ rfl
    have u24 : Tryd.prog.underlying 24 = some (.slice 3) := by kernel_rfl
    have u3 : Tryd.prog.underlying 3 = some (.int .i64) := by kernel_rfl
    obtain ⟨s, rfl, hs⟩ := fits_sty (by kernel_rfl) (by kernel_rfl) h0
    obtain ⟨a, ks, ha, hv, hlen, _⟩ := fits_ints u24 u3 (by kernel_rfl) (fitsV_leaf u24 h1 (fun _ e => by cases e) (fun _ _ e => by cases e))
    cases ha
    obtain ⟨p, hp, _⟩ := fits_int u3 (fitsV_leaf u3 h2 (fun _ e => by cases e) (fun _ _ e => by cases e))
    cases hp
    exact ⟨[], sgrSteps_ok hs hv hlen⟩

/-- A world for the witness: the settled one, the tables as their initialisers lay them. -/
noncomputable def laidWorld (os : Os) : World :=
  { World.holding Tryd.prog os ⟨#[], #[], []⟩ with heap := ((((World.holding Tryd.prog os ⟨#[], #[], []⟩).heap.modify 0 fun
      | .cells _ t frozen => .cells #[.int .u64 1, .int .u64 10, .int .u64 100, .int .u64 1000, .int .u64 10000, .int .u64 100000, .int .u64 1000000, .int .u64 10000000, .int .u64 100000000, .int .u64 1000000000, .int .u64 10000000000, .int .u64 100000000000, .int .u64 1000000000000, .int .u64 10000000000000, .int .u64 100000000000000, .int .u64 1000000000000000, .int .u64 10000000000000000, .int .u64 100000000000000000, .int .u64 1000000000000000000, .int .u64 10000000000000000000] t frozen
      | o => o).modify 1 fun
      | .cells _ t frozen => .cells #[.int .u8 0, .int .u8 1, .int .u8 28, .int .u8 2, .int .u8 29, .int .u8 14, .int .u8 24, .int .u8 3, .int .u8 30, .int .u8 22, .int .u8 20, .int .u8 15, .int .u8 25, .int .u8 17, .int .u8 4, .int .u8 8, .int .u8 31, .int .u8 27, .int .u8 13, .int .u8 23, .int .u8 21, .int .u8 19, .int .u8 16, .int .u8 7, .int .u8 26, .int .u8 12, .int .u8 18, .int .u8 6, .int .u8 11, .int .u8 5, .int .u8 10, .int .u8 9] t frozen
      | o => o).modify 2 fun
      | .cells _ t frozen => .cells #[.int .u8 0, .int .u8 1, .int .u8 56, .int .u8 2, .int .u8 57, .int .u8 49, .int .u8 28, .int .u8 3, .int .u8 61, .int .u8 58, .int .u8 42, .int .u8 50, .int .u8 38, .int .u8 29, .int .u8 17, .int .u8 4, .int .u8 62, .int .u8 47, .int .u8 59, .int .u8 36, .int .u8 45, .int .u8 43, .int .u8 51, .int .u8 22, .int .u8 53, .int .u8 39, .int .u8 33, .int .u8 30, .int .u8 24, .int .u8 18, .int .u8 12, .int .u8 5, .int .u8 63, .int .u8 55, .int .u8 48, .int .u8 27, .int .u8 60, .int .u8 41, .int .u8 37, .int .u8 16, .int .u8 46, .int .u8 35, .int .u8 44, .int .u8 21, .int .u8 52, .int .u8 32, .int .u8 23, .int .u8 11, .int .u8 54, .int .u8 26, .int .u8 40, .int .u8 15, .int .u8 34, .int .u8 20, .int .u8 31, .int .u8 10, .int .u8 25, .int .u8 14, .int .u8 19, .int .u8 9, .int .u8 13, .int .u8 8, .int .u8 7, .int .u8 6] t frozen
      | o => o) }
theorem laid_met (os : Os) : laidMet Tryd.prog Rows.sgrStepsRow.laid ((laidWorld os).forCall (fun _ _ => 0) ⟨#[], #[.agg #[.int .i64 0, .int .i64 0, .int .i64 0], .slice none 0 0, .int .i64 0], []⟩).memory :=
  laidMet_of_run' 8 (by kernel_rfl) (by kernel_rfl)
theorem reads (os : Os) {H : Type} (enc : TypeId × Value → H) : ∃ places, DataW.whole enc Tryd.prog ((laidWorld os).forCall (fun _ _ => 0) ⟨#[], #[.agg #[.int .i64 0, .int .i64 0, .int .i64 0], .slice none 0 0, .int .i64 0], []⟩).memory Tryd.f5.params.toList Rows.sgrStepsSpec.vars false (#[.agg #[.int .i64 0, .int .i64 0, .int .i64 0], .slice none 0 0, .int .i64 0] : Array Value).toList 8 = some ([.agg [.lit (.int .i64 0), .lit (.int .i64 0), .lit (.int .i64 0)], .nil, .lit (.int .i64 0)], [], places) :=
  ⟨[], by kernel_rfl⟩

set_option maxRecDepth 100000 in
theorem lifted (os : Os) (started : os.Started) (H : Type) (enc : TypeId × Value → H) (F : Stop.Interp) :
    ReturnsInHanded {} Tryd.checked os 5 .any ((OpenSpec.ofChange Rows.sgrStepsSpec).preRow enc Tryd.prog Tryd.f5 Rows.sgrStepsRow.domain false Rows.sgrStepsRow.laid) (((OpenSpec.ofChange Rows.sgrStepsSpec).at F).post enc Tryd.prog Tryd.f5 false true false false) := by
  obtain ⟨places, hx⟩ := reads os enc
  refine returnsInHanded_of_row (C := Tryd.checked) (s := OpenSpec.ofChange Rows.sgrStepsSpec) own started (by kernel_rfl) Tryd.func5
    (witness_row_at (enc := enc) (C := Tryd.checked) false (laidWorld os) #[.agg #[.int .i64 0, .int .i64 0, .int .i64 0], .slice none 0 0, .int .i64 0] rfl (by kernel_rfl) (by kernel_rfl) (by kernel_rfl)
      (OpenSpec.preRow_of_cond 8 hx (by kernel_rfl) (fun k hk => by cases hk) (by kernel_rfl) (laid_met os))) ?_
  intro W base args ds gs before hval hW _ _ _ _ _ _
  exact law_contract ST_ok (tb := 4) (d := 8) (by kernel_rfl) (by kernel_rfl) rfl
    (fun ds hd => by
      have hdn : ds.length = 3 := hd
      match ds, hdn with
      | [_, _, _], _ => rfl) laidB (by kernel_rfl) (by kernel_rfl) law hval hW

theorem said : Rows.SgrStepsSaid :=
  OpenClaim.holds_of_cond 5 Tryd.f5 rfl rfl rfl rfl rfl rfl rfl ⟨rfl, rfl, rfl, rfl, rfl⟩ rfl rfl rfl rfl rfl (by kernel_rfl) Tryd.func5 (by kernel_rfl)
    (of_decide_eq_true (by kernel_rfl)) (by unfold Func.isWrapper; first | (rw [if_pos (by decide +kernel)]; kernel_rfl) | (rw [if_neg (by decide +kernel)]; exact ⟨rfl, rfl⟩))
    (fun os started H enc _ F => by rw [OpenClaim.pre_eq_preRow]; exact lifted os started H enc F)

theorem nowant : (Tryd.f5.params.toList.all fun t => Tryd.prog.wantsStandIn t == false) = true := by kernel_rfl
theorem plain (f : FuncId) (fn : Func) (hf : Tryd.pinned.checked.prog.funcNamed "casement/casementlaw05.SgrSteps" = some f) (hfn : Tryd.pinned.checked.prog.funcs[f]? = some fn) :
    false = Tryd.pinned.checked.prog.looks [] ∧ ∀ (j : Nat) t, fn.params[j]? = some t → Tryd.pinned.checked.prog.wantsStandIn t = false := by
  obtain rfl : f = 5 := Option.some.inj ((show Tryd.prog.funcNamed "casement/casementlaw05.SgrSteps" = some 5 by kernel_rfl).symm.trans hf) |>.symm
  obtain rfl : fn = Tryd.f5 := (Option.some.inj (Tryd.func5.symm.trans hfn)).symm
  refine ⟨by kernel_rfl, fun j t ht => ?_⟩
  exact beq_iff_eq.1 (List.all_eq_true.1 nowant t (Array.mem_toList_iff.2 (Array.mem_of_getElem? ht)))

theorem holds : Rows.SgrStepsCardSaid :=
  Claim7.holds_tied_plain_at .later [] _ _ _ _ said (fun _ h => by cases h) (by kernel_rfl) (fun _ h => by cases h) sgrSteps_row_tie rfl ⟨rfl, rfl⟩ (by kernel_rfl) rfl plain (by kernel_rfl)
#print axioms holds
end sgrSteps
end Go.Proofs.YtfdaopnkbdfkmaaDoor
