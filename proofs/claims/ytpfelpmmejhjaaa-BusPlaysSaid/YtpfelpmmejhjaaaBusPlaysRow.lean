/-
BusPlays answers true whatever its input; the input reads as it did.
-/
import Derived.Test.YtpfelpmmejhjaaaAmBusPlaysRow3
import Derived.KernelRfl
import Derived.Test.YtpfelpmmejhjaaaRows
import Derived.WalkKit
import Derived.ProofKit
import Derived.OpenShut
import Derived.Handed
import Derived.JoinedOf
/-
What the bus's functions answer: publishing.
-/
namespace Go.Proofs.Ytpfelpmmejhjaaa.Am
def Slot.wants (s : Slot) (e : Ev) : Bool := decide (1 ≤ e.kind) && decide (e.kind ≤ 8) && s.kinds.getD e.kind.toNat false
def Slot.room (s : Slot) : Int := if s.evs.length < 16 then 1 else 0
def pubN (B : List Slot) (e : Ev) : Nat → List Slot × Int
  | 0 => (B, 0)
  | k + 1 => match opn (pubN B e k).1 k with
    | some s => if s.wants e then ((pubN B e k).1.set k (s.put e), (pubN B e k).2 + s.room) else pubN B e k
    | none => pubN B e k
theorem pubN_none {B : List Slot} {e : Ev} {k : Nat} (h : opn (pubN B e k).1 k = none) : pubN B e (k + 1) = pubN B e k := by rw [pubN, h]
theorem pubN_some {B : List Slot} {e : Ev} {k : Nat} {s : Slot} (h : opn (pubN B e k).1 k = some s) : pubN B e (k + 1) = if s.wants e then ((pubN B e k).1.set k (s.put e), (pubN B e k).2 + s.room) else pubN B e k := by rw [pubN, h]
structure WF (B : List Slot) : Prop where
  len : B.length = 5
  room : ∀ s ∈ B, s.evs.length ≤ 16
theorem Slot.put_evs (s : Slot) (e : Ev) (h : s.evs.length ≤ 16) : (s.put e).evs = if s.evs.length < 16 then s.evs ++ [e.cut] else s.evs := by
  unfold Slot.put
  by_cases h16 : s.evs.length = 16
  · rw [if_pos h16, if_neg (by omega)]; rfl
  · rw [if_neg h16, if_pos (by omega)]; rfl
theorem Slot.put_le (s : Slot) (e : Ev) (h : s.evs.length ≤ 16) : (s.put e).evs.length ≤ 16 := by
  rw [s.put_evs e h]; split
  · simp; omega
  · exact h
theorem WF.set {B : List Slot} (h : WF B) {n : Nat} {s : Slot} (hs : s.evs.length ≤ 16) : WF (B.set n s) :=
  ⟨by rw [List.length_set]; exact h.len, fun t ht => by
    rcases List.mem_or_eq_of_mem_set ht with h1 | rfl
    · exact h.room t h1
    · exact hs⟩
theorem WF.opn {B : List Slot} (h : WF B) {p : Int} {s : Slot} (hs : opn B p = some s) : s.evs.length ≤ 16 := by
  obtain ⟨n, _, _, _, h3, _⟩ := opn_some hs
  exact h.room s (List.mem_of_getElem? h3)
theorem WF.pubN {B : List Slot} (h : WF B) (e : Ev) : ∀ k, WF (pubN B e k).1
  | 0 => h
  | k + 1 => by
    have ih := h.pubN e k
    unfold Am.pubN
    cases ho : Am.opn (Am.pubN B e k).1 k with
    | none => exact ih
    | some s =>
      simp only
      split
      · exact ih.set (s.put_le e (ih.opn ho))
      · exact ih
theorem pubN_bound (B : List Slot) (e : Ev) : ∀ k, 0 ≤ (pubN B e k).2 ∧ (pubN B e k).2 ≤ k
  | 0 => ⟨Int.le_refl _, Int.le_refl _⟩
  | k + 1 => by
    have ih := pubN_bound B e k
    unfold pubN
    cases ho : opn (pubN B e k).1 k with
    | none => simp only; omega
    | some s =>
      simp only
      split
      · have : s.room = 0 ∨ s.room = 1 := by unfold Slot.room; split <;> simp
        simp only; omega
      · omega
theorem set_same {m : Ms} {b : Nat} {x : List V} (h : m[b]? = some x) : m.set b x = m := by
  obtain ⟨h1, h2⟩ := List.getElem?_eq_some_iff.1 h
  rw [← h2, List.set_getElem_self]
section
variable {m : Ms} {bb : Nat} {B : List Slot}
set_option maxRecDepth 20000 in
theorem publish_ok (hB : WF B) (hm : m[bb]? = some (busC B)) {e : Ev} : RF BT 11 [.ptr bb 0, .agg e.cells] m = some (.int .i64 (pubN B e 5).2, m.set bb (busC (pubN B e 5).1)) := by
  refine RF_wp rfl v11 b11 ?_
  refine And.intro rfl (And.intro rfl (And.intro rfl ?_))
  refine WP_loop (vars := v11) (bx := b11) (cuts := []) [0] (fun k L Bx m' => ∃ p : Nat, k + p = 5 ∧ L = [(0, .ptr bb 0), (3, .loc 0 0), (5, .int .i64 (pubN B e p).2), (8, .int .i64 p)] ∧ Bx = [(0, e.cells)] ∧ m' = m.set bb (busC (pubN B e p).1)) ?_ ?_
  · exact ⟨5, 0, rfl, rfl, rfl, (set_same hm).symm⟩
  · rintro k L Bx m' ⟨p, hp, rfl, rfl, rfl⟩
    have hm1 : (m.set bb (busC (pubN B e p).1))[bb]? = some (busC (pubN B e p).1) := get_set hm
    have hW := hB.pubN e p
    have hbd := pubN_bound B e p
    have fin : ∀ (q : List Slot × Int), pubN B e (p + 1) = q → p < 5 → ∃ n', n' < k ∧ ∃ p', n' + p' = 5 ∧
        [(0, V.ptr bb 0), (3, V.loc 0 0), (5, V.int .i64 q.2), (8, V.int .i64 (IntKind.wrap .i64 ((p : Int) + 1)))] = [(0, V.ptr bb 0), (3, V.loc 0 0), (5, V.int .i64 (pubN B e p').2), (8, V.int .i64 p')] ∧
        [(0, e.cells)] = [(0, e.cells)] ∧ m.set bb (busC q.1) = m.set bb (busC (pubN B e p').1) := fun q hq hlt => by
      refine ⟨k - 1, by omega, p + 1, by omega, ?_, rfl, by rw [hq]⟩
      rw [hq, wrap64 (by omega) (by omega)]; rfl
    refine fun c hc => ?_
    cases c
    · simp only [decide_eq_false_iff_not] at hc
      obtain rfl : p = 5 := by omega
      exact ⟨⟨rfl, by simp⟩, rfl, trim_same (by simp)⟩
    · simp only [decide_eq_true_eq] at hc
      have hlt : p < 5 := by omega
      cases ho : opn (pubN B e p).1 p with
      | none =>
        have hp1 : pubN B e (p + 1) = pubN B e p := by rw [pubN, ho]
        refine And.intro rfl ⟨_, _, at_none hW.len hm1 ho, ?_⟩
        exact fin _ hp1 hlt
      | some s =>
        obtain ⟨n, hn, hn1, hn4, hs, hop⟩ := opn_some ho
        obtain rfl : p = n := by omega
        refine And.intro rfl ⟨_, _, at_some hm1 ho, ?_⟩
        refine ⟨_, rfl, rfl, ?_⟩
        refine fun c hc1 => ?_
        cases c
        · simp only [decide_eq_false_iff_not] at hc1
          have hp1 : pubN B e (p + 1) = pubN B e p := by
            rw [pubN, ho]
            have : s.wants e = false := by unfold Slot.wants; rw [decide_eq_false (by omega)]; rfl
            simp [this]
          exact fin _ hp1 hlt
        · simp only [decide_eq_true_eq] at hc1
          refine ⟨_, rfl, rfl, ?_⟩
          refine fun c hc2 => ?_
          cases c
          · simp only [decide_eq_false_iff_not] at hc2
            have hp1 : pubN B e (p + 1) = pubN B e p := by
              rw [pubN, ho]
              have : s.wants e = false := by unfold Slot.wants; rw [decide_eq_false (p := e.kind ≤ 8) (by omega)]; simp
              simp [this]
            exact fin _ hp1 hlt
          · simp only [decide_eq_true_eq] at hc2
            refine ⟨_, rfl, rfl, ?_⟩
            refine And.intro (by omega) ?_
            have hg : (busC (pubN B e p).1)[(p : Int).toNat * 12 + 1 + e.kind.toNat * 1]? = some (.bool (s.kinds.getD e.kind.toNat false)) := by
              rw [show (p : Int).toNat * 12 + 1 + e.kind.toNat * 1 = p * 12 + (1 + e.kind.toNat) from by simp; omega, bus_get hs (by omega), s.getk (by omega)]
            cases hb : s.kinds.getD e.kind.toNat false with
            | false =>
              rw [hb] at hg
              have hp1 : pubN B e (p + 1) = pubN B e p := by
                rw [pubN, ho]
                have : s.wants e = false := by unfold Slot.wants; rw [hb]; simp
                simp [this]
              refine ⟨_, hm1, _, hg, rfl, ?_⟩
              exact fin _ hp1 hlt
            | true =>
              rw [hb] at hg
              have hw : s.wants e = true := by unfold Slot.wants; rw [hb, decide_eq_true (by omega), decide_eq_true (by omega)]; rfl
              have hp1 : pubN B e (p + 1) = ((pubN B e p).1.set p (s.put e), (pubN B e p).2 + s.room) := by
                rw [pubN, ho]; simp [hw]
              refine ⟨_, hm1, _, hg, rfl, ?_⟩
              refine And.intro (Nat.le_refl _) (And.intro rfl (And.intro rfl (And.intro rfl ⟨_, _, put_ok hm1 hs (hW.opn ho), ?_⟩)))
              have hf := fin _ hp1 hlt
              by_cases hr : s.evs.length < 16
              · rw [decide_eq_true hr]
                have hroom : s.room = 1 := by unfold Slot.room; rw [if_pos hr]
                rw [List.set_set]
                rw [hroom] at hf
                rw [← wrap64 (n := (pubN B e p).2 + 1) (by omega) (by omega)] at hf
                exact hf
              · rw [decide_eq_false hr]
                have hroom : s.room = 0 := by unfold Slot.room; rw [if_neg hr]
                rw [List.set_set]
                rw [hroom, Int.add_zero] at hf
                exact hf
end
end Go.Proofs.Ytpfelpmmejhjaaa.Am

/-
What the bus's functions answer: kinds, ready slots; lists of numbers that are the same.
-/
namespace Go.Proofs.Ytpfelpmmejhjaaa.Am
/-- A list of numbers that is made. -/
def outV : List Int → V
  | [] => .nils
  | x :: xs => .slice true 1 (ints (x :: xs))
theorem outV_share (xs : List Int) : IV (outV xs).share xs := by
  cases xs with
  | nil => exact .nil
  | cons x xs => exact .sl _
theorem take_succ_eq {xs ys : List Int} {i : Nat} {x y : Int} (hx : xs[i]? = some x) (hy : ys[i]? = some y) (h : xs.take i = ys.take i) (e : x = y) : xs.take (i + 1) = ys.take (i + 1) := by
  rw [List.take_add_one, List.take_add_one, hx, hy, h, e]
section
variable {m : Ms}
set_option maxRecDepth 20000 in
theorem same_sl {xs ys : List Int} (hx : xs.length ≤ maxLen) : RF BT 18 [.slice false 1 (ints xs), .slice false 1 (ints ys)] m = some (.bool (decide (xs = ys)), m) := by
  refine RF_wp rfl v18 b18 ?_
  refine And.intro rfl ?_
  refine fun c hc => ?_
  rw [ints_len, ints_len] at hc
  cases c
  · simp only [decide_eq_false_iff_not, ne_eq, Decidable.not_not] at hc
    have hl : xs.length = ys.length := by omega
    refine WP_loop (vars := v18) (bx := b18) (cuts := []) [] (fun k L Bx m' => ∃ i : Nat, k + i = xs.length ∧ xs.take i = ys.take i ∧ L = [(0, .slice false 1 (ints xs)), (1, .slice false 1 (ints ys)), (5, .int .i64 i)] ∧ Bx = [] ∧ m' = m) ?_ ?_
    · exact ⟨xs.length, 0, rfl, rfl, rfl, rfl, rfl⟩
    · rintro k L Bx m' ⟨i, hi, ht, rfl, rfl, rfl⟩
      refine fun c hc => ?_
      rw [ints_len] at hc
      cases c
      · simp only [decide_eq_false_iff_not] at hc
        have he : xs = ys := by
          rwa [List.take_of_length_le (by omega), List.take_of_length_le (by omega)] at ht
        rw [decide_eq_true he]
        exact ⟨⟨rfl, by simp⟩, rfl, trim_same rfl⟩
      · simp only [decide_eq_true_eq] at hc
        have hxi := List.getElem?_eq_getElem (show i < xs.length from by omega)
        have hyi := List.getElem?_eq_getElem (show i < ys.length from by omega)
        refine And.intro (Int.natCast_nonneg _) ⟨_, ints_get hxi, _, rfl, ?_⟩
        refine And.intro (Int.natCast_nonneg _) ⟨_, ints_get hyi, _, rfl, ?_⟩
        refine fun c hc2 => ?_
        cases c
        · simp only [decide_eq_false_iff_not, ne_eq, Decidable.not_not] at hc2
          refine ⟨k - 1, by omega, i + 1, by omega, take_succ_eq hxi hyi ht hc2, ?_, rfl, rfl⟩
          have := wrap64 (n := (i : Int) + 1) (by omega) (by unfold maxLen at hx; omega)
          show [(0, V.slice false 1 (ints xs)), (1, V.slice false 1 (ints ys)), (5, V.int .i64 (IntKind.wrap .i64 ((i : Int) + 1)))] = _
          rw [this]; rfl
        · simp only [decide_eq_true_eq] at hc2
          have hne : xs ≠ ys := fun e => by
            subst e
            rw [hxi] at hyi
            exact hc2 rfl
          rw [decide_eq_false hne]
          exact ⟨⟨rfl, by simp⟩, rfl, trim_same rfl⟩
  · simp only [decide_eq_true_eq] at hc
    have hne : xs ≠ ys := fun e => hc (by rw [e])
    rw [decide_eq_false hne]
    exact ⟨⟨rfl, by simp⟩, rfl, trim_same rfl⟩
theorem same_ns {ys : List Int} : RF BT 18 [.nils, .slice false 1 (ints ys)] m = some (.bool (decide (([] : List Int) = ys)), m) := by
  refine RF_wp rfl v18 b18 ?_
  refine And.intro rfl ?_
  refine fun c hc => ?_
  rw [ints_len] at hc
  cases c
  · simp only [decide_eq_false_iff_not, ne_eq, Decidable.not_not] at hc
    have hy : ys = [] := List.length_eq_zero_iff.1 (by simp only [List.length_nil] at hc; omega)
    subst hy
    refine WP_loop (vars := v18) (bx := b18) (cuts := []) [] (fun k L Bx m' => L = [(0, .nils), (1, .slice false 1 (ints [])), (5, .int .i64 0)] ∧ Bx = [] ∧ m' = m) ?_ ?_
    · exact ⟨0, rfl, rfl, rfl⟩
    · rintro k L Bx m' ⟨rfl, rfl, rfl⟩
      refine fun c hc => ?_
      cases c
      · exact ⟨⟨rfl, by simp⟩, rfl, trim_same rfl⟩
      · exact absurd hc (by decide)
  · simp only [decide_eq_true_eq] at hc
    have hne : ([] : List Int) ≠ ys := fun e => hc (by rw [← e]; rfl)
    rw [decide_eq_false hne]
    exact ⟨⟨rfl, by simp⟩, rfl, trim_same rfl⟩
theorem same_sn {xs : List Int} : RF BT 18 [.slice false 1 (ints xs), .nils] m = some (.bool (decide (xs = [])), m) := by
  refine RF_wp rfl v18 b18 ?_
  refine And.intro rfl ?_
  refine fun c hc => ?_
  rw [ints_len] at hc
  cases c
  · simp only [decide_eq_false_iff_not, ne_eq, Decidable.not_not] at hc
    have hy : xs = [] := List.length_eq_zero_iff.1 (by simp only [List.length_nil] at hc; omega)
    subst hy
    refine WP_loop (vars := v18) (bx := b18) (cuts := []) [] (fun k L Bx m' => L = [(0, .slice false 1 (ints [])), (1, .nils), (5, .int .i64 0)] ∧ Bx = [] ∧ m' = m) ?_ ?_
    · exact ⟨0, rfl, rfl, rfl⟩
    · rintro k L Bx m' ⟨rfl, rfl, rfl⟩
      refine fun c hc => ?_
      cases c
      · exact ⟨⟨rfl, by simp⟩, rfl, trim_same rfl⟩
      · exact absurd hc (by decide)
  · simp only [decide_eq_true_eq] at hc
    have hne : xs ≠ [] := fun e => hc (by rw [e]; rfl)
    rw [decide_eq_false hne]
    exact ⟨⟨rfl, by simp⟩, rfl, trim_same rfl⟩
theorem same_nn : RF BT 18 [.nils, .nils] m = some (.bool true, m) := by
  refine RF_wp rfl v18 b18 ?_
  refine And.intro rfl ?_
  refine fun c hc => ?_
  cases c
  · refine WP_loop (vars := v18) (bx := b18) (cuts := []) [] (fun k L Bx m' => L = [(0, .nils), (1, .nils), (5, .int .i64 0)] ∧ Bx = [] ∧ m' = m) ?_ ?_
    · exact ⟨0, rfl, rfl, rfl⟩
    · rintro k L Bx m' ⟨rfl, rfl, rfl⟩
      refine fun c hc => ?_
      cases c
      · exact ⟨⟨rfl, by simp⟩, rfl, trim_same rfl⟩
      · exact absurd hc (by decide)
  · exact absurd hc (by decide)
theorem same_ok {a b : V} {xs ys : List Int} (ha : IV a xs) (hb : IV b ys) (hx : xs.length ≤ maxLen) : RF BT 18 [a, b] m = some (.bool (decide (xs = ys)), m) := by
  cases ha with
  | nil => cases hb with
    | nil => rw [same_nn]; rfl
    | sl => exact same_ns
  | sl => cases hb with
    | nil => exact same_sn
    | sl => exact same_sl hx

def kindN (s : Slot) : Nat → List Int
  | 0 => []
  | k + 1 => if s.kinds.getD k false then kindN s k ++ [(k : Int)] else kindN s k
theorem kindN_len (s : Slot) : ∀ k, (kindN s k).length ≤ k
  | 0 => Nat.le_refl _
  | k + 1 => by
    have := kindN_len s k
    unfold kindN; split
    · simp; omega
    · omega
variable {bb : Nat} {B : List Slot} {p : Int}
theorem kinds_win {n : Nat} {s : Slot} (hs : B[n]? = some s) : ((busC B).drop ((n : Int).toNat * 12 + 1)).take 9 = s.kinds.map V.bool := by
  apply List.ext_getElem?
  intro i
  rw [List.getElem?_take, List.getElem?_drop]
  have hk := s.hk
  split
  · rename_i hi
    rw [show (n : Int).toNat * 12 + 1 + i = n * 12 + (1 + i) from by simp; omega, bus_get hs (by omega), s.getk hi]
    simp [List.getD_eq_getElem?_getD, List.getElem?_eq_getElem (show i < s.kinds.length from by omega)]
  · rename_i hi
    rw [List.getElem?_map, List.getElem?_eq_none (by omega)]; rfl
theorem bools_own {bs : List Bool} : (bs.map V.bool).any V.own0 = false := by
  rw [List.any_eq_false]
  intro x hx
  obtain ⟨b, _, rfl⟩ := List.mem_map.1 hx
  simp [V.own0]
theorem outV_ok (xs : List Int) : [outV xs].all V.ok1 = true := by cases xs <;> rfl
theorem outV_snoc (y : Int) (ys : List Int) (x : Int) : V.slice true 1 (ints (y :: ys) ++ [[V.int .i64 x]]) = outV (y :: ys ++ [x]) := by simp [outV, ints]
set_option maxRecDepth 20000 in
theorem kinds_ok {s : Slot} (hm : m[bb]? = some (busC B)) (h : opn B p = some s) : RF BT 19 [.ptr bb 0, .int .i64 p] m = some (outV (kindN s 9), m) := by
  obtain ⟨n, rfl, _, _, hs, h4⟩ := opn_some h
  refine RF_wp rfl v19 b19 ?_
  refine And.intro rfl (And.intro rfl ⟨_, _, at_some hm h, ?_⟩)
  have hlt := bus_lt hs
  refine ⟨_, hm, by show (n : Int).toNat * 12 + 1 + 9 ≤ _; simp; omega, ?_⟩
  rw [kinds_win hs]
  refine And.intro bools_own ?_
  refine WP_loop (vars := v19) (bx := b19) (cuts := []) [] (fun k L Bx m' => ∃ i : Nat, k + i = 9 ∧ L = [(5, outV (kindN s i)), (17, .agg (s.kinds.map V.bool)), (18, .int .i64 i)] ∧ Bx = [] ∧ m' = m) ?_ ?_
  · exact ⟨9, 0, rfl, rfl, rfl, rfl⟩
  · rintro k L Bx m' ⟨i, hi, rfl, rfl, rfl⟩
    refine fun c hc => ?_
    cases c
    · simp only [decide_eq_false_iff_not] at hc
      obtain rfl : i = 9 := by omega
      exact ⟨⟨outV_ok _, Nat.le_refl _⟩, rfl, trim_same rfl⟩
    · simp only [decide_eq_true_eq] at hc
      have hi9 : i < 9 := by omega
      have hk := s.hk
      have hget : (s.kinds.map V.bool)[(i : Int).toNat * 1]? = some (.bool (s.kinds.getD i false)) := by
        simp [List.getD_eq_getElem?_getD, List.getElem?_eq_getElem (show i < s.kinds.length from by omega)]
      refine And.intro bools_own (And.intro ⟨by omega, by omega, by rw [List.length_map]; omega⟩ ⟨_, hget, ?_⟩)
      have hw := wrap64 (n := (i : Int) + 1) (by omega) (by omega)
      have fin : ∀ v, v = outV (kindN s (i + 1)) → ∃ n', n' < k ∧ ∃ j : Nat, n' + j = 9 ∧ [(5, v), (17, V.agg (s.kinds.map V.bool)), (18, V.int .i64 (IntKind.wrap .i64 ((i : Int) + 1)))] = [(5, outV (kindN s j)), (17, .agg (s.kinds.map V.bool)), (18, .int .i64 j)] ∧ ([] : Bs) = [] ∧ m' = m' := fun v hv =>
        ⟨k - 1, by omega, i + 1, by omega, by rw [hv, hw]; rfl, rfl, rfl⟩
      have hlen := kindN_len s i
      cases hb : s.kinds.getD i false with
      | false => exact fin _ (by rw [kindN, hb]; rfl)
      | true =>
        have hkn : kindN s (i + 1) = kindN s i ++ [(i : Int)] := by rw [kindN, hb]; rfl
        cases hq : kindN s i with
        | nil =>
          rw [hq] at hkn
          refine And.intro ⟨rfl, by decide, rfl⟩ (And.intro (by show 1 ≤ most; decide) (And.intro (fun _ => ?_) (fun hh => (nomatch hh))))
          exact fin _ (by rw [hkn]; rfl)
        | cons y ys =>
          rw [hq] at hkn hlen
          refine And.intro ⟨rfl, by decide, rfl⟩ (And.intro (by rw [ints_len]; simp only [List.length_cons] at hlen; show (y :: ys).length + 1 ≤ most; unfold most; simp; omega) ?_)
          exact fin _ (by rw [hkn]; exact outV_snoc y ys i)
theorem kinds_none (hB : B.length = 5) (hm : m[bb]? = some (busC B)) (h : opn B p = none) : RF BT 19 [.ptr bb 0, .int .i64 p] m = some (.nils, m) := by
  refine RF_wp rfl v19 b19 ?_
  refine And.intro rfl (And.intro rfl ⟨_, _, at_none hB hm h, ?_⟩)
  exact ⟨⟨rfl, Nat.le_refl _⟩, rfl, trim_same rfl⟩

def lenOf (B : List Slot) (p : Int) : Nat := match opn B p with
  | some s => s.evs.length
  | none => 0
def dropOf (B : List Slot) (p : Int) : Int := match opn B p with
  | some s => s.dropped
  | none => 0
theorem len_ok (hB : B.length = 5) (hm : m[bb]? = some (busC B)) : RF BT 13 [.ptr bb 0, .int .i64 p] m = some (.int .i64 (lenOf B p), m) := by
  unfold lenOf
  cases h : opn B p with
  | none => exact len_none hB hm h
  | some s => exact len_some hm h
theorem dropped_ok (hB : B.length = 5) (hm : m[bb]? = some (busC B)) : RF BT 14 [.ptr bb 0, .int .i64 p] m = some (.int .i64 (dropOf B p), m) := by
  unfold dropOf
  cases h : opn B p with
  | none => exact dropped_none hB hm h
  | some s => exact dropped_some hm h
def readyN (B : List Slot) : Nat → List Int
  | 0 => []
  | k + 1 => if 0 < lenOf B k then readyN B k ++ [(k : Int)] else readyN B k
theorem readyN_len (B : List Slot) : ∀ k, (readyN B k).length ≤ k
  | 0 => Nat.le_refl _
  | k + 1 => by
    have := readyN_len B k
    unfold readyN; split
    · simp; omega
    · omega
set_option maxRecDepth 20000 in
theorem ready_ok (hB : B.length = 5) (hm : m[bb]? = some (busC B)) : RF BT 20 [.ptr bb 0] m = some (outV (readyN B 5), m) := by
  refine RF_wp rfl v20 b20 ?_
  refine And.intro rfl ?_
  refine WP_loop (vars := v20) (bx := b20) (cuts := []) [] (fun k L Bx m' => ∃ i : Nat, k + i = 5 ∧ L = [(0, .ptr bb 0), (3, outV (readyN B i)), (5, .int .i64 i)] ∧ Bx = [] ∧ m' = m) ?_ ?_
  · exact ⟨5, 0, rfl, rfl, rfl, rfl⟩
  · rintro k L Bx m' ⟨i, hi, rfl, rfl, rfl⟩
    refine fun c hc => ?_
    cases c
    · simp only [decide_eq_false_iff_not] at hc
      obtain rfl : i = 5 := by omega
      exact ⟨⟨outV_ok _, Nat.le_refl _⟩, rfl, trim_same rfl⟩
    · simp only [decide_eq_true_eq] at hc
      have hw := wrap64 (n := (i : Int) + 1) (by omega) (by omega)
      have fin : ∀ v, v = outV (readyN B (i + 1)) → ∃ n', n' < k ∧ ∃ j : Nat, n' + j = 5 ∧ [(0, V.ptr bb 0), (3, v), (5, V.int .i64 (IntKind.wrap .i64 ((i : Int) + 1)))] = [(0, .ptr bb 0), (3, outV (readyN B j)), (5, .int .i64 j)] ∧ ([] : Bs) = [] ∧ m' = m' := fun v hv =>
        ⟨k - 1, by omega, i + 1, by omega, by rw [hv, hw]; rfl, rfl, rfl⟩
      have hlen := readyN_len B i
      refine And.intro rfl ⟨_, _, len_ok hB hm, ?_⟩
      cases hq : readyN B i with
      | nil =>
        refine fun c hc2 => ?_
        cases c
        · simp only [decide_eq_false_iff_not] at hc2
          exact fin .nils (by rw [readyN, if_neg (by omega), hq]; rfl)
        · simp only [decide_eq_true_eq] at hc2
          refine And.intro ⟨rfl, by decide, rfl⟩ (And.intro (by show 1 ≤ most; decide) (And.intro (fun _ => ?_) (fun hh => (nomatch hh))))
          exact fin _ (by rw [readyN, if_pos (by omega), hq]; rfl)
      | cons y ys =>
        rw [hq] at hlen
        refine fun c hc2 => ?_
        cases c
        · simp only [decide_eq_false_iff_not] at hc2
          exact fin _ (by rw [readyN, if_neg (by omega), hq]; rfl)
        · simp only [decide_eq_true_eq] at hc2
          refine And.intro ⟨rfl, by decide, rfl⟩ (And.intro (by rw [ints_len]; simp only [List.length_cons] at hlen; show (y :: ys).length + 1 ≤ most; unfold most; simp; omega) ?_)
          exact fin _ (by rw [readyN, if_pos (by omega), hq]; exact outV_snoc y ys i)
end
end Go.Proofs.Ytpfelpmmejhjaaa.Am

/-
What the reference's functions answer: slots as records.
-/
namespace Go.Proofs.Ytpfelpmmejhjaaa.Am
inductive QV : V → List Ev → Prop
  | nil : QV .nils []
  | sl (es : List Ev) : QV (.slice false 4 (es.map Ev.cells)) es
structure RS where
  op : Bool
  kv : V
  kl : List Int
  hk : IV kv kl
  qv : V
  ql : List Ev
  hq : QV qv ql
  d : Int
def RS.cells (r : RS) : List V := [.bool r.op, r.kv, r.qv, .int .i64 r.d]
def zeroR : RS := ⟨false, .nils, [], .nil, .nils, [], .nil, 0⟩
def refV (Rs : List RS) : V := .agg [.slice false 4 (Rs.map RS.cells)]
section
variable {m : Ms} {Rs : List RS} {r : RS}
theorem new15 : RF BT 15 [] m = some (refV (List.replicate 4 zeroR), m) := by
  refine RF_wp rfl v15 b15 ?_
  refine And.intro rfl (And.intro ⟨by decide, by decide, by decide⟩ (And.intro ⟨rfl, by decide, rfl⟩ (And.intro rfl (And.intro ⟨Nat.le_refl _, rfl, rfl⟩ ?_))))
  exact ⟨Nat.le_refl _, ⟨rfl, Nat.le_refl _⟩, rfl, trim_same rfl⟩
theorem has_ok {v : V} {ks : List Int} {k : Int} (h : IV v ks) (hl : ks.length ≤ maxLen) : RF BT 31 [v, .int .i64 k] m = some (.bool (decide (k ∈ ks)), m) := by
  cases h with
  | nil =>
    refine RF_wp rfl v31 b31 ?_
    refine And.intro rfl ?_
    refine WP_loop (vars := v31) (bx := b31) (cuts := []) [] (fun n L Bx m' => L = [(0, .nils), (1, .int .i64 k), (5, .int .i64 0)] ∧ Bx = [] ∧ m' = m) ?_ ?_
    · exact ⟨0, rfl, rfl, rfl⟩
    · rintro n L Bx m' ⟨rfl, rfl, rfl⟩
      refine fun c hc => ?_
      cases c with
      | true => exact absurd hc (by decide)
      | false => exact ⟨⟨rfl, Nat.le_refl _⟩, rfl, trim_same rfl⟩
  | sl =>
    refine RF_wp rfl v31 b31 ?_
    refine And.intro rfl ?_
    refine WP_loop (vars := v31) (bx := b31) (cuts := []) [] (fun n L Bx m' => ∃ i : Nat, n + i = ks.length ∧ k ∉ ks.take i ∧ L = [(0, .slice false 1 (ints ks)), (1, .int .i64 k), (5, .int .i64 i)] ∧ Bx = [] ∧ m' = m) ?_ ?_
    · exact ⟨ks.length, 0, rfl, by simp, rfl, rfl, rfl⟩
    · rintro n L Bx m' ⟨i, hi, hn, rfl, rfl, rfl⟩
      refine fun c hc => ?_
      rw [ints_len] at hc
      cases c with
      | false =>
        simp only [decide_eq_false_iff_not] at hc
        rw [List.take_of_length_le (by omega)] at hn
        rw [decide_eq_false hn]
        exact ⟨⟨rfl, Nat.le_refl _⟩, rfl, trim_same rfl⟩
      | true =>
        simp only [decide_eq_true_eq] at hc
        have hg := List.getElem?_eq_getElem (show i < ks.length from by omega)
        refine And.intro (Int.natCast_nonneg _) ⟨_, ints_get hg, _, rfl, ?_⟩
        refine fun c hc2 => ?_
        cases c with
        | true =>
          simp only [decide_eq_true_eq] at hc2
          rw [decide_eq_true (show k ∈ ks from hc2 ▸ List.getElem_mem _)]
          exact ⟨⟨rfl, Nat.le_refl _⟩, rfl, trim_same rfl⟩
        | false =>
          simp only [decide_eq_false_iff_not] at hc2
          have hw := wrap64 (n := (i : Int) + 1) (by omega) (by unfold maxLen at hl; omega)
          refine ⟨n - 1, by omega, i + 1, by omega, ?_, ?_, rfl, rfl⟩
          · rw [List.take_add_one, hg]
            simp only [Option.toList_some, List.mem_append, List.mem_singleton, not_or]
            exact ⟨hn, fun e => hc2 e.symm⟩
          · show [(0, V.slice false 1 (ints ks)), (1, V.int .i64 k), (5, V.int .i64 (IntKind.wrap .i64 ((i : Int) + 1)))] = _
            rw [hw]; rfl
theorem is_out {p : Int} (hp : p < 1 ∨ 4 < p) : RF BT 30 [refV Rs, .int .i64 p] m = some (.bool false, m) := by
  refine RF_wp rfl v30 b30 ?_
  refine And.intro rfl (And.intro rfl (And.intro rfl ?_))
  refine fun c hc => ?_
  cases c with
  | false => exact ⟨⟨rfl, Nat.le_refl _⟩, rfl, trim_same rfl⟩
  | true =>
  simp only [decide_eq_true_eq] at hc
  refine fun c hc2 => ?_
  cases c with
  | true => simp only [decide_eq_true_eq] at hc2; omega
  | false => exact ⟨⟨rfl, Nat.le_refl _⟩, rfl, trim_same rfl⟩
theorem rs_get {n : Nat} (h : Rs[n]? = some r) (hn : n < 4) : (Rs.map RS.cells)[(IntKind.wrap .i64 (((n + 1 : Nat) : Int) - 1)).toNat]? = some r.cells := by
  rw [wrap64 (by omega) (by omega), show (((n + 1 : Nat) : Int) - 1).toNat = n from by omega, List.getElem?_map, h]; rfl
theorem is_in {n : Nat} (h : Rs[n]? = some r) (hn : n < 4) : RF BT 30 [refV Rs, .int .i64 (n + 1 : Nat)] m = some (.bool r.op, m) := by
  refine RF_wp rfl v30 b30 ?_
  refine And.intro rfl (And.intro rfl (And.intro rfl ?_))
  refine fun c hc => ?_
  cases c with
  | false => simp only [decide_eq_false_iff_not] at hc; omega
  | true =>
  refine fun c hc2 => ?_
  cases c with
  | false => simp only [decide_eq_false_iff_not] at hc2; omega
  | true =>
  refine ⟨_, rfl, rfl, ?_⟩
  refine And.intro (by rw [wrap64 (by omega) (by omega)]; omega) ⟨_, rs_get h hn, _, rfl, ?_⟩
  exact ⟨⟨rfl, Nat.le_refl _⟩, rfl, trim_same rfl⟩
theorem get_out {p : Int} (hp : p < 1 ∨ 4 < p) : RF BT 17 [refV Rs, .int .i64 p] m = some (.agg zeroR.cells, m) := by
  refine RF_wp rfl v17 b17 ?_
  refine And.intro rfl (And.intro rfl (And.intro rfl ?_))
  refine And.intro (Nat.le_refl _) (And.intro rfl (And.intro rfl ⟨_, _, is_out hp, ?_⟩))
  refine And.intro rfl (And.intro ⟨Nat.le_refl _, rfl, rfl⟩ ?_)
  exact ⟨Nat.le_refl _, ⟨rfl, Nat.le_refl _⟩, rfl, trim_same rfl⟩
theorem get_shut {n : Nat} (h : Rs[n]? = some r) (hn : n < 4) (ho : r.op = false) : RF BT 17 [refV Rs, .int .i64 (n + 1 : Nat)] m = some (.agg zeroR.cells, m) := by
  have hi := is_in (m := m) h hn
  rw [ho] at hi
  refine RF_wp rfl v17 b17 ?_
  refine And.intro rfl (And.intro rfl (And.intro rfl ?_))
  refine And.intro (Nat.le_refl _) (And.intro rfl (And.intro rfl ⟨_, _, hi, ?_⟩))
  refine And.intro rfl (And.intro ⟨Nat.le_refl _, rfl, rfl⟩ ?_)
  exact ⟨Nat.le_refl _, ⟨rfl, Nat.le_refl _⟩, rfl, trim_same rfl⟩
theorem get_open {n : Nat} (h : Rs[n]? = some r) (hn : n < 4) (ho : r.op = true) : RF BT 17 [refV Rs, .int .i64 (n + 1 : Nat)] m = some (.agg r.cells, m) := by
  have hi := is_in (m := m) h hn
  have hg := rs_get h hn
  rw [ho] at hi
  obtain ⟨op, kv, kl, hk, qv, ql, hq, d⟩ := r
  cases hk <;> cases hq <;> (
    refine RF_wp rfl v17 b17 ?_
    refine And.intro rfl (And.intro rfl (And.intro rfl ?_))
    refine And.intro (Nat.le_refl _) (And.intro rfl (And.intro rfl ⟨_, _, hi, ?_⟩))
    refine ⟨_, rfl, rfl, ?_⟩
    refine And.intro (by rw [wrap64 (by omega) (by omega)]; omega) ⟨_, hg, Nat.le_refl _, ?_⟩
    refine And.intro rfl (And.intro ⟨Nat.le_refl _, rfl, rfl⟩ ?_)
    exact ⟨Nat.le_refl _, ⟨rfl, Nat.le_refl _⟩, rfl, trim_same rfl⟩)
theorem wants_ok {k : Int} (hl : r.kl.length ≤ maxLen) : RF BT 28 [.agg r.cells, .int .i64 k] m = some (.bool (r.op && decide (k ∈ r.kl)), m) := by
  have hh := has_ok (m := m) (k := k) r.hk hl
  obtain ⟨op, kv, kl, hk, qv, ql, hq, d⟩ := r
  cases op <;> cases hk <;> cases hq <;> (
    refine RF_wp rfl v28 b28 ?_
    refine And.intro rfl (And.intro rfl (And.intro rfl ?_))
    refine ⟨_, rfl, rfl, ?_⟩
    first
    | exact ⟨⟨rfl, Nat.le_refl _⟩, rfl, trim_same rfl⟩
    | (refine ⟨_, rfl, rfl, ?_⟩
       refine And.intro rfl ⟨_, _, hh, ?_⟩
       exact ⟨⟨rfl, Nat.le_refl _⟩, rfl, trim_same rfl⟩))
end
end Go.Proofs.Ytpfelpmmejhjaaa.Am

/-
What the reference's functions answer: a bus with another slot; a slot with another event, or subscribed.
-/
namespace Go.Proofs.Ytpfelpmmejhjaaa.Am
theorem take_snoc {α β : Type} {f : α → β} {l : List α} {i : Nat} {x : α} (h : l[i]? = some x) : (l.take i).map f ++ [f x] = (l.take (i + 1)).map f := by
  rw [List.take_add_one, h]; simp
theorem RS.own (r : RS) : r.cells.any V.own0 = false := by
  obtain ⟨op, kv, kl, hk, qv, ql, hq, d⟩ := r
  cases hk <;> cases hq <;> rfl
theorem RS.share (r : RS) : (V.agg r.cells).share = .agg r.cells := by
  obtain ⟨op, kv, kl, hk, qv, ql, hq, d⟩ := r
  cases hk <;> cases hq <;> rfl
theorem RS.good (r : RS) : r.cells.all V.good = true := by
  obtain ⟨op, kv, kl, hk, qv, ql, hq, d⟩ := r
  cases hk <;> cases hq <;> rfl
theorem RS.ok (r : RS) : r.cells.all V.ok0 = true := by
  obtain ⟨op, kv, kl, hk, qv, ql, hq, d⟩ := r
  cases hk <;> cases hq <;> rfl
theorem RS.len (r : RS) : r.cells.length = 4 := rfl
section
variable {m : Ms} {Rs : List RS} {r : RS}
set_option maxRecDepth 20000 in
theorem with_ok {n : Nat} (hR : Rs.length = 4) (hn : n < 4) : RF BT 26 [refV Rs, .int .i64 (n + 1 : Nat), .agg r.cells] m = some (refV (Rs.set n r), m) := by
  have hw1 := wrap64 (n := ((n + 1 : Nat) : Int) - 1) (by omega) (by omega)
  have hlen : (Rs.set n r).length = 4 := by rw [List.length_set]; exact hR
  have hself : (Rs.set n r)[n]? = some r := by rw [List.getElem?_set_self (by omega)]
  have hother : ∀ i, i ≠ n → (Rs.set n r)[i]? = Rs[i]? := fun i hi => by rw [List.getElem?_set_ne (by omega)]
  generalize Rs.set n r = Rs2 at hlen hself hother
  refine RF_wp rfl v26 b26 ?_
  refine And.intro rfl (And.intro rfl (And.intro rfl (And.intro r.own (And.intro r.ok ?_))))
  refine WP_loop (vars := v26) (bx := b26) (cuts := []) [0, 1, 2] (fun k L Bx m' => ∃ i : Nat, k + i = 4 ∧
    L = [(1, .int .i64 (n + 1 : Nat)), (3, .loc 0 0), (5, .loc 1 0), (6, .loc 2 0), (7, .slice true 4 ((Rs2.take i).map RS.cells)), (8, .int .i64 i)] ∧
    Bx = [(0, [.slice false 4 (Rs.map RS.cells)]), (1, r.cells), (2, [.nils])] ∧ m' = m) ?_ ?_
  · exact ⟨4, 0, rfl, rfl, rfl, rfl⟩
  · rintro k L Bx m' ⟨i, hki, rfl, rfl, rfl⟩
    refine ⟨_, rfl, rfl, ?_⟩
    refine fun c hc => ?_
    rw [List.length_map, hR] at hc
    cases c with
    | false =>
      simp only [decide_eq_false_iff_not] at hc
      obtain rfl : i = 4 := by omega
      rw [List.take_of_length_le (by omega)]
      refine And.intro ⟨rfl, Nat.le_refl _, rfl⟩ (And.intro rfl (And.intro ⟨Nat.le_refl _, rfl, rfl⟩ ?_))
      exact ⟨Nat.le_refl _, ⟨rfl, Nat.le_refl _⟩, rfl, trim_same rfl⟩
    | true =>
      simp only [decide_eq_true_eq] at hc
      have hw2 := wrap64 (n := (i : Int) + 1) (by omega) (by omega)
      have hl : ((Rs2.take i).map RS.cells).length = i := by rw [List.length_map, List.length_take]; omega
      have fin : ∀ (x : RS) (v : List (List V)), Rs2[i]? = some x → v = (Rs2.take i).map RS.cells ++ [(V.agg x.cells).share.cells] → ∃ n', n' < k ∧ ∃ j : Nat, n' + j = 4 ∧
          [(1, V.int .i64 (n + 1 : Nat)), (3, .loc 0 0), (5, .loc 1 0), (6, .loc 2 0), (7, V.slice true 4 v), (8, V.int .i64 (IntKind.wrap .i64 ((i : Int) + 1)))] =
          [(1, .int .i64 (n + 1 : Nat)), (3, .loc 0 0), (5, .loc 1 0), (6, .loc 2 0), (7, .slice true 4 ((Rs2.take j).map RS.cells)), (8, .int .i64 j)] ∧
          [(0, [V.slice false 4 (Rs.map RS.cells)]), (1, r.cells), (2, [V.nils])] = [(0, [.slice false 4 (Rs.map RS.cells)]), (1, r.cells), (2, [.nils])] ∧ m' = m' := fun x v hx hv =>
        ⟨k - 1, by omega, i + 1, by omega, by rw [hv, hw2, x.share]; show [_, _, _, _, (7, V.slice true 4 ((Rs2.take i).map RS.cells ++ [x.cells])), _] = _; rw [take_snoc hx]; rfl, rfl, rfl⟩
      refine fun c hc2 => ?_
      rw [hw1] at hc2
      cases c with
      | true =>
        simp only [decide_eq_true_eq] at hc2
        obtain rfl : i = n := by omega
        refine And.intro (Nat.le_refl _) (And.intro r.own (And.intro ⟨rfl, Nat.le_of_ble_eq_true rfl, ?_⟩ ?_))
        · show (V.agg r.cells).share.cells.all V.good = true
          rw [r.share]; exact r.good
        refine And.intro (by rw [hl]; show i + 1 ≤ most; unfold most; omega) ?_
        exact fin r _ hself rfl
      | false =>
        simp only [decide_eq_false_iff_not] at hc2
        have hg := List.getElem?_eq_getElem (show i < Rs.length from by omega)
        have hx := (hother i (by omega)).trans hg
        have hgc : (Rs.map RS.cells)[(i : Int).toNat]? = some (Rs[i].cells) := by
          rw [show (i : Int).toNat = i from rfl, List.getElem?_map, hg]; rfl
        generalize Rs[i] = x at hgc hx
        refine ⟨_, rfl, rfl, ?_⟩
        refine And.intro (Int.natCast_nonneg _) ⟨_, hgc, Nat.le_refl _, ?_⟩
        refine And.intro ⟨rfl, Nat.le_of_ble_eq_true rfl, ?_⟩ ?_
        · show (V.agg x.cells).share.cells.all V.good = true
          rw [x.share]; exact x.good
        refine And.intro (by rw [hl]; show i + 1 ≤ most; unfold most; omega) ?_
        exact fin x _ hx rfl

def RS.put (r : RS) (e : Ev) : RS := if 16 ≤ r.ql.length then { r with d := IntKind.wrap .i64 (r.d + 1) } else { r with qv := .slice false 4 ((r.ql ++ [e.cut]).map Ev.cells), ql := r.ql ++ [e.cut], hq := .sl _ }
theorem cut64 {t : List UInt8} : (t.drop 0).take ((64 : Int).toNat - 0) = t.take 64 := by simp
set_option maxRecDepth 20000 in
theorem put29 {e : Ev} (hl : r.ql.length ≤ 16) : RF BT 29 [.agg r.cells, .agg e.cells] m = some (.tuple [.agg (r.put e).cells, .bool (decide (r.ql.length < 16))], m) := by
  obtain ⟨op, kv, kl, hk, qv, ql, hq, d⟩ := r
  simp only at hl
  cases hq with
  | nil =>
    have hput : (RS.put ⟨op, kv, kl, hk, .nils, [], .nil, d⟩ e).cells = [.bool op, kv, .slice false 4 [e.cut.cells], .int .i64 d] := rfl
    rw [hput]
    refine RF_wpc rfl v29 b29 [(20, [2, 3, 4], [0, 1, 2])] ?_
    refine And.intro rfl (And.intro (by cases hk <;> rfl) (And.intro (by cases hk <;> rfl) (And.intro rfl (And.intro rfl ?_))))
    refine ⟨_, rfl, rfl, ?_⟩
    refine fun c hc => ?_
    cases c with
    | true => exact absurd hc (by decide)
    | false =>
    refine ⟨_, rfl, rfl, ?_⟩
    refine fun c hc => ?_
    refine ⟨fun L Bx m1 => L = [(2, .loc 0 0), (3, .loc 1 0), (4, .loc 2 0)] ∧ Bx = [(0, [.bool op, kv, .nils, .int .i64 d]), (1, e.cut.cells), (2, zeroR.cells)] ∧ m1 = m, ?_, ?_⟩
    · cases c with
      | true =>
        simp only [decide_eq_true_eq] at hc
        refine ⟨_, rfl, rfl, ?_⟩
        refine And.intro (by decide) (And.intro (by omega) (And.intro rfl (And.intro ⟨Nat.le_refl _, rfl, rfl⟩ ?_)))
        refine ⟨rfl, ?_, rfl⟩
        show [(0, _), (1, [V.int .i64 e.kind, V.int .i64 e.a, V.int .i64 e.b, V.str ((e.text.drop 0).take ((64 : Int).toNat - 0))]), (2, _)] = _
        rw [cut64]; rfl
      | false =>
        simp only [decide_eq_false_iff_not] at hc
        refine ⟨rfl, ?_, rfl⟩
        show [(0, _), (1, [V.int .i64 e.kind, V.int .i64 e.a, V.int .i64 e.b, V.str e.text]), (2, _)] = [(0, _), (1, [V.int .i64 e.kind, V.int .i64 e.a, V.int .i64 e.b, V.str (e.text.take 64)]), (2, _)]
        rw [List.take_of_length_le (by omega)]; rfl
    · rintro L1 B1 m1 ⟨rfl, rfl, rfl⟩
      refine WP_loop (vars := v29) (bx := b29) (cuts := [(20, [2, 3, 4], [0, 1, 2])]) [0, 1, 2] (fun n L Bx m' => L = [(2, .loc 0 0), (3, .loc 1 0), (4, .loc 2 0), (6, .slice true 4 []), (7, .int .i64 0)] ∧ Bx = [(0, [.bool op, kv, .nils, .int .i64 d]), (1, e.cut.cells), (2, zeroR.cells)] ∧ m' = m1) ?_ ?_
      · exact ⟨0, rfl, rfl, rfl⟩
      · rintro n L Bx m' ⟨rfl, rfl, rfl⟩
        refine ⟨_, rfl, rfl, ?_⟩
        refine fun c hc => ?_
        cases c with
        | true => exact absurd hc (by decide)
        | false =>
        refine And.intro (Nat.le_refl _) (And.intro rfl (And.intro rfl (And.intro ⟨rfl, Nat.le_of_ble_eq_true rfl, rfl⟩ (And.intro (by show 0 + 1 ≤ most; decide) ?_))))
        refine And.intro rfl (And.intro ⟨Nat.le_of_ble_eq_true rfl, rfl, rfl⟩ ?_)
        refine And.intro (Nat.le_refl _) (And.intro (by cases hk <;> rfl) (And.intro (by cases hk <;> rfl) (And.intro ⟨Nat.le_refl _, rfl, by cases hk <;> rfl⟩ ?_)))
        refine ⟨Nat.le_refl _, ⟨by cases hk <;> rfl, Nat.le_refl _⟩, ?_, trim_same rfl⟩
        cases hk <;> rfl
  | sl =>
    by_cases hf : 16 ≤ ql.length
    · have hput : (RS.put ⟨op, kv, kl, hk, .slice false 4 (ql.map Ev.cells), ql, .sl _, d⟩ e).cells = [.bool op, kv, .slice false 4 (ql.map Ev.cells), .int .i64 (IntKind.wrap .i64 (d + 1))] := by
        simp only [RS.put, hf, if_true]; rfl
      rw [hput, decide_eq_false (by simp only; omega)]
      refine RF_wpc rfl v29 b29 [] ?_
      refine And.intro rfl (And.intro (by cases hk <;> rfl) (And.intro (by cases hk <;> rfl) (And.intro rfl (And.intro rfl ?_))))
      refine ⟨_, rfl, rfl, ?_⟩
      refine fun c hc => ?_
      rw [List.length_map] at hc
      cases c with
      | false => simp only [decide_eq_false_iff_not] at hc; omega
      | true =>
      refine ⟨_, rfl, rfl, ?_⟩
      refine And.intro rfl (And.intro ⟨Nat.le_of_ble_eq_true rfl, rfl, rfl⟩ ?_)
      refine And.intro (Nat.le_refl _) (And.intro (by cases hk <;> rfl) (And.intro (by cases hk <;> rfl) (And.intro ⟨Nat.le_refl _, rfl, by cases hk <;> rfl⟩ ?_)))
      refine ⟨Nat.le_refl _, ⟨by cases hk <;> rfl, Nat.le_refl _⟩, ?_, trim_same rfl⟩
      cases hk <;> rfl
    have hput : (RS.put ⟨op, kv, kl, hk, .slice false 4 (ql.map Ev.cells), ql, .sl _, d⟩ e).cells = [.bool op, kv, .slice false 4 ((ql ++ [e.cut]).map Ev.cells), .int .i64 d] := by
      simp only [RS.put, hf, if_false]; rfl
    rw [hput, decide_eq_true (by simp only; omega)]
    refine RF_wpc rfl v29 b29 [(20, [2, 3, 4], [0, 1, 2])] ?_
    refine And.intro rfl (And.intro (by cases hk <;> rfl) (And.intro (by cases hk <;> rfl) (And.intro rfl (And.intro rfl ?_))))
    refine ⟨_, rfl, rfl, ?_⟩
    refine fun c hc => ?_
    rw [List.length_map] at hc
    cases c with
    | true => simp only [decide_eq_true_eq] at hc; omega
    | false =>
    refine ⟨_, rfl, rfl, ?_⟩
    refine fun c hc => ?_
    refine ⟨fun L Bx m1 => L = [(2, .loc 0 0), (3, .loc 1 0), (4, .loc 2 0)] ∧ Bx = [(0, [.bool op, kv, .slice false 4 (ql.map Ev.cells), .int .i64 d]), (1, e.cut.cells), (2, zeroR.cells)] ∧ m1 = m, ?_, ?_⟩
    · cases c with
      | true =>
        simp only [decide_eq_true_eq] at hc
        refine ⟨_, rfl, rfl, ?_⟩
        refine And.intro (by decide) (And.intro (by omega) (And.intro rfl (And.intro ⟨Nat.le_refl _, rfl, rfl⟩ ?_)))
        refine ⟨rfl, ?_, rfl⟩
        show [(0, _), (1, [V.int .i64 e.kind, V.int .i64 e.a, V.int .i64 e.b, V.str ((e.text.drop 0).take ((64 : Int).toNat - 0))]), (2, _)] = _
        rw [cut64]; rfl
      | false =>
        simp only [decide_eq_false_iff_not] at hc
        refine ⟨rfl, ?_, rfl⟩
        show [(0, _), (1, [V.int .i64 e.kind, V.int .i64 e.a, V.int .i64 e.b, V.str e.text]), (2, _)] = [(0, _), (1, [V.int .i64 e.kind, V.int .i64 e.a, V.int .i64 e.b, V.str (e.text.take 64)]), (2, _)]
        rw [List.take_of_length_le (by omega)]; rfl
    · rintro L1 B1 m1 ⟨rfl, rfl, rfl⟩
      refine WP_loop (vars := v29) (bx := b29) (cuts := [(20, [2, 3, 4], [0, 1, 2])]) [0, 1, 2] (fun n L Bx m' => ∃ i : Nat, n + i = ql.length ∧ L = [(2, .loc 0 0), (3, .loc 1 0), (4, .loc 2 0), (6, .slice true 4 ((ql.take i).map Ev.cells)), (7, .int .i64 i)] ∧ Bx = [(0, [.bool op, kv, .slice false 4 (ql.map Ev.cells), .int .i64 d]), (1, e.cut.cells), (2, zeroR.cells)] ∧ m' = m1) ?_ ?_
      · exact ⟨ql.length, 0, rfl, rfl, rfl, rfl⟩
      · rintro n L Bx m' ⟨i, hi, rfl, rfl, rfl⟩
        have hlt : ((ql.take i).map Ev.cells).length = i := by rw [List.length_map, List.length_take]; omega
        refine ⟨_, rfl, rfl, ?_⟩
        refine fun c hc => ?_
        rw [List.length_map] at hc
        cases c with
        | true =>
          simp only [decide_eq_true_eq] at hc
          have hg := List.getElem?_eq_getElem (show i < ql.length from by omega)
          have hgc : (ql.map Ev.cells)[(i : Int).toNat]? = some (ql[i].cells) := by
            rw [show (i : Int).toNat = i from rfl, List.getElem?_map, hg]; rfl
          have hw := wrap64 (n := (i : Int) + 1) (by omega) (by omega)
          refine ⟨_, rfl, rfl, ?_⟩
          refine And.intro (Int.natCast_nonneg _) ⟨_, hgc, Nat.le_refl _, ?_⟩
          refine And.intro rfl (And.intro ⟨rfl, Nat.le_of_ble_eq_true rfl, rfl⟩ (And.intro (by rw [hlt]; show i + 1 ≤ most; unfold most; omega) ?_))
          refine ⟨n - 1, by omega, i + 1, by omega, ?_, rfl, rfl⟩
          show [(2, V.loc 0 0), (3, .loc 1 0), (4, .loc 2 0), (6, V.slice true 4 ((ql.take i).map Ev.cells ++ [ql[i].cells])), (7, V.int .i64 (IntKind.wrap .i64 ((i : Int) + 1)))] = _
          rw [hw, take_snoc hg]; rfl
        | false =>
        simp only [decide_eq_false_iff_not] at hc
        obtain rfl : i = ql.length := by omega
        rw [List.take_of_length_le (Nat.le_refl _)]
        refine And.intro (Nat.le_refl _) (And.intro rfl (And.intro rfl (And.intro ⟨rfl, Nat.le_of_ble_eq_true rfl, rfl⟩ (And.intro (by rw [List.length_map]; show ql.length + 1 ≤ most; unfold most; omega) ?_))))
        refine And.intro rfl (And.intro ⟨Nat.le_of_ble_eq_true rfl, rfl, rfl⟩ ?_)
        refine And.intro (Nat.le_refl _) (And.intro (by cases hk <;> rfl) (And.intro (by cases hk <;> rfl) (And.intro ⟨Nat.le_refl _, rfl, by cases hk <;> rfl⟩ ?_)))
        refine ⟨Nat.le_refl _, ⟨by cases hk <;> rfl, Nat.le_refl _⟩, ?_, trim_same rfl⟩
        rw [List.map_append]
        cases hk <;> rfl
end
end Go.Proofs.Ytpfelpmmejhjaaa.Am

/-
What the reference's functions answer: a slot subscribed.
-/
namespace Go.Proofs.Ytpfelpmmejhjaaa.Am
def subC (kl : List Int) (kd : Int) (on : Bool) (k : Int) : Bool := if k = kd then on else decide (k ∈ kl)
def subN (kl : List Int) (kd : Int) (on : Bool) : Nat → List Int
  | 0 => []
  | j + 1 => if subC kl kd on ((j : Int) + 1) then subN kl kd on j ++ [(j : Int) + 1] else subN kl kd on j
theorem subN_len (kl : List Int) (kd : Int) (on : Bool) : ∀ j, (subN kl kd on j).length ≤ j
  | 0 => Nat.le_refl _
  | j + 1 => by
    have := subN_len kl kd on j
    unfold subN; split
    · simp; omega
    · omega
def RS.sub (r : RS) (kd : Int) (on : Bool) : RS := { r with kv := .slice false 1 (ints (subN r.kl kd on 8)), kl := subN r.kl kd on 8, hk := .sl _ }
section
variable {m : Ms} {r : RS}
set_option maxRecDepth 20000 in
theorem sub27 {kd : Int} {on : Bool} (hl : r.kl.length ≤ maxLen) : RF BT 27 [.agg r.cells, .int .i64 kd, .bool on] m = some (.agg (r.sub kd on).cells, m) := by
  obtain ⟨op, kv, kl, hk, qv, ql, hq, d⟩ := r
  have hsh : kv.share = kv := by cases hk <;> rfl
  have how : kv.own0 = false := by cases hk <;> rfl
  have hh : ∀ k, RF BT 31 [kv.share, .int .i64 k] m = some (.bool (decide (k ∈ kl)), m) := fun k => by rw [hsh]; exact has_ok hk hl
  have hres : (RS.sub ⟨op, kv, kl, hk, qv, ql, hq, d⟩ kd on).cells = [.bool op, .slice false 1 (ints (subN kl kd on 8)), qv, .int .i64 d] := rfl
  rw [hres]
  refine RF_wpc rfl v27 b27 [] ?_
  refine And.intro rfl (And.intro (by cases hk <;> cases hq <;> rfl) (And.intro (by cases hk <;> cases hq <;> rfl) ?_))
  refine WP_loop (vars := v27) (bx := b27) (cuts := []) [0, 1] (fun n L Bx m' => ∃ j : Nat, n + j = 8 ∧ L = [(1, .int .i64 kd), (2, .bool on), (3, .loc 0 0), (6, .loc 1 0), (7, .slice true 1 (ints (subN kl kd on j))), (8, .int .i64 ((j : Int) + 1))] ∧
    Bx = [(0, [.bool op, kv, qv, .int .i64 d]), (1, zeroR.cells)] ∧ m' = m) ?_ ?_
  · exact ⟨8, 0, rfl, rfl, rfl, rfl⟩
  · rintro n L Bx m' ⟨j, hj, rfl, rfl, rfl⟩
    have hlen := subN_len kl kd on j
    refine fun c hc => ?_
    cases c with
    | false =>
      simp only [decide_eq_false_iff_not] at hc
      obtain rfl : j = 8 := by omega
      refine And.intro rfl (And.intro ⟨Nat.le_of_ble_eq_true rfl, rfl, rfl⟩ ?_)
      refine And.intro (Nat.le_refl _) (And.intro (by cases hq <;> rfl) (And.intro (by cases hq <;> rfl) (And.intro ⟨Nat.le_refl _, rfl, by cases hq <;> rfl⟩ ?_)))
      refine ⟨Nat.le_refl _, ⟨by cases hq <;> rfl, Nat.le_refl _⟩, ?_, trim_same rfl⟩
      cases hq <;> rfl
    | true =>
      simp only [decide_eq_true_eq] at hc
      have hw := wrap64 (n := ((j : Int) + 1) + 1) (by omega) (by omega)
      have fin : ∀ v, v = ints (subN kl kd on (j + 1)) → ∃ n', n' < n ∧ ∃ i : Nat, n' + i = 8 ∧
          [(1, V.int .i64 kd), (2, .bool on), (3, .loc 0 0), (6, .loc 1 0), (7, V.slice true 1 v), (8, V.int .i64 (IntKind.wrap .i64 (((j : Int) + 1) + 1)))] =
          [(1, .int .i64 kd), (2, .bool on), (3, .loc 0 0), (6, .loc 1 0), (7, .slice true 1 (ints (subN kl kd on i))), (8, .int .i64 ((i : Int) + 1))] ∧
          [(0, [V.bool op, kv, qv, .int .i64 d]), (1, zeroR.cells)] = [(0, [.bool op, kv, qv, .int .i64 d]), (1, zeroR.cells)] ∧ m' = m' := fun v hv =>
        ⟨n - 1, by omega, j + 1, by omega, by rw [hv, hw]; rfl, rfl, rfl⟩
      have app : subC kl kd on ((j : Int) + 1) = true → ints (subN kl kd on j) ++ [[V.int .i64 ((j : Int) + 1)]] = ints (subN kl kd on (j + 1)) := fun h => by
        rw [subN, if_pos h]; simp [ints]
      have non : subC kl kd on ((j : Int) + 1) = false → subN kl kd on (j + 1) = subN kl kd on j := fun h => by rw [subN, h]; rfl
      refine fun c hc2 => ?_
      cases c with
      | true =>
        simp only [decide_eq_true_eq] at hc2
        have hs : subC kl kd on ((j : Int) + 1) = on := by unfold subC; rw [if_pos hc2]
        cases on with
        | true =>
          refine And.intro ⟨rfl, Nat.le_of_ble_eq_true rfl, rfl⟩ (And.intro (by rw [ints_len]; show _ + 1 ≤ most; unfold most; omega) ?_)
          exact fin _ (app hs)
        | false =>
          refine fun c hc3 => ?_
          have : c = false := by rw [← hc3]; simp [hc2]
          subst this
          exact fin _ (by rw [non hs])
      | false =>
        simp only [decide_eq_false_iff_not] at hc2
        have hs : subC kl kd on ((j : Int) + 1) = decide (((j : Int) + 1) ∈ kl) := by unfold subC; rw [if_neg hc2]
        refine fun c hc3 => ?_
        have : c = true := by rw [← hc3]; simp [hc2]
        subst this
        refine ⟨_, rfl, how, ?_⟩
        refine And.intro (by rw [hsh]; cases hk <;> rfl) ⟨_, _, hh _, ?_⟩
        by_cases hm : ((j : Int) + 1) ∈ kl
        · rw [decide_eq_true hm] at hs ⊢
          refine And.intro ⟨rfl, Nat.le_of_ble_eq_true rfl, rfl⟩ (And.intro (by rw [ints_len]; show _ + 1 ≤ most; unfold most; omega) ?_)
          exact fin _ (app hs)
        · rw [decide_eq_false hm] at hs ⊢
          exact fin _ (by rw [non hs])
end
end Go.Proofs.Ytpfelpmmejhjaaa.Am

/-
What a call answers in the bus's laws, and what is there behind it.
-/
namespace Go.Proofs.Ytpfelpmmejhjaaa.Am
structure RWF (Rs : List RS) : Prop where
  len : Rs.length = 4
  ok : ∀ r ∈ Rs, r.ql.length ≤ 16 ∧ r.kl.length ≤ 8
def getR (Rs : List RS) (p : Int) : RS := if 1 ≤ p ∧ p ≤ 4 then (match Rs[(p - 1).toNat]? with
  | some r => if r.op then r else zeroR
  | none => zeroR) else zeroR
theorem getR_open {Rs : List RS} {p : Int} (h : (getR Rs p).op = true) : ∃ n : Nat, p = (n + 1 : Nat) ∧ n < 4 ∧ Rs[n]? = some (getR Rs p) := by
  unfold getR at h ⊢
  split at h
  · rename_i hp
    rw [if_pos hp]
    cases hr : Rs[(p - 1).toNat]? with
    | none => rw [hr] at h; cases h
    | some r =>
      rw [hr] at h
      simp only at h
      split at h
      · rename_i ho
        simp only [ho, if_true]
        exact ⟨(p - 1).toNat, by omega, by omega, hr⟩
      · cases h
  · cases h
theorem getR_zero {Rs : List RS} {p : Int} (h : (getR Rs p).op = false) : getR Rs p = zeroR := by
  unfold getR at h ⊢
  split
  · rename_i hp
    rw [if_pos hp] at h
    cases hr : Rs[(p - 1).toNat]? with
    | none => rfl
    | some r =>
      rw [hr] at h
      simp only at h ⊢
      split
      · rename_i ho; rw [if_pos ho] at h; rw [ho] at h; cases h
      · rfl
  · rfl
theorem getR_ok {Rs : List RS} (h : RWF Rs) (p : Int) : (getR Rs p).ql.length ≤ 16 ∧ (getR Rs p).kl.length ≤ 8 := by
  by_cases ho : (getR Rs p).op = true
  · obtain ⟨n, _, _, hn⟩ := getR_open ho
    exact h.ok _ (List.mem_of_getElem? hn)
  · unfold getR at ho ⊢
    split
    · rename_i hp
      rw [if_pos hp] at ho
      cases hr : Rs[(p - 1).toNat]? with
      | none => exact ⟨Nat.zero_le _, Nat.zero_le _⟩
      | some r =>
        rw [hr] at ho
        simp only at ho ⊢
        by_cases h2 : r.op = true
        · rw [if_pos h2] at ho; exact absurd h2 ho
        · rw [if_neg h2]; exact ⟨Nat.zero_le _, Nat.zero_le _⟩
    · exact ⟨Nat.zero_le _, Nat.zero_le _⟩
section
variable {m : Ms} {bb : Nat} {B : List Slot} {Rs : List RS} {p : Int}
theorem get_ok (hR : Rs.length = 4) : RF BT 17 [refV Rs, .int .i64 p] m = some (.agg (getR Rs p).cells, m) := by
  unfold getR
  by_cases hp : 1 ≤ p ∧ p ≤ 4
  · rw [if_pos hp]
    have hg := List.getElem?_eq_getElem (show (p - 1).toNat < Rs.length from by omega)
    have he : (((p - 1).toNat + 1 : Nat) : Int) = p := by omega
    rw [hg]
    simp only
    by_cases ho : (Rs[(p - 1).toNat]'(by omega)).op = true
    · rw [if_pos ho]
      have := get_open (m := m) hg (by omega) ho
      rwa [he] at this
    · rw [if_neg ho]
      have := get_shut (m := m) hg (by omega) (by simpa using ho)
      rwa [he] at this
  · rw [if_neg hp]; exact get_out (by omega)
def openR (B : List Slot) (p : Int) : Int × List Slot := if p < 1 ∨ 4 < p then (1, B) else match B[p.toNat]? with
  | some s => if s.op then (81, B) else (0, B.set p.toNat (fresh true))
  | none => (1, B)
theorem openR_ok (hW : WF B) (hm : m[bb]? = some (busC B)) : RF BT 9 [.ptr bb 0, .int .i64 p] m = some (.int .i64 (openR B p).1, m.set bb (busC (openR B p).2)) := by
  unfold openR
  by_cases hp : p < 1 ∨ 4 < p
  · rw [if_pos hp, open_out hp, set_same hm]
  · rw [if_neg hp]
    have hg := List.getElem?_eq_getElem (show p.toNat < B.length from by rw [hW.len]; omega)
    have h := open_in (n := p.toNat) (by omega) (by omega) hm hg
    rw [show ((p.toNat : Nat) : Int) = p from by omega] at h
    rw [hg, h]
    simp only
    split
    · rw [set_same hm]
    · rfl
def shutR (B : List Slot) (p : Int) : Int × List Slot := match opn B p with
  | some _ => (0, B.set p.toNat (fresh false))
  | none => (5, B)
theorem shutR_ok (hW : WF B) (hm : m[bb]? = some (busC B)) : RF BT 22 [.ptr bb 0, .int .i64 p] m = some (.int .i64 (shutR B p).1, m.set bb (busC (shutR B p).2)) := by
  unfold shutR
  cases h : opn B p with
  | none => rw [shut_none hW.len hm h, set_same hm]
  | some s => exact shut_some hm h
def subR (B : List Slot) (p k : Int) (on : Bool) : Int × List Slot := match opn B p with
  | some s => if k < 1 ∨ 8 < k then (1, B) else (0, B.set p.toNat (s.sub k.toNat on))
  | none => (5, B)
theorem subR_ok (hW : WF B) (hm : m[bb]? = some (busC B)) {k : Int} {on : Bool} : RF BT 10 [.ptr bb 0, .int .i64 p, .int .i64 k, .bool on] m = some (.int .i64 (subR B p k on).1, m.set bb (busC (subR B p k on).2)) := by
  unfold subR
  cases h : opn B p with
  | none => rw [sub_none hW.len hm h, set_same hm]
  | some s =>
    simp only
    split
    · rename_i hk; rw [sub_out hm h hk, set_same hm]
    · have := sub_in (k := k.toNat) (on := on) hm h (by omega) (by omega)
      rwa [show ((k.toNat : Nat) : Int) = k from by omega] at this
def sendR (B : List Slot) (p : Int) (e : Ev) : Int × List Slot := match opn B p with
  | some s => (if s.evs.length < 16 then 0 else 3, B.set p.toNat (s.put e))
  | none => (5, B)
theorem sendR_ok (hW : WF B) (hm : m[bb]? = some (busC B)) {e : Ev} : RF BT 21 [.ptr bb 0, .int .i64 p, .agg e.cells] m = some (.int .i64 (sendR B p e).1, m.set bb (busC (sendR B p e).2)) := by
  unfold sendR
  cases h : opn B p with
  | none => rw [send_none hW.len hm h, set_same hm]
  | some s => exact send_some hm h (hW.opn h)
def takeR (B : List Slot) (p : Int) : (Ev × Bool) × List Slot := match opn B p with
  | some s => match s.evs with
    | [] => ((ev0, false), B)
    | e :: es => ((e, true), B.set p.toNat { s with q := some es })
  | none => ((ev0, false), B)
theorem takeR_ok (hW : WF B) (hm : m[bb]? = some (busC B)) : RF BT 12 [.ptr bb 0, .int .i64 p] m = some (.tuple [.agg (takeR B p).1.1.cells, .bool (takeR B p).1.2], m.set bb (busC (takeR B p).2)) := by
  unfold takeR
  cases h : opn B p with
  | none => rw [take_none hW.len hm h, set_same hm]
  | some s =>
    simp only
    cases he : s.evs with
    | nil => rw [take_empty hm h he, set_same hm]
    | cons e es => exact take_some hm h he
structure BOp where
  kind : Int
  p : Int
  n : Int
  on : Bool
  e : Ev
def BOp.cells (o : BOp) : List V := [.int .i64 o.kind, .int .i64 o.p, .int .i64 o.n, .bool o.on] ++ o.e.cells
/-- One slot of the reference's, when an event is published. -/
def rpubN (Rs : List RS) (e : Ev) : Nat → List RS × Int
  | 0 => (Rs, 0)
  | j + 1 => let q := rpubN Rs e j
    let x := getR q.1 ((j : Int) + 1)
    if x.op && decide (e.kind ∈ x.kl) then (q.1.set j (x.put e), if x.ql.length < 16 then q.2 + 1 else q.2) else q
theorem RWF.set {Rs : List RS} (h : RWF Rs) {n : Nat} {r : RS} (hr : r.ql.length ≤ 16 ∧ r.kl.length ≤ 8) : RWF (Rs.set n r) :=
  ⟨by rw [List.length_set]; exact h.len, fun t ht => by
    rcases List.mem_or_eq_of_mem_set ht with h1 | rfl
    · exact h.ok t h1
    · exact hr⟩
theorem RS.put_ok {r : RS} {e : Ev} (h : r.ql.length ≤ 16 ∧ r.kl.length ≤ 8) : (r.put e).ql.length ≤ 16 ∧ (r.put e).kl.length ≤ 8 := by
  unfold RS.put
  split
  · exact h
  · refine ⟨?_, h.2⟩
    show (r.ql ++ [e.cut]).length ≤ 16
    rw [List.length_append, List.length_singleton]; omega
theorem RWF.rpubN {Rs : List RS} (h : RWF Rs) (e : Ev) : ∀ j, RWF (rpubN Rs e j).1
  | 0 => h
  | j + 1 => by
    have ih := h.rpubN e j
    simp only [Am.rpubN]
    split
    · exact ih.set (RS.put_ok (getR_ok ih _))
    · exact ih
theorem rpubN_bound (Rs : List RS) (e : Ev) : ∀ j, 0 ≤ (rpubN Rs e j).2 ∧ (rpubN Rs e j).2 ≤ j
  | 0 => ⟨Int.le_refl _, Int.le_refl _⟩
  | j + 1 => by
    have ih := rpubN_bound Rs e j
    simp only [rpubN]
    split
    · simp only
      split <;> omega
    · omega
def RS.tail (r : RS) : RS := { r with qv := .slice false 4 (r.ql.tail.map Ev.cells), ql := r.ql.tail, hq := .sl _ }
def doesB (B : List Slot) (o : BOp) : List Slot :=
  if o.kind = 1 then (openR B o.p).2 else if o.kind = 2 then (shutR B o.p).2 else if o.kind = 3 then (subR B o.p o.n o.on).2 else if o.kind = 4 then (pubN B o.e 5).1
  else if o.kind = 5 then (sendR B o.p o.e).2 else if o.kind = 6 then (takeR B o.p).2 else B
def doesR (Rs : List RS) (B : List Slot) (o : BOp) : List RS × Bool :=
  let s := getR Rs o.p
  let n := (o.p - 1).toNat
  if o.kind = 1 then
    let e := (openR B o.p).1
    if o.p < 1 ∨ 4 < o.p then (Rs, decide (e = 1)) else if s.op then (Rs, decide (e = 81)) else (Rs.set n { zeroR with op := true }, decide (e = 0))
  else if o.kind = 2 then
    let e := (shutR B o.p).1
    if s.op then (Rs.set n zeroR, decide (e = 0)) else (Rs, decide (e = 5))
  else if o.kind = 3 then
    let e := (subR B o.p o.n o.on).1
    if s.op then (if o.n < 1 ∨ 8 < o.n then (Rs, decide (e = 1)) else (Rs.set n (s.sub o.n o.on), decide (e = 0))) else (Rs, decide (e = 5))
  else if o.kind = 4 then ((rpubN Rs o.e 4).1, decide ((pubN B o.e 5).2 = (rpubN Rs o.e 4).2))
  else if o.kind = 5 then
    let e := (sendR B o.p o.e).1
    if s.op then (Rs.set n (s.put o.e), (decide (s.ql.length < 16) == decide (e = 0)) && (decide (s.ql.length < 16) || decide (e = 3))) else (Rs, decide (e = 5))
  else if o.kind = 6 then
    let t := (takeR B o.p).1
    match s.ql with
    | [] => (Rs, !t.2 && decide (t.1 = ev0))
    | f :: _ => (Rs.set n s.tail, t.2 && decide (t.1 = f))
  else (Rs, true)
theorem ev_eq {e f : Ev} : eqV (.plain [.int, .int, .int, .str]) (.agg e.cells) (.agg f.cells) = some (decide (e = f)) := by
  obtain ⟨k, a, b, t⟩ := e
  obtain ⟨k', a', b', t'⟩ := f
  show some ((k == k') && ((a == a') && ((b == b') && ((t == t') && true)))) = _
  congr 1
  rw [Bool.eq_iff_iff]
  simp
theorem with_p {r : RS} (hR : Rs.length = 4) (hp : 1 ≤ p ∧ p ≤ 4) : RF BT 26 [refV Rs, .int .i64 p, .agg r.cells] m = some (refV (Rs.set (p - 1).toNat r), m) := by
  have h := with_ok (m := m) (r := r) (n := (p - 1).toNat) hR (by omega)
  rwa [show (((p - 1).toNat + 1 : Nat) : Int) = p from by omega] at h
theorem with_s {r : RS} (hR : Rs.length = 4) (hp : 1 ≤ p ∧ p ≤ 4) : RF BT 26 [refV Rs, .int .i64 p, (V.agg r.cells).share] m = some (refV (Rs.set (p - 1).toNat r), m) := by
  rw [r.share]; exact with_p hR hp
theorem sub_s {r : RS} {kd : Int} {on : Bool} (hl : r.kl.length ≤ 8) : RF BT 27 [(V.agg r.cells).share, .int .i64 kd, .bool on] m = some (.agg (r.sub kd on).cells, m) := by
  rw [r.share]; exact sub27 (by unfold maxLen; omega)
theorem put_s {r : RS} {e : Ev} (hl : r.ql.length ≤ 16) : RF BT 29 [(V.agg r.cells).share, .agg e.cells] m = some (.tuple [.agg (r.put e).cells, .bool (decide (r.ql.length < 16))], m) := by
  rw [r.share]; exact put29 hl
theorem okA {a : V} {l : List V} (h : a.okArg = true) (hl : l.all V.okArg = true) : (a :: l).all V.okArg = true := by rw [List.all_cons, h, hl]; rfl
theorem RS.okS (r : RS) : (V.agg r.cells).share.okArg = true := by rw [r.share]; exact r.ok
theorem RS.ok1 (r : RS) : (V.agg r.cells).share.ok1 = true := by rw [r.share]; exact r.ok
theorem with_ss {r : RS} (hR : Rs.length = 4) (hp : 1 ≤ p ∧ p ≤ 4) : RF BT 26 [refV Rs, .int .i64 p, (V.agg (V.agg r.cells).share.cells).share] m = some (refV (Rs.set (p - 1).toNat r), m) := by
  rw [r.share]; exact with_s hR hp
theorem RS.okSS (r : RS) : (V.agg (V.agg r.cells).share.cells).share.okArg = true := by rw [r.share]; exact r.okS
theorem RS.ownS (r : RS) : (V.agg r.cells).share.cells.any V.own0 = false := by rw [r.share]; exact r.own
theorem tupOwn (r : RS) (b : Bool) : [V.agg r.cells, V.bool b].any V.own1 = false := by
  have := r.own
  simp only [List.any_cons, List.any_nil, V.own1, this, V.own0, Bool.or_false]
theorem wants_ss {r : RS} {k : Int} (hl : r.kl.length ≤ 8) : RF BT 28 [(V.agg (V.agg r.cells).share.cells).share, .int .i64 k] m = some (.bool (r.op && decide (k ∈ r.kl)), m) := by
  have h : (V.agg (V.agg r.cells).share.cells).share = .agg r.cells := by rw [r.share]; exact r.share
  rw [h]; exact wants_ok (by unfold maxLen; omega)
theorem put_ss {r : RS} {e : Ev} (hl : r.ql.length ≤ 16) : RF BT 29 [(V.agg (V.agg r.cells).share.cells).share, .agg e.cells] m = some (.tuple [.agg (r.put e).cells, .bool (decide (r.ql.length < 16))], m) := by
  have h : (V.agg (V.agg r.cells).share.cells).share = .agg r.cells := by rw [r.share]; exact r.share
  rw [h]; exact put29 hl
theorem zeroR_op : ({ zeroR with op := true } : RS).cells = [.bool true, .nils, .nils, .int .i64 0] := rfl
theorem agg_sh : (refV Rs).share = refV Rs := rfl
set_option maxHeartbeats 4000000 in
set_option maxRecDepth 20000 in
theorem does_ok (hW : WF B) (hR : RWF Rs) (hm : m[bb]? = some (busC B)) (o : BOp) :
    RF BT 16 [.ptr bb 0, refV Rs, .agg o.cells] m = some (.tuple [refV (doesR Rs B o).1, .bool (doesR Rs B o).2], m.set bb (busC (doesB B o))) := by
  have hgs := getR_ok hR o.p
  have hgo : (getR Rs o.p).op = true → ∃ n : Nat, o.p = (n + 1 : Nat) ∧ n < 4 ∧ (o.p - 1).toNat = n := fun h => by
    obtain ⟨n, h1, h2, _⟩ := getR_open h
    exact ⟨n, h1, h2, by omega⟩
  have hgz : (getR Rs o.p).op = false → getR Rs o.p = zeroR := getR_zero
  refine RF_wpc rfl v16 b16 [] ?_
  refine And.intro rfl (And.intro rfl (And.intro rfl (And.intro rfl (And.intro rfl ?_))))
  refine And.intro (Nat.le_refl _) (And.intro rfl ⟨_, rfl, rfl, ?_⟩)
  refine And.intro rfl ⟨_, _, get_ok hR.len, ?_⟩
  unfold doesR doesB
  generalize getR Rs o.p = s at hgs hgo hgz ⊢
  have e3 : (killLV 3 (V.agg s.cells)).share = .agg s.cells := s.share
  refine And.intro (by rw [e3]; exact s.ok) (And.intro (by rw [e3]; exact ⟨Nat.le_refl _, rfl, s.ok⟩) ?_)
  simp only [e3]
  refine ⟨_, rfl, rfl, ?_⟩
  refine ⟨_, rfl, rfl, ?_⟩
  refine fun c hc => ?_
  cases c with
  | true =>
    simp only [decide_eq_true_eq] at hc
    simp only [if_pos hc]
    refine ⟨_, rfl, rfl, ?_⟩
    refine And.intro rfl ⟨_, _, openR_ok hW hm, ?_⟩
    refine ⟨_, rfl, rfl, ?_⟩
    by_cases hp : o.p < 1 ∨ 4 < o.p
    · rw [if_pos hp]
      refine fun c hc2 => ?_
      cases c with
      | true =>
        refine And.intro (Nat.le_refl _) (And.intro rfl ?_)
        refine fun c hc3 => ?_
        subst hc3
        refine And.intro rfl (And.intro ⟨Nat.le_refl _, rfl, rfl⟩ ?_)
        exact ⟨Nat.le_refl _, ⟨rfl, by simp⟩, rfl, trim_same (by simp)⟩
      | false =>
        simp only [decide_eq_false_iff_not] at hc2
        refine ⟨_, rfl, rfl, ?_⟩
        refine fun c hc3 => ?_
        cases c with
        | false => simp only [decide_eq_false_iff_not] at hc3; omega
        | true =>
        refine And.intro (Nat.le_refl _) (And.intro rfl ?_)
        refine fun c hc3 => ?_
        subst hc3
        refine And.intro rfl (And.intro ⟨Nat.le_refl _, rfl, rfl⟩ ?_)
        exact ⟨Nat.le_refl _, ⟨rfl, by simp⟩, rfl, trim_same (by simp)⟩
    · rw [if_neg hp]
      refine fun c hc2 => ?_
      cases c with
      | true => simp only [decide_eq_true_eq] at hc2; omega
      | false =>
      refine ⟨_, rfl, rfl, ?_⟩
      refine fun c hc3 => ?_
      cases c with
      | true => simp only [decide_eq_true_eq] at hc3; omega
      | false =>
      cases hop : s.op with
      | true =>
        refine And.intro (Nat.le_refl _) (And.intro rfl ?_)
        refine fun c hc3 => ?_
        subst hc3
        refine And.intro rfl (And.intro ⟨Nat.le_refl _, rfl, rfl⟩ ?_)
        exact ⟨Nat.le_refl _, ⟨rfl, by simp⟩, rfl, trim_same (by simp)⟩
      | false =>
        refine And.intro (Nat.le_refl _) (And.intro rfl ⟨_, rfl, rfl, ?_⟩)
        refine And.intro ⟨rfl, Nat.le_of_ble_eq_true rfl, rfl⟩ ?_
        refine And.intro rfl ⟨_, _, with_p (r := { zeroR with op := true }) hR.len (by omega), ?_⟩
        refine fun c hc3 => ?_
        subst hc3
        refine And.intro rfl (And.intro ⟨Nat.le_refl _, rfl, rfl⟩ ?_)
        exact ⟨Nat.le_refl _, ⟨rfl, by simp⟩, rfl, trim_same (by simp)⟩
  | false =>
  simp only [decide_eq_false_iff_not] at hc
  simp only [if_neg hc]
  refine fun c hc => ?_
  cases c with
  | true =>
    simp only [decide_eq_true_eq] at hc
    simp only [if_pos hc]
    refine ⟨_, rfl, rfl, ?_⟩
    refine And.intro rfl ⟨_, _, shutR_ok hW hm, ?_⟩
    cases hop : s.op with
    | false =>
      refine And.intro (Nat.le_refl _) (And.intro rfl ?_)
      refine fun c hc3 => ?_
      subst hc3
      refine And.intro rfl (And.intro ⟨Nat.le_refl _, rfl, rfl⟩ ?_)
      exact ⟨Nat.le_refl _, ⟨rfl, by simp⟩, rfl, trim_same (by simp)⟩
    | true =>
      obtain ⟨n, hpn, hn4, _⟩ := hgo hop
      refine And.intro (Nat.le_refl _) (And.intro rfl ⟨_, rfl, rfl, ?_⟩)
      refine And.intro rfl ⟨_, _, with_p (r := zeroR) hR.len (by omega), ?_⟩
      refine fun c hc3 => ?_
      subst hc3
      refine And.intro rfl (And.intro ⟨Nat.le_refl _, rfl, rfl⟩ ?_)
      exact ⟨Nat.le_refl _, ⟨rfl, by simp⟩, rfl, trim_same (by simp)⟩
  | false =>
  simp only [decide_eq_false_iff_not] at hc
  simp only [if_neg hc]
  refine fun c hc => ?_
  cases c with
  | true =>
    simp only [decide_eq_true_eq] at hc
    simp only [if_pos hc]
    refine ⟨_, rfl, rfl, ?_⟩
    refine ⟨_, rfl, rfl, ?_⟩
    refine ⟨_, rfl, rfl, ?_⟩
    refine And.intro rfl ⟨_, _, subR_ok hW hm, ?_⟩
    cases hop : s.op with
    | false =>
      refine And.intro (Nat.le_refl _) (And.intro rfl ?_)
      refine fun c hc3 => ?_
      subst hc3
      refine And.intro rfl (And.intro ⟨Nat.le_refl _, rfl, rfl⟩ ?_)
      exact ⟨Nat.le_refl _, ⟨rfl, by simp⟩, rfl, trim_same (by simp)⟩
    | true =>
      obtain ⟨n, hpn, hn4, _⟩ := hgo hop
      refine ⟨_, rfl, rfl, ?_⟩
      simp only [if_true]
      by_cases hk : o.n < 1 ∨ 8 < o.n
      · rw [if_pos hk]
        refine fun c hc2 => ?_
        cases c with
        | true =>
          refine And.intro (Nat.le_refl _) (And.intro rfl ?_)
          refine fun c hc3 => ?_
          subst hc3
          refine And.intro rfl (And.intro ⟨Nat.le_refl _, rfl, rfl⟩ ?_)
          exact ⟨Nat.le_refl _, ⟨rfl, by simp⟩, rfl, trim_same (by simp)⟩
        | false =>
          simp only [decide_eq_false_iff_not] at hc2
          refine ⟨_, rfl, rfl, ?_⟩
          refine fun c hc3 => ?_
          cases c with
          | false => simp only [decide_eq_false_iff_not] at hc3; omega
          | true =>
          refine And.intro (Nat.le_refl _) (And.intro rfl ?_)
          refine fun c hc3 => ?_
          subst hc3
          refine And.intro rfl (And.intro ⟨Nat.le_refl _, rfl, rfl⟩ ?_)
          exact ⟨Nat.le_refl _, ⟨rfl, by simp⟩, rfl, trim_same (by simp)⟩
      · rw [if_neg hk]
        refine fun c hc2 => ?_
        cases c with
        | true => simp only [decide_eq_true_eq] at hc2; omega
        | false =>
        refine ⟨_, rfl, rfl, ?_⟩
        refine fun c hc3 => ?_
        cases c with
        | true => simp only [decide_eq_true_eq] at hc3; omega
        | false =>
        refine And.intro (Nat.le_refl _) (And.intro rfl ⟨_, rfl, rfl, ?_⟩)
        refine And.intro (Nat.le_refl _) (And.intro s.own ⟨_, rfl, rfl, ?_⟩)
        refine ⟨_, rfl, rfl, ?_⟩
        refine And.intro (okA s.okS rfl) ⟨_, _, sub_s hgs.2, ?_⟩
        refine And.intro (okA rfl (okA rfl (okA (s.sub o.n o.on).okS rfl))) ⟨_, _, with_s (r := s.sub o.n o.on) hR.len (by omega), ?_⟩
        refine fun c hc3 => ?_
        subst hc3
        refine And.intro rfl (And.intro ⟨Nat.le_refl _, rfl, rfl⟩ ?_)
        exact ⟨Nat.le_refl _, ⟨rfl, by simp⟩, rfl, trim_same (by simp)⟩
  | false =>
  simp only [decide_eq_false_iff_not] at hc
  simp only [if_neg hc]
  refine fun c hc => ?_
  cases c with
  | true =>
    simp only [decide_eq_true_eq] at hc
    simp only [if_pos hc]
    refine WP_loop (vars := v16) (bx := b16) (cuts := []) [0, 1, 2] (fun k L Bx m' => ∃ j : Nat, k + j = 4 ∧
      L = [(0, .ptr bb 0), (4, .loc 0 0), (5, .loc 1 0), (6, .loc 2 0), (13, .int .i64 (rpubN Rs o.e j).2), (14, .int .i64 ((j : Int) + 1))] ∧
      Bx = [(0, (refV (rpubN Rs o.e j).1).cells), (1, o.cells), (2, [.nils])] ∧ m' = m) ?_ ?_
    · exact ⟨4, 0, rfl, rfl, rfl, rfl⟩
    · rintro k L Bx m' ⟨j, hkj, rfl, rfl, rfl⟩
      have hRj := hR.rpubN o.e j
      refine fun c hc => ?_
      cases c with
      | false =>
        simp only [decide_eq_false_iff_not] at hc
        obtain rfl : j = 4 := by omega
        refine And.intro (Nat.le_refl _) (And.intro rfl (And.intro (Nat.le_refl _) (And.intro rfl (And.intro rfl ?_))))
        refine And.intro rfl ⟨_, _, publish_ok hW hm, ?_⟩
        refine fun c hc => ?_
        subst hc
        refine And.intro rfl (And.intro ⟨Nat.le_refl _, rfl, rfl⟩ ?_)
        exact ⟨Nat.le_refl _, ⟨rfl, by simp⟩, rfl, trim_same (by simp)⟩
      | true =>
        simp only [decide_eq_true_eq] at hc
        have hj4 : j < 4 := by omega
        refine And.intro (Nat.le_refl _) (And.intro rfl (And.intro rfl ⟨_, _, get_ok hRj.len, ?_⟩))
        have hx := getR_ok hRj ((j : Int) + 1)
        have hbd := rpubN_bound Rs o.e j
        have hstep : rpubN Rs o.e (j + 1) = let x := getR (rpubN Rs o.e j).1 ((j : Int) + 1)
            if x.op && decide (o.e.kind ∈ x.kl) then ((rpubN Rs o.e j).1.set j (x.put o.e), if x.ql.length < 16 then (rpubN Rs o.e j).2 + 1 else (rpubN Rs o.e j).2) else rpubN Rs o.e j := rfl
        have hw1 := wrap64 (n := ((j : Int) + 1) + 1) (by omega) (by omega)
        have fin : ∀ (q : List RS × Int), rpubN Rs o.e (j + 1) = q → ∃ n', n' < k ∧ ∃ i : Nat, n' + i = 4 ∧
            [(0, V.ptr bb 0), (4, V.loc 0 0), (5, V.loc 1 0), (6, V.loc 2 0), (13, V.int .i64 q.2), (14, V.int .i64 (IntKind.wrap .i64 (((j : Int) + 1) + 1)))] =
            [(0, V.ptr bb 0), (4, V.loc 0 0), (5, V.loc 1 0), (6, V.loc 2 0), (13, V.int .i64 (rpubN Rs o.e i).2), (14, V.int .i64 ((i : Int) + 1))] ∧
            [(0, (refV q.1).cells), (1, o.cells), (2, [V.nils])] = [(0, (refV (rpubN Rs o.e i).1).cells), (1, o.cells), (2, [V.nils])] ∧ m' = m' := fun q hq =>
          ⟨k - 1, by omega, j + 1, by omega, by rw [hq, hw1]; rfl, by rw [hq], rfl⟩
        generalize getR (rpubN Rs o.e j).1 ((j : Int) + 1) = x at hx hstep ⊢
        refine And.intro x.ok1 (And.intro ⟨Nat.le_refl _, rfl, x.ok1⟩ ?_)
        refine And.intro (Nat.le_refl _) (And.intro x.ownS ⟨_, rfl, rfl, ?_⟩)
        refine And.intro (okA x.okSS rfl) ⟨_, _, wants_ss hx.2, ?_⟩
        cases hwx : (x.op && decide (o.e.kind ∈ x.kl)) with
        | false =>
          simp only [hwx] at hstep
          exact fin _ hstep
        | true =>
          simp only [hwx, if_true] at hstep
          refine And.intro (Nat.le_refl _) (And.intro x.ownS (And.intro (Nat.le_refl _) (And.intro rfl (And.intro rfl ?_))))
          refine And.intro (okA x.okSS rfl) ⟨_, _, put_ss hx.1, ?_⟩
          refine And.intro (tupOwn _ _) (And.intro (tupOwn _ _) (And.intro (tupOwn _ _) ?_))
          refine And.intro (x.put o.e).ok1 (And.intro ⟨Nat.le_refl _, rfl, (x.put o.e).ok1⟩ ?_)
          have h26 := with_ss (m := m') (r := x.put o.e) (p := (j : Int) + 1) hRj.len (by omega)
          rw [show ((j : Int) + 1 - 1).toNat = j from by omega] at h26
          refine And.intro (Nat.le_refl _) (And.intro rfl ?_)
          refine And.intro (Nat.le_refl _) (And.intro (x.put o.e).ownS ?_)
          refine And.intro (okA rfl (okA rfl (okA (x.put o.e).okSS rfl))) ⟨_, _, h26, ?_⟩
          refine And.intro rfl (And.intro ⟨Nat.le_refl _, rfl, rfl⟩ ?_)
          by_cases hql : x.ql.length < 16
          · rw [if_pos hql] at hstep
            rw [decide_eq_true hql]
            have hw2 := wrap64 (n := (rpubN Rs o.e j).2 + 1) (by omega) (by omega)
            rw [← hw2] at hstep
            exact fin _ hstep
          · rw [if_neg hql] at hstep
            rw [decide_eq_false hql]
            exact fin _ hstep
  | false =>
  simp only [decide_eq_false_iff_not] at hc
  simp only [if_neg hc]
  refine fun c hc => ?_
  cases c with
  | true =>
    simp only [decide_eq_true_eq] at hc
    simp only [if_pos hc]
    refine ⟨_, rfl, rfl, ?_⟩
    refine And.intro (Nat.le_refl _) (And.intro rfl (And.intro rfl (And.intro rfl ⟨_, _, sendR_ok hW hm, ?_⟩)))
    cases hop : s.op with
    | false =>
      refine And.intro (Nat.le_refl _) (And.intro rfl ?_)
      refine fun c hc3 => ?_
      subst hc3
      refine And.intro rfl (And.intro ⟨Nat.le_refl _, rfl, rfl⟩ ?_)
      exact ⟨Nat.le_refl _, ⟨rfl, by simp⟩, rfl, trim_same (by simp)⟩
    | true =>
      obtain ⟨n, hpn, hn4, _⟩ := hgo hop
      simp only [if_true]
      refine And.intro (Nat.le_refl _) (And.intro s.own (And.intro (Nat.le_refl _) (And.intro rfl (And.intro rfl ?_))))
      refine And.intro (okA s.okS (okA rfl rfl)) ⟨_, _, put_s hgs.1, ?_⟩
      refine And.intro (tupOwn _ _) (And.intro (tupOwn _ _) (And.intro (tupOwn _ _) ?_))
      refine And.intro (s.put o.e).ok1 (And.intro ⟨Nat.le_refl _, rfl, (s.put o.e).ok1⟩ ?_)
      refine And.intro (Nat.le_refl _) (And.intro rfl ⟨_, rfl, rfl, ?_⟩)
      refine And.intro (Nat.le_refl _) (And.intro (s.put o.e).ownS ?_)
      refine And.intro (okA rfl (okA rfl (okA (s.put o.e).okSS rfl))) ⟨_, _, with_ss (r := s.put o.e) hR.len (by omega), ?_⟩
      refine fun c1 h1 => ?_
      rw [h1]
      generalize decide (s.ql.length < 16) = okb
      refine fun c2 h2 => ?_
      cases okb <;> cases c1 <;> subst h2
      · refine fun c3 h3 => ?_
        subst h3
        refine And.intro rfl (And.intro ⟨Nat.le_refl _, rfl, rfl⟩ ?_)
        exact ⟨Nat.le_refl _, ⟨rfl, by simp⟩, rfl, trim_same (by simp)⟩
      · 
        refine And.intro rfl (And.intro ⟨Nat.le_refl _, rfl, rfl⟩ ?_)
        exact ⟨Nat.le_refl _, ⟨rfl, by simp⟩, rfl, trim_same (by simp)⟩
      · 
        refine And.intro rfl (And.intro ⟨Nat.le_refl _, rfl, rfl⟩ ?_)
        exact ⟨Nat.le_refl _, ⟨rfl, by simp⟩, rfl, trim_same (by simp)⟩
      · 
        refine And.intro rfl (And.intro ⟨Nat.le_refl _, rfl, rfl⟩ ?_)
        exact ⟨Nat.le_refl _, ⟨rfl, by simp⟩, rfl, trim_same (by simp)⟩
  | false =>
  simp only [decide_eq_false_iff_not] at hc
  simp only [if_neg hc]
  refine fun c hc => ?_
  cases c with
  | true =>
    simp only [decide_eq_true_eq] at hc
    simp only [if_pos hc]
    have htk := takeR_ok hW hm (p := o.p)
    generalize takeR B o.p = tq at htk ⊢
    obtain ⟨⟨te, b⟩, B'⟩ := tq
    refine ⟨_, rfl, rfl, ?_⟩
    refine And.intro rfl ⟨_, _, htk, ?_⟩
    refine And.intro rfl (And.intro rfl (And.intro rfl (And.intro rfl (And.intro rfl (And.intro ⟨Nat.le_refl _, rfl, rfl⟩ ?_)))))
    obtain ⟨op, kv, kl, hk, qv, ql, hq, d⟩ := s
    have hko : kv.own0 = false := by cases hk <;> rfl
    cases hq with
    | nil =>
      refine ⟨_, rfl, rfl, ?_⟩
      refine fun c hc => ?_
      subst hc
      refine And.intro (Nat.le_refl _) (And.intro rfl ?_)
      cases b with
      | true =>
        refine And.intro rfl (And.intro ⟨Nat.le_refl _, rfl, rfl⟩ ?_)
        exact ⟨Nat.le_refl _, ⟨rfl, by simp⟩, rfl, trim_same (by simp)⟩
      | false =>
        refine And.intro (Nat.le_refl _) (And.intro rfl (And.intro rfl (And.intro rfl ⟨_, ev_eq (f := ev0), ?_⟩)))
        refine fun c hc => ?_
        subst hc
        refine And.intro rfl (And.intro ⟨Nat.le_refl _, rfl, rfl⟩ ?_)
        exact ⟨Nat.le_refl _, ⟨rfl, by simp⟩, rfl, trim_same (by simp)⟩
    | sl =>
      cases ql with
      | nil =>
        refine ⟨_, rfl, rfl, ?_⟩
        refine fun c hc => ?_
        subst hc
        refine And.intro (Nat.le_refl _) (And.intro rfl ?_)
        cases b with
        | true =>
          refine And.intro rfl (And.intro ⟨Nat.le_refl _, rfl, rfl⟩ ?_)
          exact ⟨Nat.le_refl _, ⟨rfl, by simp⟩, rfl, trim_same (by simp)⟩
        | false =>
          refine And.intro (Nat.le_refl _) (And.intro rfl (And.intro rfl (And.intro rfl ⟨_, ev_eq (f := ev0), ?_⟩)))
          refine fun c hc => ?_
          subst hc
          refine And.intro rfl (And.intro ⟨Nat.le_refl _, rfl, rfl⟩ ?_)
          exact ⟨Nat.le_refl _, ⟨rfl, by simp⟩, rfl, trim_same (by simp)⟩
      | cons f rest =>
        have hop : op = true := by
          cases op with
          | true => rfl
          | false => exact absurd (congrArg RS.ql (hgz rfl)) (by simp [zeroR])
        subst hop
        obtain ⟨n, hpn, hn4, _⟩ := hgo rfl
        refine ⟨_, rfl, rfl, ?_⟩
        refine fun c hc => ?_
        cases c with
        | true => simp at hc; omega
        | false =>
        refine ⟨_, rfl, rfl, ?_⟩
        refine And.intro (Int.le_refl _) ⟨_, rfl, Nat.le_refl _, ?_⟩
        refine And.intro rfl (And.intro rfl (And.intro ⟨Nat.le_refl _, rfl, rfl⟩ ?_))
        refine ⟨_, rfl, rfl, ?_⟩
        refine And.intro (by decide) (And.intro ⟨by simp, Nat.le_refl _⟩ ?_)
        refine And.intro rfl (And.intro ⟨Nat.le_of_ble_eq_true rfl, rfl, rfl⟩ ?_)
        have hX : (V.agg [.bool true, kv, .slice false 4 ((((f :: rest).map Ev.cells).drop (1 : Int).toNat).take (((f :: rest).map Ev.cells).length - (1 : Int).toNat)), .int .i64 d]).share = .agg (RS.tail ⟨true, kv, kl, hk, .slice false 4 ((f :: rest).map Ev.cells), f :: rest, .sl _, d⟩).cells := by
          have h1 : (((f :: rest).map Ev.cells).drop (1 : Int).toNat).take (((f :: rest).map Ev.cells).length - (1 : Int).toNat) = rest.map Ev.cells := by
            show (rest.map Ev.cells).take ((rest.map Ev.cells).length + 1 - 1) = _
            rw [Nat.add_sub_cancel, List.take_of_length_le (Nat.le_refl _)]
          rw [h1]
          cases hk <;> rfl
        have h26 := with_p (m := m.set bb (busC B')) (r := RS.tail ⟨true, kv, kl, hk, .slice false 4 ((f :: rest).map Ev.cells), f :: rest, .sl _, d⟩) (p := o.p) hR.len (by omega)
        rw [← hX] at h26
        refine And.intro (Nat.le_refl _) (And.intro rfl ⟨_, rfl, rfl, ?_⟩)
        refine And.intro (Nat.le_of_ble_eq_true rfl) (And.intro (by cases hk <;> rfl) ?_)
        refine And.intro (by cases hk <;> rfl) ⟨_, _, h26, ?_⟩
        cases b with
        | false =>
          refine And.intro rfl (And.intro ⟨Nat.le_refl _, rfl, rfl⟩ ?_)
          exact ⟨Nat.le_refl _, ⟨rfl, by simp⟩, rfl, trim_same (by simp)⟩
        | true =>
          refine And.intro (Nat.le_refl _) (And.intro rfl (And.intro (Nat.le_refl _) (And.intro rfl (And.intro rfl (And.intro rfl ⟨_, ev_eq, ?_⟩)))))
          refine fun c hc => ?_
          subst hc
          refine And.intro rfl (And.intro ⟨Nat.le_refl _, rfl, rfl⟩ ?_)
          exact ⟨Nat.le_refl _, ⟨rfl, by simp⟩, rfl, trim_same (by simp)⟩
  | false =>
  simp only [decide_eq_false_iff_not] at hc
  simp only [if_neg hc]
  refine And.intro (Nat.le_refl _) (And.intro rfl ?_)
  refine And.intro rfl (And.intro ⟨Nat.le_refl _, rfl, rfl⟩ ?_)
  exact ⟨Nat.le_refl _, ⟨rfl, Nat.le_refl _⟩, rfl, (trim_same rfl).trans (set_same hm).symm⟩
end
end Go.Proofs.Ytpfelpmmejhjaaa.Am

/-
What a call does to one slot.
-/
namespace Go.Proofs.Ytpfelpmmejhjaaa.Am
def eff (s : Slot) (o : BOp) : Slot :=
  if o.kind = 1 then (if s.op then s else fresh true) else if o.kind = 2 then (if s.op then fresh false else s)
  else if o.kind = 3 then (if s.op then (if o.n < 1 ∨ 8 < o.n then s else s.sub o.n.toNat o.on) else s)
  else if o.kind = 5 then (if s.op then s.put o.e else s)
  else if o.kind = 6 then (if s.op then (match s.evs with | [] => s | _ :: es => { s with q := some es }) else s) else s
def pubS (s : Slot) (e : Ev) : Slot := if s.op && s.wants e then s.put e else s
theorem opn_at {B : List Slot} {n : Nat} {s : Slot} (h1 : 1 ≤ n) (h2 : n ≤ 4) (hs : B[n]? = some s) : opn B n = if s.op then some s else none := by
  unfold opn
  rw [if_pos (by omega)]
  simp only [Int.toNat_natCast, hs, Option.filter_some]
theorem set_id {B : List Slot} {n : Nat} {s : Slot} (hs : B[n]? = some s) : B.set n s = B := by
  obtain ⟨h1, h2⟩ := List.getElem?_eq_some_iff.1 hs
  rw [← h2, List.set_getElem_self]
theorem doesB_at {B : List Slot} {o : BOp} {n : Nat} {s : Slot} (hp : o.p = n) (h1 : 1 ≤ n) (h2 : n ≤ 4) (hs : B[n]? = some s) (h4 : o.kind ≠ 4) : doesB B o = B.set n (eff s o) := by
  have ho := opn_at h1 h2 hs
  have hnp : ¬ (o.p < 1 ∨ 4 < o.p) := by omega
  have ht : o.p.toNat = n := by omega
  unfold doesB eff openR shutR subR sendR takeR
  rw [if_neg hnp, ht, hs, hp, ho]
  simp only [if_neg h4]
  cases hop : s.op with
  | true =>
    simp only [if_true]
    split
    · exact (set_id hs).symm
    split
    · rfl
    split
    · split
      · exact (set_id hs).symm
      · rfl
    split
    · rfl
    split
    · cases he : s.evs with
      | nil => exact (set_id hs).symm
      | cons e es => simp only [hop]
    · exact (set_id hs).symm
  | false =>
    simp only [Bool.false_eq_true, if_false]
    split
    · rfl
    split
    · exact (set_id hs).symm
    split
    · exact (set_id hs).symm
    split
    · exact (set_id hs).symm
    split
    · exact (set_id hs).symm
    · exact (set_id hs).symm
theorem opn_out {B : List Slot} {p : Int} (h : ¬ (1 ≤ p ∧ p ≤ 4)) : opn B p = none := by unfold opn; rw [if_neg h]
theorem doesB_out {B : List Slot} {o : BOp} (hp : ¬ (1 ≤ o.p ∧ o.p ≤ 4)) (h4 : o.kind ≠ 4) : doesB B o = B := by
  have ho := opn_out (B := B) hp
  have hnp : o.p < 1 ∨ 4 < o.p := by omega
  unfold doesB openR shutR subR sendR takeR
  rw [if_pos hnp, ho]
  simp only [if_neg h4]
  split
  · rfl
  split
  · rfl
  split
  · rfl
  split
  · rfl
  split <;> rfl
theorem pubN_get {B : List Slot} {e : Ev} {p : Nat} {s : Slot} (hs : B[p]? = some s) (h1 : 1 ≤ p) (h4 : p ≤ 4) : ∀ k, (pubN B e k).1[p]? = some (if p < k then pubS s e else s)
  | 0 => by rw [if_neg (by omega)]; exact hs
  | k + 1 => by
    have ih := pubN_get hs h1 h4 (e := e) k
    by_cases hk : p = k
    · subst hk
      rw [if_neg (by omega)] at ih
      rw [if_pos (by omega)]
      have ho := opn_at h1 h4 ih
      unfold pubS
      cases hop : s.op with
      | true =>
        rw [hop, if_pos rfl] at ho
        rw [pubN_some ho]
        cases hw : s.wants e with
        | true =>
          simp only [if_true, Bool.and_self]
          rw [List.getElem?_set_self (lt_of_get ih)]
        | false => simpa using ih
      | false =>
        rw [hop] at ho
        rw [pubN_none ho]
        simpa using ih
    · have he : (pubN B e (k + 1)).1[p]? = (pubN B e k).1[p]? := by
        cases ho : opn (pubN B e k).1 k with
        | none => rw [pubN_none ho]
        | some t =>
          rw [pubN_some ho]
          split
          · rw [List.getElem?_set_ne (fun h => hk h.symm)]
          · rfl
      rw [he, ih]
      by_cases hlt : p < k
      · rw [if_pos hlt, if_pos (by omega)]
      · rw [if_neg hlt, if_neg (by omega)]
theorem eff_len {s : Slot} {o : BOp} (h : s.evs.length ≤ 16) : (eff s o).evs.length ≤ 16 := by
  unfold eff
  split
  · split
    · exact h
    · exact Nat.zero_le _
  split
  · split
    · exact Nat.zero_le _
    · exact h
  split
  · split
    · split
      · exact h
      · exact h
    · exact h
  split
  · split
    · exact s.put_le _ h
    · exact h
  split
  · split
    · cases he : s.evs with
      | nil => simp only; exact h
      | cons e es =>
        simp only
        rw [he] at h
        show es.length ≤ 16
        simp only [List.length_cons] at h
        omega
    · exact h
  · exact h
theorem WF.does {B : List Slot} (h : WF B) (o : BOp) : WF (doesB B o) := by
  by_cases h4 : o.kind = 4
  · have : doesB B o = (Am.pubN B o.e 5).1 := by
      unfold doesB
      rw [if_neg (by omega), if_neg (by omega), if_neg (by omega), if_pos h4]
    rw [this]; exact h.pubN _ _
  · by_cases hp : 1 ≤ o.p ∧ o.p ≤ 4
    · have hg := List.getElem?_eq_getElem (show o.p.toNat < B.length from by rw [h.len]; omega)
      rw [doesB_at (n := o.p.toNat) (by omega) (by omega) (by omega) hg h4]
      exact h.set (eff_len (h.room _ (List.getElem_mem _)))
    · rw [doesB_out hp h4]; exact h
theorem lenOf_at {B : List Slot} {n : Nat} {s : Slot} (h1 : 1 ≤ n) (h2 : n ≤ 4) (hs : B[n]? = some s) : lenOf B n = if s.op then s.evs.length else 0 := by
  unfold lenOf; rw [opn_at h1 h2 hs]; cases s.op <;> rfl
theorem dropOf_at {B : List Slot} {n : Nat} {s : Slot} (h1 : 1 ≤ n) (h2 : n ≤ 4) (hs : B[n]? = some s) : dropOf B n = if s.op then s.dropped else 0 := by
  unfold dropOf; rw [opn_at h1 h2 hs]; cases s.op <;> rfl
def kindsOf (B : List Slot) (p : Int) : List Int := match opn B p with
  | some s => kindN s 9
  | none => []
theorem kindsOf_at {B : List Slot} {n : Nat} {s : Slot} (h1 : 1 ≤ n) (h2 : n ≤ 4) (hs : B[n]? = some s) : kindsOf B n = if s.op then kindN s 9 else [] := by
  unfold kindsOf; rw [opn_at h1 h2 hs]; cases s.op <;> rfl
theorem kindsOf_ok {m : Ms} {bb : Nat} {B : List Slot} {p : Int} (hB : B.length = 5) (hm : m[bb]? = some (busC B)) : RF BT 19 [.ptr bb 0, .int .i64 p] m = some (outV (kindsOf B p), m) := by
  unfold kindsOf
  cases h : opn B p with
  | none => exact kinds_none hB hm h
  | some s => exact kinds_ok hm h
theorem kindsOf_len (B : List Slot) (p : Int) : (kindsOf B p).length ≤ 9 := by
  unfold kindsOf
  cases opn B p with
  | none => exact Nat.zero_le _
  | some s => exact kindN_len s 9
end Go.Proofs.Ytpfelpmmejhjaaa.Am

/-
The document's example, for the bus.
-/
namespace Go.Proofs.Ytpfelpmmejhjaaa.Am
theorem last_get {m : Ms} {x : List V} : (m ++ [x])[m.length]? = some x := by simp
theorem last_set {m : Ms} {x y : List V} : (m ++ [x]).set m.length y = m ++ [y] := by simp
namespace Alive
def B0 : List Slot := List.replicate 5 (fresh false)
def B1 : List Slot := B0.set 1 (fresh true)
def B2 : List Slot := B1.set 2 (fresh true)
def B3 : List Slot := B2.set 1 ((fresh true).sub 3 true)
def e1 : Ev := ⟨3, 7, 0, []⟩
def e2 : Ev := ⟨3, 0, 0, []⟩
def B4 : List Slot := (pubN B3 e1 5).1
def s4 : Slot := ((fresh true).sub 3 true).put e1
def B5 : List Slot := B4.set 1 { s4 with q := some [] }
def Bi : Nat → List Slot
  | 0 => B5
  | i + 1 => (pubN (Bi i) e2 5).1
theorem wf0 : WF B0 := ⟨rfl, fun s hs => by rw [List.eq_of_mem_replicate hs]; exact Nat.zero_le _⟩
theorem wf3 : WF B3 := ((wf0.set (Nat.zero_le _)).set (Nat.zero_le _)).set (Nat.zero_le _)
theorem wf5 : WF B5 := (wf3.pubN e1 5).set (Nat.zero_le _)
theorem wfi : ∀ i, WF (Bi i)
  | 0 => wf5
  | i + 1 => (wfi i).pubN e2 5
variable {m : Ms}
theorem o1 : RF BT 9 [.ptr m.length 0, .int .i64 1] (m ++ [busC B0]) = some (.int .i64 0, m ++ [busC B1]) := by
  have h := open_in (m := m ++ [busC B0]) (bb := m.length) (B := B0) (n := 1) (s := fresh false) (by decide) (by decide) last_get rfl
  rw [last_set] at h
  exact h
theorem o2 : RF BT 9 [.ptr m.length 0, .int .i64 2] (m ++ [busC B1]) = some (.int .i64 0, m ++ [busC B2]) := by
  have h := open_in (m := m ++ [busC B1]) (bb := m.length) (B := B1) (n := 2) (s := fresh false) (by decide) (by decide) last_get rfl
  rw [last_set] at h
  exact h
theorem o3 : RF BT 10 [.ptr m.length 0, .int .i64 1, .int .i64 3, .bool true] (m ++ [busC B2]) = some (.int .i64 0, m ++ [busC B3]) := by
  have h := sub_in (m := m ++ [busC B2]) (bb := m.length) (B := B2) (p := 1) (s := fresh true) (k := 3) (on := true) last_get rfl (by decide) (by decide)
  rw [last_set] at h
  exact h
theorem o4 : RF BT 11 [.ptr m.length 0, .agg e1.cells] (m ++ [busC B3]) = some (.int .i64 1, m ++ [busC B4]) := by
  have h := publish_ok (m := m ++ [busC B3]) (bb := m.length) (B := B3) (e := e1) wf3 last_get
  rw [last_set, show (pubN B3 e1 5).2 = 1 from by kernel_rfl] at h
  exact h
theorem o5 : RF BT 12 [.ptr m.length 0, .int .i64 1] (m ++ [busC B4]) = some (.tuple [.agg e1.cells, .bool true], m ++ [busC B5]) := by
  have h := take_some (m := m ++ [busC B4]) (bb := m.length) (B := B4) (p := 1) (s := s4) (e := e1) (es := []) last_get (by kernel_rfl) (by kernel_rfl)
  rw [last_set] at h
  exact h
theorem o6 : RF BT 12 [.ptr m.length 0, .int .i64 2] (m ++ [busC B5]) = some (.tuple [.agg ev0.cells, .bool false], m ++ [busC B5]) :=
  take_empty (m := m ++ [busC B5]) (bb := m.length) (B := B5) (p := 2) (s := fresh true) last_get (by kernel_rfl) rfl
theorem o7 (i : Nat) : RF BT 11 [.ptr m.length 0, .agg e2.cells] (m ++ [busC (Bi i)]) = some (.int .i64 (pubN (Bi i) e2 5).2, m ++ [busC (Bi (i + 1))]) := by
  have h := publish_ok (m := m ++ [busC (Bi i)]) (bb := m.length) (B := Bi i) (e := e2) (wfi i) last_get
  rw [last_set] at h
  exact h
theorem o8 : RF BT 13 [.ptr m.length 0, .int .i64 1] (m ++ [busC (Bi 17)]) = some (.int .i64 16, m ++ [busC (Bi 17)]) := by
  have h := len_ok (m := m ++ [busC (Bi 17)]) (bb := m.length) (p := 1) (wfi 17).len last_get
  rw [show lenOf (Bi 17) 1 = 16 from by kernel_rfl] at h
  exact h
theorem o9 : RF BT 14 [.ptr m.length 0, .int .i64 1] (m ++ [busC (Bi 17)]) = some (.int .i64 1, m ++ [busC (Bi 17)]) := by
  have h := dropped_ok (m := m ++ [busC (Bi 17)]) (bb := m.length) (p := 1) (wfi 17).len last_get
  rw [show dropOf (Bi 17) 1 = 1 from by kernel_rfl] at h
  exact h
theorem o10 : RF BT 20 [.ptr m.length 0] (m ++ [busC (Bi 17)]) = some (.slice true 1 (ints [1]), m ++ [busC (Bi 17)]) := by
  have h := ready_ok (m := m ++ [busC (Bi 17)]) (bb := m.length) (wfi 17).len last_get
  rw [show readyN (Bi 17) 5 = [1] from by kernel_rfl] at h
  exact h
def s17 : Slot := (opn (Bi 17) 1).getD (fresh false)
theorem opn17 : opn (Bi 17) 1 = some s17 := by kernel_rfl
theorem o11 : RF BT 19 [.ptr m.length 0, .int .i64 1] (m ++ [busC (Bi 17)]) = some (.slice true 1 (ints [3]), m ++ [busC (Bi 17)]) := by
  have h := kinds_ok (m := m ++ [busC (Bi 17)]) (bb := m.length) (p := 1) (s := s17) last_get opn17
  rw [show kindN s17 9 = [3] from by kernel_rfl] at h
  exact h
def B18 : List Slot := (Bi 17).set 1 (fresh false)
theorem o12 : RF BT 22 [.ptr m.length 0, .int .i64 1] (m ++ [busC (Bi 17)]) = some (.int .i64 0, m ++ [busC B18]) := by
  have h := shut_some (m := m ++ [busC (Bi 17)]) (bb := m.length) (p := 1) (s := s17) last_get opn17
  rw [last_set] at h
  exact h
theorem o13 : RF BT 13 [.ptr m.length 0, .int .i64 1] (m ++ [busC B18]) = some (.int .i64 0, m ++ [busC B18]) := by
  have hl : B18.length = 5 := by unfold B18; rw [List.length_set]; exact (wfi 17).len
  have h := len_ok (m := m ++ [busC B18]) (bb := m.length) (p := 1) hl last_get
  rw [show lenOf B18 1 = 0 from by kernel_rfl] at h
  exact h
set_option maxRecDepth 20000 in
theorem alive_ok : RF BT 8 [] m = some (.bool true, m) := by
  refine RF_wp rfl v8 b8 ?_
  refine And.intro rfl (And.intro rfl ⟨_, _, new_ok, ?_⟩)
  refine And.intro rfl ⟨_, _, o1, ?_⟩
  refine fun c hc => ?_
  subst hc
  refine And.intro rfl ⟨_, _, o2, ?_⟩
  refine fun c hc => ?_
  subst hc
  refine And.intro rfl ⟨_, _, o3, ?_⟩
  refine fun c hc => ?_
  subst hc
  refine And.intro ⟨rfl, by decide, rfl⟩ (And.intro ⟨rfl, by decide, rfl⟩ (And.intro rfl ?_))
  refine And.intro rfl ⟨_, _, o4, ?_⟩
  refine And.intro rfl ⟨_, _, o5, ?_⟩
  refine And.intro rfl (And.intro rfl (And.intro rfl (And.intro rfl (And.intro rfl (And.intro ⟨Nat.le_refl _, rfl, rfl⟩ ?_)))))
  refine And.intro rfl ⟨_, _, o6, ?_⟩
  refine And.intro rfl (And.intro rfl (And.intro rfl (And.intro rfl (And.intro rfl (And.intro ⟨Nat.le_refl _, rfl, rfl⟩ ?_)))))
  refine WP_loop (vars := v8) (bx := b8) (cuts := []) [0, 1] (fun k L Bx m' => ∃ i : Nat, k + i = 17 ∧ L = [(1, .ptr m.length 0), (2, .int .i64 1), (3, .loc 0 0), (4, .bool true), (6, .bool false), (7, .int .i64 i)] ∧ Bx = [(0, e1.cells), (1, ev0.cells)] ∧ m' = m ++ [busC (Bi i)]) ?_ ?_
  · exact ⟨17, 0, rfl, rfl, rfl, rfl⟩
  · rintro k L Bx m' ⟨i, hi, rfl, rfl, rfl⟩
    refine fun c hc => ?_
    cases c
    · simp only [decide_eq_false_iff_not] at hc
      obtain rfl : i = 17 := by omega
      refine fun c hc => ?_
      subst hc
      refine ⟨_, rfl, rfl, ?_⟩
      refine fun c hc => ?_
      subst hc
      refine And.intro rfl ⟨_, _, o8, ?_⟩
      refine fun c hc => ?_
      subst hc
      refine And.intro rfl ⟨_, _, o9, ?_⟩
      refine fun c hc => ?_
      subst hc
      refine And.intro rfl ⟨_, _, o10, ?_⟩
      refine And.intro ⟨rfl, by decide, rfl⟩ ?_
      refine And.intro rfl ⟨_, _, same_sl (xs := [1]) (ys := [1]) (by decide), ?_⟩
      refine And.intro rfl ⟨_, _, o11, ?_⟩
      refine And.intro ⟨rfl, by decide, rfl⟩ ?_
      refine And.intro rfl ⟨_, _, same_sl (xs := [3]) (ys := [3]) (by decide), ?_⟩
      refine And.intro rfl ⟨_, _, o12, ?_⟩
      refine fun c hc => ?_
      subst hc
      refine And.intro rfl ⟨_, _, o13, ?_⟩
      refine fun c hc => ?_
      subst hc
      refine ⟨⟨rfl, by simp⟩, rfl, ?_⟩
      exact (if_pos (Nat.zero_le _)).trans (by simp)
    · simp only [decide_eq_true_eq] at hc
      refine And.intro ⟨rfl, by decide, rfl⟩ (And.intro rfl (And.intro rfl ⟨_, _, o7 i, ?_⟩))
      refine ⟨k - 1, by omega, i + 1, by omega, ?_, rfl, rfl⟩
      have hw := wrap64 (n := (i : Int) + 1) (by omega) (by omega)
      show [(1, V.ptr m.length 0), (2, V.int .i64 1), (3, V.loc 0 0), (4, V.bool true), (6, V.bool false), (7, V.int .i64 (IntKind.wrap .i64 ((i : Int) + 1)))] = _
      rw [hw]; rfl
end Alive
end Go.Proofs.Ytpfelpmmejhjaaa.Am

/-
The bus and the reference's bus, side by side.
-/
namespace Go.Proofs.Ytpfelpmmejhjaaa.Am
/-- A slot and the reference's. -/
def RelS (s : Slot) (r : RS) : Prop := if s.op then r.op = true ∧ r.kl = kindN s 9 ∧ r.ql = s.evs ∧ r.d = s.dropped else r.op = false
structure Rel (B : List Slot) (Rs : List RS) : Prop where
  wf : WF B
  rwf : RWF Rs
  kinds : ∀ (n : Nat) (s : Slot), B[n]? = some s → s.kinds.getD 0 false = false
  rel : ∀ (n : Nat) (s : Slot) (r : RS), B[n + 1]? = some s → Rs[n]? = some r → RelS s r
theorem kindN_get (s : Slot) (k : Int) : ∀ j, k ∈ kindN s j ↔ 0 ≤ k ∧ k < j ∧ s.kinds.getD k.toNat false = true
  | 0 => by simp [kindN]; omega
  | j + 1 => by
    have ih := kindN_get s k j
    unfold kindN
    split
    · rename_i h
      rw [List.mem_append, List.mem_singleton, ih]
      constructor
      · rintro (⟨a, b, c⟩ | rfl)
        · exact ⟨a, by omega, c⟩
        · exact ⟨by omega, by omega, by simpa using h⟩
      · rintro ⟨a, b, c⟩
        by_cases hk : k = j
        · exact .inr hk
        · exact .inl ⟨a, by omega, c⟩
    · rename_i h
      rw [ih]
      constructor
      · rintro ⟨a, b, c⟩; exact ⟨a, by omega, c⟩
      · rintro ⟨a, b, c⟩
        by_cases hk : k = j
        · subst hk
          exact absurd (by simpa using c) h
        · exact ⟨a, by omega, c⟩
/-- What the slot p is, of both. -/
theorem Rel.get {B : List Slot} {Rs : List RS} (h : Rel B Rs) (p : Int) : match opn B p with
    | some s => (getR Rs p).op = true ∧ (getR Rs p).kl = kindN s 9 ∧ (getR Rs p).ql = s.evs ∧ (getR Rs p).d = s.dropped
    | none => getR Rs p = zeroR := by
  by_cases hp : 1 ≤ p ∧ p ≤ 4
  · have hg := List.getElem?_eq_getElem (show p.toNat < B.length from by rw [h.wf.len]; omega)
    have hr := List.getElem?_eq_getElem (show (p - 1).toNat < Rs.length from by rw [h.rwf.len]; omega)
    generalize B[p.toNat]'(by rw [h.wf.len]; omega) = s at hg
    generalize Rs[(p - 1).toNat]'(by rw [h.rwf.len]; omega) = r at hr
    have hrel := h.rel (p - 1).toNat s r (by rw [show (p - 1).toNat + 1 = p.toNat from by omega]; exact hg) hr
    have ho := opn_at (n := p.toNat) (by omega) (by omega) hg
    rw [show ((p.toNat : Nat) : Int) = p from by omega] at ho
    unfold RelS at hrel
    unfold getR
    rw [if_pos hp, hr, ho]
    cases hop : s.op with
    | true =>
      rw [hop, if_pos rfl] at hrel
      simp only [hrel.1, if_true]
      exact ⟨trivial, hrel.2⟩
    | false =>
      rw [hop] at hrel
      simp only [Bool.false_eq_true, if_false] at hrel ⊢
      rw [hrel]; rfl
  · rw [opn_out hp]
    simp only
    unfold getR
    rw [if_neg hp]
theorem Rel.set {B : List Slot} {Rs : List RS} (h : Rel B Rs) {n : Nat} {s : Slot} {r : RS} (h1 : s.evs.length ≤ 16) (h2 : r.ql.length ≤ 16 ∧ r.kl.length ≤ 8) (h3 : s.kinds.getD 0 false = false) (h4 : RelS s r) : Rel (B.set (n + 1) s) (Rs.set n r) := by
  refine ⟨h.wf.set h1, h.rwf.set h2, fun k t ht => ?_, fun k t u ht hu => ?_⟩
  · rw [List.getElem?_set] at ht
    split at ht
    · split at ht
      · cases ht; exact h3
      · cases ht
    · exact h.kinds k t ht
  · rw [List.getElem?_set] at ht hu
    by_cases hk : n = k
    · subst hk
      rw [if_pos rfl] at ht hu
      split at ht
      · split at hu
        · cases ht; cases hu; exact h4
        · cases hu
      · cases ht
    · rw [if_neg (by omega)] at ht
      rw [if_neg hk] at hu
      exact h.rel k t u ht hu

theorem kinds_fresh (b : Bool) : (fresh b).kinds.getD 0 false = false := rfl
theorem kindN_fresh (b : Bool) : kindN (fresh b) 9 = [] := rfl
theorem subN_mem (kl : List Int) (kd : Int) (on : Bool) (k : Int) : ∀ j, k ∈ subN kl kd on j ↔ 1 ≤ k ∧ k ≤ j ∧ subC kl kd on k = true
  | 0 => by simp [subN]; omega
  | j + 1 => by
    have ih := subN_mem kl kd on k j
    unfold subN
    split
    · rename_i h
      rw [List.mem_append, List.mem_singleton, ih]
      constructor
      · rintro (⟨a, b, c⟩ | rfl)
        · exact ⟨a, by omega, c⟩
        · exact ⟨by omega, by omega, h⟩
      · rintro ⟨a, b, c⟩
        by_cases hk : k = (j : Int) + 1
        · exact .inr hk
        · exact .inl ⟨a, by omega, c⟩
    · rename_i h
      rw [ih]
      constructor
      · rintro ⟨a, b, c⟩; exact ⟨a, by omega, c⟩
      · rintro ⟨a, b, c⟩
        by_cases hk : k = (j : Int) + 1
        · subst hk; exact absurd c h
        · exact ⟨a, by omega, c⟩
/-- Kinds that are told one by one from below. -/
theorem sub_kinds (s : Slot) (h0 : s.kinds.getD 0 false = false) (kd : Nat) (on : Bool) (h1 : 1 ≤ kd) (h8 : kd ≤ 8) : subN (kindN s 9) kd on 8 = kindN (s.sub kd on) 9 := by
  have hget : ∀ i, i < 9 → (s.sub kd on).kinds.getD i false = if i = kd then on else s.kinds.getD i false := fun i hi => by
    have hl := s.hk
    unfold Slot.sub
    simp only [List.getD_eq_getElem?_getD]
    by_cases hik : i = kd
    · subst hik; rw [if_pos rfl, List.getElem?_set_self (by omega)]; rfl
    · rw [if_neg hik, List.getElem?_set_ne (fun h => hik h.symm)]
  have hc : ∀ i : Nat, 1 ≤ i → i ≤ 8 → subC (kindN s 9) kd on (i : Int) = (s.sub kd on).kinds.getD i false := fun i hi1 hi8 => by
    rw [hget i (by omega)]
    unfold subC
    by_cases hik : i = kd
    · subst hik; rw [if_pos rfl, if_pos rfl]
    · rw [if_neg (by omega), if_neg hik, Bool.eq_iff_iff, decide_eq_true_eq, kindN_get]
      simp only [Int.toNat_natCast]
      constructor
      · exact fun h => h.2.2
      · exact fun h => ⟨by omega, by omega, h⟩
  generalize kindN s 9 = kl at hc ⊢
  have key : ∀ j, j ≤ 8 → subN kl kd on j = kindN (s.sub kd on) (j + 1) := by
    intro j
    induction j with
    | zero =>
      intro _
      have : (s.sub kd on).kinds.getD 0 false = false := by rw [hget 0 (by omega), if_neg (by omega)]; exact h0
      simp only [subN, kindN, this, Bool.false_eq_true, if_false]
    | succ j ih =>
      intro hj
      have h2 := hc (j + 1) (by omega) hj
      rw [subN, kindN, ih (by omega)]
      have e : ((j : Int) + 1) = ((j + 1 : Nat) : Int) := by omega
      rw [e, h2]
  exact key 8 (Nat.le_refl _)
theorem put_kinds (s : Slot) (e : Ev) : (s.put e).kinds = s.kinds ∧ (s.put e).op = s.op := by unfold Slot.put; split <;> exact ⟨rfl, rfl⟩
theorem kindN_congr {s t : Slot} (h : s.kinds = t.kinds) : ∀ j, kindN s j = kindN t j
  | 0 => rfl
  | j + 1 => by simp only [kindN, kindN_congr h j, h]
theorem RelS.put {s : Slot} {r : RS} (h : RelS s r) (ho : s.op = true) (hl : s.evs.length ≤ 16) (e : Ev) : RelS (s.put e) (r.put e) := by
  unfold RelS at h ⊢
  rw [if_pos ho] at h
  obtain ⟨h1, h2, h3, h4⟩ := h
  rw [(put_kinds s e).2, if_pos ho]
  have hk := kindN_congr (put_kinds s e).1 9
  unfold RS.put
  unfold Slot.put at hk ⊢
  by_cases hf : s.evs.length = 16
  · rw [if_pos (by rw [h3]; omega), if_pos hf]
    exact ⟨h1, h2, h3, by simp only [h4]⟩
  · rw [if_neg (by rw [h3]; omega), if_neg hf]
    exact ⟨h1, h2, by simp only [h3]; rfl, h4⟩
theorem wants_iff {s : Slot} {e : Ev} (h0 : s.kinds.getD 0 false = false) : decide (e.kind ∈ kindN s 9) = s.wants e := by
  rw [Bool.eq_iff_iff, decide_eq_true_eq, kindN_get]
  unfold Slot.wants
  simp only [Bool.and_eq_true, decide_eq_true_eq]
  constructor
  · rintro ⟨a, b, c⟩
    have : e.kind ≠ 0 := fun hz => by rw [hz] at c; rw [show (0 : Int).toNat = 0 from rfl, h0] at c; cases c
    exact ⟨⟨by omega, by omega⟩, c⟩
  · rintro ⟨⟨a, b⟩, c⟩
    exact ⟨by omega, by omega, c⟩

theorem Rel.slot {B : List Slot} {Rs : List RS} (h : Rel B Rs) {n : Nat} (h1 : 1 ≤ n) (h4 : n ≤ 4) : ∃ s, B[n]? = some s ∧ ∃ r, Rs[n - 1]? = some r ∧ RelS s r ∧ s.kinds.getD 0 false = false ∧ s.evs.length ≤ 16 ∧ r.ql.length ≤ 16 ∧ r.kl.length ≤ 8 := by
  have hg := List.getElem?_eq_getElem (show n < B.length from by rw [h.wf.len]; omega)
  have hr := List.getElem?_eq_getElem (show n - 1 < Rs.length from by rw [h.rwf.len]; omega)
  refine ⟨_, hg, _, hr, h.rel (n - 1) _ _ (by rw [show n - 1 + 1 = n from by omega]; exact hg) hr, h.kinds n _ hg, h.wf.room _ (List.getElem_mem _), (h.rwf.ok _ (List.getElem_mem _)).1, (h.rwf.ok _ (List.getElem_mem _)).2⟩
theorem Rel.put1 {B : List Slot} {Rs : List RS} (h : Rel B Rs) {n : Nat} (h1 : 1 ≤ n) (h4 : n ≤ 4) {s : Slot} {r : RS} (a1 : s.evs.length ≤ 16) (a2 : r.ql.length ≤ 16 ∧ r.kl.length ≤ 8) (a3 : s.kinds.getD 0 false = false) (a4 : RelS s r) : Rel (B.set n s) (Rs.set (n - 1) r) := by
  have := h.set (n := n - 1) a1 a2 a3 a4
  rwa [show n - 1 + 1 = n from by omega] at this
theorem getR_at {Rs : List RS} {n : Nat} {r : RS} (h1 : 1 ≤ n) (h4 : n ≤ 4) (h : Rs[n - 1]? = some r) : getR Rs (n : Int) = if r.op then r else zeroR := by
  unfold getR
  rw [if_pos (by omega), show ((n : Int) - 1).toNat = n - 1 from by omega, h]
/-- Publishing, side by side. -/
theorem Rel.pub {B : List Slot} {Rs : List RS} (h : Rel B Rs) (e : Ev) : ∀ j, j ≤ 4 → Rel (pubN B e (j + 1)).1 (rpubN Rs e j).1 ∧ (pubN B e (j + 1)).2 = (rpubN Rs e j).2
  | 0, _ => by
    have : pubN B e 1 = (B, 0) := pubN_none (k := 0) (opn_out (by decide))
    rw [this]; exact ⟨h, rfl⟩
  | j + 1, hj => by
    obtain ⟨ih1, ih2⟩ := h.pub e j (by omega)
    obtain ⟨s, hs, r, hr, hrel, hk0, hl, hq, hkl⟩ := ih1.slot (n := j + 1) (by omega) (by omega)
    have ho := opn_at (n := j + 1) (by omega) (by omega) hs
    have hgr := getR_at (n := j + 1) (by omega) (by omega) hr
    rw [show ((j + 1 : Nat) : Int) = (j : Int) + 1 from by omega] at hgr
    rw [show j + 1 - 1 = j from rfl] at hr
    simp only [rpubN, hgr]
    cases hop : s.op with
    | false =>
      have hro : r.op = false := by unfold RelS at hrel; rw [hop] at hrel; exact hrel
      rw [hop] at ho
      rw [pubN_none (k := j + 1) ho, hro]
      simp only [Bool.false_eq_true, if_false, zeroR, Bool.false_and]
      exact ⟨ih1, ih2⟩
    | true =>
      have hrel' := hrel
      unfold RelS at hrel'
      rw [hop, if_pos rfl] at hrel'
      obtain ⟨r1, r2, r3, r4⟩ := hrel'
      rw [hop, if_pos rfl] at ho
      rw [pubN_some (k := j + 1) ho, r1]
      simp only [if_true, r1, Bool.true_and, r2, wants_iff hk0]
      cases hw : s.wants e with
      | false => simp only [Bool.false_eq_true, if_false]; exact ⟨ih1, ih2⟩
      | true =>
        simp only [if_true]
        refine ⟨?_, ?_⟩
        · have := ih1.put1 (n := j + 1) (by omega) (by omega) (s.put_le e hl) (RS.put_ok (e := e) ⟨hq, hkl⟩) (by rw [(put_kinds s e).1]; exact hk0) (hrel.put hop hl e)
          exact this
        · rw [ih2, r3]
          unfold Slot.room
          split <;> omega
set_option linter.unusedSimpArgs false in
theorem Rel.does {B : List Slot} {Rs : List RS} (h : Rel B Rs) (o : BOp) : Rel (doesB B o) (doesR Rs B o).1 ∧ (doesR Rs B o).2 = true := by
  by_cases h4 : o.kind = 4
  · have e1 : doesB B o = (pubN B o.e 5).1 := by
      unfold doesB; rw [if_neg (by omega), if_neg (by omega), if_neg (by omega), if_pos h4]
    have e2 : doesR Rs B o = ((rpubN Rs o.e 4).1, decide ((pubN B o.e 5).2 = (rpubN Rs o.e 4).2)) := by
      unfold doesR
      rw [if_neg (by omega), if_neg (by omega), if_neg (by omega), if_pos h4]
    obtain ⟨a, b⟩ := h.pub o.e 4 (Nat.le_refl _)
    rw [e1, e2]
    exact ⟨a, decide_eq_true b⟩
  · by_cases hp : 1 ≤ o.p ∧ o.p ≤ 4
    · obtain ⟨n, hn⟩ : ∃ n : Nat, o.p = n := ⟨o.p.toNat, by omega⟩
      have h1n : 1 ≤ n := by omega
      have hn4 : n ≤ 4 := by omega
      obtain ⟨s, hs, r, hr, hrel, hk0, hl, hq, hkl⟩ := h.slot h1n hn4
      have ho := opn_at h1n hn4 hs
      have hgr := getR_at h1n hn4 hr
      rw [doesB_at hn h1n hn4 hs h4]
      have hnp : ¬ ((n : Int) < 1 ∨ 4 < (n : Int)) := by omega
      have ht : ((n : Int)).toNat = n := rfl
      have ht1 : ((n : Int) - 1).toNat = n - 1 := by omega
      have sid : B.set n s = B := set_id hs
      have zer : Rel (B.set n (fresh false)) (Rs.set (n - 1) zeroR) := h.put1 h1n hn4 (Nat.zero_le _) ⟨Nat.zero_le _, Nat.zero_le _⟩ (kinds_fresh false) rfl
      unfold RelS at hrel
      cases hop : s.op with
      | false =>
        have hro : r.op = false := by rw [hop] at hrel; exact hrel
        rw [hro] at hgr
        rw [hop] at ho
        simp only [Bool.false_eq_true, if_false] at hgr ho
        by_cases k1 : o.kind = 1
        · simp only [Int.reduceEq, doesR, eff, openR, k1, hn, hnp, hgr, hs, hop, ht, ht1, if_true, if_false, Bool.false_eq_true, zeroR, decide_true, and_true]
          exact h.put1 h1n hn4 (Nat.zero_le _) ⟨Nat.zero_le _, Nat.zero_le _⟩ (kinds_fresh true) ⟨rfl, (kindN_fresh true).symm, rfl, rfl⟩
        by_cases k2 : o.kind = 2
        · simp only [Int.reduceEq, doesR, eff, shutR, k1, k2, hn, hgr, hop, ho, if_true, if_false, Bool.false_eq_true, zeroR, decide_true, and_true, sid]
          exact h
        by_cases k3 : o.kind = 3
        · simp only [Int.reduceEq, doesR, eff, subR, k1, k2, k3, hn, hgr, hop, ho, if_true, if_false, Bool.false_eq_true, zeroR, decide_true, and_true, sid]
          exact h
        by_cases k5 : o.kind = 5
        · simp only [Int.reduceEq, doesR, eff, sendR, k1, k2, k3, h4, k5, hn, hgr, hop, ho, if_true, if_false, Bool.false_eq_true, zeroR, decide_true, and_true, sid]
          exact h
        by_cases k6 : o.kind = 6
        · simp only [Int.reduceEq, doesR, eff, takeR, k1, k2, k3, h4, k5, k6, hn, hgr, hop, ho, if_true, if_false, Bool.false_eq_true, zeroR, decide_true, and_true, sid, Bool.not_false, Bool.true_and]
          exact h
        · simp only [Int.reduceEq, doesR, eff, k1, k2, k3, h4, k5, k6, if_false, sid, and_true]
          exact h
      | true =>
        rw [hop, if_pos rfl] at hrel
        obtain ⟨r1, r2, r3, r4⟩ := hrel
        have hrelS : RelS s r := by unfold RelS; rw [hop, if_pos rfl]; exact ⟨r1, r2, r3, r4⟩
        rw [r1] at hgr
        rw [hop] at ho
        simp only [if_true] at hgr ho
        by_cases k1 : o.kind = 1
        · simp only [Int.reduceEq, doesR, eff, openR, k1, hn, hnp, hgr, hs, hop, ht, r1, if_true, if_false, decide_true, and_true, sid]
          exact h
        by_cases k2 : o.kind = 2
        · simp only [Int.reduceEq, doesR, eff, shutR, k1, k2, hn, hgr, hop, ho, ht, ht1, r1, if_true, if_false, decide_true, and_true]
          exact zer
        by_cases k3 : o.kind = 3
        · by_cases hk : o.n < 1 ∨ 8 < o.n
          · simp only [Int.reduceEq, doesR, eff, subR, k1, k2, k3, hn, hgr, hop, ho, r1, hk, if_true, if_false, decide_true, and_true, sid]
            exact h
          · simp only [Int.reduceEq, doesR, eff, subR, k1, k2, k3, hn, hgr, hop, ho, r1, ht, ht1, hk, if_true, if_false, decide_true, and_true]
            refine h.put1 h1n hn4 hl ⟨hq, subN_len _ _ _ 8⟩ ?_ ?_
            · unfold Slot.sub
              simp only [List.getD_eq_getElem?_getD]
              rw [List.getElem?_set_ne (by omega)]
              simpa [List.getD_eq_getElem?_getD] using hk0
            · unfold RelS
              rw [if_pos (show (s.sub o.n.toNat o.on).op = true from hop)]
              refine ⟨r1, ?_, r3, r4⟩
              have hsk := sub_kinds s hk0 o.n.toNat o.on (by omega) (by omega)
              rw [show ((o.n.toNat : Nat) : Int) = o.n from by omega, ← r2] at hsk
              exact hsk
        by_cases k5 : o.kind = 5
        · simp only [Int.reduceEq, doesR, eff, sendR, k1, k2, k3, h4, k5, hn, hgr, hop, ho, r1, ht, ht1, if_true, if_false]
          refine ⟨h.put1 h1n hn4 (s.put_le o.e hl) (RS.put_ok ⟨hq, hkl⟩) (by rw [(put_kinds s o.e).1]; exact hk0) (hrelS.put hop hl o.e), ?_⟩
          rw [r3]
          by_cases hlt : s.evs.length < 16
          · simp [hlt]
          · simp [hlt]
        by_cases k6 : o.kind = 6
        · cases he : s.evs with
          | nil =>
            rw [he] at r3
            simp only [Int.reduceEq, doesR, eff, takeR, k1, k2, k3, h4, k5, k6, hn, hgr, hop, ho, he, r3, if_true, if_false, decide_true, and_true, sid, Bool.not_false, Bool.true_and]
            exact h
          | cons e es =>
            rw [he] at r3 hl
            simp only [Int.reduceEq, doesR, eff, takeR, k1, k2, k3, h4, k5, k6, hn, hgr, hop, ho, he, r3, ht1, if_true, if_false, decide_true, and_true, Bool.true_and]
            simp only [List.length_cons] at hl
            refine h.put1 h1n hn4 (show es.length ≤ 16 from by omega) ⟨?_, hkl⟩ hk0 ?_
            · show r.ql.tail.length ≤ 16
              rw [r3]; simp; omega
            · unfold RelS
              simp only [if_true]
              exact ⟨r1, by rw [show r.tail.kl = r.kl from rfl, r2]; exact kindN_congr rfl 9, by show r.ql.tail = es; rw [r3]; rfl, r4⟩
        · simp only [Int.reduceEq, doesR, eff, k1, k2, k3, h4, k5, k6, if_false, sid, and_true]
          exact h
    · have hz : getR Rs o.p = zeroR := by unfold getR; rw [if_neg hp]
      have ho := opn_out (B := B) hp
      have hnp : o.p < 1 ∨ 4 < o.p := by omega
      rw [doesB_out hp h4]
      by_cases k1 : o.kind = 1
      · simp only [Int.reduceEq, doesR, openR, k1, hnp, if_true, decide_true, and_true]; exact h
      by_cases k2 : o.kind = 2
      · simp only [Int.reduceEq, doesR, shutR, k1, k2, hz, ho, if_true, if_false, Bool.false_eq_true, zeroR, decide_true, and_true]; exact h
      by_cases k3 : o.kind = 3
      · simp only [Int.reduceEq, doesR, subR, k1, k2, k3, hz, ho, if_true, if_false, Bool.false_eq_true, zeroR, decide_true, and_true]; exact h
      by_cases k5 : o.kind = 5
      · simp only [Int.reduceEq, doesR, sendR, k1, k2, k3, h4, k5, hz, ho, if_true, if_false, Bool.false_eq_true, zeroR, decide_true, and_true]; exact h
      by_cases k6 : o.kind = 6
      · simp only [Int.reduceEq, doesR, takeR, k1, k2, k3, h4, k5, k6, hz, ho, if_true, if_false, zeroR, decide_true, and_true, Bool.not_false, Bool.true_and]; exact h
      · simp only [Int.reduceEq, doesR, k1, k2, k3, h4, k5, k6, if_false, and_true]; exact h
end Go.Proofs.Ytpfelpmmejhjaaa.Am

/-
BusApart, walked.
-/
namespace Go.Proofs.Ytpfelpmmejhjaaa.Am
theorem BOp.len (o : BOp) : o.cells.length = 8 := rfl
inductive OV : V → List BOp → Prop
  | nil : OV .nils []
  | sl (l : List BOp) : OV (.slice false 8 (l.map BOp.cells)) l
theorem rdV_ov {v : V} {xs : List BOp} (h : OV v xs) {p : Prop} (hk : p) : rdP v p := by cases h <;> exact hk
theorem elemsW_ov {v : V} {xs : List BOp} (h : OV v xs) {L : Ts} {B : Bs} {m : Ms} {k : List (List V) → Prop} (hk : k (xs.map BOp.cells)) : elemsW L B m v k := by cases h <;> exact hk
theorem rwf0 : RWF (List.replicate 4 zeroR) := ⟨rfl, fun r hr => by rw [List.eq_of_mem_replicate hr]; exact ⟨Nat.zero_le _, Nat.zero_le _⟩⟩
theorem slot1_does {Bb Bo : List Slot} (hb : WF Bb) (h : Bb[1]? = Bo[1]?) {o : BOp} (h4 : o.kind ≠ 4) : (doesB Bb o)[1]? = if o.p = 1 then (doesB Bo o)[1]? else Bo[1]? := by
  have hgb := List.getElem?_eq_getElem (show 1 < Bb.length from by rw [hb.len]; omega)
  generalize Bb[1]'(by rw [hb.len]; omega) = s at hgb
  have hgo : Bo[1]? = some s := h ▸ hgb
  by_cases hp : o.p = 1
  · rw [if_pos hp, doesB_at (n := 1) hp (by decide) (by decide) hgb h4, doesB_at (n := 1) hp (by decide) (by decide) hgo h4,
      List.getElem?_set_self (lt_of_get hgb), List.getElem?_set_self (lt_of_get hgo)]
  · rw [if_neg hp, hgo]
    by_cases hr : 1 ≤ o.p ∧ o.p ≤ 4
    · have hg := List.getElem?_eq_getElem (show o.p.toNat < Bb.length from by rw [hb.len]; omega)
      rw [doesB_at (n := o.p.toNat) (by omega) (by omega) (by omega) hg h4, List.getElem?_set_ne (by omega)]
      exact hgb
    · rw [doesB_out hr h4]; exact hgb
theorem killM_out (xs : List Int) : killMV (outV xs) = outV xs := by cases xs <;> rfl
theorem okArg_out (xs : List Int) : (outV xs).share.okArg = true := by cases xs <;> rfl
theorem slot1_pub {Bb Bo : List Slot} (hb : WF Bb) (h : Bb[1]? = Bo[1]?) (e : Ev) : (pubN Bb e 5).1[1]? = (pubN Bo e 5).1[1]? := by
  have hgb := List.getElem?_eq_getElem (show 1 < Bb.length from by rw [hb.len]; omega)
  rw [pubN_get hgb (by decide) (by decide), pubN_get (h ▸ hgb) (by decide) (by decide)]
set_option maxHeartbeats 4000000 in
set_option maxRecDepth 20000 in
theorem busApart_ok {a : V} {ops : List BOp} (ha : OV a ops) (hl : ops.length ≤ maxLen) : RF BT 5 [a] [] = some (.bool true, []) := by
  have hka : killMV a = a := by cases ha <;> rfl
  have c_new1 : RF BT 7 [] [] = some (.ptr 0 0, [busC Alive.B0]) := new_ok (m := [])
  have c_new2 : RF BT 7 [] [busC Alive.B0] = some (.ptr 1 0, [busC Alive.B0, busC Alive.B0]) := new_ok (m := [busC Alive.B0])
  refine RF_wpc rfl v5 b5 [] ?_
  refine And.intro rfl (And.intro rfl ⟨_, _, c_new1, ?_⟩)
  refine And.intro rfl ⟨_, _, c_new2, ?_⟩
  refine And.intro rfl ⟨_, _, Alive.alive_ok, ?_⟩
  simp only [mapK, hka]
  refine rdV_ov ha ?_
  refine rdV_ov ha ?_
  refine elemsW_ov ha ?_
  refine WP_loop (vars := v5) (bx := b5) (cuts := []) [] (fun k L Bx m' => ∃ (i : Nat) (Bb Bo : List Slot), k + i = ops.length ∧ WF Bb ∧ WF Bo ∧ Bb[1]? = Bo[1]? ∧
    L = [(3, .ptr 0 0), (4, .ptr 1 0), (23, a), (24, .int .i64 (ops.map BOp.cells).length), (25, .int .i64 i)] ∧ Bx = [] ∧ m' = [busC Bb, busC Bo]) ?_ ?_
  · exact ⟨ops.length, 0, Alive.B0, Alive.B0, rfl, Alive.wf0, Alive.wf0, rfl, rfl, rfl, rfl⟩
  · rintro k L Bx m' ⟨i, Bb, Bo, hki, hWb, hWo, hs1, rfl, rfl, rfl⟩
    refine fun c hc => ?_
    rw [List.length_map] at hc
    cases c with
    | true =>
      simp only [decide_eq_true_eq] at hc
      have hilt : i < ops.length := by omega
      have hg := List.getElem?_eq_getElem hilt
      have hw := wrap64 (n := (i : Int) + 1) (by omega) (by unfold maxLen at hl; omega)
      refine rdV_ov ha ?_
      cases ha with
      | nil => exact absurd hilt (by simp)
      | sl =>
      generalize ops[i] = o at hg
      have hgc : (ops.map BOp.cells)[(i : Int).toNat]? = some o.cells := by
        rw [show (i : Int).toNat = i from rfl, List.getElem?_map, hg]; rfl
      have fin : ∀ Bb' Bo', WF Bb' → WF Bo' → Bb'[1]? = Bo'[1]? → ∃ n', n' < k ∧ ∃ (j : Nat) (Bb Bo : List Slot), n' + j = ops.length ∧ WF Bb ∧ WF Bo ∧ Bb[1]? = Bo[1]? ∧
          [(3, V.ptr 0 0), (4, .ptr 1 0), (23, .slice false 8 (ops.map BOp.cells)), (24, V.int .i64 (ops.map BOp.cells).length), (25, V.int .i64 (IntKind.wrap .i64 ((i : Int) + 1)))] =
          [(3, V.ptr 0 0), (4, .ptr 1 0), (23, .slice false 8 (ops.map BOp.cells)), (24, V.int .i64 (ops.map BOp.cells).length), (25, V.int .i64 j)] ∧ ([] : Bs) = [] ∧ [busC Bb', busC Bo'] = [busC Bb, busC Bo] := fun Bb' Bo' h1 h2 h3 =>
        ⟨k - 1, by omega, i + 1, Bb', Bo', by omega, h1, h2, h3, by rw [hw]; rfl, rfl, rfl⟩
      refine And.intro (Int.natCast_nonneg _) ⟨_, hgc, Nat.le_refl _, ?_⟩
      refine And.intro rfl (And.intro rfl (And.intro ⟨Nat.le_refl _, rfl, rfl⟩ ?_))
      refine ⟨_, rfl, rfl, ?_⟩
      refine fun c hc => ?_
      cases c with
      | true =>
        simp only [decide_eq_true_eq] at hc
        refine And.intro (Nat.le_refl _) (And.intro rfl (And.intro rfl (And.intro rfl ⟨_, _, publish_ok (m := [busC Bb, busC Bo]) (bb := 0) (e := o.e) hWb rfl, ?_⟩)))
        refine And.intro (Nat.le_refl _) (And.intro rfl (And.intro rfl (And.intro rfl ⟨_, _, publish_ok (m := [busC (pubN Bb o.e 5).1, busC Bo]) (bb := 1) (e := o.e) hWo rfl, ?_⟩)))
        exact fin _ _ (hWb.pubN o.e 5) (hWo.pubN o.e 5) (slot1_pub hWb hs1 o.e)
      | false =>
        simp only [decide_eq_false_iff_not] at hc
        have hdoes := slot1_does hWb hs1 hc
        refine And.intro rfl ⟨_, _, new15, ?_⟩
        refine And.intro (Nat.le_refl _) (And.intro rfl (And.intro rfl (And.intro rfl ⟨_, _, does_ok (m := [busC Bb, busC Bo]) (bb := 0) hWb rwf0 rfl o, ?_⟩)))
        refine ⟨_, rfl, rfl, ?_⟩
        refine fun c hc2 => ?_
        cases c with
        | true =>
          simp only [decide_eq_true_eq] at hc2
          rw [if_pos hc2] at hdoes
          refine And.intro rfl ⟨_, _, new15, ?_⟩
          refine And.intro (Nat.le_refl _) (And.intro rfl (And.intro rfl (And.intro rfl ⟨_, _, does_ok (m := [busC (doesB Bb o), busC Bo]) (bb := 1) hWo rwf0 rfl o, ?_⟩)))
          exact fin _ _ (hWb.does o) (hWo.does o) hdoes
        | false =>
          simp only [decide_eq_false_iff_not] at hc2
          rw [if_neg hc2] at hdoes
          exact fin _ _ (hWb.does o) hWo hdoes
    | false =>
      have hg := List.getElem?_eq_getElem (show 1 < Bb.length from by rw [hWb.len]; omega)
      generalize Bb[1]'(by rw [hWb.len]; omega) = s at hg
      have hg2 : Bo[1]? = some s := hs1 ▸ hg
      have l1 := lenOf_at (n := 1) (by decide) (by decide) hg
      have l2 := lenOf_at (n := 1) (by decide) (by decide) hg2
      have d1 := dropOf_at (n := 1) (by decide) (by decide) hg
      have d2 := dropOf_at (n := 1) (by decide) (by decide) hg2
      have k1 := kindsOf_at (n := 1) (by decide) (by decide) hg
      have k2 := kindsOf_at (n := 1) (by decide) (by decide) hg2
      have kl := kindsOf_len Bb 1
      refine And.intro rfl ⟨_, _, len_ok (m := [busC Bb, busC Bo]) (bb := 0) (p := 1) hWb.len rfl, ?_⟩
      refine And.intro rfl ⟨_, _, len_ok (m := [busC Bb, busC Bo]) (bb := 1) (p := 1) hWo.len rfl, ?_⟩
      refine fun c hc => ?_
      cases c with
      | true => simp only [decide_eq_true_eq] at hc; exact absurd (by rw [show lenOf Bb 1 = _ from l1, show lenOf Bo 1 = _ from l2]) hc
      | false =>
      refine And.intro rfl ⟨_, _, dropped_ok (m := [busC Bb, busC Bo]) (bb := 0) (p := 1) hWb.len rfl, ?_⟩
      refine And.intro rfl ⟨_, _, dropped_ok (m := [busC Bb, busC Bo]) (bb := 1) (p := 1) hWo.len rfl, ?_⟩
      refine fun c hc => ?_
      cases c with
      | true => simp only [decide_eq_true_eq] at hc; exact absurd (by rw [show dropOf Bb 1 = _ from d1, show dropOf Bo 1 = _ from d2]) hc
      | false =>
      refine And.intro rfl ⟨_, _, kindsOf_ok (m := [busC Bb, busC Bo]) (bb := 0) (p := 1) hWb.len rfl, ?_⟩
      refine And.intro rfl ⟨_, _, kindsOf_ok (m := [busC Bb, busC Bo]) (bb := 1) (p := 1) hWo.len rfl, ?_⟩
      simp only [mapK, killM_out]
      refine And.intro (okA (okArg_out _) (okA (okArg_out _) rfl)) ⟨_, _, same_ok (outV_share _) (outV_share _) (by unfold maxLen; omega), ?_⟩
      rw [decide_eq_true (show kindsOf Bb 1 = kindsOf Bo 1 from by rw [show kindsOf Bb 1 = _ from k1, show kindsOf Bo 1 = _ from k2])]
      refine WP_loop (vars := v5) (bx := b5) (cuts := []) [] (fun k L Bx m' => ∃ (Bb Bo : List Slot) (s : Slot), WF Bb ∧ WF Bo ∧ Bb[1]? = some s ∧ Bo[1]? = some s ∧ k = s.evs.length ∧
        L = [(3, .ptr 0 0), (4, .ptr 1 0)] ∧ Bx = [] ∧ m' = [busC Bb, busC Bo]) ?_ ?_
      · exact ⟨_, Bb, Bo, s, hWb, hWo, hg, hg2, rfl, rfl, rfl, rfl⟩
      · rintro k L Bx m' ⟨Bb, Bo, s, hWb, hWo, hg, hg2, rfl, rfl, rfl, rfl⟩
        have l1 := lenOf_at (n := 1) (by decide) (by decide) hg
        refine And.intro rfl ⟨_, _, len_ok (m := [busC Bb, busC Bo]) (bb := 0) (p := 1) hWb.len rfl, ?_⟩
        refine fun c hc => ?_
        rw [show lenOf Bb 1 = _ from l1] at hc
        cases c with
        | false => exact ⟨⟨rfl, Nat.zero_le _⟩, rfl, rfl⟩
        | true =>
          simp only [decide_eq_true_eq] at hc
          cases hop : s.op with
          | false => rw [hop] at hc; simp at hc
          | true =>
          cases he : s.evs with
          | nil => rw [hop, he] at hc; simp at hc
          | cons e es =>
            have o1 := opn_of (n := 1) (by decide) (by decide) hg hop
            have o2 := opn_of (n := 1) (by decide) (by decide) hg2 hop
            have hes : es.length ≤ 16 := by
              have := hWb.room s (List.mem_of_getElem? hg)
              rw [he, List.length_cons] at this; omega
            refine And.intro rfl ⟨_, _, take_some (m := [busC Bb, busC Bo]) (bb := 0) (p := 1) rfl o1 he, ?_⟩
            refine And.intro rfl (And.intro rfl (And.intro rfl (And.intro rfl (And.intro rfl (And.intro ⟨Nat.le_refl _, rfl, rfl⟩ ?_)))))
            refine And.intro rfl ⟨_, _, take_some (m := [busC (Bb.set 1 { s with q := some es }), busC Bo]) (bb := 1) (p := 1) rfl o2 he, ?_⟩
            refine And.intro rfl (And.intro rfl (And.intro rfl (And.intro rfl (And.intro rfl (And.intro ⟨Nat.le_refl _, rfl, rfl⟩ ?_)))))
            refine And.intro (Nat.le_refl _) (And.intro rfl (And.intro (Nat.le_refl _) (And.intro rfl (And.intro rfl (And.intro rfl ⟨_, ev_eq, ?_⟩)))))
            refine fun c hc => ?_
            have : c = false := by rw [← hc]; simp
            subst this
            refine ⟨es.length, by simp, Bb.set 1 { s with q := some es }, Bo.set 1 { s with q := some es }, { s with q := some es }, hWb.set hes, hWo.set hes, List.getElem?_set_self (lt_of_get hg), List.getElem?_set_self (lt_of_get hg2), rfl, rfl, rfl, rfl⟩
end Go.Proofs.Ytpfelpmmejhjaaa.Am

/-
What the cells of an argument are, one by one.
-/
namespace Go.Proofs.Ytpfelpmmejhjaaa.Am
inductive LT where
  | bool
  | int (k : IntKind)
  | str
  | slice (e : TypeId)
  deriving DecidableEq
def leafsF (P : Program) (F : TypeId → Option (List LT)) : Nat → List Field → Option (List LT)
  | _, [] => some []
  | n, f :: fs => if f.offset = n ∧ (F f.type).map List.length = some (P.cellsOf f.type) then (F f.type).bind fun l => (leafsF P F (n + P.cellsOf f.type) fs).bind fun r => some (l ++ r) else none
def leafs (P : Program) : Nat → TypeId → Option (List LT)
  | 0, _ => none
  | d + 1, t => match P.underlying t with
    | some .bool => some [.bool]
    | some (.int k) => some [.int k]
    | some .string => some [.str]
    | some (.slice e) => some [.slice e]
    | some (.struct fs) => (leafsF P (leafs P d) 0 fs.toList).bind fun l => if l.length = P.cellsOf t then some l else none
    | some (.array n e) => (leafs P d e).bind fun l => if l.length = P.cellsOf e ∧ P.cellsOf t = n * P.cellsOf e then some (List.replicate n l).flatten else none
    | _ => none
def LV (P : Program) (l : LT) (v : V) : Prop :=
  match l with
  | .bool => ∃ b, v = .bool b
  | .int k => ∃ n, v = .int k n ∧ (Lit.int k n).wf = true
  | .str => ∃ s, v = .str s ∧ s.length ≤ maxLen
  | .slice e => v = .nils ∨ ∃ xs, v = .slice false (P.cellsOf e) xs ∧ xs.length ≤ maxLen ∧ ∀ x ∈ xs, Fits P e x
def LVs (P : Program) : List LT → List V → Prop
  | [], [] => True
  | l :: ls, v :: vs => LV P l v ∧ LVs P ls vs
  | _, _ => False
section
variable {P : Program}
theorem LVs.append : ∀ {ls ks : List LT} {vs us : List V}, LVs P ls vs → LVs P ks us → LVs P (ls ++ ks) (vs ++ us)
  | [], _, [], _, _, h => h
  | _ :: _, _, _ :: _, _, h, k => ⟨h.1, LVs.append h.2 k⟩
  | [], _, _ :: _, _, h, _ => h.elim
  | _ :: _, _, [], _, h, _ => h.elim
theorem LVs.len : ∀ {ls : List LT} {vs : List V}, LVs P ls vs → vs.length = ls.length
  | [], [], _ => rfl
  | _ :: _, _ :: _, h => by rw [List.length_cons, List.length_cons, LVs.len h.2]
  | [], _ :: _, h => h.elim
  | _ :: _, [], h => h.elim
theorem leafsF_ok {F : TypeId → Option (List LT)} (hF : ∀ t ls vs, F t = some ls → Fits P t vs → LVs P ls vs) {vs : List V} : ∀ {fs : List Field} {n : Nat} {ls : List LT}, leafsF P F n fs = some ls → (∀ f ∈ fs, Fits P f.type ((vs.drop f.offset).take (P.cellsOf f.type))) →
    LVs P ls ((vs.drop n).take ls.length)
  | [], n, ls, h, _ => by
    simp only [leafsF, Option.some.injEq] at h
    subst h
    rw [List.length_nil, List.take_zero]; trivial
  | f :: fs, n, ls, h, hf => by
    simp only [leafsF] at h
    split at h
    · rename_i hc
      simp only [Option.bind_eq_some_iff, Option.some.injEq] at h
      obtain ⟨l, hl, r, hr, rfl⟩ := h
      have h1 := hF _ _ _ hl (hf f (.head _))
      have h2 := leafsF_ok hF hr fun g hg => hf g (.tail _ hg)
      have hlen : l.length = P.cellsOf f.type := by
        have := hc.2
        rw [hl] at this
        simpa using this
      rw [hc.1, ← hlen] at h1
      rw [← hlen] at h2
      have hsplit : (vs.drop n).take (l ++ r).length = (vs.drop n).take l.length ++ (vs.drop (n + l.length)).take r.length := by
        rw [List.length_append, List.take_add, List.drop_drop]
      rw [hsplit]
      exact h1.append h2
    · cases h
theorem leafs_rep {l : List LT} {e : TypeId} (hF : ∀ vs, Fits P e vs → LVs P l vs) (hl : l.length = P.cellsOf e) {vs : List V} : ∀ {n i : Nat}, (∀ j, i ≤ j → j < i + n → Fits P e ((vs.drop (j * P.cellsOf e)).take (P.cellsOf e))) →
    LVs P (List.replicate n l).flatten ((vs.drop (i * P.cellsOf e)).take (n * P.cellsOf e))
  | 0, i, _ => by rw [Nat.zero_mul, List.take_zero]; trivial
  | n + 1, i, h => by
    have h1 := hF _ (h i (Nat.le_refl _) (by omega))
    have h2 := leafs_rep hF hl (n := n) (i := i + 1) fun j hj hk => h j (by omega) (by omega)
    rw [List.replicate_succ, List.flatten_cons, Nat.succ_mul, Nat.add_comm, List.take_add, List.drop_drop]
    rw [Nat.succ_mul] at h2
    exact h1.append h2
theorem fits_leafs : ∀ {d : Nat} {t : TypeId} {ls : List LT} {vs : List V}, leafs P d t = some ls → Fits P t vs → LVs P ls vs := by
  intro d
  induction d with
  | zero => intro t ls vs h; cases h
  | succ d ih =>
    intro t ls vs h hf
    unfold leafs at h
    split at h
    · rename_i ht
      cases h
      obtain ⟨b, rfl⟩ := fits_bool ht hf
      exact ⟨⟨b, rfl⟩, trivial⟩
    · rename_i ht
      cases h
      obtain ⟨n, rfl, hw⟩ := fits_int ht hf
      exact ⟨⟨n, rfl, hw⟩, trivial⟩
    · rename_i ht
      cases h
      obtain ⟨s, rfl, hw⟩ := fits_str ht hf
      exact ⟨⟨s, rfl, hw⟩, trivial⟩
    · rename_i ht
      cases h
      rcases fits_slice ht hf with rfl | ⟨xs, rfl, h1, h2⟩
      · exact ⟨.inl rfl, trivial⟩
      · exact ⟨.inr ⟨xs, rfl, h1, h2⟩, trivial⟩
    · rename_i fs ht
      simp only [Option.bind_eq_some_iff] at h
      obtain ⟨l, hl, h⟩ := h
      split at h
      · rename_i hc
        cases h
        cases hf with
        | struct _ ht2 hlen hff =>
          rw [ht] at ht2
          cases ht2
          have := leafsF_ok (vs := vs) (fun _ _ _ a b => ih a b) hl hff
          rwa [List.drop_zero, List.take_of_length_le (by omega)] at this
        | _ => simp_all
      · cases h
    · rename_i n e ht
      simp only [Option.bind_eq_some_iff] at h
      obtain ⟨l, hl, h⟩ := h
      split at h
      · rename_i hc
        cases h
        cases hf with
        | array _ ht2 hlen hff =>
          rw [ht] at ht2
          cases ht2
          have := leafs_rep (vs := vs) (fun _ b => ih hl b) hc.1 (n := n) (i := 0) fun j _ hj => hff j (by omega)
          rwa [Nat.zero_mul, List.drop_zero, List.take_of_length_le (by omega)] at this
        | _ => simp_all
      · cases h
    · cases h
end
end Go.Proofs.Ytpfelpmmejhjaaa.Am

/-
A script's operations, off the reading of a row.
-/
namespace Go.Proofs.Ytpfelpmmejhjaaa.Am
set_option maxRecDepth 20000 in
theorem fits_ops {P : Program} {t e : TypeId} (ht : P.underlying t = some (.slice e)) (hl : leafs P 8 e = some [.int .i64, .int .i64, .int .i64, .bool, .int .i64, .int .i64, .int .i64, .str]) (hc : P.cellsOf e = 8) {vs : List V} (h : Fits P t vs) :
    ∃ a ops, vs = [a] ∧ OV a ops ∧ ops.length ≤ maxLen := by
  rcases fits_slice ht h with rfl | ⟨xs, rfl, h1, h2⟩
  · exact ⟨_, _, rfl, .nil, Nat.zero_le _⟩
  · obtain ⟨ops, rfl, _⟩ := list_of (f := BOp.cells) (Q := fun _ => True) fun x hm => by
      have h3 := fits_leafs hl (h2 x hm)
      have h4 : x.length = 8 := h3.len
      match x, h4 with
      | [x1, x2, x3, x4, x5, x6, x7, x8], _ =>
        obtain ⟨h1, h2, h3, h4, h5, h6, h7, h8, _⟩ := h3
        obtain ⟨a, rfl, _⟩ := h1
        obtain ⟨b, rfl, _⟩ := h2
        obtain ⟨c, rfl, _⟩ := h3
        obtain ⟨d, rfl⟩ := h4
        obtain ⟨e1, rfl, _⟩ := h5
        obtain ⟨e2, rfl, _⟩ := h6
        obtain ⟨e3, rfl, _⟩ := h7
        obtain ⟨e4, rfl, _⟩ := h8
        exact ⟨⟨a, b, c, d, ⟨e1, e2, e3, e4⟩⟩, rfl, trivial⟩
    rw [hc]
    exact ⟨_, ops, rfl, .sl ops, by simpa using h1⟩
end Go.Proofs.Ytpfelpmmejhjaaa.Am

/-
BusPlays, walked.
-/
namespace Go.Proofs.Ytpfelpmmejhjaaa.Am
theorem rdV_qv {v : V} {xs : List Ev} (h : QV v xs) {p : Prop} (hk : p) : rdP v p := by cases h <;> exact hk
theorem elemsW_qv {v : V} {xs : List Ev} (h : QV v xs) {L : Ts} {B : Bs} {m : Ms} {k : List (List V) → Prop} (hk : k (xs.map Ev.cells)) : elemsW L B m v k := by cases h <;> exact hk
theorem Rel.facts {B : List Slot} {Rs : List RS} (h : Rel B Rs) (p : Int) : lenOf B p = (getR Rs p).ql.length ∧ dropOf B p = (getR Rs p).d ∧ kindsOf B p = (getR Rs p).kl := by
  have hg := h.get p
  unfold lenOf dropOf kindsOf
  cases ho : opn B p with
  | none => rw [ho] at hg; simp only at hg ⊢; rw [hg]; exact ⟨rfl, rfl, rfl⟩
  | some s => rw [ho] at hg; simp only at hg ⊢; rw [hg.2.1, hg.2.2.1, hg.2.2.2]; exact ⟨rfl, rfl, rfl⟩
def rdyN (B : List Slot) : Nat → List Int
  | 0 => []
  | j + 1 => if 0 < lenOf B ((j : Int) - 1) then rdyN B j ++ [(j : Int) - 1] else rdyN B j
theorem rdyN_len (B : List Slot) : ∀ j, (rdyN B j).length ≤ j
  | 0 => Nat.le_refl _
  | j + 1 => by
    have := rdyN_len B j
    unfold rdyN; split
    · simp; omega
    · omega
theorem lenOf_out {B : List Slot} {p : Int} (h : ¬ (1 ≤ p ∧ p ≤ 4)) : lenOf B p = 0 := by unfold lenOf; rw [opn_out h]
theorem rdyN_eq (B : List Slot) : rdyN B 8 = readyN B 5 := by
  have key : ∀ k, rdyN B (k + 1) = readyN B k := by
    intro k
    induction k with
    | zero => simp only [rdyN, readyN]; rw [lenOf_out (by omega)]; rfl
    | succ k ih =>
      rw [rdyN, readyN, ih]
      have : ((k + 1 : Nat) : Int) - 1 = k := by omega
      rw [this]
  have h6 := key 5
  have h7 : rdyN B 7 = rdyN B 6 := by rw [rdyN, lenOf_out (by omega)]; rfl
  have h8 : rdyN B 8 = rdyN B 7 := by rw [rdyN, lenOf_out (by omega)]; rfl
  rw [h8, h7, h6]
theorem rel0 : Rel Alive.B0 (List.replicate 4 zeroR) := by
  refine ⟨Alive.wf0, rwf0, fun n s hs => ?_, fun n s r hs hr => ?_⟩
  · have := List.mem_of_getElem? hs
    rw [List.eq_of_mem_replicate this]; rfl
  · have h1 := List.eq_of_mem_replicate (List.mem_of_getElem? hs)
    have h2 := List.eq_of_mem_replicate (List.mem_of_getElem? hr)
    subst h1 h2
    rfl
set_option maxHeartbeats 8000000 in
set_option maxRecDepth 20000 in
theorem busPlays_ok {a : V} {ops : List BOp} (ha : OV a ops) (hl : ops.length ≤ maxLen) : RF BT 4 [a] [] = some (.bool true, []) := by
  have hka : killMV a = a := by cases ha <;> rfl
  have hkb : killV (killLV 0 a) = a := by cases ha <;> rfl
  have c_new1 : RF BT 7 [] [] = some (.ptr 0 0, [busC Alive.B0]) := new_ok (m := [])
  refine RF_wpc rfl v4 b4 [(47, [3, 4, 9, 10, 11, 20, 21, 22], [0, 3])] ?_
  refine And.intro rfl (And.intro rfl ⟨_, _, c_new1, ?_⟩)
  refine And.intro rfl ⟨_, _, Alive.alive_ok, ?_⟩
  refine And.intro rfl ⟨_, _, new15, ?_⟩
  refine And.intro rfl (And.intro ⟨Nat.le_refl _, rfl, rfl⟩ ?_)
  simp only [mapK, hka, hkb]
  refine rdV_ov ha ?_
  refine rdV_ov ha ?_
  refine elemsW_ov ha ?_
  refine WP_loop (vars := v4) (bx := b4) (cuts := [(47, [3, 4, 9, 10, 11, 20, 21, 22], [0, 3])]) [0] (fun k L Bx m' => ∃ (i : Nat) (B : List Slot) (Rs : List RS), k + i = ops.length ∧ Rel B Rs ∧
    L = [(3, .ptr 0 0), (4, .loc 0 0), (20, a), (21, .int .i64 (ops.map BOp.cells).length), (22, .int .i64 i)] ∧ Bx = [(0, (refV Rs).cells)] ∧ m' = [busC B]) ?_ ?_
  · exact ⟨ops.length, 0, Alive.B0, _, rfl, rel0, rfl, rfl, rfl⟩
  · rintro k L Bx m' ⟨i, B, Rs, hki, hRel, rfl, rfl, rfl⟩
    refine fun c hc => ?_
    rw [List.length_map] at hc
    cases c with
    | false => exact ⟨⟨rfl, Nat.zero_le _⟩, rfl, rfl⟩
    | true =>
      simp only [decide_eq_true_eq] at hc
      have hilt : i < ops.length := by omega
      have hg := List.getElem?_eq_getElem hilt
      have hw := wrap64 (n := (i : Int) + 1) (by omega) (by unfold maxLen at hl; omega)
      refine rdV_ov ha ?_
      cases ha with
      | nil => exact absurd hilt (by simp)
      | sl =>
      generalize ops[i] = o at hg
      have hgc : (ops.map BOp.cells)[(i : Int).toNat]? = some o.cells := by
        rw [show (i : Int).toNat = i from rfl, List.getElem?_map, hg]; rfl
      refine And.intro (Int.natCast_nonneg _) ⟨_, hgc, Nat.le_refl _, ?_⟩
      refine And.intro rfl (And.intro rfl (And.intro ⟨Nat.le_refl _, rfl, rfl⟩ ?_))
      obtain ⟨hRel2, hok⟩ := hRel.does o
      have hdo := does_ok (m := [busC B]) (bb := 0) hRel.wf hRel.rwf rfl o
      rw [hok] at hdo
      generalize (doesR Rs B o).1 = Rs2 at hRel2 hdo
      generalize doesB B o = B2 at hRel2 hdo
      refine And.intro (Nat.le_refl _) (And.intro rfl (And.intro (Nat.le_refl _) (And.intro rfl (And.intro rfl (And.intro rfl ⟨_, _, hdo, ?_⟩)))))
      refine And.intro rfl (And.intro rfl (And.intro rfl (And.intro rfl (And.intro ⟨Nat.le_refl _, rfl, rfl⟩ ?_))))
      refine And.intro (Nat.le_refl _) (And.intro rfl (And.intro rfl (And.intro ⟨Nat.le_refl _, rfl, rfl⟩ ?_)))
      refine WP_loop (vars := v4) (bx := b4) (cuts := [(47, [3, 4, 9, 10, 11, 20, 21, 22], [0, 3])]) [0] (fun k2 L Bx m' => ∃ j : Nat, k2 + j = 8 ∧
        L = [(3, .ptr 0 0), (4, .loc 0 0), (9, .slice true 1 (ints (rdyN B2 j))), (10, .int .i64 ((j : Int) - 1)), (20, .slice false 8 (ops.map BOp.cells)), (21, .int .i64 (ops.map BOp.cells).length), (22, .int .i64 i)] ∧ Bx = [(0, (refV Rs2).cells)] ∧ m' = [busC B2]) ?_ ?_
      · exact ⟨8, 0, rfl, rfl, rfl, rfl⟩
      · rintro k2 L Bx m' ⟨j, hkj, rfl, rfl, rfl⟩
        refine fun c hc2 => ?_
        cases c with
        | false =>
          simp only [decide_eq_false_iff_not] at hc2
          obtain rfl : j = 8 := by omega
          have hrd := ready_ok (m := [busC B2]) (bb := 0) hRel2.wf.len rfl
          have hrl := readyN_len B2 5
          rw [rdyN_eq]
          refine And.intro rfl ⟨_, _, hrd, ?_⟩
          refine And.intro (okA (okArg_out _) (okA rfl rfl)) ⟨_, _, same_ok (outV_share _) (IV.sl (readyN B2 5)) (by unfold maxLen; omega), ?_⟩
          rw [decide_eq_true rfl]
          exact ⟨k - 1, by omega, i + 1, B2, Rs2, by omega, hRel2, by rw [hw]; rfl, rfl, rfl⟩
        | true =>
          simp only [decide_eq_true_eq] at hc2
          have hw2 := wrap64 (n := (j : Int) - 1 + 1) (by omega) (by omega)
          have hrl := rdyN_len B2 j
          obtain ⟨f1, f2, f3⟩ := hRel2.facts ((j : Int) - 1)
          refine And.intro (Nat.le_refl _) (And.intro rfl (And.intro rfl ⟨_, _, get_ok hRel2.rwf.len, ?_⟩))
          generalize getR Rs2 ((j : Int) - 1) = x at f1 f2 f3 ⊢
          have e3 : (killLV 3 (V.agg x.cells)).share = .agg x.cells := x.share
          refine And.intro x.ok1 (And.intro ⟨Nat.le_refl _, rfl, x.ok1⟩ ?_)
          simp only [e3]
          have hqo : x.qv.own0 = false := by obtain ⟨op, kv, kl, hk, qv, ql, hq, d⟩ := x; cases hq <;> rfl
          refine ⟨_, rfl, hqo, ?_⟩
          refine rdV_qv x.hq ?_
          refine elemsW_qv x.hq ?_
          refine fun c hc3 => ?_
          rw [List.length_map] at hc3
          refine ⟨fun L Bx m' => L = [(3, .ptr 0 0), (4, .loc 0 0), (9, .slice true 1 (ints (rdyN B2 (j + 1)))), (10, .int .i64 ((j : Int) - 1)), (11, .loc 3 0), (20, .slice false 8 (ops.map BOp.cells)), (21, .int .i64 (ops.map BOp.cells).length), (22, .int .i64 i)] ∧ Bx = [(0, (refV Rs2).cells), (3, x.cells)] ∧ m' = [busC B2], ?_, ?_⟩
          · cases c with
            | true =>
              simp only [decide_eq_true_eq] at hc3
              have hst : rdyN B2 (j + 1) = rdyN B2 j ++ [(j : Int) - 1] := by rw [rdyN, if_pos (by omega)]
              refine And.intro ⟨rfl, Nat.le_of_ble_eq_true rfl, rfl⟩ (And.intro (by rw [ints_len]; show _ + 1 ≤ most; unfold most; omega) ?_)
              refine ⟨?_, rfl, rfl⟩
              rw [hst]
              show [_, _, (9, V.slice true 1 (ints (rdyN B2 j) ++ [[V.int .i64 ((j : Int) - 1)]])), _, _, _, _, _] = _
              rw [show ints (rdyN B2 j) ++ [[V.int .i64 ((j : Int) - 1)]] = ints (rdyN B2 j ++ [(j : Int) - 1]) from by simp [ints]]
              rfl
            | false =>
              simp only [decide_eq_false_iff_not] at hc3
              have hst : rdyN B2 (j + 1) = rdyN B2 j := by rw [rdyN, if_neg (by omega)]
              refine ⟨?_, rfl, rfl⟩
              rw [hst]; rfl
          · rintro L1 B1 m1 ⟨rfl, rfl, rfl⟩
            have h13 := len_ok (m := [busC B2]) (bb := 0) (p := (j : Int) - 1) hRel2.wf.len rfl
            have h14 := dropped_ok (m := [busC B2]) (bb := 0) (p := (j : Int) - 1) hRel2.wf.len rfl
            have h19 := kindsOf_ok (m := [busC B2]) (bb := 0) (p := (j : Int) - 1) hRel2.wf.len rfl
            have hkl := kindsOf_len B2 ((j : Int) - 1)
            have hiv := outV_share (kindsOf B2 ((j : Int) - 1))
            generalize kindsOf B2 ((j : Int) - 1) = ks at f3 h19 hkl hiv
            obtain ⟨op, kv, kl, hk, qv, ql, hq, d⟩ := x
            simp only at f1 f2 f3
            have hkv : IV kv.share kl := by
              cases hk with
              | nil => exact .nil
              | sl => exact .sl _
            have h18 := same_ok (m := [busC B2]) hiv hkv (by unfold maxLen; omega)
            rw [decide_eq_true f3] at h18
            have hj1 : ((j + 1 : Nat) : Int) - 1 = (j : Int) - 1 + 1 := by omega
            cases ks <;> cases hk <;> cases hq <;> (
              refine And.intro rfl ⟨_, _, h13, ?_⟩
              refine ⟨_, rfl, rfl, ?_⟩
              refine fun c hc => ?_
              have hcf : c = false := by rw [← hc]; simp [f1]
              subst hcf
              refine And.intro rfl ⟨_, _, h14, ?_⟩
              refine ⟨_, rfl, rfl, ?_⟩
              refine fun c hc => ?_
              have hcf : c = false := by rw [← hc]; simp [f2]
              subst hcf
              refine And.intro rfl ⟨_, _, h19, ?_⟩
              refine ⟨_, rfl, rfl, ?_⟩
              refine And.intro rfl ⟨_, _, h18, ?_⟩
              exact ⟨k2 - 1, by omega, j + 1, by omega, by rw [hj1, hw2]; rfl, rfl, rfl⟩)
end Go.Proofs.Ytpfelpmmejhjaaa.Am

/-
BusPlays answers true whatever its input; the input reads as it did.
-/
namespace Go.Proofs.Ytpfelpmmejhjaaa
open Go.Proofs.Ytpfelpmmejhjaaa.Am
namespace busPlays
theorem own : ownKnob Try.prog.godebug = none := by kernel_rfl
theorem laid : laidOutB Try.prog = true := by kernel_rfl
theorem law (l : List V) (hl : l.length = Try.f4.params.toList.length) (h : ∀ (j : Nat) (t : TypeId), Try.f4.params.toList[j]? = some t → FitsV Try.prog t (l.getD j .undef)) : ∃ m', RF BT 4 l [] = some (.bool true, m') := by
  have hln : l.length = 1 := hl
  match l, hln with
  | [x0], _ =>
    have h0 := h 0 _ rfl
    have u37 : Try.prog.underlying 37 = some (.slice 43) := by kernel_rfl
    obtain ⟨a, ops, ha, hia, hka⟩ := fits_ops u37 (by kernel_rfl) (by kernel_rfl) (fitsV_leaf u37 h0 (fun _ e => by cases e) (fun _ _ e => by cases e))
    cases ha
    exact ⟨[], busPlays_ok hia hka⟩

set_option maxRecDepth 100000 in
theorem lifted (os : Os) (started : os.Started) (H : Type) (enc : TypeId × Value → H) :
    ReturnsInHanded {} Try.checked os 4 .any (Rows.busPlaysSpec.pre6 enc Try.prog Try.f4 Rows.busPlaysRow.domain false) (Rows.busPlaysSpec.post enc Try.prog Try.f4 false true false false) := by
  refine returnsInHanded_of_change (C := Try.checked) own started (by kernel_rfl) Try.func4
    (ChangeSpec.witness6 (enc := enc) (C := Try.checked) false ⟨#[], #[.slice none 0 0], []⟩ 8 (by kernel_rfl) (by kernel_rfl) (by kernel_rfl) (by kernel_rfl)) ?_
  intro W base args ds gs before hval hW _ _
  exact law_contract BT_ok (tb := 4) (d := 8) (by kernel_rfl) (by kernel_rfl) rfl
    (fun ds hd => by
      have hdn : ds.length = 1 := hd
      match ds, hdn with
      | [_], _ => rfl) laid (by kernel_rfl) (by kernel_rfl) law hval hW

theorem holds : Rows.BusPlaysSaid :=
  OpenClaim.holds_of_wide 4 Try.f4 rfl rfl rfl rfl rfl rfl rfl ⟨rfl, rfl, rfl, rfl, rfl⟩ rfl rfl rfl rfl rfl (by kernel_rfl) Try.func4 (by kernel_rfl)
    (of_decide_eq_true (by kernel_rfl)) (by unfold Func.isWrapper; rw [if_neg (by decide +kernel)]; exact ⟨rfl, rfl⟩)
    (fun os started H enc _ => lifted os started H enc)
#print axioms holds
end busPlays
end Go.Proofs.Ytpfelpmmejhjaaa
