/-
BusFull answers true whatever its input; the input reads as it did.
-/
import Derived.Test.YtpfelpmmejhjaaaAmBusFullRow3
import Derived.KernelRfl
import Derived.Test.YtpfelpmmejhjaaaRows
import Derived.WalkKit
import Derived.ProofKit
import Derived.OpenShut
import Derived.Handed
import Derived.JoinedOf
/-
What the bus's functions answer: taking, publishing, telling.
-/
namespace Go.Proofs.Ytpfelpmmejhjaaa.Am
def ev0 : Ev := ⟨0, 0, 0, []⟩
section
variable {m : Ms} {bb : Nat} {B : List Slot} {p : Int}
theorem take_none (hB : B.length = 5) (hm : m[bb]? = some (busC B)) (h : opn B p = none) : RF BT 12 [.ptr bb 0, .int .i64 p] m = some (.tuple [.agg ev0.cells, .bool false], m) := by
  refine RF_wp rfl v12 b12 ?_
  refine And.intro rfl (And.intro rfl ⟨_, _, at_none hB hm h, ?_⟩)
  refine And.intro rfl (And.intro rfl ⟨⟨Nat.le_refl _, rfl, rfl⟩, ?_⟩)
  exact ⟨Nat.le_refl _, ⟨rfl, Nat.le_refl _⟩, rfl, trim_same rfl⟩
theorem take_empty {s : Slot} (hm : m[bb]? = some (busC B)) (h : opn B p = some s) (he : s.evs = []) : RF BT 12 [.ptr bb 0, .int .i64 p] m = some (.tuple [.agg ev0.cells, .bool false], m) := by
  obtain ⟨n, rfl, _, _, hs, h4⟩ := opn_some h
  have h0 : (busC B)[n * 12 + 10]? = some s.qV := by rw [bus_get hs (by omega), s.get10]
  refine RF_wp rfl v12 b12 ?_
  refine And.intro rfl (And.intro rfl ⟨_, _, at_some hm h, ?_⟩)
  refine ⟨_, hm, _, h0, ?_⟩
  refine ⟨_, hm, _, h0, elemsV_q ?_⟩
  refine fun c hc => ?_
  cases c
  · rw [he] at hc; exact absurd hc (by decide)
  · refine And.intro rfl (And.intro rfl ⟨⟨Nat.le_refl _, rfl, rfl⟩, ?_⟩)
    exact ⟨Nat.le_refl _, ⟨rfl, Nat.le_refl _⟩, rfl, trim_same rfl⟩
theorem take_some {s : Slot} (hm : m[bb]? = some (busC B)) (h : opn B p = some s) {e : Ev} {es : List Ev} (he : s.evs = e :: es) :
    RF BT 12 [.ptr bb 0, .int .i64 p] m = some (.tuple [.agg e.cells, .bool true], m.set bb (busC (B.set p.toNat { s with q := some es }))) := by
  obtain ⟨n, rfl, _, _, hs, h4⟩ := opn_some h
  have h0 : (busC B)[n * 12 + 10]? = some s.qV := by rw [bus_get hs (by omega), s.get10]
  have hq : s.q = some (e :: es) := by
    unfold Slot.evs at he
    cases hq : s.q with
    | none => rw [hq] at he; cases he
    | some q => rw [hq] at he; exact congrArg some he
  have hqv : s.qV = .slice true 4 (e.cells :: es.map Ev.cells) := by unfold Slot.qV; rw [hq]; rfl
  rw [hqv] at h0
  have hlt := lt_of_get h0
  have hdel : ∀ m', RF BT 25 [.slice true 4 (e.cells :: es.map Ev.cells), .int .i64 0, .int .i64 1] m' = some (.slice true 4 (es.map Ev.cells), m') := fun m' => RF_ext rfl rfl
  refine RF_wp rfl v12 b12 ?_
  refine And.intro rfl (And.intro rfl ⟨_, _, at_some hm h, ?_⟩)
  refine ⟨_, hm, _, h0, ?_⟩
  refine ⟨_, hm, _, h0, ?_⟩
  refine fun c hc => ?_
  cases c
  · refine ⟨_, hm, _, h0, ?_⟩
    refine ⟨_, hm, _, h0, ?_⟩
    refine And.intro ⟨Int.le_refl _, by simp⟩ ⟨_, hm, _, h0, ?_⟩
    refine ⟨_, rfl, Nat.le_refl _, ?_⟩
    refine And.intro rfl (And.intro rfl ⟨⟨Nat.le_refl _, rfl, rfl⟩, ?_⟩)
    refine ⟨_, hm, _, h0, ?_⟩
    refine And.intro rfl ⟨_, _, hdel _, ?_⟩
    refine And.intro rfl ⟨_, get_set hm, ?_⟩
    refine ⟨⟨by simp only [List.length_set]; exact hlt, rfl, rfl, Nat.zero_le _⟩, ?_⟩
    refine And.intro (Nat.le_refl _) (And.intro rfl (And.intro rfl (And.intro rfl ⟨⟨Nat.le_refl _, rfl, rfl⟩, ?_⟩)))
    refine ⟨Nat.le_refl _, ⟨rfl, by simp⟩, rfl, (trim_same (by simp)).trans ?_⟩
    rw [List.set_set]
    congr 1
    exact bus_setq (q := some es) hs rfl
  · simp at hc
    omega
theorem new_ok : RF BT 7 [] m = some (.ptr m.length 0, m ++ [busC (List.replicate 5 (fresh false))]) := by
  refine RF_wp rfl v7 b7 ?_
  refine And.intro rfl (And.intro rfl ?_)
  refine ⟨⟨rfl, by simp⟩, rfl, ?_⟩
  unfold trim
  rw [if_neg (by show ¬ (m.length + 1 ≤ m.length); omega)]
  rfl
end
end Go.Proofs.Ytpfelpmmejhjaaa.Am

/-
What the bus's functions answer: publishing.
-/
namespace Go.Proofs.Ytpfelpmmejhjaaa.Am
def Slot.wants (s : Slot) (e : Ev) : Bool := decide (1 ≤ e.kind) && decide (e.kind ≤ 8) && s.kinds.getD e.kind.toNat false
def Slot.room (s : Slot) : Int := if s.evs.length < 16 then 1 else 0
def pubN (B : List Slot) (e : Ev) : Nat → List Slot × Int
  | 0 => (B, 0)
  | k + 1 => match opn (pubN B e k).1 k with
    | some s => if s.wants e then ((pubN B e k).1.set k (s.put e), (pubN B e k).2 + s.room) else pubN B e k
    | none => pubN B e k
structure WF (B : List Slot) : Prop where
  len : B.length = 5
  room : ∀ s ∈ B, s.evs.length ≤ 16
theorem Slot.put_evs (s : Slot) (e : Ev) (h : s.evs.length ≤ 16) : (s.put e).evs = if s.evs.length < 16 then s.evs ++ [e.cut] else s.evs := by
  unfold Slot.put
  by_cases h16 : s.evs.length = 16
  · rw [if_pos h16, if_neg (by omega)]; rfl
  · rw [if_neg h16, if_pos (by omega)]; rfl
theorem Slot.put_le (s : Slot) (e : Ev) (h : s.evs.length ≤ 16) : (s.put e).evs.length ≤ 16 := by
  rw [s.put_evs e h]; split
  · simp; omega
  · exact h
theorem WF.set {B : List Slot} (h : WF B) {n : Nat} {s : Slot} (hs : s.evs.length ≤ 16) : WF (B.set n s) :=
  ⟨by rw [List.length_set]; exact h.len, fun t ht => by
    rcases List.mem_or_eq_of_mem_set ht with h1 | rfl
    · exact h.room t h1
    · exact hs⟩
theorem WF.opn {B : List Slot} (h : WF B) {p : Int} {s : Slot} (hs : opn B p = some s) : s.evs.length ≤ 16 := by
  obtain ⟨n, _, _, _, h3, _⟩ := opn_some hs
  exact h.room s (List.mem_of_getElem? h3)
theorem WF.pubN {B : List Slot} (h : WF B) (e : Ev) : ∀ k, WF (pubN B e k).1
  | 0 => h
  | k + 1 => by
    have ih := h.pubN e k
    unfold Am.pubN
    cases ho : Am.opn (Am.pubN B e k).1 k with
    | none => exact ih
    | some s =>
      simp only
      split
      · exact ih.set (s.put_le e (ih.opn ho))
      · exact ih
theorem pubN_bound (B : List Slot) (e : Ev) : ∀ k, 0 ≤ (pubN B e k).2 ∧ (pubN B e k).2 ≤ k
  | 0 => ⟨Int.le_refl _, Int.le_refl _⟩
  | k + 1 => by
    have ih := pubN_bound B e k
    unfold pubN
    cases ho : opn (pubN B e k).1 k with
    | none => simp only; omega
    | some s =>
      simp only
      split
      · have : s.room = 0 ∨ s.room = 1 := by unfold Slot.room; split <;> simp
        simp only; omega
      · omega
theorem set_same {m : Ms} {b : Nat} {x : List V} (h : m[b]? = some x) : m.set b x = m := by
  obtain ⟨h1, h2⟩ := List.getElem?_eq_some_iff.1 h
  rw [← h2, List.set_getElem_self]
section
variable {m : Ms} {bb : Nat} {B : List Slot}
set_option maxRecDepth 20000 in
theorem publish_ok (hB : WF B) (hm : m[bb]? = some (busC B)) {e : Ev} : RF BT 11 [.ptr bb 0, .agg e.cells] m = some (.int .i64 (pubN B e 5).2, m.set bb (busC (pubN B e 5).1)) := by
  refine RF_wp rfl v11 b11 ?_
  refine And.intro rfl (And.intro rfl (And.intro rfl ?_))
  refine WP_loop (vars := v11) (bx := b11) (cuts := []) [0] (fun k L Bx m' => ∃ p : Nat, k + p = 5 ∧ L = [(0, .ptr bb 0), (3, .loc 0 0), (5, .int .i64 (pubN B e p).2), (8, .int .i64 p)] ∧ Bx = [(0, e.cells)] ∧ m' = m.set bb (busC (pubN B e p).1)) ?_ ?_
  · exact ⟨5, 0, rfl, rfl, rfl, (set_same hm).symm⟩
  · rintro k L Bx m' ⟨p, hp, rfl, rfl, rfl⟩
    have hm1 : (m.set bb (busC (pubN B e p).1))[bb]? = some (busC (pubN B e p).1) := get_set hm
    have hW := hB.pubN e p
    have hbd := pubN_bound B e p
    have fin : ∀ (q : List Slot × Int), pubN B e (p + 1) = q → p < 5 → ∃ n', n' < k ∧ ∃ p', n' + p' = 5 ∧
        [(0, V.ptr bb 0), (3, V.loc 0 0), (5, V.int .i64 q.2), (8, V.int .i64 (IntKind.wrap .i64 ((p : Int) + 1)))] = [(0, V.ptr bb 0), (3, V.loc 0 0), (5, V.int .i64 (pubN B e p').2), (8, V.int .i64 p')] ∧
        [(0, e.cells)] = [(0, e.cells)] ∧ m.set bb (busC q.1) = m.set bb (busC (pubN B e p').1) := fun q hq hlt => by
      refine ⟨k - 1, by omega, p + 1, by omega, ?_, rfl, by rw [hq]⟩
      rw [hq, wrap64 (by omega) (by omega)]; rfl
    refine fun c hc => ?_
    cases c
    · simp only [decide_eq_false_iff_not] at hc
      obtain rfl : p = 5 := by omega
      exact ⟨⟨rfl, by simp⟩, rfl, trim_same (by simp)⟩
    · simp only [decide_eq_true_eq] at hc
      have hlt : p < 5 := by omega
      cases ho : opn (pubN B e p).1 p with
      | none =>
        have hp1 : pubN B e (p + 1) = pubN B e p := by rw [pubN, ho]
        refine And.intro rfl ⟨_, _, at_none hW.len hm1 ho, ?_⟩
        exact fin _ hp1 hlt
      | some s =>
        obtain ⟨n, hn, hn1, hn4, hs, hop⟩ := opn_some ho
        obtain rfl : p = n := by omega
        refine And.intro rfl ⟨_, _, at_some hm1 ho, ?_⟩
        refine ⟨_, rfl, rfl, ?_⟩
        refine fun c hc1 => ?_
        cases c
        · simp only [decide_eq_false_iff_not] at hc1
          have hp1 : pubN B e (p + 1) = pubN B e p := by
            rw [pubN, ho]
            have : s.wants e = false := by unfold Slot.wants; rw [decide_eq_false (by omega)]; rfl
            simp [this]
          exact fin _ hp1 hlt
        · simp only [decide_eq_true_eq] at hc1
          refine ⟨_, rfl, rfl, ?_⟩
          refine fun c hc2 => ?_
          cases c
          · simp only [decide_eq_false_iff_not] at hc2
            have hp1 : pubN B e (p + 1) = pubN B e p := by
              rw [pubN, ho]
              have : s.wants e = false := by unfold Slot.wants; rw [decide_eq_false (p := e.kind ≤ 8) (by omega)]; simp
              simp [this]
            exact fin _ hp1 hlt
          · simp only [decide_eq_true_eq] at hc2
            refine ⟨_, rfl, rfl, ?_⟩
            refine And.intro (by omega) ?_
            have hg : (busC (pubN B e p).1)[(p : Int).toNat * 12 + 1 + e.kind.toNat * 1]? = some (.bool (s.kinds.getD e.kind.toNat false)) := by
              rw [show (p : Int).toNat * 12 + 1 + e.kind.toNat * 1 = p * 12 + (1 + e.kind.toNat) from by simp; omega, bus_get hs (by omega), s.getk (by omega)]
            cases hb : s.kinds.getD e.kind.toNat false with
            | false =>
              rw [hb] at hg
              have hp1 : pubN B e (p + 1) = pubN B e p := by
                rw [pubN, ho]
                have : s.wants e = false := by unfold Slot.wants; rw [hb]; simp
                simp [this]
              refine ⟨_, hm1, _, hg, rfl, ?_⟩
              exact fin _ hp1 hlt
            | true =>
              rw [hb] at hg
              have hw : s.wants e = true := by unfold Slot.wants; rw [hb, decide_eq_true (by omega), decide_eq_true (by omega)]; rfl
              have hp1 : pubN B e (p + 1) = ((pubN B e p).1.set p (s.put e), (pubN B e p).2 + s.room) := by
                rw [pubN, ho]; simp [hw]
              refine ⟨_, hm1, _, hg, rfl, ?_⟩
              refine And.intro (Nat.le_refl _) (And.intro rfl (And.intro rfl (And.intro rfl ⟨_, _, put_ok hm1 hs (hW.opn ho), ?_⟩)))
              have hf := fin _ hp1 hlt
              by_cases hr : s.evs.length < 16
              · rw [decide_eq_true hr]
                have hroom : s.room = 1 := by unfold Slot.room; rw [if_pos hr]
                rw [List.set_set]
                rw [hroom] at hf
                rw [← wrap64 (n := (pubN B e p).2 + 1) (by omega) (by omega)] at hf
                exact hf
              · rw [decide_eq_false hr]
                have hroom : s.room = 0 := by unfold Slot.room; rw [if_neg hr]
                rw [List.set_set]
                rw [hroom, Int.add_zero] at hf
                exact hf
end
end Go.Proofs.Ytpfelpmmejhjaaa.Am

/-
What the bus's functions answer: kinds, ready slots; lists of numbers that are the same.
-/
namespace Go.Proofs.Ytpfelpmmejhjaaa.Am
/-- A list of numbers that is made. -/
def outV : List Int → V
  | [] => .nils
  | x :: xs => .slice true 1 (ints (x :: xs))
theorem outV_share (xs : List Int) : IV (outV xs).share xs := by
  cases xs with
  | nil => exact .nil
  | cons x xs => exact .sl _
theorem take_succ_eq {xs ys : List Int} {i : Nat} {x y : Int} (hx : xs[i]? = some x) (hy : ys[i]? = some y) (h : xs.take i = ys.take i) (e : x = y) : xs.take (i + 1) = ys.take (i + 1) := by
  rw [List.take_add_one, List.take_add_one, hx, hy, h, e]
section
variable {m : Ms}
set_option maxRecDepth 20000 in
theorem same_sl {xs ys : List Int} (hx : xs.length ≤ maxLen) : RF BT 18 [.slice false 1 (ints xs), .slice false 1 (ints ys)] m = some (.bool (decide (xs = ys)), m) := by
  refine RF_wp rfl v18 b18 ?_
  refine And.intro rfl ?_
  refine fun c hc => ?_
  rw [ints_len, ints_len] at hc
  cases c
  · simp only [decide_eq_false_iff_not, ne_eq, Decidable.not_not] at hc
    have hl : xs.length = ys.length := by omega
    refine WP_loop (vars := v18) (bx := b18) (cuts := []) [] (fun k L Bx m' => ∃ i : Nat, k + i = xs.length ∧ xs.take i = ys.take i ∧ L = [(0, .slice false 1 (ints xs)), (1, .slice false 1 (ints ys)), (5, .int .i64 i)] ∧ Bx = [] ∧ m' = m) ?_ ?_
    · exact ⟨xs.length, 0, rfl, rfl, rfl, rfl, rfl⟩
    · rintro k L Bx m' ⟨i, hi, ht, rfl, rfl, rfl⟩
      refine fun c hc => ?_
      rw [ints_len] at hc
      cases c
      · simp only [decide_eq_false_iff_not] at hc
        have he : xs = ys := by
          rwa [List.take_of_length_le (by omega), List.take_of_length_le (by omega)] at ht
        rw [decide_eq_true he]
        exact ⟨⟨rfl, by simp⟩, rfl, trim_same rfl⟩
      · simp only [decide_eq_true_eq] at hc
        have hxi := List.getElem?_eq_getElem (show i < xs.length from by omega)
        have hyi := List.getElem?_eq_getElem (show i < ys.length from by omega)
        refine And.intro (Int.natCast_nonneg _) ⟨_, ints_get hxi, _, rfl, ?_⟩
        refine And.intro (Int.natCast_nonneg _) ⟨_, ints_get hyi, _, rfl, ?_⟩
        refine fun c hc2 => ?_
        cases c
        · simp only [decide_eq_false_iff_not, ne_eq, Decidable.not_not] at hc2
          refine ⟨k - 1, by omega, i + 1, by omega, take_succ_eq hxi hyi ht hc2, ?_, rfl, rfl⟩
          have := wrap64 (n := (i : Int) + 1) (by omega) (by unfold maxLen at hx; omega)
          show [(0, V.slice false 1 (ints xs)), (1, V.slice false 1 (ints ys)), (5, V.int .i64 (IntKind.wrap .i64 ((i : Int) + 1)))] = _
          rw [this]; rfl
        · simp only [decide_eq_true_eq] at hc2
          have hne : xs ≠ ys := fun e => by
            subst e
            rw [hxi] at hyi
            exact hc2 rfl
          rw [decide_eq_false hne]
          exact ⟨⟨rfl, by simp⟩, rfl, trim_same rfl⟩
  · simp only [decide_eq_true_eq] at hc
    have hne : xs ≠ ys := fun e => hc (by rw [e])
    rw [decide_eq_false hne]
    exact ⟨⟨rfl, by simp⟩, rfl, trim_same rfl⟩
theorem same_ns {ys : List Int} : RF BT 18 [.nils, .slice false 1 (ints ys)] m = some (.bool (decide (([] : List Int) = ys)), m) := by
  refine RF_wp rfl v18 b18 ?_
  refine And.intro rfl ?_
  refine fun c hc => ?_
  rw [ints_len] at hc
  cases c
  · simp only [decide_eq_false_iff_not, ne_eq, Decidable.not_not] at hc
    have hy : ys = [] := List.length_eq_zero_iff.1 (by simp only [List.length_nil] at hc; omega)
    subst hy
    refine WP_loop (vars := v18) (bx := b18) (cuts := []) [] (fun k L Bx m' => L = [(0, .nils), (1, .slice false 1 (ints [])), (5, .int .i64 0)] ∧ Bx = [] ∧ m' = m) ?_ ?_
    · exact ⟨0, rfl, rfl, rfl⟩
    · rintro k L Bx m' ⟨rfl, rfl, rfl⟩
      refine fun c hc => ?_
      cases c
      · exact ⟨⟨rfl, by simp⟩, rfl, trim_same rfl⟩
      · exact absurd hc (by decide)
  · simp only [decide_eq_true_eq] at hc
    have hne : ([] : List Int) ≠ ys := fun e => hc (by rw [← e]; rfl)
    rw [decide_eq_false hne]
    exact ⟨⟨rfl, by simp⟩, rfl, trim_same rfl⟩
theorem same_sn {xs : List Int} : RF BT 18 [.slice false 1 (ints xs), .nils] m = some (.bool (decide (xs = [])), m) := by
  refine RF_wp rfl v18 b18 ?_
  refine And.intro rfl ?_
  refine fun c hc => ?_
  rw [ints_len] at hc
  cases c
  · simp only [decide_eq_false_iff_not, ne_eq, Decidable.not_not] at hc
    have hy : xs = [] := List.length_eq_zero_iff.1 (by simp only [List.length_nil] at hc; omega)
    subst hy
    refine WP_loop (vars := v18) (bx := b18) (cuts := []) [] (fun k L Bx m' => L = [(0, .slice false 1 (ints [])), (1, .nils), (5, .int .i64 0)] ∧ Bx = [] ∧ m' = m) ?_ ?_
    · exact ⟨0, rfl, rfl, rfl⟩
    · rintro k L Bx m' ⟨rfl, rfl, rfl⟩
      refine fun c hc => ?_
      cases c
      · exact ⟨⟨rfl, by simp⟩, rfl, trim_same rfl⟩
      · exact absurd hc (by decide)
  · simp only [decide_eq_true_eq] at hc
    have hne : xs ≠ [] := fun e => hc (by rw [e]; rfl)
    rw [decide_eq_false hne]
    exact ⟨⟨rfl, by simp⟩, rfl, trim_same rfl⟩
theorem same_nn : RF BT 18 [.nils, .nils] m = some (.bool true, m) := by
  refine RF_wp rfl v18 b18 ?_
  refine And.intro rfl ?_
  refine fun c hc => ?_
  cases c
  · refine WP_loop (vars := v18) (bx := b18) (cuts := []) [] (fun k L Bx m' => L = [(0, .nils), (1, .nils), (5, .int .i64 0)] ∧ Bx = [] ∧ m' = m) ?_ ?_
    · exact ⟨0, rfl, rfl, rfl⟩
    · rintro k L Bx m' ⟨rfl, rfl, rfl⟩
      refine fun c hc => ?_
      cases c
      · exact ⟨⟨rfl, by simp⟩, rfl, trim_same rfl⟩
      · exact absurd hc (by decide)
  · exact absurd hc (by decide)
theorem same_ok {a b : V} {xs ys : List Int} (ha : IV a xs) (hb : IV b ys) (hx : xs.length ≤ maxLen) : RF BT 18 [a, b] m = some (.bool (decide (xs = ys)), m) := by
  cases ha with
  | nil => cases hb with
    | nil => rw [same_nn]; rfl
    | sl => exact same_ns
  | sl => cases hb with
    | nil => exact same_sn
    | sl => exact same_sl hx

def kindN (s : Slot) : Nat → List Int
  | 0 => []
  | k + 1 => if s.kinds.getD k false then kindN s k ++ [(k : Int)] else kindN s k
theorem kindN_len (s : Slot) : ∀ k, (kindN s k).length ≤ k
  | 0 => Nat.le_refl _
  | k + 1 => by
    have := kindN_len s k
    unfold kindN; split
    · simp; omega
    · omega
variable {bb : Nat} {B : List Slot} {p : Int}
theorem kinds_win {n : Nat} {s : Slot} (hs : B[n]? = some s) : ((busC B).drop ((n : Int).toNat * 12 + 1)).take 9 = s.kinds.map V.bool := by
  apply List.ext_getElem?
  intro i
  rw [List.getElem?_take, List.getElem?_drop]
  have hk := s.hk
  split
  · rename_i hi
    rw [show (n : Int).toNat * 12 + 1 + i = n * 12 + (1 + i) from by simp; omega, bus_get hs (by omega), s.getk hi]
    simp [List.getD_eq_getElem?_getD, List.getElem?_eq_getElem (show i < s.kinds.length from by omega)]
  · rename_i hi
    rw [List.getElem?_map, List.getElem?_eq_none (by omega)]; rfl
theorem bools_own {bs : List Bool} : (bs.map V.bool).any V.own0 = false := by
  rw [List.any_eq_false]
  intro x hx
  obtain ⟨b, _, rfl⟩ := List.mem_map.1 hx
  simp [V.own0]
theorem outV_ok (xs : List Int) : [outV xs].all V.ok1 = true := by cases xs <;> rfl
theorem outV_snoc (y : Int) (ys : List Int) (x : Int) : V.slice true 1 (ints (y :: ys) ++ [[V.int .i64 x]]) = outV (y :: ys ++ [x]) := by simp [outV, ints]
set_option maxRecDepth 20000 in
theorem kinds_ok {s : Slot} (hm : m[bb]? = some (busC B)) (h : opn B p = some s) : RF BT 19 [.ptr bb 0, .int .i64 p] m = some (outV (kindN s 9), m) := by
  obtain ⟨n, rfl, _, _, hs, h4⟩ := opn_some h
  refine RF_wp rfl v19 b19 ?_
  refine And.intro rfl (And.intro rfl ⟨_, _, at_some hm h, ?_⟩)
  have hlt := bus_lt hs
  refine ⟨_, hm, by show (n : Int).toNat * 12 + 1 + 9 ≤ _; simp; omega, ?_⟩
  rw [kinds_win hs]
  refine And.intro bools_own ?_
  refine WP_loop (vars := v19) (bx := b19) (cuts := []) [] (fun k L Bx m' => ∃ i : Nat, k + i = 9 ∧ L = [(5, outV (kindN s i)), (17, .agg (s.kinds.map V.bool)), (18, .int .i64 i)] ∧ Bx = [] ∧ m' = m) ?_ ?_
  · exact ⟨9, 0, rfl, rfl, rfl, rfl⟩
  · rintro k L Bx m' ⟨i, hi, rfl, rfl, rfl⟩
    refine fun c hc => ?_
    cases c
    · simp only [decide_eq_false_iff_not] at hc
      obtain rfl : i = 9 := by omega
      exact ⟨⟨outV_ok _, Nat.le_refl _⟩, rfl, trim_same rfl⟩
    · simp only [decide_eq_true_eq] at hc
      have hi9 : i < 9 := by omega
      have hk := s.hk
      have hget : (s.kinds.map V.bool)[(i : Int).toNat * 1]? = some (.bool (s.kinds.getD i false)) := by
        simp [List.getD_eq_getElem?_getD, List.getElem?_eq_getElem (show i < s.kinds.length from by omega)]
      refine And.intro bools_own (And.intro ⟨by omega, by omega, by rw [List.length_map]; omega⟩ ⟨_, hget, ?_⟩)
      have hw := wrap64 (n := (i : Int) + 1) (by omega) (by omega)
      have fin : ∀ v, v = outV (kindN s (i + 1)) → ∃ n', n' < k ∧ ∃ j : Nat, n' + j = 9 ∧ [(5, v), (17, V.agg (s.kinds.map V.bool)), (18, V.int .i64 (IntKind.wrap .i64 ((i : Int) + 1)))] = [(5, outV (kindN s j)), (17, .agg (s.kinds.map V.bool)), (18, .int .i64 j)] ∧ ([] : Bs) = [] ∧ m' = m' := fun v hv =>
        ⟨k - 1, by omega, i + 1, by omega, by rw [hv, hw]; rfl, rfl, rfl⟩
      have hlen := kindN_len s i
      cases hb : s.kinds.getD i false with
      | false => exact fin _ (by rw [kindN, hb]; rfl)
      | true =>
        have hkn : kindN s (i + 1) = kindN s i ++ [(i : Int)] := by rw [kindN, hb]; rfl
        cases hq : kindN s i with
        | nil =>
          rw [hq] at hkn
          refine And.intro ⟨rfl, by decide, rfl⟩ (And.intro (by show 1 ≤ most; decide) (And.intro (fun _ => ?_) (fun hh => (nomatch hh))))
          exact fin _ (by rw [hkn]; rfl)
        | cons y ys =>
          rw [hq] at hkn hlen
          refine And.intro ⟨rfl, by decide, rfl⟩ (And.intro (by rw [ints_len]; simp only [List.length_cons] at hlen; show (y :: ys).length + 1 ≤ most; unfold most; simp; omega) ?_)
          exact fin _ (by rw [hkn]; exact outV_snoc y ys i)
theorem kinds_none (hB : B.length = 5) (hm : m[bb]? = some (busC B)) (h : opn B p = none) : RF BT 19 [.ptr bb 0, .int .i64 p] m = some (.nils, m) := by
  refine RF_wp rfl v19 b19 ?_
  refine And.intro rfl (And.intro rfl ⟨_, _, at_none hB hm h, ?_⟩)
  exact ⟨⟨rfl, Nat.le_refl _⟩, rfl, trim_same rfl⟩

def lenOf (B : List Slot) (p : Int) : Nat := match opn B p with
  | some s => s.evs.length
  | none => 0
def dropOf (B : List Slot) (p : Int) : Int := match opn B p with
  | some s => s.dropped
  | none => 0
theorem len_ok (hB : B.length = 5) (hm : m[bb]? = some (busC B)) : RF BT 13 [.ptr bb 0, .int .i64 p] m = some (.int .i64 (lenOf B p), m) := by
  unfold lenOf
  cases h : opn B p with
  | none => exact len_none hB hm h
  | some s => exact len_some hm h
theorem dropped_ok (hB : B.length = 5) (hm : m[bb]? = some (busC B)) : RF BT 14 [.ptr bb 0, .int .i64 p] m = some (.int .i64 (dropOf B p), m) := by
  unfold dropOf
  cases h : opn B p with
  | none => exact dropped_none hB hm h
  | some s => exact dropped_some hm h
def readyN (B : List Slot) : Nat → List Int
  | 0 => []
  | k + 1 => if 0 < lenOf B k then readyN B k ++ [(k : Int)] else readyN B k
theorem readyN_len (B : List Slot) : ∀ k, (readyN B k).length ≤ k
  | 0 => Nat.le_refl _
  | k + 1 => by
    have := readyN_len B k
    unfold readyN; split
    · simp; omega
    · omega
set_option maxRecDepth 20000 in
theorem ready_ok (hB : B.length = 5) (hm : m[bb]? = some (busC B)) : RF BT 20 [.ptr bb 0] m = some (outV (readyN B 5), m) := by
  refine RF_wp rfl v20 b20 ?_
  refine And.intro rfl ?_
  refine WP_loop (vars := v20) (bx := b20) (cuts := []) [] (fun k L Bx m' => ∃ i : Nat, k + i = 5 ∧ L = [(0, .ptr bb 0), (3, outV (readyN B i)), (5, .int .i64 i)] ∧ Bx = [] ∧ m' = m) ?_ ?_
  · exact ⟨5, 0, rfl, rfl, rfl, rfl⟩
  · rintro k L Bx m' ⟨i, hi, rfl, rfl, rfl⟩
    refine fun c hc => ?_
    cases c
    · simp only [decide_eq_false_iff_not] at hc
      obtain rfl : i = 5 := by omega
      exact ⟨⟨outV_ok _, Nat.le_refl _⟩, rfl, trim_same rfl⟩
    · simp only [decide_eq_true_eq] at hc
      have hw := wrap64 (n := (i : Int) + 1) (by omega) (by omega)
      have fin : ∀ v, v = outV (readyN B (i + 1)) → ∃ n', n' < k ∧ ∃ j : Nat, n' + j = 5 ∧ [(0, V.ptr bb 0), (3, v), (5, V.int .i64 (IntKind.wrap .i64 ((i : Int) + 1)))] = [(0, .ptr bb 0), (3, outV (readyN B j)), (5, .int .i64 j)] ∧ ([] : Bs) = [] ∧ m' = m' := fun v hv =>
        ⟨k - 1, by omega, i + 1, by omega, by rw [hv, hw]; rfl, rfl, rfl⟩
      have hlen := readyN_len B i
      refine And.intro rfl ⟨_, _, len_ok hB hm, ?_⟩
      cases hq : readyN B i with
      | nil =>
        refine fun c hc2 => ?_
        cases c
        · simp only [decide_eq_false_iff_not] at hc2
          exact fin .nils (by rw [readyN, if_neg (by omega), hq]; rfl)
        · simp only [decide_eq_true_eq] at hc2
          refine And.intro ⟨rfl, by decide, rfl⟩ (And.intro (by show 1 ≤ most; decide) (And.intro (fun _ => ?_) (fun hh => (nomatch hh))))
          exact fin _ (by rw [readyN, if_pos (by omega), hq]; rfl)
      | cons y ys =>
        rw [hq] at hlen
        refine fun c hc2 => ?_
        cases c
        · simp only [decide_eq_false_iff_not] at hc2
          exact fin _ (by rw [readyN, if_neg (by omega), hq]; rfl)
        · simp only [decide_eq_true_eq] at hc2
          refine And.intro ⟨rfl, by decide, rfl⟩ (And.intro (by rw [ints_len]; simp only [List.length_cons] at hlen; show (y :: ys).length + 1 ≤ most; unfold most; simp; omega) ?_)
          exact fin _ (by rw [readyN, if_pos (by omega), hq]; exact outV_snoc y ys i)
end
end Go.Proofs.Ytpfelpmmejhjaaa.Am

/-
The document's example, for the bus.
-/
namespace Go.Proofs.Ytpfelpmmejhjaaa.Am
theorem last_get {m : Ms} {x : List V} : (m ++ [x])[m.length]? = some x := by simp
theorem last_set {m : Ms} {x y : List V} : (m ++ [x]).set m.length y = m ++ [y] := by simp
namespace Alive
def B0 : List Slot := List.replicate 5 (fresh false)
def B1 : List Slot := B0.set 1 (fresh true)
def B2 : List Slot := B1.set 2 (fresh true)
def B3 : List Slot := B2.set 1 ((fresh true).sub 3 true)
def e1 : Ev := ⟨3, 7, 0, []⟩
def e2 : Ev := ⟨3, 0, 0, []⟩
def B4 : List Slot := (pubN B3 e1 5).1
def s4 : Slot := ((fresh true).sub 3 true).put e1
def B5 : List Slot := B4.set 1 { s4 with q := some [] }
def Bi : Nat → List Slot
  | 0 => B5
  | i + 1 => (pubN (Bi i) e2 5).1
theorem wf0 : WF B0 := ⟨rfl, fun s hs => by rw [List.eq_of_mem_replicate hs]; exact Nat.zero_le _⟩
theorem wf3 : WF B3 := ((wf0.set (Nat.zero_le _)).set (Nat.zero_le _)).set (Nat.zero_le _)
theorem wf5 : WF B5 := (wf3.pubN e1 5).set (Nat.zero_le _)
theorem wfi : ∀ i, WF (Bi i)
  | 0 => wf5
  | i + 1 => (wfi i).pubN e2 5
variable {m : Ms}
theorem o1 : RF BT 9 [.ptr m.length 0, .int .i64 1] (m ++ [busC B0]) = some (.int .i64 0, m ++ [busC B1]) := by
  have h := open_in (m := m ++ [busC B0]) (bb := m.length) (B := B0) (n := 1) (s := fresh false) (by decide) (by decide) last_get rfl
  rw [last_set] at h
  exact h
theorem o2 : RF BT 9 [.ptr m.length 0, .int .i64 2] (m ++ [busC B1]) = some (.int .i64 0, m ++ [busC B2]) := by
  have h := open_in (m := m ++ [busC B1]) (bb := m.length) (B := B1) (n := 2) (s := fresh false) (by decide) (by decide) last_get rfl
  rw [last_set] at h
  exact h
theorem o3 : RF BT 10 [.ptr m.length 0, .int .i64 1, .int .i64 3, .bool true] (m ++ [busC B2]) = some (.int .i64 0, m ++ [busC B3]) := by
  have h := sub_in (m := m ++ [busC B2]) (bb := m.length) (B := B2) (p := 1) (s := fresh true) (k := 3) (on := true) last_get rfl (by decide) (by decide)
  rw [last_set] at h
  exact h
theorem o4 : RF BT 11 [.ptr m.length 0, .agg e1.cells] (m ++ [busC B3]) = some (.int .i64 1, m ++ [busC B4]) := by
  have h := publish_ok (m := m ++ [busC B3]) (bb := m.length) (B := B3) (e := e1) wf3 last_get
  rw [last_set, show (pubN B3 e1 5).2 = 1 from by kernel_rfl] at h
  exact h
theorem o5 : RF BT 12 [.ptr m.length 0, .int .i64 1] (m ++ [busC B4]) = some (.tuple [.agg e1.cells, .bool true], m ++ [busC B5]) := by
  have h := take_some (m := m ++ [busC B4]) (bb := m.length) (B := B4) (p := 1) (s := s4) (e := e1) (es := []) last_get (by kernel_rfl) (by kernel_rfl)
  rw [last_set] at h
  exact h
theorem o6 : RF BT 12 [.ptr m.length 0, .int .i64 2] (m ++ [busC B5]) = some (.tuple [.agg ev0.cells, .bool false], m ++ [busC B5]) :=
  take_empty (m := m ++ [busC B5]) (bb := m.length) (B := B5) (p := 2) (s := fresh true) last_get (by kernel_rfl) rfl
theorem o7 (i : Nat) : RF BT 11 [.ptr m.length 0, .agg e2.cells] (m ++ [busC (Bi i)]) = some (.int .i64 (pubN (Bi i) e2 5).2, m ++ [busC (Bi (i + 1))]) := by
  have h := publish_ok (m := m ++ [busC (Bi i)]) (bb := m.length) (B := Bi i) (e := e2) (wfi i) last_get
  rw [last_set] at h
  exact h
theorem o8 : RF BT 13 [.ptr m.length 0, .int .i64 1] (m ++ [busC (Bi 17)]) = some (.int .i64 16, m ++ [busC (Bi 17)]) := by
  have h := len_ok (m := m ++ [busC (Bi 17)]) (bb := m.length) (p := 1) (wfi 17).len last_get
  rw [show lenOf (Bi 17) 1 = 16 from by kernel_rfl] at h
  exact h
theorem o9 : RF BT 14 [.ptr m.length 0, .int .i64 1] (m ++ [busC (Bi 17)]) = some (.int .i64 1, m ++ [busC (Bi 17)]) := by
  have h := dropped_ok (m := m ++ [busC (Bi 17)]) (bb := m.length) (p := 1) (wfi 17).len last_get
  rw [show dropOf (Bi 17) 1 = 1 from by kernel_rfl] at h
  exact h
theorem o10 : RF BT 20 [.ptr m.length 0] (m ++ [busC (Bi 17)]) = some (.slice true 1 (ints [1]), m ++ [busC (Bi 17)]) := by
  have h := ready_ok (m := m ++ [busC (Bi 17)]) (bb := m.length) (wfi 17).len last_get
  rw [show readyN (Bi 17) 5 = [1] from by kernel_rfl] at h
  exact h
def s17 : Slot := (opn (Bi 17) 1).getD (fresh false)
theorem opn17 : opn (Bi 17) 1 = some s17 := by kernel_rfl
theorem o11 : RF BT 19 [.ptr m.length 0, .int .i64 1] (m ++ [busC (Bi 17)]) = some (.slice true 1 (ints [3]), m ++ [busC (Bi 17)]) := by
  have h := kinds_ok (m := m ++ [busC (Bi 17)]) (bb := m.length) (p := 1) (s := s17) last_get opn17
  rw [show kindN s17 9 = [3] from by kernel_rfl] at h
  exact h
def B18 : List Slot := (Bi 17).set 1 (fresh false)
theorem o12 : RF BT 22 [.ptr m.length 0, .int .i64 1] (m ++ [busC (Bi 17)]) = some (.int .i64 0, m ++ [busC B18]) := by
  have h := shut_some (m := m ++ [busC (Bi 17)]) (bb := m.length) (p := 1) (s := s17) last_get opn17
  rw [last_set] at h
  exact h
theorem o13 : RF BT 13 [.ptr m.length 0, .int .i64 1] (m ++ [busC B18]) = some (.int .i64 0, m ++ [busC B18]) := by
  have hl : B18.length = 5 := by unfold B18; rw [List.length_set]; exact (wfi 17).len
  have h := len_ok (m := m ++ [busC B18]) (bb := m.length) (p := 1) hl last_get
  rw [show lenOf B18 1 = 0 from by kernel_rfl] at h
  exact h
set_option maxRecDepth 20000 in
theorem alive_ok : RF BT 8 [] m = some (.bool true, m) := by
  refine RF_wp rfl v8 b8 ?_
  refine And.intro rfl (And.intro rfl ⟨_, _, new_ok, ?_⟩)
  refine And.intro rfl ⟨_, _, o1, ?_⟩
  refine fun c hc => ?_
  subst hc
  refine And.intro rfl ⟨_, _, o2, ?_⟩
  refine fun c hc => ?_
  subst hc
  refine And.intro rfl ⟨_, _, o3, ?_⟩
  refine fun c hc => ?_
  subst hc
  refine And.intro ⟨rfl, by decide, rfl⟩ (And.intro ⟨rfl, by decide, rfl⟩ (And.intro rfl ?_))
  refine And.intro rfl ⟨_, _, o4, ?_⟩
  refine And.intro rfl ⟨_, _, o5, ?_⟩
  refine And.intro rfl (And.intro rfl (And.intro rfl (And.intro rfl (And.intro rfl (And.intro ⟨Nat.le_refl _, rfl, rfl⟩ ?_)))))
  refine And.intro rfl ⟨_, _, o6, ?_⟩
  refine And.intro rfl (And.intro rfl (And.intro rfl (And.intro rfl (And.intro rfl (And.intro ⟨Nat.le_refl _, rfl, rfl⟩ ?_)))))
  refine WP_loop (vars := v8) (bx := b8) (cuts := []) [0, 1] (fun k L Bx m' => ∃ i : Nat, k + i = 17 ∧ L = [(1, .ptr m.length 0), (2, .int .i64 1), (3, .loc 0 0), (4, .bool true), (6, .bool false), (7, .int .i64 i)] ∧ Bx = [(0, e1.cells), (1, ev0.cells)] ∧ m' = m ++ [busC (Bi i)]) ?_ ?_
  · exact ⟨17, 0, rfl, rfl, rfl, rfl⟩
  · rintro k L Bx m' ⟨i, hi, rfl, rfl, rfl⟩
    refine fun c hc => ?_
    cases c
    · simp only [decide_eq_false_iff_not] at hc
      obtain rfl : i = 17 := by omega
      refine fun c hc => ?_
      subst hc
      refine ⟨_, rfl, rfl, ?_⟩
      refine fun c hc => ?_
      subst hc
      refine And.intro rfl ⟨_, _, o8, ?_⟩
      refine fun c hc => ?_
      subst hc
      refine And.intro rfl ⟨_, _, o9, ?_⟩
      refine fun c hc => ?_
      subst hc
      refine And.intro rfl ⟨_, _, o10, ?_⟩
      refine And.intro ⟨rfl, by decide, rfl⟩ ?_
      refine And.intro rfl ⟨_, _, same_sl (xs := [1]) (ys := [1]) (by decide), ?_⟩
      refine And.intro rfl ⟨_, _, o11, ?_⟩
      refine And.intro ⟨rfl, by decide, rfl⟩ ?_
      refine And.intro rfl ⟨_, _, same_sl (xs := [3]) (ys := [3]) (by decide), ?_⟩
      refine And.intro rfl ⟨_, _, o12, ?_⟩
      refine fun c hc => ?_
      subst hc
      refine And.intro rfl ⟨_, _, o13, ?_⟩
      refine fun c hc => ?_
      subst hc
      refine ⟨⟨rfl, by simp⟩, rfl, ?_⟩
      exact (if_pos (Nat.zero_le _)).trans (by simp)
    · simp only [decide_eq_true_eq] at hc
      refine And.intro ⟨rfl, by decide, rfl⟩ (And.intro rfl (And.intro rfl ⟨_, _, o7 i, ?_⟩))
      refine ⟨k - 1, by omega, i + 1, by omega, ?_, rfl, rfl⟩
      have hw := wrap64 (n := (i : Int) + 1) (by omega) (by omega)
      show [(1, V.ptr m.length 0), (2, V.int .i64 1), (3, V.loc 0 0), (4, V.bool true), (6, V.bool false), (7, V.int .i64 (IntKind.wrap .i64 ((i : Int) + 1)))] = _
      rw [hw]; rfl
end Alive
end Go.Proofs.Ytpfelpmmejhjaaa.Am

/-
BusFull, walked.
-/
namespace Go.Proofs.Ytpfelpmmejhjaaa.Am
/-- A bus of which the third slot alone is open. -/
def Bs3 (S : Slot) : List Slot := [fresh false, fresh false, fresh false, S, fresh false]
theorem opn3 {S : Slot} (h : S.op = true) : opn (Bs3 S) 3 = some S := by simp [opn, Bs3, h, Option.filter]
section
variable {S : Slot}
theorem f_new : RF BT 7 [] [] = some (.ptr 0 0, [busC Alive.B0]) := new_ok (m := [])
theorem f_none (e : Ev) : RF BT 21 [.ptr 0 0, .int .i64 3, .agg e.cells] [busC Alive.B0] = some (.int .i64 5, [busC Alive.B0]) :=
  send_none (m := [busC Alive.B0]) (bb := 0) (p := 3) rfl rfl rfl
theorem f_open (ho : S.op = false) : RF BT 9 [.ptr 0 0, .int .i64 3] [busC (Bs3 S)] = some (.int .i64 0, [busC (Bs3 (fresh true))]) := by
  have h := open_in (m := [busC (Bs3 S)]) (bb := 0) (B := Bs3 S) (n := 3) (s := S) (by decide) (by decide) rfl rfl
  rw [ho] at h
  exact h
theorem f_send (ho : S.op = true) (hl : S.evs.length ≤ 16) (e : Ev) : RF BT 21 [.ptr 0 0, .int .i64 3, .agg e.cells] [busC (Bs3 S)] = some (.int .i64 (if S.evs.length < 16 then 0 else 3), [busC (Bs3 (S.put e))]) :=
  send_some (m := [busC (Bs3 S)]) (bb := 0) (p := 3) rfl (opn3 ho) hl
theorem f_len (ho : S.op = true) : RF BT 13 [.ptr 0 0, .int .i64 3] [busC (Bs3 S)] = some (.int .i64 S.evs.length, [busC (Bs3 S)]) :=
  len_some (m := [busC (Bs3 S)]) (bb := 0) (p := 3) rfl (opn3 ho)
theorem f_drop (ho : S.op = true) : RF BT 14 [.ptr 0 0, .int .i64 3] [busC (Bs3 S)] = some (.int .i64 S.dropped, [busC (Bs3 S)]) :=
  dropped_some (m := [busC (Bs3 S)]) (bb := 0) (p := 3) rfl (opn3 ho)
theorem f_take0 (ho : S.op = true) (h : S.evs = []) : RF BT 12 [.ptr 0 0, .int .i64 3] [busC (Bs3 S)] = some (.tuple [.agg ev0.cells, .bool false], [busC (Bs3 S)]) :=
  take_empty (m := [busC (Bs3 S)]) (bb := 0) (p := 3) rfl (opn3 ho) h
theorem f_take (ho : S.op = true) {e : Ev} {es : List Ev} (h : S.evs = e :: es) : RF BT 12 [.ptr 0 0, .int .i64 3] [busC (Bs3 S)] = some (.tuple [.agg e.cells, .bool true], [busC (Bs3 { S with q := some es })]) :=
  take_some (m := [busC (Bs3 S)]) (bb := 0) (p := 3) rfl (opn3 ho) h
theorem f_shut (ho : S.op = true) : RF BT 22 [.ptr 0 0, .int .i64 3] [busC (Bs3 S)] = some (.int .i64 0, [busC (Bs3 (fresh false))]) :=
  shut_some (m := [busC (Bs3 S)]) (bb := 0) (p := 3) rfl (opn3 ho)
theorem f_ready : RF BT 20 [.ptr 0 0] [busC (Bs3 (fresh true))] = some (.nils, [busC (Bs3 (fresh true))]) :=
  ready_ok (m := [busC (Bs3 (fresh true))]) (bb := 0) rfl rfl
end
/-- Behind so many events. -/
structure FI (text : List UInt8) (i : Nat) (S : Slot) : Prop where
  op : S.op = true
  len : S.evs.length = min i 16
  drop : S.dropped = ((i - 16 : Nat) : Int)
  hd : ∀ e es, S.evs = e :: es → e.a = 0 ∧ e.text = text.take 64
theorem FI.le {text : List UInt8} {i : Nat} {S : Slot} (h : FI text i S) : S.evs.length ≤ 16 := by rw [h.len]; omega
theorem FI.put {text : List UInt8} {i : Nat} {S : Slot} (h : FI text i S) (hi : i ≤ 64) : FI text (i + 1) (S.put ⟨0, i, 0, text⟩) := by
  have hl := h.len
  have hd := h.drop
  by_cases h16 : S.evs.length = 16
  · have hw := wrap64 (n := S.dropped + 1) (by omega) (by omega)
    have hp : S.put ⟨0, i, 0, text⟩ = { S with dropped := S.dropped + 1 } := by unfold Slot.put; rw [if_pos h16, hw]
    rw [hp]
    exact ⟨h.op, by show S.evs.length = _; omega, by show S.dropped + 1 = _; omega, h.hd⟩
  · have hp : S.put ⟨0, i, 0, text⟩ = { S with q := some (S.evs ++ [⟨0, i, 0, text.take 64⟩]) } := by unfold Slot.put; rw [if_neg h16]; rfl
    rw [hp]
    refine ⟨h.op, by show (S.evs ++ [_]).length = _; rw [List.length_append, List.length_singleton]; omega, by show S.dropped = _; omega, fun e es he => ?_⟩
    have he' : S.evs ++ [⟨0, (i : Int), 0, text.take 64⟩] = e :: es := he
    cases hq : S.evs with
    | nil =>
      rw [hq] at he' hl
      simp only [List.nil_append, List.cons.injEq] at he'
      rw [← he'.1]
      exact ⟨by show (i : Int) = 0; simp only [List.length_nil] at hl; omega, rfl⟩
    | cons x xs =>
      rw [hq] at he'
      simp only [List.cons_append, List.cons.injEq] at he'
      rw [← he'.1]
      exact h.hd x xs hq
theorem and63 (n : Int) : ∃ N : Nat, N ≤ 63 ∧ IntKind.wrap .i64 ((BitVec.ofInt 64 n &&& BitVec.ofInt 64 63).toNat : Int) = N := by
  have h : (BitVec.ofInt 64 n &&& BitVec.ofInt 64 63).toNat ≤ 63 := by
    rw [BitVec.toNat_and]
    exact Nat.le_trans Nat.and_le_right (by decide)
  exact ⟨_, h, wrap64 (by omega) (by omega)⟩

set_option maxRecDepth 20000 in
theorem busFull_ok {n : Int} {text : List UInt8} : RF BT 6 [.int .i64 n, .str text] [] = some (.bool true, []) := by
  obtain ⟨N, hN, hand⟩ := and63 n
  refine RF_wpc rfl v6 b6 [(90, [5], [])] ?_
  refine And.intro rfl (And.intro rfl ⟨_, _, f_new, ?_⟩)
  refine And.intro rfl ⟨_, _, Alive.alive_ok, ?_⟩
  refine And.intro rfl (And.intro rfl ⟨_, _, f_none ev0, ?_⟩)
  refine fun c hc => ?_
  subst hc
  refine And.intro rfl ⟨_, _, f_open (S := fresh false) rfl, ?_⟩
  refine fun c hc => ?_
  subst hc
  refine WP_loop (vars := v6) (bx := b6) (cuts := [(90, [5], [])]) [] (fun k L Bx m' => ∃ (i : Nat) (S : Slot), k + i = N ∧ FI text i S ∧ L = [(0, .int .i64 N), (1, .str text), (5, .ptr 0 0), (6, .int .i64 i)] ∧ Bx = [] ∧ m' = [busC (Bs3 S)]) ?_ ?_
  · refine ⟨N, 0, fresh true, rfl, ⟨rfl, rfl, rfl, fun e es h => (nomatch h)⟩, ?_, rfl, rfl⟩
    show [(0, V.int .i64 (IntKind.wrap .i64 ((BitVec.ofInt 64 n &&& BitVec.ofInt 64 63).toNat : Int))), (1, V.str text), (5, V.ptr 0 0), (6, V.int .i64 0)] = _
    rw [hand]; rfl
  · rintro k L Bx m' ⟨i, S, hki, hF, rfl, rfl, rfl⟩
    refine fun c hc => ?_
    cases c with
    | true =>
      simp only [decide_eq_true_eq] at hc
      have hi : i < N := by omega
      have hw := wrap64 (n := (i : Int) + 1) (by omega) (by omega)
      have hl := hF.len
      have fin : ∃ n', n' < k ∧ ∃ (j : Nat) (S' : Slot), n' + j = N ∧ FI text j S' ∧ [(0, V.int .i64 N), (1, V.str text), (5, V.ptr 0 0), (6, V.int .i64 (IntKind.wrap .i64 ((i : Int) + 1)))] = [(0, .int .i64 N), (1, .str text), (5, .ptr 0 0), (6, .int .i64 j)] ∧ ([] : Bs) = [] ∧ [busC (Bs3 (S.put ⟨0, i, 0, text⟩))] = [busC (Bs3 S')] :=
        ⟨k - 1, by omega, i + 1, _, by omega, hF.put (by omega), by rw [hw]; rfl, rfl, rfl⟩
      refine And.intro ⟨rfl, Nat.le_of_ble_eq_true rfl, rfl⟩ (And.intro ⟨rfl, Nat.le_of_ble_eq_true rfl, rfl⟩ (And.intro rfl (And.intro rfl ?_)))
      have hs := f_send hF.op hF.le ⟨0, i, 0, text⟩
      by_cases hlt : S.evs.length < 16
      · rw [if_pos hlt] at hs
        refine ⟨_, _, hs, ?_⟩
        refine fun c hc => ?_
        subst hc
        refine fun c hc => ?_
        cases c with
        | false => simp only [decide_eq_false_iff_not] at hc; omega
        | true =>
        refine fun c hc => ?_
        subst hc
        refine fun c hc => ?_
        subst hc
        exact fin
      · rw [if_neg hlt] at hs
        refine ⟨_, _, hs, ?_⟩
        refine fun c hc => ?_
        subst hc
        refine fun c hc => ?_
        cases c with
        | true => simp only [decide_eq_true_eq] at hc; omega
        | false =>
        refine fun c hc => ?_
        subst hc
        refine fun c hc => ?_
        subst hc
        refine fun c hc => ?_
        subst hc
        exact fin
    | false =>
      simp only [decide_eq_false_iff_not] at hc
      obtain rfl : i = N := by omega
      have hl := hF.len
      have hd := hF.drop
      refine And.intro rfl ⟨_, _, f_len hF.op, ?_⟩
      refine fun c hc => ?_
      cases c with
      | true => simp only [decide_eq_true_eq] at hc; omega
      | false =>
      refine And.intro rfl ⟨_, _, f_drop hF.op, ?_⟩
      refine fun c hc => ?_
      have hw := wrap64 (n := (i : Int) - 16) (by omega) (by omega)
      rw [hw] at hc
      cases c with
      | true => simp only [decide_eq_true_eq] at hc; omega
      | false =>
      cases he : S.evs with
      | nil =>
        rw [he, List.length_nil] at hl
        have hi0 : i = 0 := by omega
        refine And.intro rfl ⟨_, _, f_take0 hF.op he, ?_⟩
        refine And.intro rfl (And.intro rfl (And.intro rfl (And.intro rfl (And.intro rfl (And.intro ⟨Nat.le_refl _, rfl, rfl⟩ ?_)))))
        refine fun c hc => ?_
        cases c with
        | true => simp only [decide_eq_true_eq] at hc; omega
        | false =>
        refine fun c hc => ?_
        subst hc
        refine ⟨fun L Bx m => ∃ S' : Slot, S'.op = true ∧ S'.evs.length < 16 ∧ L = [(5, .ptr 0 0)] ∧ Bx = [] ∧ m = [busC (Bs3 S')], ?_, ?_⟩
        · exact ⟨S, hF.op, by rw [he]; decide, rfl, rfl, rfl⟩
        · rintro L1 B1 m1 ⟨S', hop', hl', rfl, rfl, rfl⟩
          refine And.intro ⟨rfl, Nat.le_of_ble_eq_true rfl, rfl⟩ (And.intro rfl (And.intro rfl ?_))
          have hs := f_send hop' (by omega) ⟨0, 99, 0, []⟩
          rw [if_pos hl'] at hs
          refine ⟨_, _, hs, ?_⟩
          refine fun c hc => ?_
          subst hc
          have hop2 : (S'.put ⟨0, 99, 0, []⟩).op = true := by unfold Slot.put; split <;> exact hop'
          refine And.intro rfl ⟨_, _, f_shut hop2, ?_⟩
          refine fun c hc => ?_
          subst hc
          refine And.intro rfl ⟨_, _, f_open (S := fresh false) rfl, ?_⟩
          refine fun c hc => ?_
          subst hc
          refine And.intro rfl ⟨_, _, f_len (S := fresh true) rfl, ?_⟩
          refine fun c hc => ?_
          subst hc
          refine And.intro rfl ⟨_, _, f_drop (S := fresh true) rfl, ?_⟩
          refine fun c hc => ?_
          subst hc
          refine And.intro rfl ⟨_, _, f_ready, ?_⟩
          refine fun c hc => ?_
          subst hc
          exact ⟨⟨rfl, Nat.zero_le _⟩, rfl, rfl⟩
      | cons e es =>
        obtain ⟨hea, het⟩ := hF.hd e es he
        rw [he, List.length_cons] at hl
        refine And.intro rfl ⟨_, _, f_take hF.op he, ?_⟩
        refine And.intro rfl (And.intro rfl (And.intro rfl (And.intro rfl (And.intro rfl (And.intro ⟨Nat.le_refl _, rfl, rfl⟩ ?_)))))
        refine fun c hc => ?_
        cases c with
        | false => simp only [decide_eq_false_iff_not] at hc; omega
        | true =>
        refine fun c hc => ?_
        subst hc
        refine ⟨_, rfl, rfl, ?_⟩
        refine fun c hc => ?_
        rw [hea] at hc
        subst hc
        refine ⟨_, rfl, rfl, ?_⟩
        refine And.intro (by omega) (And.intro (by omega) ?_)
        refine fun c hc => ?_
        rw [cut_min, het] at hc
        have : c = false := by rw [← hc]; simp
        subst this
        refine ⟨fun L Bx m => ∃ S' : Slot, S'.op = true ∧ S'.evs.length < 16 ∧ L = [(5, .ptr 0 0)] ∧ Bx = [] ∧ m = [busC (Bs3 S')], ?_, ?_⟩
        · exact ⟨{ S with q := some es }, hF.op, by show es.length < 16; omega, rfl, rfl, rfl⟩
        · rintro L1 B1 m1 ⟨S', hop', hl', rfl, rfl, rfl⟩
          refine And.intro ⟨rfl, Nat.le_of_ble_eq_true rfl, rfl⟩ (And.intro rfl (And.intro rfl ?_))
          have hs := f_send hop' (by omega) ⟨0, 99, 0, []⟩
          rw [if_pos hl'] at hs
          refine ⟨_, _, hs, ?_⟩
          refine fun c hc => ?_
          subst hc
          have hop2 : (S'.put ⟨0, 99, 0, []⟩).op = true := by unfold Slot.put; split <;> exact hop'
          refine And.intro rfl ⟨_, _, f_shut hop2, ?_⟩
          refine fun c hc => ?_
          subst hc
          refine And.intro rfl ⟨_, _, f_open (S := fresh false) rfl, ?_⟩
          refine fun c hc => ?_
          subst hc
          refine And.intro rfl ⟨_, _, f_len (S := fresh true) rfl, ?_⟩
          refine fun c hc => ?_
          subst hc
          refine And.intro rfl ⟨_, _, f_drop (S := fresh true) rfl, ?_⟩
          refine fun c hc => ?_
          subst hc
          refine And.intro rfl ⟨_, _, f_ready, ?_⟩
          refine fun c hc => ?_
          subst hc
          exact ⟨⟨rfl, Nat.zero_le _⟩, rfl, rfl⟩
end Go.Proofs.Ytpfelpmmejhjaaa.Am

/-
BusFull answers true whatever its input; the input reads as it did.
-/
namespace Go.Proofs.Ytpfelpmmejhjaaa
open Go.Proofs.Ytpfelpmmejhjaaa.Am
namespace busFull
theorem own : ownKnob Try.prog.godebug = none := by kernel_rfl
theorem laid : laidOutB Try.prog = true := by kernel_rfl
theorem law (l : List V) (hl : l.length = Try.f6.params.toList.length) (h : ∀ (j : Nat) (t : TypeId), Try.f6.params.toList[j]? = some t → FitsV Try.prog t (l.getD j .undef)) : ∃ m', RF BT 6 l [] = some (.bool true, m') := by
  have hln : l.length = 2 := hl
  match l, hln with
  | [x0, x1], _ =>
    have h0 := h 0 _ rfl
    have h1 := h 1 _ rfl
    have u3 : Try.prog.underlying 3 = some (.int .i64) := by kernel_rfl
    have u9 : Try.prog.underlying 9 = some .string := by kernel_rfl
    obtain ⟨n, hn, _⟩ := fits_int u3 (fitsV_leaf u3 h0 (fun _ e => by cases e) (fun _ _ e => by cases e))
    obtain ⟨s, hs, _⟩ := fits_str u9 (fitsV_leaf u9 h1 (fun _ e => by cases e) (fun _ _ e => by cases e))
    cases hn
    cases hs
    exact ⟨[], busFull_ok⟩

set_option maxRecDepth 100000 in
theorem lifted (os : Os) (started : os.Started) (H : Type) (enc : TypeId × Value → H) :
    ReturnsInHanded {} Try.checked os 6 .any (Rows.busFullSpec.pre6 enc Try.prog Try.f6 Rows.busFullRow.domain false) (Rows.busFullSpec.post enc Try.prog Try.f6 false true false false) := by
  refine returnsInHanded_of_change (C := Try.checked) own started (by kernel_rfl) Try.func6
    (ChangeSpec.witness6 (enc := enc) (C := Try.checked) false ⟨#[], #[.int .i64 0, .string ⟨#[]⟩], []⟩ 8 (by kernel_rfl) (by kernel_rfl) (by kernel_rfl) (by kernel_rfl)) ?_
  intro W base args ds gs before hval hW _ _
  exact law_contract BT_ok (tb := 4) (d := 8) (by kernel_rfl) (by kernel_rfl) rfl
    (fun ds hd => by
      have hdn : ds.length = 2 := hd
      match ds, hdn with
      | [_, _], _ => rfl) laid (by kernel_rfl) (by kernel_rfl) law hval hW

theorem holds : Rows.BusFullSaid :=
  OpenClaim.holds_of_wide 6 Try.f6 rfl rfl rfl rfl rfl rfl rfl ⟨rfl, rfl, rfl, rfl, rfl⟩ rfl rfl rfl rfl rfl (by kernel_rfl) Try.func6 (by kernel_rfl)
    (of_decide_eq_true (by kernel_rfl)) (by unfold Func.isWrapper; rw [if_neg (by decide +kernel)]; exact ⟨rfl, rfl⟩)
    (fun os started H enc _ => lifted os started H enc)
#print axioms holds
end busFull
end Go.Proofs.Ytpfelpmmejhjaaa
