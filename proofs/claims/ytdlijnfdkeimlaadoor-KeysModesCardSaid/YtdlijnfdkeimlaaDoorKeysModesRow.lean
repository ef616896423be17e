/-
KeysModes answers true whatever its input; the input reads as it did.
-/
import Derived.Test.YtdlijnfdkeimlaaDoorAmKeysModesRow5
import Derived.ChangeReads
import Derived.ChangeArms
import Derived.Carry
import Derived.OpenShut
import Derived.ChangeSame
import Derived.RowKit
import Derived.Test.YtdlijnfdkeimlaaDoorRows
import Derived.LaidSub
import Derived.Test.YtdlijnfdkeimlaaDoorCards
import Derived.Test.YtdlijnfdkeimlaaDoorTie
import Derived.WalkKit
import Derived.ProofKit
import Derived.Deep.DeepHandedRow
import Derived.Lib.LaidTab
set_option linter.all false
namespace Go.Proofs.YtdlijnfdkeimlaaDoor.Am.Keys
open Go.Proofs.YtdlijnfdkeimlaaDoor.Am.T
def runT (mode : List Int) (q : List Key) : List Binding → Option (List Key) → (Binding × Option (List Key)) ⊕ Option (List Key)
  | [], w => .inr w
  | b :: r, w => if b.mode = mode ∧ q <+: b.seq then (if q = b.seq then .inl (b, w) else runT mode q r (some q)) else runT mode q r w
def runE (x : BoardM) : (Binding × Option (List Key)) ⊕ Option (List Key) → (List Int × Binding × BoardM) ⊕ BoardM
  | .inl (b, w) => .inl (b.does, b, { x with waits := w })
  | .inr w => .inr { x with waits := w }
theorem press_loop (x : BoardM) (q : List Key) (hx : x.all.length ≤ 64) (hq : q.length ≤ most) : ∀ (k i : Nat) (w : Option (List Key)), i + k = x.all.length →
    iter (fun s => keys_Board_Press_l1 x q s.1 s.2 : (Int × BoardM) → Option ((Int × BoardM) ⊕ ((List Int × Binding × BoardM) ⊕ BoardM))) ((i : Int), { x with waits := w }) = some (runE x (runT x.mode q (x.all.drop i) w))
  | 0, i, w, hi => by
    rw [List.drop_eq_nil_of_le (by omega)]
    refine iter_inr ?_
    simp only [keys_Board_Press_l1, letB]
    rw [decide_eq_false (by omega)]; rfl
  | k + 1, i, w, hi => by
    have hm := most_is
    have h1 : i < x.all.length := by omega
    have hx' : idx x.all (i : Int) = some x.all[i] := by rw [idx_is (d := ⟨[], [], []⟩) (by omega) (by omega), Int.toNat_natCast, List.getD_eq_getElem?_getD, List.getElem?_eq_getElem h1]; rfl
    rw [List.drop_eq_getElem_cons h1]
    generalize x.all[i] = b at *
    have st : keys_Board_Press_l1 x q (i : Int) { x with waits := w } = if b.mode = x.mode ∧ q <+: b.seq then (if q = b.seq then some (.inr (.inl (b.does, b, { x with waits := w }))) else some (.inl (((i + 1 : Nat) : Int), { x with waits := some q }))) else some (.inl (((i + 1 : Nat) : Int), { x with waits := w })) := by
      simp only [keys_Board_Press_l1, letB]
      rw [decide_eq_true (by omega), hx', w64_id (by omega) (by omega)]
      simp only [cond_true, Option.bind_some, pre_dec hq]
      by_cases hmo : b.mode = x.mode
      · rw [decide_eq_false (show ¬ b.mode ≠ x.mode from fun h => h hmo)]
        simp only [cond_false, Option.bind_some]
        by_cases hp : q <+: b.seq
        · rw [decide_eq_true hp, if_pos ⟨hmo, hp⟩]
          simp only [Bool.not_true, cond_false]
          by_cases he : q = b.seq
          · rw [if_pos he, decide_eq_true (by rw [he])]; rfl
          · rw [if_neg he, decide_eq_false (fun h => he (pre_len_eq hp (by omega)))]; rfl
        · rw [decide_eq_false hp, if_neg (fun h => hp h.2)]; rfl
      · rw [decide_eq_true (show b.mode ≠ x.mode from hmo), if_neg (fun h => hmo h.1)]; rfl
    unfold runT
    by_cases hc : b.mode = x.mode ∧ q <+: b.seq
    · rw [if_pos hc] at st ⊢
      by_cases he : q = b.seq
      · rw [if_pos he] at st ⊢
        exact iter_inr st
      · rw [if_neg he] at st ⊢
        rw [iter_inl (step := fun s => keys_Board_Press_l1 x q s.1 s.2) (s := ((i : Int), { x with waits := w })) st]
        exact press_loop x q hx hq k (i + 1) (some q) (by omega)
    · rw [if_neg hc] at st ⊢
      rw [iter_inl (step := fun s => keys_Board_Press_l1 x q s.1 s.2) (s := ((i : Int), { x with waits := w })) st]
      exact press_loop x q hx hq k (i + 1) w (by omega)
theorem run_q {mode : List Int} {q : List Key} : ∀ {L : List Binding} {w w' : Option (List Key)}, runT mode q L w = .inr w' → w' = w ∨ (w' = some q ∧ ∃ b ∈ L, b.mode = mode ∧ q <+: b.seq ∧ q ≠ b.seq)
  | [], w, w', h => by cases h; exact .inl rfl
  | b :: r, w, w', h => by
    unfold runT at h
    split at h
    · rename_i hc
      split at h
      · cases h
      · rename_i he
        rcases run_q h with e | ⟨e, _⟩
        · exact .inr ⟨e, b, List.mem_cons_self, hc.1, hc.2, he⟩
        · exact .inr ⟨e, b, List.mem_cons_self, hc.1, hc.2, he⟩
    · rcases run_q h with e | ⟨e, c, hc, h3⟩
      · exact .inl e
      · exact .inr ⟨e, c, List.mem_cons_of_mem _ hc, h3⟩
def pressE (x : BoardM) (q : List Key) : (Binding × Option (List Key)) ⊕ Option (List Key) → List Int × List Key × BoardM
  | .inl (b, w) => (b.does, [], { x with waits := w })
  | .inr none => ([], q, { x with waits := none })
  | .inr (some _) => ([], [], { x with waits := some q })
theorem l2_l1 : keys_Board_Press_l2 = keys_Board_Press_l1 := rfl
theorem press_is {x : BoardM} {k : Key} (hx : x.all.length ≤ 64) (hw : (x.waits.getD []).length ≤ 10) :
    keys_Board_Press x k = some (pressE x (x.waits.getD [] ++ [k]) (runT x.mode (x.waits.getD [] ++ [k]) x.all none)) := by
  have hm := most_is
  have hl := press_loop x (x.waits.getD [] ++ [k]) hx (by simp; omega) x.all.length 0 none (by omega)
  rw [List.drop_zero, show ((0 : Nat) : Int) = 0 from rfl] at hl
  have hs : ∀ w', runT x.mode (x.waits.getD [] ++ [k]) x.all none = .inr w' → w' = none ∨ w' = some (x.waits.getD [] ++ [k]) := fun w' h => (run_q h).imp id And.left
  have hne : x.waits.getD [] ++ [k] ≠ [] := by simp
  unfold keys_Board_Press
  rw [l2_l1]
  cases hxw : x.waits with
  | none =>
    rw [hxw] at hl hs hne
    simp only [optM, slices_Clone_68]
    rw [app_some (by simp)]
    simp only [Option.bind_some]
    rw [app_some (by simp; omega)]
    simp only [Option.bind_some]
    rw [show ([] : List Key) ++ [] ++ [k] = (none : Option (List Key)).getD [] ++ [k] from rfl, hl]
    simp only [Option.bind_some]
    revert hs
    cases runT x.mode ((none : Option (List Key)).getD [] ++ [k]) x.all none with
    | inl bw => obtain ⟨b, w'⟩ := bw; intro _; rfl
    | inr w =>
      intro hs
      rcases hs w rfl with rfl | rfl
      · rfl
      · rfl
  | some n =>
    rw [hxw] at hl hs hne hw
    have hw' : n.length ≤ 10 := hw
    simp only [optM, slices_Clone_68]
    rw [app_some (by simp; omega)]
    simp only [Option.bind_some, List.nil_append]
    rw [app_some (by simp; omega)]
    simp only [Option.bind_some]
    rw [show n ++ [k] = (some n).getD [] ++ [k] from rfl, hl]
    simp only [Option.bind_some]
    revert hs
    cases runT x.mode ((some n).getD [] ++ [k]) x.all none with
    | inl bw => obtain ⟨b, w'⟩ := bw; intro _; rfl
    | inr w =>
      intro hs
      rcases hs w rfl with rfl | rfl
      · rfl
      · cases n <;> rfl
theorem waits_of {x : BoardM} (hw : (x.waits.getD []).length ≤ 10) : keys_Board_Waits x = some (x.waits.getD [], x) := by
  have hm := most_is
  obtain ⟨l, m, w⟩ := x
  unfold keys_Board_Waits
  cases w with
  | none =>
    simp only [optM, slices_Clone_68]
    rw [app_some (by simp)]
    rfl
  | some n =>
    have hw' : n.length ≤ 10 := hw
    simp only [optM, slices_Clone_68]
    rw [app_some (by simp; omega)]
    rfl
def ms (b : Binding) : List Int × List Key := (b.mode, b.seq)
def Apart (l : List Binding) : Prop := (l.map ms).Pairwise fun b c => b.1 = c.1 → ¬ b.2 <+: c.2 ∧ ¬ c.2 <+: b.2
theorem bindT_some {x : BoardM} {mode : List Int} {seq : List Key} {does : List Int} : ∀ {L : List Binding} {i : Nat} {y : Int × BoardM}, L = x.all.drop i → bindT x mode seq does i L = some y →
    y = (180, x) ∨ ∃ j b, x.all[j]? = some b ∧ b.mode = mode ∧ b.seq = seq ∧ y = (0, { x with all := x.all.set j { b with does := does } })
  | [], _, _, _, h => by cases h
  | b :: r, i, y, hL, h => by
    unfold bindT at h
    split at h
    · rename_i hh
      split at h
      · rename_i he
        cases h
        refine .inr ⟨i, b, ?_, hh.1, he, rfl⟩
        have : (x.all.drop i)[0]? = some b := by rw [← hL]; rfl
        rwa [List.getElem?_drop, Nat.add_zero] at this
      · cases h; exact .inl rfl
    · refine bindT_some ?_ h
      have : (x.all.drop i).drop 1 = r := by rw [← hL]; rfl
      rw [← this, List.drop_drop]
theorem bindT_none {x : BoardM} {mode : List Int} {seq : List Key} {does : List Int} : ∀ {L : List Binding} {i : Nat}, bindT x mode seq does i L = none → ∀ b ∈ L, ¬ hitT mode seq b
  | [], _, _ => fun b hb => by cases hb
  | b :: r, i, h => by
    unfold bindT at h
    split at h
    · split at h <;> cases h
    · rename_i hh
      intro c hc
      rcases List.mem_cons.1 hc with rfl | hc
      · exact hh
      · exact bindT_none h c hc
structure Inv (x : BoardM) (took : List (List Key)) : Prop where
  few : x.all.length ≤ 64
  mine : ∀ b ∈ x.all, b.mode = [109] ∧ b.does ≠ [] ∧ b.seq.length ≤ 4 ∧ b.seq ∈ took
  apart : Apart x.all
  short : ∀ s ∈ took, s.length ≤ 4
theorem map_set {l : List Binding} {j : Nat} {b : Binding} {d : List Int} (h : l[j]? = some b) : (l.set j { b with does := d }).map ms = l.map ms := by
  rw [List.map_set]
  apply List.ext_getElem?
  intro k
  rw [List.getElem?_set]
  split
  · rename_i e
    subst e
    have hj : j < l.length := (List.getElem?_eq_some_iff.1 h).1
    rw [if_pos (by simpa using hj), List.getElem?_map, h]; rfl
  · rfl
theorem Inv.bind {x : BoardM} {took : List (List Key)} (h : Inv x took) (seq : List Key) (does : List Int) :
    ∃ e x', keys_Board_Bind x [109] seq does = some (e, x') ∧ Inv x' (if e = 0 then took ++ [seq] else took) ∧ x'.waits = x.waits := by
  rw [bind_is h.few (fun b hb => (h.mine b hb).2.2.1)]
  by_cases ha : argsT [109] seq does
  · rw [if_pos ha]
    have hd : does ≠ [] := by rintro rfl; exact absurd ha.2.1.1 (by simp)
    have hq := ha.2.2.2.1
    have hsh : ∀ s ∈ took ++ [seq], s.length ≤ 4 := by
      intro s hs
      rcases List.mem_append.1 hs with hs | hs
      · exact h.short s hs
      · rw [List.mem_singleton.1 hs]; exact hq
    cases hb : bindT x [109] seq does 0 x.all with
    | some y =>
      rcases bindT_some (by rw [List.drop_zero]) hb with rfl | ⟨j, b, e1, e2, e3, rfl⟩
      · exact ⟨180, x, rfl, by simpa using h, rfl⟩
      · refine ⟨0, _, rfl, ⟨by rw [List.length_set]; exact h.few, ?_, ?_, hsh⟩, rfl⟩
        · intro c hc
          rcases List.mem_or_eq_of_mem_set hc with hc | rfl
          · obtain ⟨m1, m2, m3, m4⟩ := h.mine c hc
            exact ⟨m1, m2, m3, List.mem_append_left _ m4⟩
          · exact ⟨e2, hd, by rw [e3]; exact hq, List.mem_append_right _ (List.mem_singleton.2 e3)⟩
        · unfold Apart
          rw [map_set e1]
          exact h.apart
    | none =>
      simp only
      by_cases h64 : x.all.length = 64
      · rw [if_pos h64]; exact ⟨3, x, rfl, by simpa using h, rfl⟩
      · rw [if_neg h64]
        have hf := h.few
        refine ⟨0, _, rfl, ⟨by simp; omega, ?_, ?_, hsh⟩, rfl⟩
        · intro c hc
          rcases List.mem_append.1 hc with hc | hc
          · obtain ⟨m1, m2, m3, m4⟩ := h.mine c hc
            exact ⟨m1, m2, m3, List.mem_append_left _ m4⟩
          · rw [List.mem_singleton.1 hc]
            exact ⟨rfl, hd, hq, List.mem_append_right _ (List.mem_singleton.2 rfl)⟩
        · unfold Apart
          rw [List.map_append, List.pairwise_append]
          refine ⟨h.apart, List.pairwise_singleton _ _, ?_⟩
          intro z hz z' hz'
          rw [List.map_cons, List.map_nil, List.mem_singleton] at hz'
          subst hz'
          obtain ⟨c, hc, rfl⟩ := List.mem_map.1 hz
          have := bindT_none hb c hc
          intro he
          exact ⟨fun hp => this ⟨he, .inl hp⟩, fun hp => this ⟨he, .inr hp⟩⟩
  · rw [if_neg ha]
    exact ⟨1, x, rfl, by simpa using h, rfl⟩
end Go.Proofs.YtdlijnfdkeimlaaDoor.Am.Keys

set_option linter.all false
namespace Go.Proofs.YtdlijnfdkeimlaaDoor.Am.Keys
open Go.Proofs.YtdlijnfdkeimlaaDoor.Am.T
theorem mine_loop (x : BoardM) (mode : List Int) (hx : x.all.length ≤ 64) : ∀ (k i : Nat) (out : List Binding), i + k = x.all.length → out.length ≤ i →
    iter (fun s => keys_Board_All_l1 x mode s.1 s.2 : (List Binding × Int) → Option ((List Binding × Int) ⊕ List Binding)) (out, (i : Int)) = some (out ++ (x.all.drop i).filter fun b => decide (b.mode = mode))
  | 0, i, out, hi, ho => by
    rw [List.drop_eq_nil_of_le (by omega)]
    refine iter_inr ?_
    simp only [keys_Board_All_l1, letB]
    rw [decide_eq_false (by omega)]
    simp
  | k + 1, i, out, hi, ho => by
    have hm := most_is
    have h1 : i < x.all.length := by omega
    have hx' : idx x.all (i : Int) = some x.all[i] := by rw [idx_is (d := ⟨[], [], []⟩) (by omega) (by omega), Int.toNat_natCast, List.getD_eq_getElem?_getD, List.getElem?_eq_getElem h1]; rfl
    rw [List.drop_eq_getElem_cons h1]
    generalize x.all[i] = b at *
    rw [iter_inl (s' := ((if b.mode = mode then out ++ [b] else out), ((i + 1 : Nat) : Int)))]
    · rw [mine_loop x mode hx k (i + 1) _ (by omega) (by split <;> (try rw [List.length_append, List.length_singleton]) <;> omega)]
      by_cases h : b.mode = mode
      · rw [if_pos h, List.filter_cons_of_pos (by simpa using h)]; simp
      · rw [if_neg h, List.filter_cons_of_neg (by simpa using h)]
    · simp only [keys_Board_All_l1, letB]
      rw [decide_eq_true (by omega), hx', w64_id (by omega) (by omega)]
      simp only [cond_true, Option.bind_some]
      by_cases h : b.mode = mode
      · rw [decide_eq_true h, if_pos h]
        simp only [cond_true]
        rw [app_some (by simp; omega)]; rfl
      · rw [decide_eq_false h, if_neg h]; rfl
theorem does_loop (l : List Binding) (hl : l.length ≤ 64) : ∀ (k i : Nat) (out : List (List Int)), i + k = l.length → out.length ≤ i →
    iter (fun s => keys_Board_All_l2 l s.1 s.2 : (List (List Int) × Int) → Option ((List (List Int) × Int) ⊕ List (List Int))) (out, (i : Int)) = some (out ++ (l.drop i).map fun b => b.does)
  | 0, i, out, hi, ho => by
    rw [List.drop_eq_nil_of_le (by omega)]
    refine iter_inr ?_
    simp only [keys_Board_All_l2, letB]
    rw [decide_eq_false (by omega)]
    simp
  | k + 1, i, out, hi, ho => by
    have hm := most_is
    have h1 : i < l.length := by omega
    have hx' : idx l (i : Int) = some l[i] := by rw [idx_is (d := ⟨[], [], []⟩) (by omega) (by omega), Int.toNat_natCast, List.getD_eq_getElem?_getD, List.getElem?_eq_getElem h1]; rfl
    rw [List.drop_eq_getElem_cons h1]
    rw [iter_inl (s' := (out ++ [l[i].does], ((i + 1 : Nat) : Int)))]
    · rw [does_loop l hl k (i + 1) _ (by omega) (by rw [List.length_append, List.length_singleton]; omega), List.map_cons, List.append_assoc]; rfl
    · simp only [keys_Board_All_l2, letB]
      rw [decide_eq_true (by omega), hx', w64_id (by omega) (by omega)]
      simp only [cond_true, Option.bind_some]
      rw [app_some (by simp; omega)]; rfl
theorem all_is {x : BoardM} {mode : List Int} (hx : x.all.length ≤ 64) {l : List Binding} (hl : x.all.filter (fun b => decide (b.mode = mode)) = l) (h1 : l.length ≤ 1) : keys_Board_All x mode = some (l.map fun b => b.does) := by
  have e1 := mine_loop x mode hx x.all.length 0 [] (by omega) (Nat.le_refl _)
  have e2 := does_loop l (by omega) l.length 0 [] (by omega) (Nat.le_refl _)
  rw [List.drop_zero, show ((0 : Nat) : Int) = 0 from rfl, List.nil_append] at e1 e2
  rw [hl] at e1
  unfold keys_Board_All slices_SortFunc_69
  rw [e1]
  simp only [Option.bind_some, if_pos h1]
  rw [e2]
  rfl
structure One (x : BoardM) (seq : List Key) : Prop where
  rest : ∃ does r, x.all = ⟨[97], seq, does⟩ :: r ∧ ∀ b ∈ r, b.mode = [98]
  few : x.all.length ≤ 64
theorem run_none {mode : List Int} {q : List Key} : ∀ {L : List Binding} {w : Option (List Key)}, (∀ b ∈ L, b.mode ≠ mode) → runT mode q L w = .inr w
  | [], _, _ => rfl
  | b :: r, w, h => by
    unfold runT
    rw [if_neg (fun hc => h b List.mem_cons_self hc.1)]
    exact run_none fun c hc => h c (List.mem_cons_of_mem _ hc)
theorem in_c {seq : List Key} {x : BoardM} {does : List Int} {r : List Binding} (hall : x.all = ⟨[97], seq, does⟩ :: r) (hr : ∀ b ∈ r, b.mode = [98]) (hf : x.all.length ≤ 64) (hl : seq.length ≤ 4) : ∀ (k i : Nat), i + k = seq.length →
    iter (fun s => casementlaw18_KeysModes_l7 seq [99] s.1 s.2 : (Int × BoardM) → Option ((Int × BoardM) ⊕ ((Key × BoardM) ⊕ BoardM))) ((i : Int), ⟨x.all, [99], none⟩) = some (.inr ⟨x.all, [99], none⟩)
  | 0, i, hi => by
    refine iter_inr ?_
    simp only [casementlaw18_KeysModes_l7, letB]
    rw [decide_eq_false (by omega)]; rfl
  | k + 1, i, hi => by
    have hm := most_is
    have h1 : i < seq.length := by omega
    have hx' : idx seq (i : Int) = some seq[i] := by rw [idx_is (d := ⟨0, 0⟩) (by omega) (by omega), Int.toNat_natCast, List.getD_eq_getElem?_getD, List.getElem?_eq_getElem h1]; rfl
    have hp := press_is (x := ⟨x.all, [99], none⟩) (k := seq[i]) hf (by simp)
    rw [run_none (fun b hb => by
      simp only [hall] at hb
      rcases List.mem_cons.1 hb with rfl | hb
      · show ([97] : List Int) ≠ [99]; decide
      · rw [hr b hb]; show ([98] : List Int) ≠ [99]; decide)] at hp
    rw [iter_inl (s' := (((i + 1 : Nat) : Int), ⟨x.all, [99], none⟩))]
    · exact in_c hall hr hf hl k (i + 1) (by omega)
    · simp only [casementlaw18_KeysModes_l7, letB]
      rw [decide_eq_true (by omega), hx', w64_id (by omega) (by omega)]
      simp only [cond_true, Option.bind_some, hp, pressE]
      rfl
theorem in_a {seq : List Key} {x : BoardM} {r : List Binding} (hall : x.all = ⟨[97], seq, [111, 110, 101]⟩ :: r) (hr : ∀ b ∈ r, b.mode = [98]) (hf : x.all.length ≤ 64) (hl : seq.length ≤ 4) : ∀ (k i : Nat) (w : Option (List Key)), i + k = seq.length → (i = seq.length → w = none) → (i < seq.length → w.getD [] = seq.take i) →
    iter (fun s => casementlaw18_KeysModes_l7 seq [97] s.1 s.2 : (Int × BoardM) → Option ((Int × BoardM) ⊕ ((Key × BoardM) ⊕ BoardM))) ((i : Int), ⟨x.all, [97], w⟩) = some (.inr ⟨x.all, [97], none⟩)
  | 0, i, w, hi, hw1, hw2 => by
    rw [hw1 (by omega)]
    refine iter_inr ?_
    simp only [casementlaw18_KeysModes_l7, letB]
    rw [decide_eq_false (by omega)]; rfl
  | k + 1, i, w, hi, hw1, hw2 => by
    have hm := most_is
    have h1 : i < seq.length := by omega
    have hx' : idx seq (i : Int) = some seq[i] := by rw [idx_is (d := ⟨0, 0⟩) (by omega) (by omega), Int.toNat_natCast, List.getD_eq_getElem?_getD, List.getElem?_eq_getElem h1]; rfl
    have hq : w.getD [] ++ [seq[i]] = seq.take (i + 1) := by rw [hw2 h1, List.take_succ_eq_append_getElem h1]
    have hp := press_is (x := ⟨x.all, [97], w⟩) (k := seq[i]) hf (by show (w.getD []).length ≤ 10; rw [hw2 h1, List.length_take]; omega)
    simp only at hp
    rw [hq] at hp
    have hrun : runT [97] (seq.take (i + 1)) x.all none = if seq.take (i + 1) = seq then .inl (⟨[97], seq, [111, 110, 101]⟩, none) else .inr (some (seq.take (i + 1))) := by
      rw [hall]
      unfold runT
      rw [if_pos ⟨rfl, List.take_prefix _ _⟩]
      split
      · rfl
      · exact run_none fun b hb => by rw [hr b hb]; decide
    rw [hrun] at hp
    have key : ∃ w', casementlaw18_KeysModes_l7 seq [97] (i : Int) ⟨x.all, [97], w⟩ = some (.inl (((i + 1 : Nat) : Int), ⟨x.all, [97], w'⟩)) ∧ (i + 1 = seq.length → w' = none) ∧ (i + 1 < seq.length → w'.getD [] = seq.take (i + 1)) := by
      by_cases he : i + 1 = seq.length
      · have ht : seq.take (i + 1) = seq := List.take_of_length_le (by omega)
        rw [if_pos ht] at hp
        refine ⟨none, ?_, fun _ => rfl, fun h => by omega⟩
        simp only [casementlaw18_KeysModes_l7, letB]
        rw [decide_eq_true (by omega), hx', w64_id (n := (i : Int) + 1) (by omega) (by omega), w64_id (n := (seq.length : Int) - 1) (by omega) (by omega), decide_eq_true (show (i : Int) = (seq.length : Int) - 1 by omega)]
        simp only [cond_true, Option.bind_some, hp, pressE]
        rw [waits_of (by simp)]
        unfold req
        rw [decide_eq_true (show (seq.length : Int) ≠ 0 by omega)]
        have : Int.tmod ((i : Int) + 1) (seq.length : Int) = 0 := by rw [show (i : Int) + 1 = (seq.length : Int) by omega, Int.tmod_self]
        rw [this]
        rfl
      · have ht : seq.take (i + 1) ≠ seq := fun h => by have := congrArg List.length h; rw [List.length_take] at this; omega
        rw [if_neg ht] at hp
        have hlen : (seq.take (i + 1)).length = i + 1 := by rw [List.length_take]; omega
        refine ⟨some (seq.take (i + 1)), ?_, fun h => absurd h he, fun _ => rfl⟩
        simp only [casementlaw18_KeysModes_l7, letB]
        rw [decide_eq_true (by omega), hx', w64_id (n := (i : Int) + 1) (by omega) (by omega), w64_id (n := (seq.length : Int) - 1) (by omega) (by omega), decide_eq_false (show ¬ (i : Int) = (seq.length : Int) - 1 by omega)]
        simp only [cond_true, Option.bind_some, hp, pressE]
        rw [waits_of (show ((some (seq.take (i + 1))).getD []).length ≤ 10 by show (seq.take (i + 1)).length ≤ 10; omega)]
        unfold req
        rw [decide_eq_true (show (seq.length : Int) ≠ 0 by omega)]
        have : Int.tmod ((i : Int) + 1) (seq.length : Int) = (i : Int) + 1 := by
          rw [Int.tmod_eq_emod_of_nonneg (by omega), Int.emod_eq_of_lt (by omega) (by omega)]
        rw [this]
        simp only [Option.bind_some, Option.getD_some, hlen]
        rw [decide_eq_false (show ¬ (((i + 1 : Nat) : Int) ≠ (i : Int) + 1) by omega)]
        rfl
    obtain ⟨w', st, g1, g2⟩ := key
    rw [iter_inl (s' := (((i + 1 : Nat) : Int), ⟨x.all, [97], w'⟩)) st]
    exact in_a hall hr hf hl k (i + 1) w' (by omega) g1 g2
theorem modes_loop {seq : List Key} {x : BoardM} {r : List Binding} (hall : x.all = ⟨[97], seq, [111, 110, 101]⟩ :: r) (hr : ∀ b ∈ r, b.mode = [98]) (hf : x.all.length ≤ 64) (hl : seq.length ≤ 4) (h1 : 1 ≤ seq.length) :
    iter (fun s => casementlaw18_KeysModes_l8 seq s.1 s.2 : (Int × BoardM) → Option ((Int × BoardM) ⊕ ((Key × BoardM) ⊕ BoardM))) (0, x) = some (.inr ⟨x.all, [97], none⟩) := by
  have hc := in_c hall hr hf hl seq.length 0 (by omega)
  have ha := in_a hall hr hf hl seq.length 0 none (by omega) (fun _ => rfl) (fun _ => rfl)
  rw [show ((0 : Nat) : Int) = 0 from rfl] at hc ha
  rw [iter_inl (s' := (1, ⟨x.all, [99], none⟩)) (by
    simp only [casementlaw18_KeysModes_l8, letB]
    rw [show idx ([[99], [97]] : List (List Int)) 0 = some [99] from rfl]
    simp only [Option.bind_some, keys_Board_Mode, hc]; rfl)]
  rw [iter_inl (s' := (2, ⟨x.all, [97], none⟩)) (by
    simp only [casementlaw18_KeysModes_l8, letB]
    rw [show idx ([[99], [97]] : List (List Int)) 1 = some [97] from rfl]
    simp only [Option.bind_some, keys_Board_Mode, ha]; rfl)]
  exact iter_inr rfl
theorem tail_modes {seq : List Key} {x : BoardM} {r : List Binding} (hall : x.all = ⟨[97], seq, [111, 110, 101]⟩ :: r) (hr : ∀ b ∈ r, b.mode = [98] ∧ b.seq.length ≤ 4) (hf : x.all.length ≤ 64) (ha : argsT [97] seq [111, 110, 101]) :
    ((iter (fun s => casementlaw18_KeysModes_l8 seq s.1 s.2 : (Int × BoardM) → Option ((Int × BoardM) ⊕ ((Key × BoardM) ⊕ BoardM))) (0, x)).bind fun j118 =>
            match j118 with
            | .inl z119 => (
              some false)
            | .inr z120 => (
              (keys_Board_Bind z120 [97] seq [116, 104, 114, 101, 101]).bind fun y121 =>
              letB (decide (y121.1 ≠ 0)) fun c122 =>
              bif c122 then (
                some false)
              else (
                (keys_Board_All y121.2 [97]).bind fun y124 =>
                letB (decide ((y124.length : Int) = 1)) fun c125 =>
                (bif c125 then (
                  (idx y124 0).bind fun x127 =>
                  letB (decide (x127 = [116, 104, 114, 101, 101])) fun c128 =>
                  some (c128)) else some false).bind fun g126 =>
                (bif g126 then (
                  (keys_Board_All y121.2 [99]).bind fun y131 =>
                  letB (decide ((y131.length : Int) = 0)) fun c132 =>
                  some (c132)) else some false).bind fun g130 =>
                some g130))) = some true := by
  have ha' : argsT [97] seq [116, 104, 114, 101, 101] := ⟨ha.1, by decide, ha.2.2⟩
  rw [modes_loop hall (fun b hb => (hr b hb).1) hf ha.2.2.2.1 ha.2.2.1]
  simp only [Option.bind_some, letB]
  have hb := bind_is (x := ⟨x.all, [97], none⟩) (mode := [97]) (seq := seq) (does := [116, 104, 114, 101, 101]) hf (fun b hb => by
    simp only [hall] at hb
    rcases List.mem_cons.1 hb with rfl | hb
    · exact ha.2.2.2.1
    · exact (hr b hb).2)
  rw [if_pos ha'] at hb
  have hbt : bindT ⟨x.all, [97], none⟩ [97] seq [116, 104, 114, 101, 101] 0 x.all = some (0, ⟨x.all.set 0 ⟨[97], seq, [116, 104, 114, 101, 101]⟩, [97], none⟩) := by
    conv => lhs; arg 6; rw [hall]
    unfold bindT
    rw [if_pos ⟨rfl, .inl List.prefix_rfl⟩, if_pos rfl]
  simp only at hb
  rw [hbt] at hb
  rw [hb]
  simp only [Option.bind_some]
  rw [show decide ((0 : Int) ≠ 0) = false from rfl]
  simp only [cond_false]
  have hset : x.all.set 0 ⟨[97], seq, [116, 104, 114, 101, 101]⟩ = ⟨[97], seq, [116, 104, 114, 101, 101]⟩ :: r := by rw [hall]; rfl
  have hlen : r.length ≤ 63 := by rw [hall] at hf; simpa using hf
  rw [hset]
  have f1 : r.filter (fun b => decide (b.mode = [97])) = [] := List.filter_eq_nil_iff.2 fun b hb => by rw [(hr b hb).1]; decide
  have f2 : r.filter (fun b => decide (b.mode = [99])) = [] := List.filter_eq_nil_iff.2 fun b hb => by rw [(hr b hb).1]; decide
  rw [all_is (x := ⟨⟨[97], seq, [116, 104, 114, 101, 101]⟩ :: r, [97], none⟩) (mode := [97]) (l := [⟨[97], seq, [116, 104, 114, 101, 101]⟩]) (by simp; omega) (by
    simp only
    rw [List.filter_cons_of_pos (p := fun b : Binding => decide (b.mode = [97])) (a := ⟨[97], seq, [116, 104, 114, 101, 101]⟩) (decide_eq_true rfl), f1]) (by simp)]
  simp only [Option.bind_some]
  rw [all_is (x := ⟨⟨[97], seq, [116, 104, 114, 101, 101]⟩ :: r, [97], none⟩) (mode := [99]) (l := []) (by simp; omega) (by
    simp only
    rw [List.filter_cons_of_neg (p := fun b : Binding => decide (b.mode = [99])) (a := ⟨[97], seq, [116, 104, 114, 101, 101]⟩) (fun h => absurd (show ([97] : List Int) = [99] from of_decide_eq_true h) (by decide)), f2]) (by simp)]
  rfl
theorem l48 : casementlaw18_KeysModes_l4 = casementlaw18_KeysModes_l8 := rfl
theorem l128 : casementlaw18_KeysModes_l12 = casementlaw18_KeysModes_l8 := rfl
theorem modes_pure (seq : List Key) (more : Key) : casementlaw18_KeysModes seq more = some true := by
  have hm := most_is
  have hb := bind_is (x := ⟨[], [], none⟩) (mode := [97]) (seq := seq) (does := [111, 110, 101]) (by simp) (fun b hb => (nomatch hb))
  unfold casementlaw18_KeysModes keys_New casementlaw18_alive
  rw [l48, l128]
  simp only [Option.bind_some, Bool.not_true, cond_false, letB]
  by_cases ha : argsT [97] seq [111, 110, 101]
  · rw [if_pos ha] at hb
    simp only [bindT] at hb
    rw [if_neg (by simp)] at hb
    have h4 := ha.2.2.2.1
    rw [hb]
    simp only [Option.bind_some, List.nil_append]
    rw [show decide ((0 : Int) ≠ 0) = false from rfl, app_some (by simp; omega)]
    simp only [cond_false, Option.bind_some, List.nil_append]
    rw [app_some (by simp; omega)]
    simp only [Option.bind_some]
    by_cases hc : seq.length + 1 ≤ 4 ∧ rightT more
    · obtain ⟨hc1, hc2⟩ := hc
      rw [decide_eq_true (show (((seq ++ [more]).length : Nat) : Int) ≤ 4 by simp; omega), right_is, decide_eq_true hc2]
      simp only [cond_true, Option.bind_some]
      have har : ∀ k ∈ seq ++ [more], rightT k := by
        intro k hk
        rcases List.mem_append.1 hk with hk | hk
        · exact ha.2.2.2.2 k hk
        · rw [List.mem_singleton.1 hk]; exact hc2
      have ha1 : argsT [97] (seq ++ [more]) [116, 119, 111] := ⟨by decide, by decide, by simp, by simp; omega, har⟩
      have ha2 : argsT [98] (seq ++ [more]) [116, 119, 111] := ⟨by decide, by decide, by simp, by simp; omega, har⟩
      have hne : seq ≠ seq ++ [more] := fun h => by have := congrArg List.length h; simp at this
      have b1 := bind_is (x := ⟨[⟨[97], seq, [111, 110, 101]⟩], [], none⟩) (mode := [97]) (seq := seq ++ [more]) (does := [116, 119, 111]) (by simp) (fun b hb => by rw [List.mem_singleton.1 hb]; exact h4)
      rw [if_pos ha1] at b1
      unfold bindT at b1
      rw [if_pos ⟨rfl, .inl (List.prefix_append _ _)⟩, if_neg hne] at b1
      rw [b1]
      simp only [Option.bind_some]
      rw [show decide ((180 : Int) ≠ 180) = false from rfl]
      simp only [cond_false]
      have b2 := bind_is (x := ⟨[⟨[97], seq, [111, 110, 101]⟩], [], none⟩) (mode := [98]) (seq := seq ++ [more]) (does := [116, 119, 111]) (by simp) (fun b hb => by rw [List.mem_singleton.1 hb]; exact h4)
      rw [if_pos ha2] at b2
      unfold bindT at b2
      rw [if_neg (fun h => absurd (show ([97] : List Int) = [98] from h.1) (by decide))] at b2
      simp only [bindT] at b2
      rw [if_neg (by simp)] at b2
      rw [b2]
      simp only [Option.bind_some]
      rw [show decide ((0 : Int) ≠ 0) = false from rfl]
      simp only [cond_false]
      refine tail_modes (r := [⟨[98], seq ++ [more], [116, 119, 111]⟩]) rfl (fun b hb => ?_) (by simp) ha
      rw [List.mem_singleton.1 hb]
      exact ⟨rfl, by simp; omega⟩
    · have : (bif decide (((seq ++ [more]).length : Int) ≤ 4) then (keys_Right more).bind fun y22 => some y22 else some false) = some false := by
        rw [right_is]
        by_cases h1 : seq.length + 1 ≤ 4
        · rw [decide_eq_false (fun h => hc ⟨h1, h⟩)]
          cases decide (((seq ++ [more]).length : Int) ≤ 4) <;> rfl
        · rw [decide_eq_false (by simp; omega)]; rfl
      rw [this]
      simp only [Option.bind_some, cond_false]
      exact tail_modes (r := []) rfl (fun b hb => (nomatch hb)) (by simp) ha
  · rw [if_neg ha] at hb
    rw [hb]
    simp only [Option.bind_some]
    rw [show decide ((1 : Int) ≠ 0) = true from rfl]
    simp only [cond_true, or_s, Option.bind_some]
    match seq, ha with
    | [], _ => rfl
    | [k], ha =>
      have hr : ¬ rightT k := fun h => ha ⟨by decide, by decide, by simp, by simp, fun x hx => by rw [List.mem_singleton.1 hx]; exact h⟩
      rw [show idx [k] 0 = some k from rfl]
      simp only [Option.bind_some, right_is, decide_eq_false hr]
      rfl
    | k :: k2 :: r, _ =>
      rw [show idx (k :: k2 :: r) 0 = some k from rfl]
      simp only [Option.bind_some, right_is]
      rw [decide_eq_true (show (((k :: k2 :: r).length : Nat) : Int) > 1 by simp; omega)]
      cases (decide (((k :: k2 :: r).length : Int) = 0) || decide (((k :: k2 :: r).length : Int) > 4)) <;> cases decide (rightT k) <;> rfl
end Go.Proofs.YtdlijnfdkeimlaaDoor.Am.Keys

namespace Go.Proofs.YtdlijnfdkeimlaaDoor.Am
inductive Fits (P : Program) : TypeId → List V → Prop
 | bool {t : TypeId} (b : Bool) (h : P.underlying t = some .bool) : Fits P t [.bool b]
 | int {t : TypeId} {k : IntKind} (n : Int) (h : P.underlying t = some (.int k)) (hn : (Lit.int k n).wf = true) : Fits P t [.int k n]
 | str {t : TypeId} (s : List UInt8) (h : P.underlying t = some .string) (hs : s.length ≤ maxLen) : Fits P t [.str s]
 | nils {t e : TypeId} (h : P.underlying t = some (.slice e)) : Fits P t [.nils]
 | slice {t e : TypeId} (xs : List (List V)) (h : P.underlying t = some (.slice e)) (hl : xs.length ≤ maxLen) (hx : ∀ i, i < xs.length → Fits P e (xs.getD i [])) : Fits P t [.slice false (P.cellsOf e) xs]
 | struct {t : TypeId} {fs : Array Field} (cs : List V) (h : P.underlying t = some (.struct fs)) (hl : cs.length = P.cellsOf t) (hf : ∀ f ∈ fs.toList, Fits P f.type ((cs.drop f.offset).take (P.cellsOf f.type))) : Fits P t cs
 | array {t e : TypeId} {n : Nat} (cs : List V) (h : P.underlying t = some (.array n e)) (hl : cs.length = P.cellsOf t) (hf : ∀ i, i < n → Fits P e ((cs.drop (i * P.cellsOf e)).take (P.cellsOf e))) : Fits P t cs
def tiles (P : Program) : Nat → List Field → Nat → Bool
 | n, [], m => n == m
 | n, f :: fs, m => f.offset == n && tiles P (n + P.cellsOf f.type) fs m
def supT (P : Program) : Nat → TypeId → Bool
 | 0, _ => false
 | d + 1, t => match P.underlying t with
  | some .bool | some (.int _) | some .string => P.cellsOf t == 1
  | some (.slice e) => P.cellsOf t == 1 && decide (0 < P.cellsOf e) && supT P d e
  | some (.struct fs) => tiles P 0 fs.toList (P.cellsOf t) && fs.toList.all fun f => supT P d f.type
  | some (.array n e) => P.cellsOf t == n * P.cellsOf e && supT P d e
  | _ => false
section
variable {P : Program} {H : Type} {enc : TypeId × Value → H} {W : World}
def blocksOf (W : World) : Nat → Prop := fun c => c < W.heap.size
theorem cell_block {a : Addr} {v : Value} (h : W.cell? a = some v) : a.block < W.heap.size ∧ a.spot = none := by
 unfold World.cell? at h
 cases hb : W.heap[a.block]? with
 | none => rw [hb] at h; cases h
 | some o =>
  rw [hb] at h
  refine ⟨(Array.getElem?_eq_some_iff.1 hb).1, ?_⟩
  cases o with
  | cells c _ _ =>
   simp only at h
   split at h
   ·cases h
   ·rename_i hs; simpa using hs
  | _ => cases h
def Reads (P : Program) (W : World) (t : TypeId) (cs : List Value) : Prop :=
 ∃ vs : List V, vs.length = cs.length ∧ Fits P t vs ∧ ∀ k, k < cs.length → RB (blocksOf W) W (vs.getD k .undef) (cs.getD k undef)
theorem trod_array {n : Nat} {e t : TypeId} {base fuel : Nat} {sp : Nat → Bool} {held : Bool} {cs : List Value} {x : DataW H × List MemPlace} (ht : P.underlying t = some (.array n e)) (h : DataW.trod enc P W base sp held fuel t cs = some x) :
  cs.length = P.cellsOf t ∧ ∃ m, ∀ i, i < n → ∃ y, DataW.trod enc P W base sp held m e ((cs.drop (i * P.cellsOf e)).take (P.cellsOf e)) = some y := by
 cases fuel with
 | zero => simp [DataW.trod] at h
 | succ m =>
  unfold DataW.trod at h
  rw [ht] at h
  split at h <;> simp_all
  obtain ⟨hl, xs, hp, hd⟩ := h
  refine ⟨m, fun i hi => ?_⟩
  have h1 := mapM_some_length hp
  have h2 := mapM_some_get hp i i (by simp [hi])
  simp only [List.length_range] at h1
  rw [List.getElem?_eq_getElem (by omega)] at h2
  exact ⟨_, _, h2⟩
def RBs (W : World) (vs : List V) (cs : List Value) : Prop := vs.length = cs.length ∧ ∀ k, k < cs.length → RB (blocksOf W) W (vs.getD k .undef) (cs.getD k undef)
theorem RBs.append {vs us : List V} {cs ds : List Value} (h : RBs W vs cs) (k : RBs W us ds) : RBs W (vs ++ us) (cs ++ ds) := by
 refine ⟨by simp [h.1, k.1], fun i hi => ?_⟩
 simp only [List.getD_eq_getElem?_getD]
 have h1 := h.1
 by_cases hlt : i < cs.length
 ·have := h.2 i hlt
  simp only [List.getD_eq_getElem?_getD] at this
  rw [List.getElem?_append_left (by omega), List.getElem?_append_left hlt]; exact this
 ·rw [List.length_append] at hi
  have := k.2 (i - cs.length) (by omega)
  simp only [List.getD_eq_getElem?_getD] at this
  rw [List.getElem?_append_right (by omega), List.getElem?_append_right (by omega), h1]; exact this
theorem reads_iff {t : TypeId} {cs : List Value} : Reads P W t cs ↔ ∃ vs, Fits P t vs ∧ RBs W vs cs :=
 ⟨fun ⟨vs, a, b, c⟩ => ⟨vs, b, a, c⟩, fun ⟨vs, b, a, c⟩ => ⟨vs, a, b, c⟩⟩
theorem fields_of {cs : List Value} : ∀ {fs : List Field} {n m : Nat}, tiles P n fs m = true → m ≤ cs.length → (∀ f ∈ fs, Reads P W f.type ((cs.drop f.offset).take (P.cellsOf f.type))) →
  n ≤ m ∧ ∃ vs, RBs W vs ((cs.drop n).take (m - n)) ∧ ∀ f ∈ fs, n ≤ f.offset ∧ Fits P f.type ((vs.drop (f.offset - n)).take (P.cellsOf f.type))
 | [], n, m, ht, hm, _ => by
  have : n = m := by simpa [tiles] using ht
  subst this
  exact ⟨Nat.le_refl _, [], ⟨by simp, fun k hk => absurd hk (by simp)⟩, fun f hf => by cases hf⟩
 | f :: fs, n, m, ht, hm, hr => by
  simp only [tiles, Bool.and_eq_true, beq_iff_eq] at ht
  obtain ⟨h0, ht⟩ := ht
  obtain ⟨hle, vs, hvs, hfs⟩ := fields_of ht hm fun g hg => hr g (.tail _ hg)
  obtain ⟨us, hfit, hus⟩ := reads_iff.1 (hr f (.head _))
  rw [h0] at hus
  have hul : us.length = P.cellsOf f.type := by rw [hus.1]; simp; omega
  have hsplit : (cs.drop n).take (m - n) = (cs.drop n).take (P.cellsOf f.type) ++ (cs.drop (n + P.cellsOf f.type)).take (m - (n + P.cellsOf f.type)) := by
   rw [← List.drop_drop, ← List.take_add]
   congr 1
   omega
  refine ⟨by omega, us ++ vs, by rw [hsplit]; exact hus.append hvs, fun g hg => ?_⟩
  cases hg with
  | head =>
   refine ⟨by omega, ?_⟩
   rw [h0, Nat.sub_self, List.drop_zero, List.take_append_of_le_length (by omega), List.take_of_length_le (by omega)]
   exact hfit
  | tail _ hg =>
   obtain ⟨h1, h2⟩ := hfs g hg
   refine ⟨by omega, ?_⟩
   rw [List.drop_append, List.drop_eq_nil_of_le (by omega), List.nil_append, hul]
   rw [show g.offset - n - P.cellsOf f.type = g.offset - (n + P.cellsOf f.type) from by omega]
   exact h2
theorem elems_of {cs : List Value} {e : TypeId} : ∀ {n : Nat}, n * P.cellsOf e ≤ cs.length → (∀ i, i < n → Reads P W e ((cs.drop (i * P.cellsOf e)).take (P.cellsOf e))) →
  ∃ vs, RBs W vs (cs.take (n * P.cellsOf e)) ∧ ∀ i, i < n → Fits P e ((vs.drop (i * P.cellsOf e)).take (P.cellsOf e))
 | 0, _, _ => ⟨[], ⟨by simp, fun k hk => absurd hk (by simp)⟩, fun i hi => absurd hi (by omega)⟩
 | n + 1, hn, hr => by
  have hs : (n + 1) * P.cellsOf e = n * P.cellsOf e + P.cellsOf e := Nat.succ_mul _ _
  obtain ⟨vs, hvs, hfs⟩ := elems_of (n := n) (by omega) fun i hi => hr i (by omega)
  obtain ⟨us, hfit, hus⟩ := reads_iff.1 (hr n (by omega))
  have hvl : vs.length = n * P.cellsOf e := by rw [hvs.1]; simp; omega
  have hul : us.length = P.cellsOf e := by rw [hus.1]; simp; omega
  refine ⟨vs ++ us, by rw [hs, List.take_add]; exact hvs.append hus, fun i hi => ?_⟩
  by_cases hin : i = n
  ·subst hin
   rw [List.drop_append, List.drop_eq_nil_of_le (by omega), List.nil_append, hvl, Nat.sub_self, List.drop_zero, List.take_of_length_le (by omega)]
   exact hfit
  ·have h1 := hfs i (by omega)
   have h2 : i * P.cellsOf e + P.cellsOf e ≤ n * P.cellsOf e := by rw [← Nat.succ_mul]; exact Nat.mul_le_mul_right _ (by omega)
   rw [List.drop_append_of_le_length (by omega), List.take_append_of_le_length (by simp; omega)]
   exact h1
theorem list_choose {α : Type} {n : Nat} {p : Nat → α → Prop} (h : ∀ i, i < n → ∃ x, p i x) : ∃ l : List α, l.length = n ∧ ∀ i x, l[i]? = some x → p i x := by
 induction n with
 | zero => exact ⟨[], rfl, fun i x hx => by simp at hx⟩
 | succ n ih =>
  obtain ⟨l, hl, hp⟩ := ih fun i hi => h i (by omega)
  obtain ⟨x, hx⟩ := h n (by omega)
  refine ⟨l ++ [x], by simp [hl], fun i y hy => ?_⟩
  by_cases hi : i < l.length
  ·rw [List.getElem?_append_left hi] at hy; exact hp i y hy
  ·rw [List.getElem?_append_right (by omega)] at hy
   have : i - l.length = 0 := by
    rcases Nat.eq_zero_or_pos (i - l.length) with h0 | h0
    ·exact h0
    ·rw [List.getElem?_eq_none (by simp; omega)] at hy; cases hy
   rw [this] at hy
   simp only [List.getElem?_cons_zero, Option.some.injEq] at hy
   subst hy
   have : i = n := by omega
   subst this; exact hx
theorem reads_of : ∀ {d : Nat} {t : TypeId}, supT P d t = true → ∀ {fuel : Nat} {held : Bool} {cs : List Value} {x : DataW H × List MemPlace}, DataW.trod enc P W 0 (fun _ => true) held fuel t cs = some x → Reads P W t cs := by
 intro d
 induction d with
 | zero => intro t h; cases h
 | succ d ih =>
  intro t h fuel held cs x hx
  simp only [supT] at h
  split at h
  ·rename_i ht
   obtain ⟨b, rfl, _⟩ := DataW.trod_bool ht hx
   exact ⟨[.bool b], rfl, .bool b ht, fun k hk => by
    have : k = 0 := by simpa using hk
    subst this; exact .bool b⟩
  ·rename_i kk ht
   obtain ⟨n, rfl, _, hwf⟩ := DataW.trod_int ht hx
   exact ⟨[.int kk n], rfl, .int n ht hwf, fun k hk => by
    have : k = 0 := by simpa using hk
    subst this; exact .int kk n⟩
  ·rename_i ht
   obtain ⟨s, rfl, _, hs⟩ := DataW.trod_string ht hx
   exact ⟨[.str s.data.toList], rfl, .str _ ht (by simpa using hs), fun k hk => by
    have : k = 0 := by simpa using hk
    subst this; exact .str s⟩
  ·rename_i e ht
   simp only [Bool.and_eq_true, beq_iff_eq, decide_eq_true_eq] at h
   obtain ⟨⟨_, hpos⟩, hsup⟩ := h
   rcases DataW.trod_slice ht hx with ⟨rfl, _⟩ | ⟨a, len, cap, elems, rest, n, _, rfl, _, _, hlc, hcap, hel, he, hre, _⟩
   ·exact ⟨[.nils], rfl, .nils ht, fun k hk => by
     have : k = 0 := by simpa using hk
     subst this; exact .nils⟩
   ·have hone : ∀ i, i < len → ∃ vs : List V, Fits P e vs ∧ vs.length = P.cellsOf e ∧ ∀ k, k < P.cellsOf e → ∃ v, W.cell? ((a.add (i * P.cellsOf e)).add k) = some v ∧ RB (blocksOf W) W (vs.getD k .undef) v := fun i hi => by
     have h1 := he i hi
     rw [List.getElem?_eq_getElem (by omega)] at h1
     simp only [Option.bind_eq_some_iff] at h1
     obtain ⟨cs', hc1, hc2⟩ := h1
     obtain ⟨_, hl, hc⟩ := World.cells?_some hc1
     obtain ⟨vs, hf, hr⟩ := reads_iff.1 (ih hsup hc2)
     refine ⟨vs, hf, by rw [hr.1, hl], fun k hk => ⟨cs'.getD k undef, ?_, hr.2 k (by omega)⟩⟩
     rw [hc k hk, List.getD_eq_getElem?_getD, List.getElem?_eq_getElem (by omega)]; rfl
    obtain ⟨xs, hxl, hxs⟩ := list_choose hone
    have hxs' : ∀ i, i < xs.length → Fits P e (xs.getD i []) ∧ (xs.getD i []).length = P.cellsOf e ∧ ∀ k, k < P.cellsOf e → ∃ v, W.cell? ((a.add (i * P.cellsOf e)).add k) = some v ∧ RB (blocksOf W) W ((xs.getD i []).getD k .undef) v := fun i hi => by
     rw [List.getD_eq_getElem?_getD, List.getElem?_eq_getElem hi]
     exact hxs i _ (List.getElem?_eq_getElem hi)
    have hblk : 0 < cap → a.block < W.heap.size ∧ a.spot = none := fun hc0 => by
     have h00 : (a.add (0 * P.cellsOf e)).add 0 = a := by simp [Addr.add]
     have hcell : ∃ v, W.cell? a = some v := by
      by_cases h0 : 0 < len
      ·obtain ⟨v, hv, _⟩ := (hxs' 0 (by omega)).2.2 0 hpos
       rw [h00] at hv
       exact ⟨v, hv⟩
      ·have h1 := (hre rfl).2 0 (by omega)
       have h2 := (hre rfl).1
       have hl0 : len = 0 := by omega
       subst hl0
       rw [List.getElem?_eq_getElem (by omega)] at h1
       simp only [Option.bind_eq_some_iff] at h1
       obtain ⟨cs', hc1, _⟩ := h1
       obtain ⟨_, hl, hc⟩ := World.cells?_some hc1
       have h3 := hc 0 hpos
       rw [Nat.add_zero, h00, List.getElem?_eq_getElem (by omega)] at h3
       exact ⟨_, h3⟩
     obtain ⟨v, hv⟩ := hcell
     exact cell_block hv
    refine ⟨[.slice false (P.cellsOf e) xs], rfl, .slice xs ht (by omega) (fun i hi => (hxs' i hi).1), fun k hk => ?_⟩
    have : k = 0 := by simpa using hk
    subst this
    simp only [List.getD_cons_zero]
    refine RB.slice_iff.2 ⟨a, cap, by rw [hxl], fun hc0 => (hblk hc0).2, fun hc0 => (hblk hc0).1, by omega, fun i hi => (hxs' i hi).2.1, fun i k hi hk => ?_⟩
    obtain ⟨v, hv, hr⟩ := (hxs' i hi).2.2 k hk
    refine ⟨v, ?_, hr⟩
    have hsp := (hblk (by omega)).2
    rw [addr_add hsp, addr_add rfl] at hv
    rw [← hv]
    simp [Nat.add_assoc]
  ·rename_i fs ht
   simp only [Bool.and_eq_true, List.all_eq_true] at h
   obtain ⟨htile, hall⟩ := h
   obtain ⟨xs, n, _, _, hl, hxl, hf⟩ := DataW.trod_struct ht hx
   obtain ⟨_, vs, hvs, hfs⟩ := fields_of (P := P) (W := W) (cs := cs) htile (by omega) fun f hfm => by
    obtain ⟨i, hi⟩ := List.getElem?_of_mem hfm
    have hi' : i < fs.size := by have := (List.getElem?_eq_some_iff.1 hi).1; simpa using this
    have h1 := hf i f (by simpa using hi)
    rw [List.getElem?_eq_getElem (by omega)] at h1
    exact ih (hall f hfm) h1
   rw [List.drop_zero, Nat.sub_zero, List.take_of_length_le (by omega)] at hvs
   exact reads_iff.2 ⟨vs, .struct vs ht (by rw [hvs.1, hl]) (fun f hfm => by simpa using (hfs f hfm).2), hvs⟩
  ·rename_i n e ht
   simp only [Bool.and_eq_true, beq_iff_eq] at h
   obtain ⟨hsz, hsup⟩ := h
   obtain ⟨hl, m, hm⟩ := trod_array ht hx
   obtain ⟨vs, hvs, hfs⟩ := elems_of (P := P) (W := W) (cs := cs) (e := e) (n := n) (by omega) fun i hi => by
    obtain ⟨y, hy⟩ := hm i hi
    exact ih hsup hy
   rw [List.take_of_length_le (by omega)] at hvs
   exact reads_iff.2 ⟨vs, .array vs ht (by rw [hvs.1, hl]) hfs, hvs⟩
  ·cases h
end
end Go.Proofs.YtdlijnfdkeimlaaDoor.Am

namespace Go.Proofs.YtdlijnfdkeimlaaDoor.Am
section
variable {P : Program} {W : World}
inductive ArgOK (W : World) : V → Value → Prop
 | leaf {x : V} {v : Value} (h : RB (blocksOf W) W x v) : ArgOK W x v
 | agg (cs : List V) (arr : Array Value) (hs : arr.size = cs.length) (h : ∀ k, k < cs.length → RB (blocksOf W) W (cs.getD k .undef) (arr.getD k undef)) : ArgOK W (.agg cs) (.agg arr)
def g0 (W : World) : G := ⟨id, id, fun _ => False, blocksOf W⟩
theorem RB.toR1 {x : V} {v : Value} (h : RB (blocksOf W) W x v) : R1 (g0 W) W 0 x v := by
 cases h with
 | func f => exact ⟨#[], rfl, rfl, fun k hk => absurd hk (by simp)⟩
 | bool b => exact RB.bool b
 | int k n => exact RB.int k n
 | str b => exact RB.str b
 | nilp => exact RB.nilp
 | nils => exact RB.nils
 | nilf => exact RB.nilf
 | nili => exact RB.nili
 | slice sz xs a cap vs hs hp hc hz hv hr => exact RB.slice sz xs a cap vs hs hp hc hz hv hr
theorem RB.ok0 {x : V} {v : Value} (h : RB (blocksOf W) W x v) : x.ok0 = true := by
 cases h <;> rfl
theorem RB.cnt {x : V} {v : Value} (h : RB (blocksOf W) W x v) (c : Nat) : cnt0 c x v = 0 := by
 cases h <;> rfl
theorem ArgOK.r3 {x : V} {v : Value} (h : ArgOK W x v) (τ : Nat → Value) : R3 (g0 W) W 0 τ x v := by
 cases h with
 | leaf h =>
  have h1 := h.toR1
  cases h <;> exact h1
 | agg cs arr hs h => exact ⟨arr, rfl, hs, fun k hk => ⟨.inl (h k hk).ok0, (h k hk).toR1⟩⟩
theorem ArgOK.okArg {x : V} {v : Value} (h : ArgOK W x v) : x.okArg = true := by
 cases h with
 | leaf h => cases h <;> rfl
 | agg cs arr hs h =>
  simp only [V.okArg, List.all_eq_true]
  intro y hy
  obtain ⟨k, hk, rfl⟩ := List.getElem_of_mem hy
  have := (h k hk).ok0
  rwa [List.getD_eq_getElem?_getD, List.getElem?_eq_getElem hk] at this
theorem ArgOK.cnt {x : V} {v : Value} (h : ArgOK W x v) (c : Nat) : cnt2 c x v = 0 := by
 cases h with
 | leaf h =>
  have h1 := h.cnt c
  cases h <;> exact h1
 | agg cs arr hs h => exact sumTo_zero fun k hk => (h k hk).cnt c
theorem start {args : List V} {vs : Array Value} (hl : args.length = vs.toList.length) (ha : ∀ k, k < args.length → ArgOK W (args.getD k .undef) (vs.toList.getD k undef)) :
  SR (g0 W) W 0 (fun _ => 0) (fun _ => false) ⟨fun _ => .undef, fun _ => [], []⟩ #[] (args.zip vs.toList) := by
 have hmem : ∀ p ∈ args.zip vs.toList, ArgOK W p.1 p.2 := fun p hp => by
  obtain ⟨k, hk, rfl⟩ := List.getElem_of_mem hp
  have hk' : k < args.length := by simp at hk; omega
  have h1 := ha k hk'
  simp only [List.getElem_zip]
  rw [List.getD_eq_getElem?_getD, List.getElem?_eq_getElem hk', List.getD_eq_getElem?_getD, List.getElem?_eq_getElem (by omega)] at h1
  exact h1
 have hcP : ∀ c, cntP c (args.zip vs.toList) = 0 := fun c => by
  rw [cntP_zip hl]; exact sumTo_zero fun k hk => (ha k hk).cnt c
 have hT : ∀ c, total (g0 W) W 0 (fun _ => 0) ⟨fun _ => .undef, fun _ => [], []⟩ #[] (args.zip vs.toList) c = persOf (g0 W) c := fun c => by
  have e1 : cntT c (fun _ => V.undef) #[] = 0 := rfl
  have e2 : cntB (g0 W) W c 0 (fun _ => []) = 0 := rfl
  have e3 : cntM (g0 W) W c [] = 0 := rfl
  unfold total
  simp only [e1, e2, e3, hcP]
  omega
 refine ⟨fun s => trivial, fun s _ => rfl, fun s d hd => (by cases hd), fun p hp => (hmem p hp).r3 _, fun p hp d hd => ?_, fun j => by simp [g0], fun j hj => absurd rfl hj, fun b hb => absurd hb (by simp), fun c => ?_, fun c hc => ?_⟩
 ·obtain ⟨b, o, e⟩ := okArg_root (hmem p hp).okArg hd; cases e
 ·rw [hT]; unfold persOf; split <;> omega
 ·rw [hT]; unfold persOf
  rw [if_neg]
  show ¬ (c < W.heap.size)
  omega
theorem law_calls [Lay P] {T : Table} (hLd : Laid P (g0 W) W) (hT : TableOK P T) {f : Nat} {args : List V} {m' : List (List V)} {vs : Array Value} {b : Bool} (hret : RF T f args [] = some (.bool b, m')) (hl : args.length = vs.toList.length)
  (ha : ∀ k, k < args.length → ArgOK W (args.getD k .undef) (vs.toList.getD k undef)) : Calls P f vs W fun e W' => e = .returned (.bool b) ∧ RowKit.Below W.heap.size W W' := by
 obtain ⟨_, hcall⟩ := ret_sound hT (RF_ret.1 hret)
 have hok : args.all V.okArg = true := List.all_eq_true.2 fun y hy => by
  obtain ⟨k, hk, rfl⟩ := List.getElem_of_mem hy
  have := (ha k hk).okArg
  rwa [List.getD_eq_getElem?_getD, List.getElem?_eq_getElem hk] at this
 refine (hcall (g0 W) W (fun _ => 0) vs (by simpa using hl.symm) hok hLd (start hl ha)).mono fun e W' ⟨v, g', he, hS, hE, _⟩ => ?_
 have hv : v = .bool b := R3.bool (hS.pend _ (.head _))
 exact ⟨by rw [he, hv], hE.os, hE.tape, hE.output, hE.size, fun k hk => (hE.pers k hk).2⟩
def FitsV (P : Program) (t : TypeId) (x : V) : Prop :=
 match P.underlying t with
 | some (.struct _) | some (.array _ _) => ∃ cs, x = .agg cs ∧ Fits P t cs
 | _ => Fits P t [x]
section
variable {H : Type} {enc : TypeId × Value → H}
theorem arg_of {d : Nat} {t : TypeId} (hsup : supT P d t = true) {v : Value} {dd : DataW H} {ps : List MemPlace} {base : Nat} (hval : Value.okWide P W .any base t v) (h : DataW.Trod enc P W 0 (fun _ => true) true t v dd ps) :
  ∃ x, FitsV P t x ∧ ArgOK W x v := by
 obtain ⟨fuel, h⟩ := h
 obtain ⟨cs, hfit, hr⟩ := reads_iff.1 (reads_of hsup h)
 have agg : ∀ arr : Array Value, v = .agg arr → ArgOK W (.agg cs) v := fun arr e => by
  subst e
  have hc : (Value.agg arr).cells = arr := rfl
  rw [hc] at hr
  refine .agg cs arr (by have := hr.1; simpa using this.symm) fun k hk => ?_
  have := hr.2 k (by rw [← hr.1]; exact hk)
  rwa [array_toList_getD] at this
 have leaf : (∀ arr, v ≠ .agg arr) → cs.length = 1 → ∃ x, cs = [x] ∧ ArgOK W x v := fun hv h1 => by
  match cs, h1 with
  | [x], _ =>
   refine ⟨x, rfl, .leaf ?_⟩
   rw [cells_leaf hv] at hr
   exact hr.2 0 (by simp)
 unfold FitsV
 unfold Value.okWide at hval
 cases hu : P.underlying t with
 | none => cases hfit <;> simp_all
 | some ud =>
  rw [hu] at hval
  cases ud with
  | struct fs => obtain ⟨arr, e, _⟩ := hval; exact ⟨.agg cs, ⟨cs, rfl, hfit⟩, agg arr e⟩
  | array n e => obtain ⟨arr, e, _⟩ := hval; exact ⟨.agg cs, ⟨cs, rfl, hfit⟩, agg arr e⟩
  | _ =>
   simp only at hval ⊢
   have h1 : cs.length = 1 := by cases hfit <;> first | rfl | simp_all
   have h2 : ∀ arr, v ≠ .agg arr := fun arr e => by
    subst e
    simp only [Cell.okWide, Cell.ok, hu] at hval
   obtain ⟨x, rfl, hx⟩ := leaf h2 h1
   exact ⟨x, hfit, hx⟩
theorem args_of {d : Nat} : ∀ {ts : List TypeId} {vs : List Value} {ds : List (DataW H)} {ps : List MemPlace} {base : Nat}, ts.all (supT P d) = true → (∀ (j : Nat) (t : TypeId) (v : Value), ts[j]? = some t → vs[j]? = some v → Value.okWide P W .any base t v) →
  DataW.TrodAll enc P W 0 (fun _ => true) true ts vs ds ps → ∃ args : List V, args.length = vs.length ∧ ts.length = vs.length ∧ (∀ (j : Nat) (t : TypeId), ts[j]? = some t → FitsV P t (args.getD j .undef)) ∧ ∀ k, k < args.length → ArgOK W (args.getD k .undef) (vs.getD k undef)
 | [], vs, ds, ps, base, _, _, h => by
  obtain ⟨rfl, rfl, rfl⟩ := ChangeShapes.trodAll_nil h
  exact ⟨[], rfl, rfl, fun j t hj => by simp at hj, fun k hk => absurd hk (by simp)⟩
 | t :: ts, vs, ds, ps, base, hsup, hval, h => by
  obtain ⟨v, vs', dd, ds', p, q, rfl, rfl, rfl, h0, r0⟩ := ChangeShapes.trodAll_cons h
  simp only [List.all_cons, Bool.and_eq_true] at hsup
  obtain ⟨x, hx1, hx2⟩ := arg_of hsup.1 (hval 0 t v rfl rfl) h0
  obtain ⟨args, h1, h2, h3, h4⟩ := args_of hsup.2 (fun j t v hj hv => hval (j + 1) t v hj hv) r0
  refine ⟨x :: args, by simp [h1], by simp [h2], fun j t' hj => ?_, fun k hk => ?_⟩
  ·cases j with
   | zero => simp only [List.getElem?_cons_zero, Option.some.injEq] at hj; subst hj; exact hx1
   | succ j => exact h3 j t' hj
  ·cases k with
   | zero => exact hx2
   | succ k => exact h4 k (by simpa using hk)
theorem args_stay (hl : laidOutB P = true) {W' : World} {sp : Nat → Bool} : ∀ {ts : List TypeId} {vs : List Value} {ds : List (DataW H)} {ps : List MemPlace}, (ts.all fun t => P.readableRec t && decide (t < P.types.size)) = true →
  DataW.TrodAll enc P W 0 (fun _ => true) true ts vs ds ps → (∀ p ∈ ps, W.sameAt W' p) → (∀ p ∈ ps, sp p.block = true) → DataW.TrodAll enc P W' 0 sp true ts vs ds ps
 | [], vs, ds, ps, _, h, _, _ => by
  obtain ⟨rfl, rfl, rfl⟩ := ChangeShapes.trodAll_nil h
  exact rfl
 | t :: ts, vs, ds, ps, hr, h, hs, hsp => by
  obtain ⟨v, vs', dd, ds', p, q, rfl, rfl, rfl, h0, r0⟩ := ChangeShapes.trodAll_cons h
  simp only [List.all_cons, Bool.and_eq_true, decide_eq_true_eq] at hr
  exact trodAll_cons_mk (WideElems.Trod_stays hl hr.1.1 hr.1.2 h0 (fun x hx => hs x (List.mem_append_left _ hx)) (fun x hx => hsp x (List.mem_append_left _ hx)))
   (args_stay hl hr.2 r0 (fun x hx => hs x (List.mem_append_right _ hx)) (fun x hx => hsp x (List.mem_append_right _ hx)))
theorem trodAll_len : ∀ {ts : List TypeId} {vs : List Value} {ds : List (DataW H)} {ps : List MemPlace}, DataW.TrodAll enc P W 0 (fun _ => true) true ts vs ds ps → ds.length = ts.length
 | [], vs, ds, ps, h => by obtain ⟨rfl, rfl, rfl⟩ := ChangeShapes.trodAll_nil h; rfl
 | t :: ts, vs, ds, ps, h => by
  obtain ⟨v, vs', dd, ds', p, q, rfl, rfl, rfl, h0, r0⟩ := ChangeShapes.trodAll_cons h
  simp [trodAll_len r0]
open ChangeShapes in
theorem post_of_below {f : Func} {s : ChangeSpec} {apart fresh handsOn again : Bool} {W W' : World} {args : Array Value} {v : Value} {ds gs : List (DataW H)} {before pa pv : List MemPlace}
  (hW : DataW.Whole enc P f.params.toList s.vars apart W args.toList ds gs before)
  (hres : ∀ (b : Nat) (sp : Nat → Bool) (hd : Bool), DataW.TrodAll enc P W' b sp hd f.resultTypes.toList (v.resultList f.resultTypes.size) (s.fn H (ds ++ gs)).results [])
  (hargs : ∀ sp : Nat → Bool, (∀ p ∈ before, sp p.block = true) → DataW.TrodAll enc P W' 0 sp true f.params.toList args.toList (s.fn H (ds ++ gs)).args pa)
  (hvars : ∀ sp : Nat → Bool, (∀ p ∈ before, sp p.block = true) → DataW.TrodVars enc P W' sp s.vars (s.fn H (ds ++ gs)).vars pv)
  (hps : before = pa ++ pv) (hb : RowKit.Below W.heap.size W W')
  (hok : ∀ (j : Nat) (t : TypeId) (r : Value), f.resultTypes[j]? = some t → (v.resultList f.resultTypes.size)[j]? = some r → Value.okWide P W' .any 0 t r) :
  s.post enc P f apart fresh handsOn again W args v W' := by
 have hlt : ∀ p ∈ before, p.block < W.heap.size := fun p hp => hW.lt p hp
 have hold : ∀ p ∈ before, (fun b => decide (b < W.heap.size)) p.block = true := fun p hp => by simpa using hlt p hp
 refine ⟨ds, gs, before, [], pa, pv, hW, hres _ _ _, hargs _ hold, hvars _ hold, World.keptBut_mono (fun p hp => ⟨hp, ?_⟩) (hb.frame (· ∈ before)), fun _ => ?_⟩
 ·rw [hps, List.mem_append] at hp
  exact Or.inr hp
 ·obtain ⟨_, _, _, _, _, hz, hn⟩ := hW
  refine ⟨hok, _, _, ([] ++ pa) ++ pv, ⟨[] ++ pa, pv, trodAll_append (hargs _ (fun _ _ => rfl)) (hres _ _ _), hvars _ (fun _ _ => rfl), rfl, ?_, ?_⟩, ?_⟩
  ·intro b off hp
   have hp' : MemPlace.cell b off ∈ before := by rw [hps]; simpa using hp
   rw [hb.frozen (p := ⟨b, off, none⟩) (hlt _ hp')]
   exact hz b off hp'
  ·intro ha
   have := hn ha
   rw [hps] at this
   simpa using this
  ·intro p hp _
   rw [hps]
   simpa using hp
theorem law_contract [Lay P] {T : Table} (hLd : Laid P (g0 W) W) (hT : TableOK P T) {f : Nat} {fn : Func} {tb : TypeId} {s : ChangeSpec} {apart fresh handsOn again : Bool} {d : Nat} (hbool : P.underlying tb = some .bool) (hres : fn.resultTypes = #[tb]) (hvars : s.vars = [])
  (hspec : ∀ ds : List (DataW H), ds.length = fn.params.toList.length → s.fn H ds = { results := [.lit (.bool true)], args := ds }) (hl : laidOutB P = true) (hr : (fn.params.toList.all fun t => P.readableRec t && decide (t < P.types.size)) = true)
  (hsup : fn.params.toList.all (supT P d) = true) {base : Nat} {args : Array Value} {ds gs : List (DataW H)} {before : List MemPlace}
  (law : ∀ zs9 : List V, zs9.length = fn.params.toList.length → (∀ (j : Nat) (t : TypeId), fn.params.toList[j]? = some t → FitsV P t (zs9.getD j .undef)) → ∃ m', RF T f zs9 [] = some (.bool true, m'))
  (hval : ∀ (j : Nat) t v, fn.params[j]? = some t → args[j]? = some v → Value.okWide P W .any base t v) (hW : DataW.Whole enc P fn.params.toList s.vars apart W args.toList ds gs before) :
  Calls P f args W fun e W' => ∃ v, e = .returned v ∧ s.post enc P fn apart fresh handsOn again W args v W' := by
 have hW' := hW
 obtain ⟨p, q, hA, hV, rfl, hfz, hnd⟩ := hW
 rw [hvars] at hV
 obtain ⟨rfl, rfl⟩ := ChangeShapes.trodVars_none hV
 obtain ⟨zs9, h1, h2, h3, h4⟩ := args_of (base := base) hsup (fun j t v hj hv => hval j t v (by simpa using hj) (by simpa using hv)) hA
 obtain ⟨m', hm⟩ := law zs9 (by rw [h1, h2]) h3
 have hds : ds.length = fn.params.toList.length := trodAll_len hA
 refine (law_calls hLd hT hm h1 h4).mono fun e W' ⟨he, hb⟩ => ?_
 subst he
 have hsp : s.fn H (ds ++ []) = { results := [.lit (.bool true)], args := ds } := by rw [List.append_nil]; exact hspec ds hds
 refine ⟨_, rfl, post_of_below (pa := p) (pv := []) hW' (fun b sp hd => ?_) (fun sp hspb => ?_) (fun sp _ => ?_) rfl hb (RowKit.ok_one hres rfl (RowKit.okWide_bool_mk hbool _))⟩
 ·rw [hsp, hres]
  exact trodAll_cons_mk (RowKit.shut_bool hbool true) rfl
 ·rw [hsp]
  exact args_stay hl hr hA (fun x hx => hb.same (hW'.lt x (by simpa using hx))) (fun x hx => hspb x (by simpa using hx))
 ·rw [hsp, hvars]; exact rfl
end
end
end Go.Proofs.YtdlijnfdkeimlaaDoor.Am

set_option linter.all false
namespace Go.Proofs.YtdlijnfdkeimlaaDoor.Am.Keys
open Go.Proofs
theorem gl2 : Tryd.prog.globalNamed "unicode/utf8.acceptRanges" = some 1 := by kernel_rfl
theorem gl1 : Tryd.prog.globalNamed "unicode/utf8.first" = some 0 := by kernel_rfl
theorem gt2 : (Tryd.prog.globals[1]?).map (·.type) = some 161 := by kernel_rfl
theorem gt1 : (Tryd.prog.globals[0]?).map (·.type) = some 158 := by kernel_rfl
noncomputable def eT (t : TypeId) : TypeId := match Tryd.prog.underlying t with | some (.array _ e) => e | _ => 0
noncomputable def fsT (t : TypeId) : Array Field := match Tryd.prog.underlying t with | some (.struct fs) => fs | _ => #[]
theorem ut1 : Tryd.prog.underlying 158 = some (.array 256 (eT 158)) := by kernel_rfl
theorem ut2 : Tryd.prog.underlying 161 = some (.array 16 (eT 161)) := by kernel_rfl
theorem ue1 : Tryd.prog.underlying (eT 158) = some (.int .u8) := by kernel_rfl
theorem ue2 : Tryd.prog.underlying (eT 161) = some (.struct (fsT (eT 161))) := by kernel_rfl
theorem uf0 : ((fsT (eT 161))[0]?.map fun f => (f.type, f.offset)) = some (5, 0) := by kernel_rfl
theorem uf1 : ((fsT (eT 161))[1]?.map fun f => (f.type, f.offset)) = some (5, 1) := by kernel_rfl
theorem u5 : Tryd.prog.underlying 5 = some (.int .u8) := by kernel_rfl
theorem kc1 : Tryd.prog.cellsOf (eT 158) = 1 := by kernel_rfl
theorem kc2 : Tryd.prog.cellsOf (eT 161) = 2 := by kernel_rfl
theorem kc5 : Tryd.prog.cellsOf 5 = 1 := by kernel_rfl
theorem laid_one {l : List (String × DataW Unit)} {W : World} {n : String} {d : DataW Unit} {g : Nat} {t : TypeId} (h : laidMetH Tryd.prog l W)
  (hf : (l.filter fun x => x.2.handleName?.isNone).filter (fun x => x.1 == n) = [(n, d)]) (hg : Tryd.prog.globalNamed n = some g) (hty : (Tryd.prog.globals[g]?).map (·.type) = some t) :
  ∃ (cs : Array Value) (fuel : Nat) (p : List MemPlace), (∀ i, W.cell? ⟨g, i, none⟩ = cs[i]?) ∧ g < W.heap.size ∧ DataW.trod (fun _ => ()) Tryd.prog W 0 (fun _ => true) false fuel t cs.toList = some (d, p) ∧ W.var? Tryd.prog n = some cs := by
 have h2 := (laidMetH_iff.1 h).1.filter (fun x => x.1 == n)
 rw [hf] at h2
 obtain ⟨ps, ⟨g', t', cs, fuel, p, q, hg', ht', hvar, hd, _, _⟩, _⟩ := h2
 obtain rfl := Option.some.inj (hg.symm.trans hg')
 obtain rfl := Option.some.inj (hty.symm.trans ht')
 have hv := hvar
 refine ⟨cs, fuel, p, fun i => World.var?_cell hg hvar i, ?_, hd, hv⟩
 clear hv
 unfold World.var? at hvar
 rw [hg] at hvar
 simp only [Option.bind_some] at hvar
 cases hh : W.heap[g]? with
 | none => rw [hh] at hvar; cases hvar
 | some o => exact (Array.getElem?_eq_some_iff.1 hh).1
noncomputable def lst (x : List V) : DataW Unit := match x with
 | [.int k n] => .lit (.int k n)
 | [.int k n, .int k' n'] => .agg [.lit (.int k n), .lit (.int k' n')]
 | _ => .nil
theorem first_rows {W : World} {cs : Array Value} {fuel : Nat} {p : List MemPlace} (h : DataW.trod (fun _ => ()) Tryd.prog W 0 (fun _ => true) false fuel 158 cs.toList = some (.agg (tab1.map lst), p)) (i : Nat) (hi : i < 256) :
  ∃ n, tab1[i]? = some [.int .u8 n] ∧ cs[i]? = some (.int .u8 n) := by
 obtain ⟨xs, m, _, hx, hl, hlen, hr⟩ := DataW.trod_array ut1 h
 have hxs : tab1.map lst = xs.map (·.1) := by
  have := congrArg Prod.fst hx
  simpa using this
 have h1 := hr i hi
 rw [kc1, List.getElem?_eq_getElem (by omega)] at h1
 obtain ⟨n, hc, hy, _⟩ := DataW.trod_int ue1 h1
 have h2 : (tab1.map lst)[i]? = some (.lit (.int .u8 n)) := by
  rw [hxs, List.getElem?_map, List.getElem?_eq_getElem (by omega), hy]; rfl
 refine ⟨n, ?_, ?_⟩
 ·rw [List.getElem?_map] at h2
  obtain ⟨x, hx1, hx2⟩ := Option.map_eq_some_iff.1 h2
  rw [hx1]
  have hk : ∀ y ∈ tab1, ∃ z, y = [.int .u8 z] := by
   have : tab1.all (fun y => match y with | [.int .u8 _] => true | _ => false) = true := by decide +kernel
   intro y hy
   have := List.all_eq_true.1 this y hy
   split at this
   ·exact ⟨_, rfl⟩
   ·cases this
  obtain ⟨z, rfl⟩ := hk x (List.mem_of_getElem? hx1)
  simp only [lst, DataW.lit.injEq, Lit.int.injEq, true_and] at hx2
  rw [hx2]
 ·have := congrArg (·[0]?) hc
  simpa [List.getElem?_take, List.getElem?_drop] using this
theorem second_rows {W : World} {cs : Array Value} {fuel : Nat} {p : List MemPlace} (h : DataW.trod (fun _ => ()) Tryd.prog W 0 (fun _ => true) false fuel 161 cs.toList = some (.agg (tab2.map lst), p)) (i : Nat) (hi : i < 16) :
  ∃ a b, tab2[i]? = some [.int .u8 a, .int .u8 b] ∧ cs[i * 2]? = some (.int .u8 a) ∧ cs[i * 2 + 1]? = some (.int .u8 b) := by
 obtain ⟨xs, m, _, hx, hl, hlen, hr⟩ := DataW.trod_array ut2 h
 have hxs : tab2.map lst = xs.map (·.1) := by
  have := congrArg Prod.fst hx
  simpa using this
 have h1 := hr i hi
 rw [kc2, List.getElem?_eq_getElem (by omega)] at h1
 obtain ⟨ys, m2, _, hy, hl2, hlen2, hr2⟩ := DataW.trod_struct ue2 h1
 have hsz : (fsT (eT 161)).size = 2 := by kernel_rfl
 obtain ⟨g0, hg0, hq0⟩ := Option.map_eq_some_iff.1 uf0
 obtain ⟨g1, hg1, hq1⟩ := Option.map_eq_some_iff.1 uf1
 have f0 := hr2 0 _ hg0
 have f1 := hr2 1 _ hg1
 rw [show g0.type = 5 from congrArg Prod.fst hq0, show g0.offset = 0 from congrArg Prod.snd hq0, kc5] at f0
 rw [show g1.type = 5 from congrArg Prod.fst hq1, show g1.offset = 1 from congrArg Prod.snd hq1, kc5] at f1
 rw [List.getElem?_eq_getElem (by omega)] at f0 f1
 obtain ⟨a, ha, hya, _⟩ := DataW.trod_int u5 f0
 obtain ⟨b, hb, hyb, _⟩ := DataW.trod_int u5 f1
 have hys : ys.map (·.1) = [.lit (.int .u8 a), .lit (.int .u8 b)] := by
  match ys, hlen2.trans hsz with
  | [y0, y1], _ =>
   simp only [List.getElem_cons_zero, List.getElem_cons_succ] at hya hyb
   rw [hya, hyb]; rfl
 have h2 : (tab2.map lst)[i]? = some (.agg [.lit (.int .u8 a), .lit (.int .u8 b)]) := by
  rw [hxs, List.getElem?_map, List.getElem?_eq_getElem (by omega), hy, ← hys]; rfl
 refine ⟨a, b, ?_, ?_, ?_⟩
 ·rw [List.getElem?_map] at h2
  obtain ⟨x, hx1, hx2⟩ := Option.map_eq_some_iff.1 h2
  rw [hx1]
  have hk : ∀ y ∈ tab2, ∃ z z', y = [.int .u8 z, .int .u8 z'] := by
   have : tab2.all (fun y => match y with | [.int .u8 _, .int .u8 _] => true | _ => false) = true := by decide +kernel
   intro y hy
   have := List.all_eq_true.1 this y hy
   split at this
   ·exact ⟨_, _, rfl⟩
   ·cases this
  obtain ⟨z, z', rfl⟩ := hk x (List.mem_of_getElem? hx1)
  simp only [lst, DataW.agg.injEq, List.cons.injEq, DataW.lit.injEq, Lit.int.injEq, true_and, and_true] at hx2
  rw [hx2.1, hx2.2]
 ·have := congrArg (·[0]?) ha
  simpa [List.getElem?_take, List.getElem?_drop] using this
 ·have := congrArg (·[0]?) hb
  simpa [List.getElem?_take, List.getElem?_drop] using this
theorem laid_of {l : List (String × DataW Unit)} {W : World} (h : laidMetH Tryd.prog l W)
  (h1 : (l.filter fun x => x.2.handleName?.isNone).filter (fun x => x.1 == "unicode/utf8.first") = [("unicode/utf8.first", .agg (tab1.map lst))])
  (h2 : (l.filter fun x => x.2.handleName?.isNone).filter (fun x => x.1 == "unicode/utf8.acceptRanges") = [("unicode/utf8.acceptRanges", .agg (tab2.map lst))]) : Laid Tryd.prog (g0 W) W := by
 obtain ⟨cs1, f1, p1, e1, s1, t1, _⟩ := laid_one h h1 gl1 gt1
 obtain ⟨cs2, f2, p2, e2, s2, t2, _⟩ := laid_one h h2 gl2 gt2
 have len1 : tab1.length = 256 := by decide +kernel
 have len2 : tab2.length = 16 := by decide +kernel
 refine ⟨fun t ht => ?_, fun t ht => ?_⟩
 case refine_2 =>
  have ht : t ∈ ([] : List (Nat × String × IntKind × List Int)) := ht
  cases ht
 have ht : t ∈ [(0, 1, tab1), (1, 2, tab2)] := ht
 rcases List.mem_cons.1 ht with rfl | ht
 ·refine ⟨s1, fun i hi => ?_, fun i k hi hk => ?_⟩
  ·have hi : i < tab1.length := hi
   obtain ⟨n, a, _⟩ := first_rows t1 i (by omega)
   show (tab1.getD i []).length = 1
   rw [List.getD_eq_getElem?_getD, a]; rfl
  ·have hi : i < tab1.length := hi
   have hk : k < 1 := hk
   obtain ⟨n, a, b⟩ := first_rows t1 i (by omega)
   obtain rfl : k = 0 := by omega
   refine ⟨.int .u8 n, ?_, ?_⟩
   ·show W.cell? ⟨0, 0 + (i * 1 + 0), none⟩ = _
    rw [show 0 + (i * 1 + 0) = i by omega, e1, b]
   ·show RB _ W ((tab1.getD i []).getD 0 .undef) _
    rw [show tab1.getD i [] = _ from List.getD_eq_getElem?_getD, a]; exact RB.int _ _
 ·obtain rfl := List.mem_singleton.1 ht
  refine ⟨s2, fun i hi => ?_, fun i k hi hk => ?_⟩
  ·have hi : i < tab2.length := hi
   obtain ⟨n, n', a, _⟩ := second_rows t2 i (by omega)
   show (tab2.getD i []).length = 2
   rw [List.getD_eq_getElem?_getD, a]; rfl
  ·have hi : i < tab2.length := hi
   have hk : k < 2 := hk
   obtain ⟨n, n', a, b, c⟩ := second_rows t2 i (by omega)
   match k, hk with
   | 0, _ =>
    refine ⟨.int .u8 n, ?_, ?_⟩
    ·show W.cell? ⟨1, 0 + (i * 2 + 0), none⟩ = _
     rw [show 0 + (i * 2 + 0) = i * 2 by omega, e2, b]
    ·show RB _ W ((tab2.getD i []).getD 0 .undef) _
     rw [show tab2.getD i [] = _ from List.getD_eq_getElem?_getD, a]; exact RB.int _ _
   | 1, _ =>
    refine ⟨.int .u8 n', ?_, ?_⟩
    ·show W.cell? ⟨1, 0 + (i * 2 + 1), none⟩ = _
     rw [show 0 + (i * 2 + 1) = i * 2 + 1 by omega, e2, c]
    ·show RB _ W ((tab2.getD i []).getD 1 .undef) _
     rw [show tab2.getD i [] = _ from List.getD_eq_getElem?_getD, a]; exact RB.int _ _
end Go.Proofs.YtdlijnfdkeimlaaDoor.Am.Keys

namespace Go.Proofs.YtdlijnfdkeimlaaDoor.Am
def ints (xs : List Int) : List (List V) := xs.map fun n => [.int .i64 n]
inductive IV : V → List Int → Prop
 | nil : IV .nils []
 | sl (xs : List Int) : IV (.slice false 1 (ints xs)) xs
def boolL (xs : List Bool) : List (List V) := xs.map fun b => [.bool b]
inductive BV : V → List Bool → Prop
 | nil : BV .nils []
 | sl (xs : List Bool) : BV (.slice false 1 (boolL xs)) xs
section
variable {P : Program}
theorem fits_int {t : TypeId} {k : IntKind} (ht : P.underlying t = some (.int k)) {vs : List V} (h : Fits P t vs) : ∃ n, vs = [.int k n] ∧ (Lit.int k n).wf = true := by
 cases h <;> simp_all
theorem fits_bool {t : TypeId} (ht : P.underlying t = some .bool) {vs : List V} (h : Fits P t vs) : ∃ b, vs = [.bool b] := by
 cases h <;> simp_all
theorem fits_str {t : TypeId} (ht : P.underlying t = some .string) {vs : List V} (h : Fits P t vs) : ∃ s, vs = [.str s] ∧ s.length ≤ maxLen := by
 cases h <;> simp_all
theorem fits_slice {t e : TypeId} (ht : P.underlying t = some (.slice e)) {vs : List V} (h : Fits P t vs) : vs = [.nils] ∨ ∃ xs, vs = [.slice false (P.cellsOf e) xs] ∧ xs.length ≤ maxLen ∧ ∀ x ∈ xs, Fits P e x := by
 cases h with
 | nils => exact .inl rfl
 | slice xs h hl hx =>
  rw [ht] at h
  cases h
  refine .inr ⟨xs, rfl, hl, fun x hm => ?_⟩
  obtain ⟨i, hi, rfl⟩ := List.getElem_of_mem hm
  have := hx i hi
  rwa [List.getD_eq_getElem?_getD, List.getElem?_eq_getElem hi] at this
 | _ => simp_all
theorem fitsV_leaf {t : TypeId} {x : V} {d : TypeDesc} (ht : P.underlying t = some d) (h : FitsV P t x) (hs : ∀ fs, d ≠ .struct fs) (ha : ∀ n e, d ≠ .array n e) : Fits P t [x] := by
 unfold FitsV at h
 rw [ht] at h
 cases d <;> first | exact h | exact absurd rfl (hs _) | exact absurd rfl (ha _ _)
end
end Go.Proofs.YtdlijnfdkeimlaaDoor.Am

namespace Go.Proofs.YtdlijnfdkeimlaaDoor.Am
inductive LT where
 | bool
 | int (k : IntKind)
 | str
 | slice (e : TypeId)
 deriving DecidableEq
def leafsF (P : Program) (F : TypeId → Option (List LT)) : Nat → List Field → Option (List LT)
 | _, [] => some []
 | n, f :: fs => if f.offset = n ∧ (F f.type).map List.length = some (P.cellsOf f.type) then (F f.type).bind fun l => (leafsF P F (n + P.cellsOf f.type) fs).bind fun r => some (l ++ r) else none
def leafs (P : Program) : Nat → TypeId → Option (List LT)
 | 0, _ => none
 | d + 1, t => match P.underlying t with
  | some .bool => some [.bool]
  | some (.int k) => some [.int k]
  | some .string => some [.str]
  | some (.slice e) => some [.slice e]
  | some (.struct fs) => (leafsF P (leafs P d) 0 fs.toList).bind fun l => if l.length = P.cellsOf t then some l else none
  | some (.array n e) => (leafs P d e).bind fun l => if l.length = P.cellsOf e ∧ P.cellsOf t = n * P.cellsOf e then some (List.replicate n l).flatten else none
  | _ => none
def LV (P : Program) (l : LT) (v : V) : Prop :=
 match l with
 | .bool => ∃ b, v = .bool b
 | .int k => ∃ n, v = .int k n ∧ (Lit.int k n).wf = true
 | .str => ∃ s, v = .str s ∧ s.length ≤ maxLen
 | .slice e => v = .nils ∨ ∃ xs, v = .slice false (P.cellsOf e) xs ∧ xs.length ≤ maxLen ∧ ∀ x ∈ xs, Fits P e x
def LVs (P : Program) : List LT → List V → Prop
 | [], [] => True
 | l :: ls, v :: vs => LV P l v ∧ LVs P ls vs
 | _, _ => False
section
variable {P : Program}
theorem LVs.append : ∀ {ls ks : List LT} {vs us : List V}, LVs P ls vs → LVs P ks us → LVs P (ls ++ ks) (vs ++ us)
 | [], _, [], _, _, h => h
 | _ :: _, _, _ :: _, _, h, k => ⟨h.1, LVs.append h.2 k⟩
 | [], _, _ :: _, _, h, _ => h.elim
 | _ :: _, _, [], _, h, _ => h.elim
theorem LVs.len : ∀ {ls : List LT} {vs : List V}, LVs P ls vs → vs.length = ls.length
 | [], [], _ => rfl
 | _ :: _, _ :: _, h => by rw [List.length_cons, List.length_cons, LVs.len h.2]
 | [], _ :: _, h => h.elim
 | _ :: _, [], h => h.elim
theorem leafsF_ok {F : TypeId → Option (List LT)} (hF : ∀ t ls vs, F t = some ls → Fits P t vs → LVs P ls vs) {vs : List V} : ∀ {fs : List Field} {n : Nat} {ls : List LT}, leafsF P F n fs = some ls → (∀ f ∈ fs, Fits P f.type ((vs.drop f.offset).take (P.cellsOf f.type))) →
  LVs P ls ((vs.drop n).take ls.length)
 | [], n, ls, h, _ => by
  simp only [leafsF, Option.some.injEq] at h
  subst h
  rw [List.length_nil, List.take_zero]; trivial
 | f :: fs, n, ls, h, hf => by
  simp only [leafsF] at h
  split at h
  ·rename_i hc
   simp only [Option.bind_eq_some_iff, Option.some.injEq] at h
   obtain ⟨l, hl, r, hr, rfl⟩ := h
   have h1 := hF _ _ _ hl (hf f (.head _))
   have h2 := leafsF_ok hF hr fun g hg => hf g (.tail _ hg)
   have hlen : l.length = P.cellsOf f.type := by
    have := hc.2
    rw [hl] at this
    simpa using this
   rw [hc.1, ← hlen] at h1
   rw [← hlen] at h2
   have hsplit : (vs.drop n).take (l ++ r).length = (vs.drop n).take l.length ++ (vs.drop (n + l.length)).take r.length := by
    rw [List.length_append, List.take_add, List.drop_drop]
   rw [hsplit]
   exact h1.append h2
  ·cases h
theorem leafs_rep {l : List LT} {e : TypeId} (hF : ∀ vs, Fits P e vs → LVs P l vs) (hl : l.length = P.cellsOf e) {vs : List V} : ∀ {n i : Nat}, (∀ j, i ≤ j → j < i + n → Fits P e ((vs.drop (j * P.cellsOf e)).take (P.cellsOf e))) →
  LVs P (List.replicate n l).flatten ((vs.drop (i * P.cellsOf e)).take (n * P.cellsOf e))
 | 0, i, _ => by rw [Nat.zero_mul, List.take_zero]; trivial
 | n + 1, i, h => by
  have h1 := hF _ (h i (Nat.le_refl _) (by omega))
  have h2 := leafs_rep hF hl (n := n) (i := i + 1) fun j hj hk => h j (by omega) (by omega)
  rw [List.replicate_succ, List.flatten_cons, Nat.succ_mul, Nat.add_comm, List.take_add, List.drop_drop]
  rw [Nat.succ_mul] at h2
  exact h1.append h2
theorem fits_leafs : ∀ {d : Nat} {t : TypeId} {ls : List LT} {vs : List V}, leafs P d t = some ls → Fits P t vs → LVs P ls vs := by
 intro d
 induction d with
 | zero => intro t ls vs h; cases h
 | succ d ih =>
  intro t ls vs h hf
  unfold leafs at h
  split at h
  ·rename_i ht
   cases h
   obtain ⟨b, rfl⟩ := fits_bool ht hf
   exact ⟨⟨b, rfl⟩, trivial⟩
  ·rename_i ht
   cases h
   obtain ⟨n, rfl, hw⟩ := fits_int ht hf
   exact ⟨⟨n, rfl, hw⟩, trivial⟩
  ·rename_i ht
   cases h
   obtain ⟨s, rfl, hw⟩ := fits_str ht hf
   exact ⟨⟨s, rfl, hw⟩, trivial⟩
  ·rename_i ht
   cases h
   rcases fits_slice ht hf with rfl | ⟨xs, rfl, h1, h2⟩
   ·exact ⟨.inl rfl, trivial⟩
   ·exact ⟨.inr ⟨xs, rfl, h1, h2⟩, trivial⟩
  ·rename_i fs ht
   simp only [Option.bind_eq_some_iff] at h
   obtain ⟨l, hl, h⟩ := h
   split at h
   ·rename_i hc
    cases h
    cases hf with
    | struct _ ht2 hlen hff =>
     rw [ht] at ht2
     cases ht2
     have := leafsF_ok (vs := vs) (fun _ _ _ a b => ih a b) hl hff
     rwa [List.drop_zero, List.take_of_length_le (by omega)] at this
    | _ => simp_all
   ·cases h
  ·rename_i n e ht
   simp only [Option.bind_eq_some_iff] at h
   obtain ⟨l, hl, h⟩ := h
   split at h
   ·rename_i hc
    cases h
    cases hf with
    | array _ ht2 hlen hff =>
     rw [ht] at ht2
     cases ht2
     have := leafs_rep (vs := vs) (fun _ b => ih hl b) hc.1 (n := n) (i := 0) fun j _ hj => hff j (by omega)
     rwa [Nat.zero_mul, List.drop_zero, List.take_of_length_le (by omega)] at this
    | _ => simp_all
   ·cases h
  ·cases h
end
end Go.Proofs.YtdlijnfdkeimlaaDoor.Am

namespace Go.Proofs.YtdlijnfdkeimlaaDoor.Am
section
variable {P : Program} {W : World} {H : Type} {enc : TypeId × Value → H}
end
end Go.Proofs.YtdlijnfdkeimlaaDoor.Am

set_option linter.all false
namespace Go.Proofs.YtdlijnfdkeimlaaDoor.Am.Keys
open Go.Proofs.YtdlijnfdkeimlaaDoor.Am.T
def isStr : Option TypeDesc → Bool
  | some (.struct _) => true
  | _ => false
theorem fits_key {P : Program} {t : TypeId} (hi : isStr (P.underlying t) = true) (hl : leafs P 8 t = some [.int .i32, .int .i64]) {x : V} (h : FitsV P t x) : ∃ k : Key, Den [] (.agg k.c) x := by
  obtain ⟨fs, ht⟩ : ∃ fs, P.underlying t = some (.struct fs) := by
    unfold isStr at hi
    split at hi
    · exact ⟨_, by assumption⟩
    · cases hi
  unfold FitsV at h
  rw [ht] at h
  obtain ⟨cs, rfl, hf⟩ := h
  have h3 := fits_leafs hl hf
  have h4 : cs.length = 2 := h3.len
  match cs, h4 with
  | [x1, x2], _ =>
    obtain ⟨h1, h2, _⟩ := h3
    obtain ⟨a, rfl, _⟩ := h1
    obtain ⟨b, rfl, _⟩ := h2
    exact ⟨⟨a, b⟩, .agg (.cons (.base (.int _ _)) (.cons (.base (.int _ _)) .nil))⟩
end Go.Proofs.YtdlijnfdkeimlaaDoor.Am.Keys

set_option linter.all false
namespace Go.Proofs.YtdlijnfdkeimlaaDoor.Am.Keys
open Go.Proofs.YtdlijnfdkeimlaaDoor.Am.T
theorem cells_key {P : Program} {e : TypeId} (hl : leafs P 8 e = some [.int .i32, .int .i64]) {cs : List V} (h : Fits P e cs) : ∃ k : Key, Pw Den0 k.c cs := by
  have h3 := fits_leafs hl h
  have h4 : cs.length = 2 := h3.len
  match cs, h4 with
  | [x1, x2], _ =>
    obtain ⟨h1, h2, _⟩ := h3
    obtain ⟨a, rfl, _⟩ := h1
    obtain ⟨b, rfl, _⟩ := h2
    exact ⟨⟨a, b⟩, .cons (.int _ _) (.cons (.int _ _) .nil)⟩
theorem keys_list {P : Program} {e : TypeId} (hl : leafs P 8 e = some [.int .i32, .int .i64]) : ∀ xs : List (List V), (∀ y ∈ xs, Fits P e y) → ∃ ks : List Key, Pw (Pw Den0) (ks.map Key.c) xs
  | [], _ => ⟨[], .nil⟩
  | y :: ys, hh => by
    obtain ⟨ks, h1⟩ := keys_list hl ys fun z hz => hh z (.tail _ hz)
    obtain ⟨k, h2⟩ := cells_key hl (hh y (.head _))
    exact ⟨k :: ks, .cons h2 h1⟩
theorem keys_den0 {P : Program} {t e : TypeId} (ht : P.underlying t = some (.slice e)) (hl : leafs P 8 e = some [.int .i32, .int .i64]) (hc : P.cellsOf e = 2) {cs : List V} (h : Fits P t cs) : ∃ ks : List Key, Pw Den0 [.sl false 2 (ks.map Key.c)] cs := by
  rcases fits_slice ht h with h | ⟨xs, h, _, hx⟩
  · subst h; exact ⟨[], .cons (.sln false 2) .nil⟩
  · subst h
    obtain ⟨ks, h1⟩ := keys_list hl xs hx
    rw [hc]
    exact ⟨ks, .cons (.sl false 2 h1) .nil⟩
theorem fits_keys {P : Program} {t e : TypeId} (ht : P.underlying t = some (.slice e)) (hl : leafs P 8 e = some [.int .i32, .int .i64]) (hc : P.cellsOf e = 2) {x : V} (h : Fits P t [x]) : ∃ ks : List Key, Den [] (.sl false 2 (ks.map Key.c)) x := by
  obtain ⟨ks, h⟩ := keys_den0 ht hl hc h
  cases h with | cons h _ => exact ⟨ks, .base h⟩
theorem keysModes_ok {ks : List Key} {k : Key} {x y : V} (hx : Den [] (.sl false 2 (ks.map Key.c)) x) (hy : Den [] (.agg k.c) y) : ∃ m', RF ET 8 [x, y] [] = some (.bool true, m') :=
  CallT.law (casementlaw18_KeysModes_ok (modes_pure ks k)) (.cons hx (.cons hy .nil))
end Go.Proofs.YtdlijnfdkeimlaaDoor.Am.Keys

/-
KeysModes answers true whatever its input; the input reads as it did.
-/
namespace Go.Proofs.YtdlijnfdkeimlaaDoor
open Go.Proofs.YtdlijnfdkeimlaaDoor.Am Go.Proofs.YtdlijnfdkeimlaaDoor.Am.Keys
open Go.ChangeShapes Go.WideShapes Go.ChangeAt Go.RowKit
namespace keysModes
theorem shape (l : List V) (h : l.length = 2) : ∃ x0 x1, l = [x0, x1] := by
  match l, h with
  | [x0, x1], _ => exact ⟨x0, x1, rfl⟩
theorem own : ownKnob Tryd.prog.godebug = none := by kernel_rfl
theorem laidB : laidOutB Tryd.prog = true := by kernel_rfl
set_option maxRecDepth 100000 in
theorem law (l : List V) (hl : l.length = Tryd.f8.params.toList.length) (h : ∀ (j : Nat) (t : TypeId), Tryd.f8.params.toList[j]? = some t → FitsV Tryd.prog t (l.getD j .undef)) : ∃ m', RF ET 8 l [] = some (.bool true, m') := by
  have hln : l.length = 2 := hl
  obtain ⟨x0, x1, rfl⟩ := shape l hln
  have h0 := h 0 43 (by kernel_rfl)
  have h1 := h 1 42 (by kernel_rfl)
  have u1 : Tryd.prog.underlying 43 = some (.slice 42) := by kernel_rfl
  have ul : leafs Tryd.prog 8 42 = some [.int .i32, .int .i64] := by kernel_rfl
  obtain ⟨ks, hx⟩ := fits_keys u1 ul (by kernel_rfl) (fitsV_leaf u1 h0 (fun _ e => by cases e) (fun _ _ e => by cases e))
  obtain ⟨k, hy⟩ := fits_key (by kernel_rfl) (by kernel_rfl) h1
  exact keysModes_ok hx hy
noncomputable def laidWorld (os : Os) : World :=
  { World.holding Tryd.prog os ⟨#[], #[], []⟩ with heap := (((World.holding Tryd.prog os ⟨#[], #[], []⟩).heap.modify 0 fun
      | .cells _ t frozen => .cells ((Go.Pinned.utf8FirstZ.map fun (n : Nat) => Value.int .u8 n).toArray) t frozen
      | o => o).modify 1 fun
      | .cells _ t frozen => .cells #[.int .u8 128, .int .u8 191, .int .u8 160, .int .u8 191, .int .u8 128, .int .u8 159, .int .u8 144, .int .u8 191, .int .u8 128, .int .u8 143, .int .u8 0, .int .u8 0, .int .u8 0, .int .u8 0, .int .u8 0, .int .u8 0, .int .u8 0, .int .u8 0, .int .u8 0, .int .u8 0, .int .u8 0, .int .u8 0, .int .u8 0, .int .u8 0, .int .u8 0, .int .u8 0, .int .u8 0, .int .u8 0, .int .u8 0, .int .u8 0, .int .u8 0, .int .u8 0] t frozen
      | o => o) }
theorem laid_met (os : Os) : laidMet Tryd.prog Rows.keysModesRow.laid ((laidWorld os).forCall (fun _ _ => 0) ⟨#[], #[.slice none 0 0, .agg #[.int .i32 0, .int .i64 0]], []⟩).memory :=
  laidMet_of_run' 8 (by kernel_rfl) (by kernel_rfl)
theorem reads (os : Os) {H : Type} (enc : TypeId × Value → H) : ∃ places, DataW.whole enc Tryd.prog ((laidWorld os).forCall (fun _ _ => 0) ⟨#[], #[.slice none 0 0, .agg #[.int .i32 0, .int .i64 0]], []⟩).memory Tryd.f8.params.toList Rows.keysModesSpec.vars false (#[.slice none 0 0, .agg #[.int .i32 0, .int .i64 0]] : Array Value).toList 8 = some ([.nil, .agg [.lit (.int .i32 0), .lit (.int .i64 0)]], [], places) :=
  ⟨[], by kernel_rfl⟩
set_option maxRecDepth 100000 in
theorem lifted (os : Os) (started : os.Started) (H : Type) (enc : TypeId × Value → H) (F : Stop.Interp) :
    ReturnsInHanded {} Tryd.checked os 8 .any ((OpenSpec.ofChange Rows.keysModesSpec).preRow enc Tryd.prog Tryd.f8 Rows.keysModesRow.domain false Rows.keysModesRow.laid) (((OpenSpec.ofChange Rows.keysModesSpec).at F).post enc Tryd.prog Tryd.f8 false true false false) := by
  obtain ⟨places, hx⟩ := reads os enc
  refine returnsInHanded_of_row (C := Tryd.checked) (s := (OpenSpec.ofChange Rows.keysModesSpec)) own started (by kernel_rfl) Tryd.func8
    (witness_row_at (enc := enc) (C := Tryd.checked) false (laidWorld os) #[.slice none 0 0, .agg #[.int .i32 0, .int .i64 0]] rfl (by kernel_rfl) (by kernel_rfl) (by kernel_rfl)
      (OpenSpec.preRow_of_cond 8 hx (by kernel_rfl) (fun k hk => by cases hk) (by kernel_rfl) (laid_met os))) ?_
  intro W base args ds gs before hval hW _ _ _ hlaid _ _
  exact law_contract (laid_of hlaid (by kernel_rfl) (by kernel_rfl)) ET_ok (tb := 4) (d := 8) (by kernel_rfl) (by kernel_rfl) rfl
    (fun ds hd => by
      have hdn : ds.length = 2 := hd
      match ds, hdn with
      | [_, _], _ => rfl) laidB (by kernel_rfl) (by kernel_rfl) law hval hW
theorem said : Rows.KeysModesSaid :=
  OpenClaim.holds_of_cond 8 Tryd.f8 rfl rfl rfl rfl rfl rfl rfl ⟨rfl, rfl, rfl, rfl, rfl⟩ rfl rfl rfl rfl rfl (by kernel_rfl) Tryd.func8 (by kernel_rfl)
    (of_decide_eq_true (by kernel_rfl)) (by unfold Func.isWrapper; first | (rw [if_pos (by decide +kernel)]; kernel_rfl) | (rw [if_neg (by decide +kernel)]; exact ⟨rfl, rfl⟩))
    (fun os started H enc _ F => by rw [OpenClaim.pre_eq_preRow]; exact lifted os started H enc F)
theorem nowant : (Tryd.f8.params.toList.all fun t => Tryd.prog.wantsStandIn t == false) = true := by kernel_rfl
theorem plain (f : FuncId) (fn : Func) (hf : Tryd.pinned.checked.prog.funcNamed "casement/casementlaw18.KeysModes" = some f) (hfn : Tryd.pinned.checked.prog.funcs[f]? = some fn) :
    false = Tryd.pinned.checked.prog.looks [] ∧ ∀ (j : Nat) t, fn.params[j]? = some t → Tryd.pinned.checked.prog.wantsStandIn t = false := by
  obtain rfl : f = 8 := Option.some.inj ((show Tryd.prog.funcNamed "casement/casementlaw18.KeysModes" = some 8 by kernel_rfl).symm.trans hf) |>.symm
  obtain rfl : fn = Tryd.f8 := (Option.some.inj (Tryd.func8.symm.trans hfn)).symm
  refine ⟨by kernel_rfl, fun j t ht => ?_⟩
  exact beq_iff_eq.1 (List.all_eq_true.1 nowant t (Array.mem_toList_iff.2 (Array.mem_of_getElem? ht)))
theorem holds : Rows.KeysModesCardSaid :=
  Claim7.holds_tied_plain_at .later [] _ _ _ _ said (fun _ h => by cases h) (by kernel_rfl) (fun _ h => by cases h) keysModes_row_tie rfl ⟨rfl, rfl⟩ (by kernel_rfl) rfl plain (by kernel_rfl)
#print axioms holds
end keysModes
end Go.Proofs.YtdlijnfdkeimlaaDoor
