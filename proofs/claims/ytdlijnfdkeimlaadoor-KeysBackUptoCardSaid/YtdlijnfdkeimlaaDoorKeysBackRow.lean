/-
KeysBack answers true where the input is of bounded bulk; the input reads as it did.
-/
import Derived.Test.YtdlijnfdkeimlaaDoorAmKeysBackRow5
import Derived.ChangeReads
import Derived.ChangeArms
import Derived.Carry
import Derived.OpenShut
import Derived.ChangeSame
import Derived.RowKit
import Derived.Test.YtdlijnfdkeimlaaDoorRows
import Derived.LaidSub
import Derived.Test.YtdlijnfdkeimlaaDoorCards
import Derived.Test.YtdlijnfdkeimlaaDoorTie
import Derived.WalkKit
import Derived.ProofKit
import Derived.Deep.DeepHandedRow
import Derived.Lib.LaidTab
set_option linter.all false
namespace Go.Proofs.YtdlijnfdkeimlaaDoor.Am.Keys
open Go.Proofs.YtdlijnfdkeimlaaDoor.Am.T
def nameOf (t : List Int) : Option Int := if t = [84, 97, 98] then some 9 else if t = [69, 110, 116, 101, 114] then some 13 else if t = [69, 115, 99] then some 27 else if t = [66, 97, 99, 107] then some 127 else if t = [83, 112, 97, 99, 101] then some 32 else none
abbrev namesT : List (List Int) := [[84, 97, 98], [69, 110, 116, 101, 114], [69, 115, 99], [66, 97, 99, 107], [83, 112, 97, 99, 101]]
abbrev runesT : List Int := [9, 13, 27, 127, 32]
theorem called_at (i : Nat) (hi : i < 5) : keys_called (runesT.getD i 0) = some (namesT.getD i []) := by
  have : i = 0 ∨ i = 1 ∨ i = 2 ∨ i = 3 ∨ i = 4 := by omega
  rcases this with rfl | rfl | rfl | rfl | rfl <;> (rw [called_is (by decide)]; decide)
theorem pk_step (j : List Int × Key) (i : Nat) (hi : i < 5) : keys_parse_l1 j (i : Int) = if j.1 = namesT.getD i [] then some (.inr (.inl (decide (rightT ⟨runesT.getD i 0, j.2.Mods⟩), ⟨runesT.getD i 0, j.2.Mods⟩))) else some (.inl ((i + 1 : Nat) : Int)) := by
  have hx : idx runesT (i : Int) = some (runesT.getD i 0) := by rw [idx_is (d := 0) (by omega) (by simp; omega), Int.toNat_natCast]
  simp only [keys_parse_l1, letB]
  rw [decide_eq_true (show (i : Int) < (([9, 13, 27, 127, 32] : List Nat).length : Int) by simp; omega), hx, w64_id (by omega) (by omega)]
  simp only [cond_true, Option.bind_some, called_at i hi, right_is]
  by_cases hr : j.1 = namesT.getD i []
  · rw [decide_eq_true hr.symm, if_pos hr]; rfl
  · rw [decide_eq_false (fun e => hr e.symm), if_neg hr]; rfl
theorem pk_end (j : List Int × Key) : keys_parse_l1 j 5 = some (.inr (.inr ())) := by
  simp only [keys_parse_l1, letB]; rfl
theorem five {β : Type} {f : Int → Option (Int ⊕ (β ⊕ Unit))} {t : List Int} {g : Int → β}
    (hs : ∀ i : Nat, i < 5 → f (i : Int) = if t = namesT.getD i [] then some (.inr (.inl (g (runesT.getD i 0)))) else some (.inl ((i + 1 : Nat) : Int))) (he : f 5 = some (.inr (.inr ()))) :
    iter f 0 = some (match nameOf t with | some r => .inl (g r) | none => .inr ()) := by
  have s0 : f 0 = if t = [84, 97, 98] then some (.inr (.inl (g 9))) else some (.inl 1) := hs 0 (by omega)
  have s1 : f 1 = if t = [69, 110, 116, 101, 114] then some (.inr (.inl (g 13))) else some (.inl 2) := hs 1 (by omega)
  have s2 : f 2 = if t = [69, 115, 99] then some (.inr (.inl (g 27))) else some (.inl 3) := hs 2 (by omega)
  have s3 : f 3 = if t = [66, 97, 99, 107] then some (.inr (.inl (g 127))) else some (.inl 4) := hs 3 (by omega)
  have s4 : f 4 = if t = [83, 112, 97, 99, 101] then some (.inr (.inl (g 32))) else some (.inl 5) := hs 4 (by omega)
  unfold nameOf
  by_cases h1 : t = [84, 97, 98]
  · rw [if_pos h1] at s0 ⊢; exact iter_inr s0
  · rw [if_neg h1] at s0 ⊢
    rw [iter_inl s0]
    by_cases h2 : t = [69, 110, 116, 101, 114]
    · rw [if_pos h2] at s1 ⊢; exact iter_inr s1
    · rw [if_neg h2] at s1 ⊢
      rw [iter_inl s1]
      by_cases h3 : t = [69, 115, 99]
      · rw [if_pos h3] at s2 ⊢; exact iter_inr s2
      · rw [if_neg h3] at s2 ⊢
        rw [iter_inl s2]
        by_cases h4 : t = [66, 97, 99, 107]
        · rw [if_pos h4] at s3 ⊢; exact iter_inr s3
        · rw [if_neg h4] at s3 ⊢
          rw [iter_inl s3]
          by_cases h5 : t = [83, 112, 97, 99, 101]
          · rw [if_pos h5] at s4 ⊢; exact iter_inr s4
          · rw [if_neg h5] at s4 ⊢
            rw [iter_inl s4]
            exact iter_inr he
def keyOf (t : List Int) (m : Int) : Option Key := match nameOf t with
  | some r => if rightT ⟨r, m⟩ then some ⟨r, m⟩ else none
  | none => if (whR t (t.getD 0 0)).1 = (t.length : Int) ∧ t ≠ [] ∧ rightT ⟨(whR t (t.getD 0 0)).2, m⟩ ∧ ¬ (whR t (t.getD 0 0)).2 ∈ runesT then some ⟨(whR t (t.getD 0 0)).2, m⟩ else none
def modsOf (s : List Int) : List Int × Int :=
  let a := cutT s [67, 116, 114, 108, 45]
  let b := cutT a.1 [65, 108, 116, 45]
  (b.1, (if a.2 then 1 else 0) + (if b.2 then 2 else 0))
def parseT (s : List Int) : Option Key := keyOf (modsOf s).1 (modsOf s).2
def Says (x : Option (Key × Bool)) (k : Option Key) : Prop := ∃ k' ok, x = some (k', ok) ∧ (match k with | some k => ok = true ∧ k' = k | none => ok = false)
theorem Says.some_of {k : Key} {b : Bool} {c : Prop} [Decidable c] (h : b = decide c) : Says (some (k, b)) (if c then some k else none) := by
  refine ⟨k, b, rfl, ?_⟩
  by_cases hc : c
  · rw [if_pos hc]; exact ⟨by rw [h, decide_eq_true hc], rfl⟩
  · rw [if_neg hc]; show b = false; rw [h, decide_eq_false hc]
theorem drop_slow : unicode_utf8_DecodeRuneInString [] = some (65533, 0) := by
  unfold unicode_utf8_DecodeRuneInString unicode_utf8_decodeRuneInStringSlow
  rfl
theorem byts_cut {s p : List Int} (h : Byts s) : Byts (cutT s p).1 := by
  unfold cutT; split
  · exact h.drop _
  · exact h
theorem tail_keys {t : List Int} {k : Key} (hb : Byts t) (hk : k.Rune = 0) :
    Says ((iter (fun s => keys_parse_l1 (t, k) s : Int → Option (Int ⊕ ((Bool × Key) ⊕ Unit))) 0).bind fun j14 =>
  match j14 with
  | .inl z15 => (
    some (z15.2, z15.1))
  | .inr z16 => (
    (unicode_utf8_DecodeRuneInString t).bind fun y17 =>
    letB (decide (y17.2 = (t.length : Int))) fun c18 =>
    (bif c18 then (
      letB (decide (y17.2 > 0)) fun c20 =>
      some (c20)) else some false).bind fun g19 =>
    (bif g19 then (
      letB (decide (y17.1 ≠ 65533)) fun c23 =>
      (bif c23 then some true else (
        letB (decide (y17.2 > 1)) fun c25 =>
        some (c25))).bind fun g24 =>
      some (g24)) else some false).bind fun g22 =>
    (bif g22 then (
      (keys_Right (Key.mk y17.1 k.Mods)).bind fun y29 =>
      some (y29)) else some false).bind fun g28 =>
    (bif g28 then (
      (keys_called y17.1).bind fun y32 =>
      letB (decide (y32 = t)) fun c33 =>
      some (c33)) else some false).bind fun g31 =>
    some ((Key.mk y17.1 k.Mods), g31))) (keyOf t k.Mods) := by
  rw [five (t := t) (g := fun r => (decide (rightT ⟨r, k.Mods⟩), (⟨r, k.Mods⟩ : Key))) (fun i hi => pk_step (t, k) i hi) (pk_end (t, k))]
  unfold keyOf
  cases hn : nameOf t with
  | some r => exact Says.some_of rfl
  | none =>
    simp only [Option.bind_some, letB]
    by_cases h0 : t = []
    · subst h0
      rw [drop_slow]
      refine ⟨⟨65533, k.Mods⟩, false, rfl, ?_⟩
      rw [if_neg (fun h => h.2.1 rfl)]
    rw [decS_is hb h0]
    have hpos := List.length_pos_iff.2 h0
    simp only [Option.bind_some, and_s, or_s, right_is]
    generalize hw : whR t (t.getD 0 0) = w
    obtain ⟨n, v⟩ := w
    by_cases hz : n = 0
    · have : (n, v) = (0, 0) := by
        unfold whR at hw
        split at hw
        · have := (Prod.mk.inj hw).1; omega
        · split at hw
          · have := (Prod.mk.inj hw).1; omega
          · exact hw.symm
      rw [dec_bad (hw.trans this)]
      have : (decide ((1 : Int) = (t.length : Int)) && decide ((1 : Int) > 0) && (decide ((65533 : Int) ≠ 65533) || decide ((1 : Int) > 1))) = false := by
        rw [show (decide ((65533 : Int) ≠ 65533) || decide ((1 : Int) > 1)) = false by decide, Bool.and_false]
      refine ⟨⟨65533, k.Mods⟩, false, ?_, ?_⟩
      · simp
      · rw [if_neg (fun h => by have := h.1; simp only at this; omega)]
    · have hn0 : 0 < n := by
        unfold whR at hw
        split at hw
        · have := (Prod.mk.inj hw).1; omega
        · split at hw
          · have := (Prod.mk.inj hw).1; omega
          · have := (Prod.mk.inj hw).1; omega
      obtain ⟨m, rfl⟩ := Int.eq_ofNat_of_zero_le (show 0 ≤ n by omega)
      rw [dec_good (n := m) (by omega) hw]
      by_cases hl : (m : Int) = (t.length : Int)
      · rw [hl] at hw
        obtain ⟨he, hR⟩ := enc_back hb h0 hw
        have h1 : (decide (v ≠ 65533) || decide ((m : Int) > 1)) = true := by
          by_cases hv : v = 65533
          · rw [hv, show encI 65533 = [239, 191, 189] by decide] at he
            rw [← he] at hl
            rw [decide_eq_true (show (m : Int) > 1 by simp at hl; omega), Bool.or_true]
          · rw [decide_eq_true hv, Bool.true_or]
        have h2 : (calledT v = t) ↔ ¬ v ∈ runesT := by
          have hm : (v ∈ runesT) ↔ (v = 9 ∨ v = 13 ∨ v = 27 ∨ v = 127 ∨ v = 32) := by simp
          rw [hm]
          constructor
          · intro hc hv
            rcases hv with rfl | rfl | rfl | rfl | rfl <;> (rw [← he] at hc; revert hc; decide)
          · intro hv
            unfold calledT
            rw [if_neg (by omega), if_neg (by omega), if_neg (by omega), if_neg (by omega), if_neg (by omega), he]
        rw [decide_eq_true hl, decide_eq_true (show (m : Int) > 0 by omega)]
        simp only [Bool.true_and, cond_true, Option.bind_some]
        rw [h1]
        simp only [Bool.true_and]
        rw [called_is hR]
        simp only [Option.bind_some]
        rw [and_s]
        refine Says.some_of ?_
        rw [Bool.eq_iff_iff]
        simp only [Bool.and_eq_true, decide_eq_true_eq]
        rw [h2]
        exact ⟨fun h => ⟨hl, h0, h.1, h.2⟩, fun h => ⟨h.2.2.1, h.2.2.2⟩⟩
      · rw [decide_eq_false hl]
        refine ⟨⟨v, k.Mods⟩, false, rfl, ?_⟩
        rw [if_neg (fun h => hl h.1)]
theorem byts_mods {s : List Int} (h : Byts s) : Byts (modsOf s).1 := byts_cut (byts_cut h)
theorem mods_is (s : List Int) : modsOf s = ((cutT (cutT s [67, 116, 114, 108, 45]).1 [65, 108, 116, 45]).1, (if (cutT s [67, 116, 114, 108, 45]).2 then 1 else 0) + (if (cutT (cutT s [67, 116, 114, 108, 45]).1 [65, 108, 116, 45]).2 then 2 else 0)) := rfl
theorem cut_keys {s p : List Int} {α : Type} (f : List Int → α) (g : α) {k : (α → Option (Key × Bool))} {r : Option Key} (h : Says (k (if (cutT s p).2 then f (cutT s p).1 else g)) r) :
    Says ((strings_CutPrefix s p).bind (fun y => Option.bind (bif y.2 then some (f y.1) else some g) k)) r := by
  rw [cut_is]
  revert h
  cases h : (cutT s p).2 <;> simp only [Option.bind_some, h, cond_true, cond_false, if_true, if_false, Bool.false_eq_true] <;> exact id
theorem cut_self {s p t : List Int} (h : cutT s p = (t, false)) : t = s := by
  unfold cutT at h
  split at h
  · cases h
  · exact (Prod.mk.inj h).1.symm
theorem parse_keys {s : List Int} (hb : Byts s) : Says (keys_parse s) (parseT s) := by
  have hb2 : Byts (modsOf s).1 := byts_mods hb
  unfold parseT
  rw [mods_is] at hb2 ⊢
  unfold keys_parse
  refine cut_keys (fun x => (x, Key.mk 0 1)) (s, Key.mk 0 0) ?_
  cases h : cutT s [67, 116, 114, 108, 45] with | mk t c =>
  rw [h] at hb2
  cases c
  · obtain rfl := cut_self h
    simp only [Bool.false_eq_true, if_false] at hb2 ⊢
    refine cut_keys (fun x => (x, Key.mk 0 2)) (t, Key.mk 0 0) ?_
    cases h' : cutT t [65, 108, 116, 45] with | mk t' c =>
    rw [h'] at hb2
    cases c
    · obtain rfl := cut_self h'
      exact tail_keys (k := ⟨0, 0⟩) hb2 rfl
    · exact tail_keys (k := ⟨0, 2⟩) hb2 rfl
  · simp only [if_true] at hb2 ⊢
    refine cut_keys (fun x => (x, Key.mk 0 3)) (t, Key.mk 0 1) ?_
    cases h' : cutT t [65, 108, 116, 45] with | mk t' c =>
    rw [h'] at hb2
    cases c
    · obtain rfl := cut_self h'
      exact tail_keys (k := ⟨0, 1⟩) hb2 rfl
    · exact tail_keys (k := ⟨0, 3⟩) hb2 rfl
end Go.Proofs.YtdlijnfdkeimlaaDoor.Am.Keys

set_option linter.all false
namespace Go.Proofs.YtdlijnfdkeimlaaDoor.Am.Keys
open Go.Proofs.YtdlijnfdkeimlaaDoor.Am.T
def splitT : List Int → List (List Int)
  | [] => [[]]
  | c :: r => if c = 32 then [] :: splitT r else match splitT r with | h :: t => (c :: h) :: t | [] => [[c]]
theorem split_ne (l : List Int) : splitT l ≠ [] := by
  cases l with
  | nil => simp [splitT]
  | cons c r => unfold splitT; split <;> (try split) <;> simp
theorem split_none : ∀ {l : List Int}, idxI l 32 = -1 → splitT l = [l] ∧ l.count 32 = 0
  | [], _ => ⟨rfl, rfl⟩
  | c :: r, h => by
    unfold idxI at h
    split at h
    · omega
    rename_i hc
    split at h
    · rename_i hr
      obtain ⟨e1, e2⟩ := split_none hr
      unfold splitT
      rw [if_neg hc, e1]
      refine ⟨rfl, ?_⟩
      rw [List.count_cons_of_ne (by simpa using hc), e2]
    · rename_i hr
      have : ∀ l : List Int, -1 ≤ idxI l 32 := by
        intro l
        induction l with
        | nil => exact Int.le_refl _
        | cons a l ih => unfold idxI; (repeat' split) <;> omega
      have := this r
      omega
theorem idx_ge : ∀ l : List Int, -1 ≤ idxI l 32
  | [] => Int.le_refl _
  | a :: l => by have := idx_ge l; unfold idxI; (repeat' split) <;> omega
theorem split_some : ∀ {l : List Int} {m : Nat}, idxI l 32 = (m : Int) → m < l.length ∧ splitT l = l.take m :: splitT (l.drop (m + 1)) ∧ l.count 32 = (l.drop (m + 1)).count 32 + 1
  | [], m, h => by unfold idxI at h; omega
  | c :: r, m, h => by
    unfold idxI at h
    split at h
    · rename_i hc
      obtain rfl : m = 0 := by omega
      subst hc
      refine ⟨by simp, ?_, ?_⟩
      · conv => lhs; unfold splitT
        rw [if_pos rfl]; rfl
      · rw [List.count_cons_self]; rfl
    rename_i hc
    split at h
    · omega
    rename_i hr
    obtain ⟨n, hn⟩ := Int.eq_ofNat_of_zero_le (show 0 ≤ idxI r 32 by have := idx_ge r; omega)
    obtain ⟨e0, e1, e2⟩ := split_some hn
    obtain rfl : m = n + 1 := by omega
    refine ⟨by simp; omega, ?_, ?_⟩
    · conv => lhs; unfold splitT
      rw [if_neg hc, e1]; rfl
    · rw [List.count_cons_of_ne (by simpa using hc), e2]; rfl
theorem split_len : ∀ l : List Int, (splitT l).length = l.count 32 + 1
  | [] => rfl
  | c :: r => by
    have ih := split_len r
    unfold splitT
    split
    · rename_i hc
      subst hc
      rw [List.count_cons_self, List.length_cons, ih]
    · rename_i hc
      rw [List.count_cons_of_ne (by simpa using hc), ← ih]
      have := split_ne r
      cases hs : splitT r with
      | nil => exact absurd hs this
      | cons h t => rfl
theorem min_w {n k : Nat} (h : n ≤ k) (hk : k < 2147483648) : min (w64 ((n : Int) + 1)) (w64 ((k : Int) + 1)) = ((n + 1 : Nat) : Int) := by
  rw [w64_id (by omega) (by omega), w64_id (by omega) (by omega)]; omega
theorem upI_is {α : Type} {l : List α} {i : Nat} {x : α} (h : i < l.length) : upI l (i : Int) x = l.set i x := by
  unfold upI
  first | rfl | simp
theorem cut_loop (s : List Int) (hs : s.length < 2147483648) : ∀ (k : Nat) (s' : List Int) (a : List (List Int)) (i : Nat), s'.length ≤ k → a.length = s.count 32 + 1 → i + s'.count 32 = s.count 32 → s'.length ≤ s.length →
    ∃ s2 a2 i2, iter (fun x => strings_genSplit_l2 s [32] 0 (w64 ((s.count 32 : Int) + 1)) x.1 x.2.1 x.2.2 : (List Int × List (List Int) × Int) → Option ((List Int × List (List Int) × Int) ⊕ (List Int × List (List Int) × Int))) (s', a, (i : Int)) = some (s2, a2, ((i2 : Nat) : Int))
      ∧ i2 = s.count 32 ∧ a2.length = a.length ∧ (a2.take i2 ++ [s2]) = a.take i ++ splitT s' := by
  intro k
  induction k with
  | zero =>
    intro s' a i hk ha hi hl
    obtain rfl : s' = [] := List.eq_nil_of_length_eq_zero (by omega)
    refine ⟨[], a, i, iter_inr ?_, by simpa using hi, rfl, rfl⟩
    simp only [strings_genSplit_l2, letB]
    rw [min_w (List.count_le_length) hs, w64_id (n := ((s.count 32 + 1 : Nat) : Int) - 1) (by omega) (by have := List.count_le_length (a := (32 : Int)) (l := s); omega)]
    rw [decide_eq_false (by simp at hi; omega)]
    rfl
  | succ k ih =>
    intro s' a i hk ha hi hl
    have hc := List.count_le_length (a := (32 : Int)) (l := s)
    have hc' := List.count_le_length (a := (32 : Int)) (l := s')
    by_cases h : idxI s' 32 = -1
    · obtain ⟨e1, e2⟩ := split_none h
      refine ⟨s', a, i, iter_inr ?_, by omega, rfl, by rw [e1]⟩
      simp only [strings_genSplit_l2, letB]
      rw [min_w (List.count_le_length) hs, w64_id (n := ((s.count 32 + 1 : Nat) : Int) - 1) (by omega) (by omega)]
      rw [decide_eq_false (by omega)]
      rfl
    · obtain ⟨m, hm⟩ := Int.eq_ofNat_of_zero_le (show 0 ≤ idxI s' 32 by have := idx_ge s'; omega)
      obtain ⟨f0, f1, f2⟩ := split_some hm
      obtain ⟨s2, a2, i2, g1, g2, g3, g4⟩ := ih (s'.drop (m + 1)) (a.set i (s'.take m)) (i + 1) (by rw [List.length_drop]; omega) (by rw [List.length_set]; exact ha) (by omega) (by rw [List.length_drop]; omega)
      refine ⟨s2, a2, i2, ?_, g2, by rw [g3, List.length_set], ?_⟩
      · rw [iter_inl (s' := (s'.drop (m + 1), a.set i (s'.take m), ((i + 1 : Nat) : Int)))]
        · exact g1
        · simp only [strings_genSplit_l2, letB, strings_Index]
          rw [min_w (List.count_le_length) hs, w64_id (n := ((s.count 32 + 1 : Nat) : Int) - 1) (by omega) (by omega)]
          rw [decide_eq_true (by omega)]
          simp only [cond_true, Option.bind_some, hm]
          rw [decide_eq_false (show ¬ (m : Int) < 0 by omega)]
          simp only [cond_false]
          rw [w64_id (n := (m : Int) + 0) (by omega) (by omega), w64_id (n := (m : Int) + (([32] : List Int).length : Int)) (by omega) (by simp; omega), w64_id (n := (i : Int) + 1) (by omega) (by omega)]
          unfold subB subA
          rw [if_pos (by omega), if_pos (by simp; omega)]
          rw [idx_is (d := []) (by omega) (by rw [ha]; omega)]
          simp only [Option.bind_some]
          rw [upI_is (by omega)]
          have t1 : ((m : Int) + 0).toNat = m := by omega
          have t2 : ((m : Int) + (([32] : List Int).length : Int)).toNat = m + 1 := by simp
          rw [t1, t2]
          rfl
      · rw [g4, f1]
        rw [List.take_succ_eq_append_getElem (by rw [List.length_set]; omega), List.take_set_of_le (Nat.le_refl i)]
        simp
theorem split_is {s : List Int} (hs : s.length ≤ 500000000) : strings_Split s [32] = some (splitT s) := by
  have hm := most_is
  have hc := List.count_le_length (a := (32 : Int)) (l := s)
  obtain ⟨s2, a2, i2, g1, g2, g3, g4⟩ := cut_loop s (by omega) s.length s (List.replicate (s.count 32 + 1) []) 0 (Nat.le_refl _) (by simp) (by omega) (Nat.le_refl _)
  unfold strings_Split strings_genSplit
  simp only [letB, strings_Count]
  rw [show decide ((-1 : Int) = 0) = false from rfl, show decide (([32] : List Int) = []) = false from rfl, show decide ((-1 : Int) < 0) = true from rfl]
  simp only [cond_true, cond_false, Option.bind_some]
  rw [w64_id (n := (s.count 32 : Int) + 1) (by omega) (by omega)] at g1 ⊢
  rw [w64_id (n := (s.length : Int) + 1) (by omega) (by omega)]
  rw [show min ((s.count 32 : Int) + 1) ((s.length : Int) + 1) = ((s.count 32 + 1 : Nat) : Int) by omega]
  unfold mkL
  rw [if_pos (by omega), Int.toNat_natCast]
  simp only [Option.bind_some]
  rw [show ((0 : Nat) : Int) = 0 from rfl] at g1
  rw [g1]
  simp only [Option.bind_some]
  rw [List.length_replicate] at g3
  rw [idx_is (d := []) (by omega) (by omega), upI_is (by omega), w64_id (by omega) (by omega)]
  simp only [Option.bind_some]
  unfold subB
  rw [if_pos (by rw [List.length_set]; omega)]
  simp only [Option.bind_some]
  rw [show ((i2 : Int) + 1).toNat = i2 + 1 by omega, List.take_succ_eq_append_getElem (by rw [List.length_set]; omega), List.take_set_of_le (Nat.le_refl _), List.getElem_set_self, g4]
  simp
theorem split_byts : ∀ {l : List Int}, Byts l → ∀ f ∈ splitT l, Byts f
  | [], _, f, hf => by
    simp only [splitT, List.mem_singleton] at hf
    subst hf; intro x hx; cases hx
  | c :: r, hb, f, hf => by
    have hr : Byts r := fun x hx => hb x (List.mem_cons_of_mem _ hx)
    have ih := split_byts hr
    have hc := hb c List.mem_cons_self
    unfold splitT at hf
    split at hf
    · rcases List.mem_cons.1 hf with rfl | hf
      · intro x hx; cases hx
      · exact ih f hf
    · split at hf
      · rename_i h t e
        rw [e] at ih
        rcases List.mem_cons.1 hf with rfl | hf
        · intro x hx
          rcases List.mem_cons.1 hx with rfl | hx
          · exact hc
          · exact ih h List.mem_cons_self x hx
        · exact ih f (List.mem_cons_of_mem _ hf)
      · rename_i e; exact absurd e (split_ne r)
def foldP : List Key → List (List Int) → Option (List Key)
  | out, [] => some out
  | out, f :: fs => if f = [] then foldP out fs else match parseT f with
    | some k => foldP (out ++ [k]) fs
    | none => none
def Ends {α : Type} (x : Option (Key ⊕ List Key)) (r : Option (List Key)) (n : Nat) : Prop := match r with
  | some ks => x = some (.inr ks) ∧ ks.length ≤ n
  | none => ∃ k, x = some (.inl k)
theorem keys_loop (y : List (List Int)) (hy : y.length ≤ 600000000) (hb : ∀ f ∈ y, Byts f) : ∀ (k i : Nat) (out : List Key), i + k = y.length → out.length ≤ i →
    Ends (α := Unit) (iter (fun s => keys_Parse_l1 y s.1 s.2 : (List Key × Int) → Option ((List Key × Int) ⊕ (Key ⊕ List Key))) (out, (i : Int))) (foldP out (y.drop i)) y.length := by
  intro k
  induction k with
  | zero =>
    intro i out hi ho
    rw [List.drop_eq_nil_of_le (by omega)]
    refine ⟨iter_inr ?_, by omega⟩
    simp only [keys_Parse_l1, letB]
    rw [decide_eq_false (by omega)]; rfl
  | succ k ih =>
    intro i out hi ho
    have hm := most_is
    have hlt : i < y.length := by omega
    have hbi : Byts y[i] := hb _ (List.getElem_mem hlt)
    have hx : idx y (i : Int) = some y[i] := by rw [idx_is (d := []) (by omega) (by omega), Int.toNat_natCast, List.getD_eq_getElem?_getD, List.getElem?_eq_getElem hlt]; rfl
    rw [List.drop_eq_getElem_cons hlt]
    unfold foldP
    have hst : keys_Parse_l1 y out (i : Int) = (if y[i] = [] then some (.inl (out, ((i + 1 : Nat) : Int))) else (keys_parse y[i]).bind fun y7 => if y7.2 then some (.inl (out ++ [y7.1], ((i + 1 : Nat) : Int))) else some (.inr (.inl y7.1))) := by
      simp only [keys_Parse_l1, letB]
      rw [decide_eq_true (by omega), hx, w64_id (by omega) (by omega)]
      simp only [cond_true, Option.bind_some]
      by_cases h : y[i] = []
      · rw [decide_eq_true h, if_pos h]; rfl
      · rw [decide_eq_false h, if_neg h]
        simp only [cond_false]
        obtain ⟨k', ok, e, _⟩ := parse_keys hbi
        rw [e]
        simp only [Option.bind_some]
        cases ok
        · rfl
        · simp only [Bool.not_true, cond_false, if_true]
          rw [app_some (by simp; omega)]; rfl
    by_cases h : y[i] = []
    · rw [if_pos h] at hst ⊢
      rw [iter_inl hst]
      exact ih (i + 1) out (by omega) (by omega)
    · rw [if_neg h] at hst ⊢
      obtain ⟨k', ok, e, hk⟩ := parse_keys hbi
      rw [e] at hst
      simp only [Option.bind_some] at hst
      cases hp : parseT y[i] with
      | none =>
        rw [hp] at hk
        simp only at hk
        subst hk
        exact ⟨k', iter_inr hst⟩
      | some k2 =>
        rw [hp] at hk
        obtain ⟨rfl, rfl⟩ := hk
        rw [iter_inl hst]
        exact ih (i + 1) _ (by omega) (by simp; omega)
theorem Parse_keys {s : List Int} (hb : Byts s) (hs : s.length ≤ 500000000) : keys_Parse s = some (match foldP [] (splitT s) with | some ks => (ks, 0) | none => ([], 180)) ∧ (∀ ks, foldP [] (splitT s) = some ks → ks.length ≤ most) := by
  have hm := most_is
  have hc := List.count_le_length (a := (32 : Int)) (l := s)
  have hl := split_len s
  have h := keys_loop (splitT s) (by omega) (split_byts hb) (splitT s).length 0 [] (by omega) (Nat.le_refl _)
  rw [List.drop_zero] at h
  unfold keys_Parse
  rw [split_is hs]
  simp only [Option.bind_some]
  rw [show ((0 : Nat) : Int) = 0 from rfl] at h
  cases hf : foldP [] (splitT s) with
  | none =>
    rw [hf] at h
    obtain ⟨k, e⟩ := h
    rw [e]
    exact ⟨rfl, fun _ h => by cases h⟩
  | some ks =>
    rw [hf] at h
    obtain ⟨e, h2⟩ := h
    rw [e]
    exact ⟨rfl, fun _ h => by cases h; omega⟩
end Go.Proofs.YtdlijnfdkeimlaaDoor.Am.Keys

set_option linter.all false
namespace Go.Proofs.YtdlijnfdkeimlaaDoor.Am.Keys
open Go.Proofs.YtdlijnfdkeimlaaDoor.Am.T
theorem Key.ext3 {a b : Key} : a = b ↔ a.Rune = b.Rune ∧ a.Mods = b.Mods := by
  constructor
  · rintro rfl; exact ⟨rfl, rfl⟩
  · rintro ⟨h1, h2⟩; cases a; cases b; simp only at h1 h2; subst h1; subst h2; rfl
theorem enc_fwd {r : Int} (h : isR r) : whR (encI r) ((encI r).getD 0 0) = (((encI r).length : Int), r) := by
  obtain ⟨h0, h1⟩ := isR_range h
  unfold encI
  by_cases c1 : r < 128
  · rw [if_pos c1]
    show whR [r] r = (1, r)
    unfold whR szOf
    rw [if_pos c1, if_pos rfl]
  rw [if_neg c1]
  by_cases c2 : r < 2048
  · rw [if_pos c2]
    show whR [192 + r / 64, 128 + r % 64] (192 + r / 64) = (2, r)
    have hs : szOf (192 + r / 64) = 2 := by
      unfold szOf
      rw [if_neg (by omega), if_neg (by omega), if_pos (by omega)]
    rw [wh_ok (by omega), hs, val2 hs, num2 (by omega) (by simp only [List.getD_cons_succ, List.getD_cons_zero]; omega)]
    · simp only [List.getD_cons_succ, List.getD_cons_zero]
      congr 1; omega
    · refine ⟨⟨by simp, ?_, ?_⟩, fun q => by omega, fun q => by omega⟩
      · simp only [List.getD_cons_succ, List.getD_cons_zero]
        unfold loOf; rw [if_neg (by omega), if_neg (by omega)]; omega
      · simp only [List.getD_cons_succ, List.getD_cons_zero]
        unfold hiOf; rw [if_neg (by omega), if_neg (by omega)]; omega
  rw [if_neg c2]
  by_cases c3 : r < 65536
  · rw [if_pos c3]
    show whR [224 + r / 4096, 128 + r / 64 % 64, 128 + r % 64] (224 + r / 4096) = (3, r)
    have hs : szOf (224 + r / 4096) = 3 := by
      unfold szOf
      rw [if_neg (by omega), if_neg (by omega), if_neg (by omega), if_pos (by omega)]
    rw [wh_ok (by omega), hs, val3 hs, num3 (by omega) (by simp only [List.getD_cons_succ, List.getD_cons_zero]; omega) (by simp only [List.getD_cons_succ, List.getD_cons_zero]; omega)]
    · simp only [List.getD_cons_succ, List.getD_cons_zero]
      congr 1; omega
    · unfold isR at h
      refine ⟨⟨by simp, ?_, ?_⟩, fun q => ⟨by simp, ?_, ?_⟩, fun q => by omega⟩
      · simp only [List.getD_cons_succ, List.getD_cons_zero]
        unfold loOf; (repeat' split) <;> omega
      · simp only [List.getD_cons_succ, List.getD_cons_zero]
        unfold hiOf; (repeat' split) <;> omega
      · simp only [List.getD_cons_succ, List.getD_cons_zero]; omega
      · simp only [List.getD_cons_succ, List.getD_cons_zero]; omega
  rw [if_neg c3]
  show whR [240 + r / 262144, 128 + r / 4096 % 64, 128 + r / 64 % 64, 128 + r % 64] (240 + r / 262144) = (4, r)
  have hs : szOf (240 + r / 262144) = 4 := by
    unfold szOf
    rw [if_neg (by omega), if_neg (by omega), if_neg (by omega), if_neg (by omega)]
  rw [wh_ok (by omega), hs, val4 hs, num4 (by omega) (by simp only [List.getD_cons_succ, List.getD_cons_zero]; omega) (by simp only [List.getD_cons_succ, List.getD_cons_zero]; omega) (by simp only [List.getD_cons_succ, List.getD_cons_zero]; omega)]
  · simp only [List.getD_cons_succ, List.getD_cons_zero]
    congr 1; omega
  · refine ⟨⟨by simp, ?_, ?_⟩, fun q => ⟨by simp, ?_, ?_⟩, fun q => ⟨by simp, ?_, ?_⟩⟩
    · simp only [List.getD_cons_succ, List.getD_cons_zero]
      unfold loOf; (repeat' split) <;> omega
    · simp only [List.getD_cons_succ, List.getD_cons_zero]
      unfold hiOf; (repeat' split) <;> omega
    · simp only [List.getD_cons_succ, List.getD_cons_zero]; omega
    · simp only [List.getD_cons_succ, List.getD_cons_zero]; omega
    · simp only [List.getD_cons_succ, List.getD_cons_zero]; omega
    · simp only [List.getD_cons_succ, List.getD_cons_zero]; omega
theorem enc_pos (r : Int) : 1 ≤ (encI r).length := by unfold encI; (repeat' split) <;> simp
theorem enc_ne (r : Int) : encI r ≠ [] := by unfold encI; (repeat' split) <;> simp
theorem rn_enc {r : Int} {x rs : List Int} (h : isR r) (hr : Rn x rs) : Rn (encI r ++ x) (r :: rs) := by
  have hw := enc_fwd h
  have hp := enc_pos r
  refine head_is (n := ((encI r).length : Int)) (enc_ne r) ?_ (dec_good hp hw) (by rw [Int.toNat_natCast, List.drop_length]; exact hr)
  unfold whR at hw
  split at hw
  · exact .inl (by omega)
  · split at hw
    · have := (Prod.mk.inj hw).1; exact .inr (.inl (by omega))
    · have := (Prod.mk.inj hw).1; omega
theorem ctl_range {r : Int} (h : 0 ≤ ctlT r) : ctlT r ≤ 31 ∧ ctlT r ≠ 27 ∧ oneK (ctlT r) = ⟨r, 1⟩ := by
  unfold ctlT at h ⊢
  split
  · rename_i e; subst e; exact ⟨by omega, by omega, rfl⟩
  · rename_i e; rw [if_neg e] at h
    split
    · rename_i e2
      refine ⟨by omega, by omega, ?_⟩
      unfold oneK
      rw [if_neg (by omega), if_neg (by omega), if_pos (by omega), show r - 96 + 96 = r by omega, w32_id (by omega) (by omega)]
    · rename_i e2; rw [if_neg e2] at h
      split
      · rename_i e3
        refine ⟨by omega, by omega, ?_⟩
        unfold oneK
        rw [if_neg (by omega), if_neg (by omega), if_neg (by omega), show r - 64 + 64 = r by omega, w32_id (by omega) (by omega)]
      · rename_i e3; rw [if_neg e3] at h; omega
theorem plain_one {r : Int} (h : plainT r) : oneK r = ⟨r, 0⟩ := by
  unfold oneK; rw [if_pos]; unfold plainT at h; omega
def ctlK (k : Key) : Int := if k.Mods = 1 ∨ k.Mods = 3 then ctlT k.Rune else k.Rune
def runesOf (k : Key) : List Int := if k.Mods = 2 ∨ k.Mods = 3 then [27, ctlK k] else [ctlK k]
theorem ctlK_rune {k : Key} (h : rightT k) : isR (ctlK k) := by
  unfold ctlK
  rcases h with h | h
  · rw [if_neg (by omega)]; exact plain_rune h.2
  · rw [if_pos h.1]
    have := ctl_range h.2
    exact .inl ⟨h.2, by omega⟩
theorem bytes_enc {k : Key} (h : rightT k) : bytesT k = (if k.Mods = 2 ∨ k.Mods = 3 then [27] else []) ++ encI (ctlK k) := by
  unfold bytesT ctlK
  congr 1
  rcases h with h | h
  · rw [if_neg (by omega), if_neg (by omega)]
  · rw [if_pos h.1, if_pos h.1]
    have := ctl_range h.2
    unfold encI
    rw [if_pos (by omega), w8_id h.2 (by omega)]
theorem rn_key {k : Key} {x rs : List Int} (h : rightT k) (hr : Rn x rs) : Rn (bytesT k ++ x) (runesOf k ++ rs) := by
  rw [bytes_enc h]
  unfold runesOf
  have h1 := rn_enc (ctlK_rune h) hr
  split
  · have := rn_enc (r := 27) (.inl ⟨by omega, by omega⟩) h1
    exact this
  · exact h1
theorem rn_keys : ∀ {ms : List Key}, (∀ k ∈ ms, rightT k) → Rn (ms.flatMap bytesT) (ms.flatMap runesOf)
  | [], _ => .nil
  | k :: ms, h => by
    rw [List.flatMap_cons, List.flatMap_cons]
    exact rn_key (h k List.mem_cons_self) (rn_keys fun x hx => h x (List.mem_cons_of_mem _ hx))
theorem drop_cons {y : List Int} {i : Nat} {c : Int} {r : List Int} (h : y.drop i = c :: r) : i < y.length ∧ y.getD i 0 = c ∧ y.drop (i + 1) = r := by
  have hl : i < y.length := by
    apply Classical.byContradiction
    intro hn
    rw [List.drop_eq_nil_of_le (by omega)] at h
    cases h
  rw [List.drop_eq_getElem_cons hl] at h
  injection h with h1 h2
  exact ⟨hl, by rw [List.getD_eq_getElem?_getD, List.getElem?_eq_getElem hl]; exact h1, h2⟩
theorem ctlK_no {k : Key} (h : rightT k) (h27 : k.Rune ≠ 27) : ctlK k ≠ 27 := by
  unfold ctlK
  rcases h with h | h
  · rw [if_neg (by omega)]; exact h27
  · rw [if_pos h.1]; exact (ctl_range h.2).2.1
theorem read_back (y : List Int) (hl : y.length ≤ most) : ∀ (ms : List Key) (i : Nat) (out : List Key), y.drop i = ms.flatMap runesOf → (∀ k ∈ ms, rightT k ∧ k.Rune ≠ 27) → out.length ≤ i →
    iter (fun s => keys_Read_l1 y s.1 s.2 : (List Key × Int) → Option ((List Key × Int) ⊕ List Key)) (out, (i : Int)) = some (out ++ ms)
  | [], i, out, hd, hk, ho => by
    have : y.length ≤ i := by rw [List.flatMap_nil, List.drop_eq_nil_iff] at hd; exact hd
    rw [List.append_nil]
    exact iter_inr (by
      simp only [keys_Read_l1, letB]
      rw [decide_eq_false (by omega)]; rfl)
  | k :: ms, i, out, hd, hk, ho => by
    have hm := most_is
    obtain ⟨hr, h27⟩ := hk k List.mem_cons_self
    have hc := ctlK_no hr h27
    have rest : ∀ i' out', y.drop i' = ms.flatMap runesOf → out'.length ≤ i' → iter (fun s => keys_Read_l1 y s.1 s.2 : (List Key × Int) → Option ((List Key × Int) ⊕ List Key)) (out', (i' : Int)) = some (out' ++ ms) := fun i' out' h1 h2 => read_back y hl ms i' out' h1 (fun x hx => hk x (List.mem_cons_of_mem _ hx)) h2
    have hM := right_mods hr
    rw [List.flatMap_cons] at hd
    unfold runesOf at hd
    have hone : (¬ (k.Mods = 2 ∨ k.Mods = 3) → oneK (ctlK k) = k) ∧ ((k.Mods = 2 ∨ k.Mods = 3) → Key.mk (oneK (ctlK k)).Rune (iOr .i64 (oneK (ctlK k)).Mods 2) = k) := by
      unfold ctlK
      rcases hr with h | h
      · rw [if_neg (by omega), plain_one h.2]
        refine ⟨fun hn => ?_, fun hn => ?_⟩
        · rw [Key.ext3]; exact ⟨rfl, by simp only; omega⟩
        · rw [Key.ext3]; exact ⟨rfl, by rw [show iOr .i64 0 2 = 2 from rfl]; simp only; omega⟩
      · rw [if_pos h.1, (ctl_range h.2).2.2]
        refine ⟨fun hn => ?_, fun hn => ?_⟩
        · rw [Key.ext3]; exact ⟨rfl, by simp only; omega⟩
        · rw [Key.ext3]; exact ⟨rfl, by rw [show iOr .i64 1 2 = 3 from rfl]; simp only; omega⟩
    by_cases ha : k.Mods = 2 ∨ k.Mods = 3
    · rw [if_pos ha] at hd
      obtain ⟨l1, g1, d1⟩ := drop_cons hd
      obtain ⟨l2, g2, d2⟩ := drop_cons (show y.drop (i + 1) = ctlK k :: ms.flatMap runesOf from d1)
      have hx : idx y (i : Int) = some 27 := by rw [idx_is (d := 0) (by omega) (by omega), Int.toNat_natCast, g1]
      have hx1 : idx y ((i + 1 : Nat) : Int) = some (ctlK k) := by rw [idx_is (d := 0) (by omega) (by omega), Int.toNat_natCast, g2]
      have w1 : w64 ((i : Int) + 1) = ((i + 1 : Nat) : Int) := by rw [w64_id (by omega) (by omega)]; rfl
      rw [iter_inl (s' := (out ++ [k], ((i + 2 : Nat) : Int))) (by
        simp only [keys_Read_l1, letB]
        rw [decide_eq_true (by omega), hx, w1, hx1]
        simp only [cond_true, Option.bind_some, decide_true]
        rw [decide_eq_true (by omega), decide_eq_true (show ctlK k ≠ 27 from hc)]
        simp only [cond_true, Option.bind_some, one_is]
        rw [hone.2 ha, app_some (by simp; omega)]
        simp only [Option.bind_some]
        rw [w64_id (by omega) (by omega)]; rfl), rest (i + 2) _ d2 (by simp; omega)]
      simp
    · rw [if_neg ha] at hd
      obtain ⟨l1, g1, d1⟩ := drop_cons (show y.drop i = ctlK k :: ms.flatMap runesOf from hd)
      have hx : idx y (i : Int) = some (ctlK k) := by rw [idx_is (d := 0) (by omega) (by omega), Int.toNat_natCast, g1]
      rw [iter_inl (s' := (out ++ [k], ((i + 1 : Nat) : Int))) (by
        simp only [keys_Read_l1, letB]
        rw [decide_eq_true (by omega), hx]
        simp only [cond_true, Option.bind_some]
        rw [decide_eq_false hc]
        simp only [cond_false, Option.bind_some, one_is]
        rw [hone.1 ha, app_some (by simp; omega)]
        simp only [Option.bind_some]
        rw [w64_id (by omega) (by omega)]; rfl), rest (i + 1) _ d1 (by simp; omega)]
      simp
theorem bytesT_len {k : Key} (h : rightT k) : Byts (bytesT k) ∧ (bytesT k).length ≤ 5 := by
  have he := encI_byts (ctlK_rune h)
  rw [bytes_enc h]
  split
  · refine ⟨Byts.append (fun x hx => ?_) he.1, by simp; omega⟩
    rw [List.mem_singleton.1 hx]; omega
  · exact ⟨he.1, by simp; omega⟩
theorem flat_byts {f : Key → List Int} {n : Nat} : ∀ {ms : List Key}, (∀ k ∈ ms, Byts (f k) ∧ (f k).length ≤ n) → Byts (ms.flatMap f) ∧ (ms.flatMap f).length ≤ n * ms.length
  | [], _ => ⟨fun x hx => (nomatch hx), Nat.zero_le _⟩
  | k :: ms, h => by
    obtain ⟨h1, h2⟩ := h k List.mem_cons_self
    obtain ⟨h3, h4⟩ := flat_byts fun x hx => h x (List.mem_cons_of_mem _ hx)
    rw [List.flatMap_cons]
    refine ⟨h1.append h3, ?_⟩
    rw [List.length_append, List.length_cons, Nat.mul_succ]; omega
theorem read_keys {ms : List Key} (h : ∀ k ∈ ms, rightT k ∧ k.Rune ≠ 27) (hl : ms.length ≤ 1048576) : keys_Read (ms.flatMap bytesT) = some ms := by
  have hm := most_is
  obtain ⟨hb, hbl⟩ := flat_byts (f := bytesT) (n := 5) fun k hk => bytesT_len (h k hk).1
  have hr := rn_keys fun k hk => (h k hk).1
  have hrl := hr.len
  have := read_back (ms.flatMap runesOf) (by omega) ms 0 [] (by rw [List.drop_zero]) h (Nat.le_refl _)
  unfold keys_Read
  rw [glyph_is hb (by omega) hr]
  simp only [Option.bind_some]
  rw [show ((0 : Nat) : Int) = 0 from rfl] at this
  rw [this]; rfl
end Go.Proofs.YtdlijnfdkeimlaaDoor.Am.Keys

set_option linter.all false
namespace Go.Proofs.YtdlijnfdkeimlaaDoor.Am.Keys
open Go.Proofs.YtdlijnfdkeimlaaDoor.Am.T
noncomputable def casementlaw18_KeysBack_l1 (ks : List Key) (b : List Int) (s_ : List Int) (mine : List Key) (t18 : Int) : Option ((List Int × List Int × List Key × Int) ⊕ (Key ⊕ (List Int × List Int × List Key))) :=
  letB (decide (t18 < (ks.length : Int))) fun c3 =>
  bif c3 then (
    Option.bind (
      (idx ks t18).bind fun x5 =>
      (keys_Right x5).bind fun y6 =>
      bif (!y6) then (
        (keys_Bytes x5).bind fun y8 =>
        letB (decide ((y8.length : Int) ≠ 0)) fun c9 =>
        (bif c9 then some true else (
          (keys_Name x5).bind fun y11 =>
          letB (decide (y11 ≠ [])) fun c12 =>
          some (c12))).bind fun g10 =>
        bif g10 then (
          some (.inr x5))
        else (
          some (.inl (b, s_, mine, x5))))
      else (
        (keys_Name x5).bind fun y15 =>
        (keys_Parse y15).bind fun y16 =>
        letB (decide (y16.2 ≠ 0)) fun c17 =>
        (bif c17 then some true else (
          letB (decide ((y16.1.length : Int) ≠ 1)) fun c19 =>
          some (c19))).bind fun g18 =>
        (bif g18 then some true else (
          (idx y16.1 0).bind fun x22 =>
          letB (!((decide (x22.Rune = x5.Rune) && (decide (x22.Mods = x5.Mods) && true)))) fun c23 =>
          some (c23))).bind fun g21 =>
        bif g21 then (
          some (.inr x5))
        else (
          letB (decide (x5.Rune = 27)) fun c26 =>
          bif c26 then (
            some (.inl (b, s_, mine, x5)))
          else (
            (app mine [x5]).bind fun x28 =>
            (keys_Bytes x5).bind fun y29 =>
            (app b y29).bind fun x30 =>
            (sadd s_ [32]).bind fun x31 =>
            (keys_Name x5).bind fun y32 =>
            (sadd x31 y32).bind fun x33 =>
            (sadd x33 [32]).bind fun x34 =>
            some (.inl (x30, x34, x28, x5))))) : Option ((List Int × List Int × List Key × Key) ⊕ Key)) fun j35 =>
    match j35 with
    | .inl z36 => (
      some (.inl (z36.1, z36.2.1, z36.2.2.1, w64 (t18 + 1))))
    | .inr z37 => (
      some (.inr (.inl z37))))
  else (
    some (.inr (.inr (b, s_, mine))))
noncomputable def casementlaw18_KeysBack (ks : List Key) : Option Bool :=
  (casementlaw18_alive).bind fun y1 =>
  bif (!y1) then (
    some false)
  else (
    (iter (fun s => casementlaw18_KeysBack_l1 ks s.1 s.2.1 s.2.2.1 s.2.2.2 : (List Int × List Int × List Key × Int) → Option ((List Int × List Int × List Key × Int) ⊕ (Key ⊕ (List Int × List Int × List Key)))) ([], [], [], 0)).bind fun j38 =>
    match j38 with
    | .inl z39 => (
      some false)
    | .inr z40 => (
      (keys_Parse z40.2.1).bind fun y41 =>
      (keys_Read z40.1).bind fun y42 =>
      (casementref18_Same y42 z40.2.2).bind fun y43 =>
      (bif y43 then (
        letB (decide (y41.2 = 0)) fun c45 =>
        some (c45)) else some false).bind fun g44 =>
      (bif g44 then (
        (casementref18_Same y41.1 z40.2.2).bind fun y48 =>
        some (y48)) else some false).bind fun g47 =>
      some g47))
set_option maxRecDepth 20000 in
theorem casementlaw18_KeysBack_ok {ks : List Key} {r : Bool} (h : casementlaw18_KeysBack ks = some r) : CallT true (RF ET) 6 [.sl false 2 (List.map Key.c ks)] [] (.bool r) [] := by
  refine CallT.quiet (con_low (af := a6) rfl rfl ?_) rfl
  unfold casementlaw18_KeysBack at h
  refine WP_seq ?_
  refine WP_reg [0] [] ?_
  refine WPO_f ?_
  refine WP_seq ?_
  refine WP_seq ?_
  refine WP_reg [0, 13] [] ?_
  refine WPO_f ?_
  obtain ⟨y1, hy1, h⟩ := bind_inv h
  refine ⟨_, casementlaw18_alive_ok hy1, ?_⟩
  refine WP_cond (b := (!y1)) rfl (fun hb2 => ?_) (fun hb2 => ?_)
  · replace h := bif_t hb2 h
    refine WP_seq ?_
    refine WP_reg [2] [] ?_
    refine WPO_f ?_
    refine WP_ret ?_
    cases h
    exact ⟨rfl, rfl, rfl, rfl, rfl⟩
  · replace h := bif_f hb2 h
    refine WP_skip ?_
    refine WP_seq ?_
    refine WP_reg [0, 3] [] ?_
    refine WPO_f ?_
    refine ⟨List.map by8 ([] : List Int), rfl, ?_⟩
    refine WP_seq ?_
    refine WP_reg [0, 3, 4] [] ?_
    refine WPO_f ?_
    refine WP_seq ?_
    refine WP_reg [0, 3, 4, 5] [] ?_
    refine WPO_f ?_
    refine ⟨List.map Key.c ([] : List Key), rfl, ?_⟩
    refine WP_seq ?_
    refine WP_seq ?_
    refine WP_reg [3, 4, 5, 16, 17, 18] [] ?_
    refine WPO_f ?_
    refine ⟨_, (List.length_map ..).symm, ?_⟩
    refine WP_block ?_
    obtain ⟨j38, hj38, h⟩ := bind_inv h
    refine WP_iter hj38 [] (fun s => ([(3, .sl true 1 (List.map by8 s.1)), (4, .str s.2.1), (5, .sl true 2 (List.map Key.c s.2.2.1)), (16, .sl false 2 (List.map Key.c ks)), (17, .int .i64 (ks.length : Int)), (18, .int .i64 s.2.2.2)], [], [])) (fun e => match e with | .ret => [2] | .exit 0 => [3, 4, 5] | _ => []) (fun e => match e with | .ret => [0] | .exit 0 => [] | _ => []) (fun r => match r with | .inl z => (.ret, [(2, .bool false)], [(0, (Key.c z))], []) | .inr z => (.exit 0, [(3, .sl true 1 (List.map by8 z.1)), (4, .str z.2.1), (5, .sl true 2 (List.map Key.c z.2.2))], [], [])) ?_ ?_ ?_
    · exact rfl
    · clear h
      rintro ⟨b, s_, mine, t18⟩ x h
      replace h : casementlaw18_KeysBack_l1 ks b s_ mine t18 = some x := h
      unfold casementlaw18_KeysBack_l1 at h
      show T.WP _ _ [(3, .sl true 1 (List.map by8 b)), (4, .str s_), (5, .sl true 2 (List.map Key.c mine)), (16, .sl false 2 (List.map Key.c ks)), (17, .int .i64 (ks.length : Int)), (18, .int .i64 t18)] [] [] _
      refine WP_seq ?_
      refine WP_reg [3, 4, 5, 16, 17, 18, 19] [] ?_
      refine WPO_f ?_
      refine fun c3 hc3 => ?_
      replace h := letB_inv hc3 h
      refine WP_seq ?_
      refine WP_cond (b := c3) rfl (fun hb4 => ?_) (fun hb4 => ?_)
      · replace h := bif_t hb4 h
        refine WP_skip ?_
        refine WP_seq ?_
        obtain ⟨j35, hj35, h⟩ := bind_inv h
        refine WP_cut j35 (fun r => match r with | .inl z => (.normal, [(3, .sl true 1 (List.map by8 z.1)), (4, .str z.2.1), (5, .sl true 2 (List.map Key.c z.2.2.1)), (16, .sl false 2 (List.map Key.c ks)), (17, .int .i64 (ks.length : Int)), (18, .int .i64 t18)], [(0, (Key.c z.2.2.2))], []) | .inr z => (.ret, [(2, .bool false)], [(0, (Key.c z))], [])) (fun e => match e with | .normal => [3, 4, 5, 16, 17, 18] | .ret => [2] | _ => []) (fun e => match e with | .normal => [0] | .ret => [0] | _ => []) ?_ ?_
        · clear h
          replace h := hj35
          clear hj35
          refine WP_block ?_
          refine WP_seq ?_
          refine WP_reg [3, 4, 5, 7, 16, 17, 18] [0] ?_
          refine WPO_f ?_
          obtain ⟨x5, hx5, h⟩ := bind_inv h
          refine And.intro (idx_nn hx5) ⟨_, idx_get Key.c hx5, ?_⟩
          refine WP_seq ?_
          refine WP_seq ?_
          refine WP_reg [3, 4, 5, 7, 16, 17, 18, 24] [0] ?_
          refine WPO_f ?_
          obtain ⟨y6, hy6, h⟩ := bind_inv h
          refine ⟨_, keys_Right_ok hy6, ?_⟩
          refine WP_cond (b := (!y6)) rfl (fun hb7 => ?_) (fun hb7 => ?_)
          · replace h := bif_t hb7 h
            refine WP_seq ?_
            refine WP_seq ?_
            refine WP_reg [3, 4, 5, 16, 17, 18, 33] [0] ?_
            refine WPO_then 5 ?_
            refine WPO_f ?_
            obtain ⟨y8, hy8, h⟩ := bind_inv h
            refine ⟨_, keys_Bytes_ok hy8, ?_⟩
            refine ⟨_, (List.length_map ..).symm, ?_⟩
            refine fun c9 hc9 => ?_
            replace h := letB_inv hc9 h
            obtain ⟨g10, hg10, h⟩ := bind_inv h
            refine WPO_grp 4 33 [3, 4, 5, 16, 17, 18, 33] g10 ?_ ?_
            · clear h
              replace h := hg10
              clear hg10
              cases hb13 : c9 with
              | false =>
                replace h := bif_f hb13 h
                refine WPO_f ?_
                obtain ⟨y11, hy11, h⟩ := bind_inv h
                refine ⟨_, keys_Name_ok hy11, ?_⟩
                refine fun c12 hc12 => ?_
                replace h := letB_inv hc12 h
                cases h
                exact ⟨rfl, rfl, rfl⟩
              | true =>
                replace h := bif_t hb13 h
                cases h
                refine WPO_f ?_
                exact ⟨rfl, rfl, rfl⟩
            refine WPO_f ?_
            refine WP_cond (b := g10) rfl (fun hb14 => ?_) (fun hb14 => ?_)
            · replace h := bif_t hb14 h
              refine WP_seq ?_
              refine WP_reg [2] [0] ?_
              refine WPO_f ?_
              refine WP_ret ?_
              cases h
              exact rfl
            · replace h := bif_f hb14 h
              refine WP_skip ?_
              refine WP_exit ?_
              cases h
              exact rfl
          · replace h := bif_f hb7 h
            refine WP_skip ?_
            refine WP_seq ?_
            refine WP_reg [3, 4, 5, 7, 8, 9, 16, 17, 18] [0] ?_
            refine WPO_f ?_
            obtain ⟨y15, hy15, h⟩ := bind_inv h
            refine ⟨_, keys_Name_ok hy15, ?_⟩
            obtain ⟨y16, hy16, h⟩ := bind_inv h
            refine ⟨_, keys_Parse_ok hy16, ?_⟩
            refine WP_seq ?_
            refine WP_seq ?_
            refine WP_reg [3, 4, 5, 7, 16, 17, 18, 53] [0] ?_
            refine WPO_then 3 ?_
            refine WPO_t ?_
            refine fun c17 hc17 => ?_
            replace h := letB_inv hc17 h
            obtain ⟨g18, hg18, h⟩ := bind_inv h
            refine WPO_grp 4 46 [3, 4, 5, 7, 8, 16, 17, 18, 46] g18 ?_ ?_
            · clear h
              replace h := hg18
              clear hg18
              cases hb20 : c17 with
              | false =>
                replace h := bif_f hb20 h
                refine WPO_t ?_
                refine ⟨_, (List.length_map ..).symm, ?_⟩
                refine fun c19 hc19 => ?_
                replace h := letB_inv hc19 h
                cases h
                exact ⟨rfl, rfl, rfl⟩
              | true =>
                replace h := bif_t hb20 h
                cases h
                refine WPO_t ?_
                exact ⟨rfl, rfl, rfl⟩
            refine WPO_then 1 ?_
            refine WPO_t ?_
            obtain ⟨g21, hg21, h⟩ := bind_inv h
            refine WPO_grp 6 53 [3, 4, 5, 7, 16, 17, 18, 53] g21 ?_ ?_
            · clear h
              replace h := hg21
              clear hg21
              cases hb24 : g18 with
              | false =>
                replace h := bif_f hb24 h
                refine WPO_t ?_
                obtain ⟨x22, hx22, h⟩ := bind_inv h
                refine And.intro (idx_nn hx22) ⟨_, idx_get Key.c hx22, ?_⟩
                refine fun c23 hc23 => ?_
                replace h := letB_inv hc23 h
                cases h
                exact ⟨rfl, rfl, rfl⟩
              | true =>
                replace h := bif_t hb24 h
                cases h
                refine WPO_t ?_
                exact ⟨rfl, rfl, rfl⟩
            refine WPO_t ?_
            refine WP_cond (b := g21) rfl (fun hb25 => ?_) (fun hb25 => ?_)
            · replace h := bif_t hb25 h
              refine WP_seq ?_
              refine WP_reg [2] [0] ?_
              refine WPO_f ?_
              refine WP_ret ?_
              cases h
              exact rfl
            · replace h := bif_f hb25 h
              refine WP_skip ?_
              refine WP_seq ?_
              refine WP_seq ?_
              refine WP_reg [3, 4, 5, 7, 16, 17, 18, 56] [0] ?_
              refine WPO_f ?_
              refine fun c26 hc26 => ?_
              replace h := letB_inv hc26 h
              refine WP_cond (b := c26) rfl (fun hb27 => ?_) (fun hb27 => ?_)
              · replace h := bif_t hb27 h
                refine WP_exit ?_
                cases h
                exact rfl
              · replace h := bif_f hb27 h
                refine WP_skip ?_
                refine WP_seq ?_
                refine WP_reg [3, 4, 5, 7, 16, 17, 18] [0] ?_
                refine WPO_f ?_
                refine ⟨List.map Key.c ([x5] : List Key), rfl, ?_⟩
                obtain ⟨x28, hx28, h⟩ := bind_inv h
                refine And.intro (app_le Key.c hx28) ⟨_, app_eq Key.c hx28, ?_⟩
                refine WP_seq ?_
                refine WP_reg [3, 4, 5, 7, 16, 17, 18] [0] ?_
                refine WPO_f ?_
                obtain ⟨y29, hy29, h⟩ := bind_inv h
                refine ⟨_, keys_Bytes_ok hy29, ?_⟩
                obtain ⟨x30, hx30, h⟩ := bind_inv h
                refine And.intro (app_le by8 hx30) ⟨_, app_eq by8 hx30, ?_⟩
                refine WP_reg [3, 4, 5, 16, 17, 18] [0] ?_
                refine WPO_f ?_
                obtain ⟨x31, hx31, h⟩ := bind_inv h
                refine And.intro (sadd_le hx31) ⟨_, sadd_eq hx31, ?_⟩
                obtain ⟨y32, hy32, h⟩ := bind_inv h
                refine ⟨_, keys_Name_ok hy32, ?_⟩
                obtain ⟨x33, hx33, h⟩ := bind_inv h
                refine And.intro (sadd_le hx33) ⟨_, sadd_eq hx33, ?_⟩
                obtain ⟨x34, hx34, h⟩ := bind_inv h
                refine And.intro (sadd_le hx34) ⟨_, sadd_eq hx34, ?_⟩
                cases h
                exact rfl
        rcases j35 with z36 | z37
        · refine WP_reg [3, 4, 5, 16, 17, 18] [0] ?_
          refine WPO_f ?_
          cases h
          exact ⟨_, rfl, rfl⟩
        · cases h
          exact ⟨_, rfl, rfl⟩
      · replace h := bif_f hb4 h
        refine WP_exit ?_
        cases h
        exact ⟨_, rfl, rfl⟩
    rcases j38 with z39 | z40
    · cases h
      exact ⟨rfl, rfl, rfl, rfl, rfl⟩
    · refine WP_seq ?_
      refine WP_reg [3, 5, 10, 11] [] ?_
      refine WPO_f ?_
      obtain ⟨y41, hy41, h⟩ := bind_inv h
      refine ⟨_, keys_Parse_ok hy41, ?_⟩
      refine WP_seq ?_
      refine WP_reg [2] [] ?_
      refine WPO_then 5 ?_
      refine WPO_f ?_
      obtain ⟨y42, hy42, h⟩ := bind_inv h
      refine ⟨_, keys_Read_ok hy42, ?_⟩
      obtain ⟨y43, hy43, h⟩ := bind_inv h
      refine ⟨_, casementref18_Same_ok hy43, ?_⟩
      obtain ⟨g44, hg44, h⟩ := bind_inv h
      refine WPO_grp 3 84 [5, 10, 84] g44 ?_ ?_
      · clear h
        replace h := hg44
        clear hg44
        cases hb46 : y43 with
        | true =>
          replace h := bif_t hb46 h
          refine WPO_f ?_
          refine fun c45 hc45 => ?_
          replace h := letB_inv hc45 h
          cases h
          exact ⟨rfl, rfl, rfl⟩
        | false =>
          replace h := bif_f hb46 h
          cases h
          refine WPO_f ?_
          exact ⟨rfl, rfl, rfl⟩
      refine WPO_then 1 ?_
      refine WPO_f ?_
      obtain ⟨g47, hg47, h⟩ := bind_inv h
      refine WPO_grp 4 89 [89] g47 ?_ ?_
      · clear h
        replace h := hg47
        clear hg47
        cases hb49 : g44 with
        | true =>
          replace h := bif_t hb49 h
          refine WPO_f ?_
          obtain ⟨y48, hy48, h⟩ := bind_inv h
          refine ⟨_, casementref18_Same_ok hy48, ?_⟩
          cases h
          exact ⟨rfl, rfl, rfl⟩
        | false =>
          replace h := bif_f hb49 h
          cases h
          refine WPO_f ?_
          exact ⟨rfl, rfl, rfl⟩
      refine WPO_f ?_
      refine WP_ret ?_
      cases h
      exact ⟨rfl, rfl, rfl, rfl, rfl⟩
end Go.Proofs.YtdlijnfdkeimlaaDoor.Am.Keys

set_option linter.all false
namespace Go.Proofs.YtdlijnfdkeimlaaDoor.Am.Keys
open Go.Proofs.YtdlijnfdkeimlaaDoor.Am.T
def nameT (k : Key) : List Int := preT k.Mods ++ calledT k.Rune
theorem mem_runes {r : Int} : r ∈ runesT ↔ (r = 9 ∨ r = 13 ∨ r = 27 ∨ r = 127 ∨ r = 32) := by simp
theorem called_enc {r : Int} (h : ¬ r ∈ runesT) : calledT r = encI r := by
  rw [mem_runes] at h
  unfold calledT
  rw [if_neg (by omega), if_neg (by omega), if_neg (by omega), if_neg (by omega), if_neg (by omega)]
theorem enc_head {r : Int} (h : isR r) : (encI r).length < 3 ∨ 224 ≤ (encI r).getD 0 0 := by
  obtain ⟨h0, h1⟩ := isR_range h
  unfold encI
  split
  · exact .inl (by simp)
  · split
    · exact .inl (by simp)
    · split
      · right; simp only [List.getD_cons_zero]; omega
      · right; simp only [List.getD_cons_zero]; omega
theorem name_none {l : List Int} (h : l.length < 3 ∨ 224 ≤ l.getD 0 0) : nameOf l = none := by
  unfold nameOf
  rw [if_neg, if_neg, if_neg, if_neg, if_neg]
  all_goals
    rintro rfl
    revert h
    decide
theorem enc_noB {r : Int} (h : isR r) (h32 : r ≠ 32) : ∀ x ∈ encI r, x ≠ 32 := by
  obtain ⟨h0, h1⟩ := isR_range h
  unfold encI
  (repeat' split) <;> intro x hx <;> simp only [List.mem_cons, List.not_mem_nil, or_false] at hx <;> omega
theorem called_cases {r : Int} (h : isR r) {P : List Int → Prop} (h1 : ∀ r ∈ runesT, P (calledT r)) (h2 : ¬ r ∈ runesT → P (encI r)) : P (calledT r) := by
  by_cases hr : r ∈ runesT
  · exact h1 r hr
  · rw [called_enc hr]; exact h2 hr
theorem called_noB {r : Int} (h : isR r) : ∀ x ∈ calledT r, x ≠ 32 :=
  called_cases (P := fun l => ∀ x ∈ l, x ≠ 32) h (by decide) (fun hr => enc_noB h (fun e => hr (by rw [e]; decide)))
theorem called_ne {r : Int} (h : isR r) : calledT r ≠ [] :=
  called_cases (P := fun l => l ≠ []) h (by decide) (fun _ => enc_ne r)
theorem called_byts {r : Int} (h : isR r) : Byts (calledT r) :=
  called_cases (P := Byts) h (by unfold Byts; decide) (fun _ => (encI_byts h).1)
theorem called_no {r : Int} (h : isR r) : (calledT r).length < 4 ∨ ((calledT r).getD 0 0 ≠ 65 ∧ (calledT r).getD 0 0 ≠ 67) :=
  called_cases (P := fun l => l.length < 4 ∨ (l.getD 0 0 ≠ 65 ∧ l.getD 0 0 ≠ 67)) h (by decide) (fun _ => (enc_head h).imp (fun h => by omega) (fun h => by omega))
theorem cut_app (p c : List Int) : cutT (p ++ c) p = (c, true) := by
  unfold cutT
  rw [List.take_left, if_pos rfl, List.drop_left]
theorem cut_ctrl {c : List Int} (h : c.length < 4 ∨ (c.getD 0 0 ≠ 65 ∧ c.getD 0 0 ≠ 67)) : cutT c [67, 116, 114, 108, 45] = (c, false) := by
  unfold cutT
  rw [if_neg]
  intro e
  match c with
  | [] => cases e
  | a :: r =>
    have hl := congrArg List.length e
    simp only [List.length_take, List.length_cons, List.length_nil] at hl
    simp only [List.length_cons, List.take_succ_cons] at e h
    injection e with e1 _
    simp only [List.getD_cons_zero] at h
    omega
theorem cut_alt {c : List Int} (h : c.length < 4 ∨ (c.getD 0 0 ≠ 65 ∧ c.getD 0 0 ≠ 67)) : cutT c [65, 108, 116, 45] = (c, false) := by
  unfold cutT
  rw [if_neg]
  intro e
  match c with
  | [] => cases e
  | a :: r =>
    have hl := congrArg List.length e
    simp only [List.length_take, List.length_cons, List.length_nil] at hl
    simp only [List.length_cons, List.take_succ_cons] at e h
    injection e with e1 _
    simp only [List.getD_cons_zero] at h
    omega
theorem mods_name {c : List Int} {m : Int} (hm : m = 0 ∨ m = 1 ∨ m = 2 ∨ m = 3) (h : c.length < 4 ∨ (c.getD 0 0 ≠ 65 ∧ c.getD 0 0 ≠ 67)) : modsOf (preT m ++ c) = (c, m) := by
  rw [mods_is]
  rcases hm with rfl | rfl | rfl | rfl
  · rw [show preT 0 ++ c = c from rfl, cut_ctrl h]
    simp only
    rw [cut_alt h]; rfl
  · rw [show preT 1 ++ c = [67, 116, 114, 108, 45] ++ c from rfl, cut_app]
    simp only
    rw [cut_alt h]; rfl
  · rw [show preT 2 ++ c = [65, 108, 116, 45] ++ c from rfl]
    have : cutT ([65, 108, 116, 45] ++ c) [67, 116, 114, 108, 45] = ([65, 108, 116, 45] ++ c, false) := by
      unfold cutT
      rw [if_neg]
      intro e
      rw [List.cons_append] at e
      simp only [List.length_cons, List.take_succ_cons] at e
      injection e with e1 _
      revert e1; decide
    rw [this]
    simp only
    rw [cut_app]; rfl
  · rw [show preT 3 ++ c = [67, 116, 114, 108, 45] ++ ([65, 108, 116, 45] ++ c) from rfl, cut_app]
    simp only
    rw [cut_app]; rfl
theorem parse_name {k : Key} (h : rightT k) : parseT (nameT k) = some k := by
  have hR := right_rune h
  unfold parseT nameT
  rw [mods_name (right_mods h) (called_no hR)]
  simp only
  unfold keyOf
  by_cases hr : k.Rune ∈ runesT
  · have : nameOf (calledT k.Rune) = some k.Rune := by
      generalize k.Rune = r at hr
      revert r
      decide
    rw [this]
    simp only
    rw [if_pos h]
  · rw [called_enc hr, name_none (enc_head hR)]
    simp only
    rw [enc_fwd hR, if_pos ⟨rfl, enc_ne _, h, hr⟩]
theorem name_noB {k : Key} (h : rightT k) : ∀ x ∈ nameT k, x ≠ 32 := by
  intro x hx
  rcases List.mem_append.1 hx with hx | hx
  · have key : ∀ m : Int, ∀ x ∈ preT m, x ≠ 32 := by
      intro m
      unfold preT
      (repeat' split) <;> decide
    exact key _ x hx
  · exact called_noB (right_rune h) x hx
theorem name_ne {k : Key} (h : rightT k) : nameT k ≠ [] := fun e => called_ne (right_rune h) (List.append_eq_nil_iff.1 e).2
theorem pre_byts (m : Int) : Byts (preT m) := by
  unfold preT Byts
  (repeat' split) <;> decide
theorem name_byts {k : Key} (h : rightT k) : Byts (nameT k) ∧ (nameT k).length ≤ 14 := by
  have h1 := pre_len k.Mods
  have h2 := called_len (right_rune h)
  refine ⟨(pre_byts _).append (called_byts (right_rune h)), ?_⟩
  unfold nameT
  rw [List.length_append]; omega
theorem split_word : ∀ (f : List Int) (r : List Int), (∀ x ∈ f, x ≠ 32) → splitT (f ++ 32 :: r) = f :: splitT r
  | [], r, _ => by
    show splitT (32 :: r) = _
    conv => lhs; unfold splitT
    rw [if_pos rfl]
  | c :: f, r, h => by
    have ih := split_word f r fun x hx => h x (List.mem_cons_of_mem _ hx)
    rw [List.cons_append]
    conv => lhs; unfold splitT
    rw [if_neg (h c List.mem_cons_self), ih]
theorem split_only : ∀ (f : List Int), (∀ x ∈ f, x ≠ 32) → splitT f = [f]
  | [], _ => rfl
  | c :: f, h => by
    have ih := split_only f fun x hx => h x (List.mem_cons_of_mem _ hx)
    conv => lhs; unfold splitT
    rw [if_neg (h c List.mem_cons_self), ih]
def wordT (k : Key) : List Int := 32 :: (nameT k ++ [32])
theorem fold_one (out : List Key) {k : Key} (h : rightT k) (L : List (List Int)) : foldP out (nameT k :: L) = foldP (out ++ [k]) L := by
  conv => lhs; unfold foldP
  rw [if_neg (name_ne h), parse_name h]
theorem fold_words : ∀ (ms : List Key) (out : List Key), (∀ k ∈ ms, rightT k) → foldP out (splitT (ms.flatMap wordT)) = some (out ++ ms)
  | [], out, _ => by simp [splitT, foldP]
  | k :: ms, out, h => by
    have ih := fold_words ms (out ++ [k]) fun x hx => h x (List.mem_cons_of_mem _ hx)
    have hk := h k List.mem_cons_self
    rw [List.flatMap_cons]
    unfold wordT
    rw [List.cons_append]
    conv => lhs; arg 2; unfold splitT
    rw [if_pos rfl]
    conv => lhs; unfold foldP
    rw [if_pos rfl, List.append_assoc]
    show foldP out (splitT (nameT k ++ 32 :: ms.flatMap wordT)) = _
    rw [split_word _ _ (name_noB hk), fold_one out hk, ih]
    simp
theorem word_byts {k : Key} (h : rightT k) : Byts (wordT k) ∧ (wordT k).length ≤ 16 := by
  obtain ⟨h1, h2⟩ := name_byts h
  unfold wordT
  refine ⟨fun x hx => ?_, by simp; omega⟩
  rcases List.mem_cons.1 hx with rfl | hx
  · omega
  · rcases List.mem_append.1 hx with hx | hx
    · exact h1 x hx
    · rw [List.mem_singleton.1 hx]; omega
theorem parse_one {k : Key} (h : rightT k) : keys_Parse (nameT k) = some ([k], 0) := by
  obtain ⟨hb, hl⟩ := name_byts h
  have := (Parse_keys hb (by omega)).1
  rw [split_only _ (name_noB h), fold_one [] h] at this
  exact this
theorem name_is' {k : Key} (h : rightT k) : keys_Name k = some (nameT k) := by rw [name_is, if_pos h]; rfl
theorem back_loop (ks : List Key) (hl : ks.length ≤ 1048576) : ∀ (n i : Nat) (mine : List Key), i + n = ks.length → mine.length ≤ i → (∀ k ∈ mine, rightT k ∧ k.Rune ≠ 27) →
    ∃ ms, iter (fun s => casementlaw18_KeysBack_l1 ks s.1 s.2.1 s.2.2.1 s.2.2.2 : (List Int × List Int × List Key × Int) → Option ((List Int × List Int × List Key × Int) ⊕ (Key ⊕ (List Int × List Int × List Key)))) (mine.flatMap bytesT, mine.flatMap wordT, mine, (i : Int)) = some (.inr (ms.flatMap bytesT, ms.flatMap wordT, ms)) ∧ ms.length ≤ ks.length ∧ (∀ k ∈ ms, rightT k ∧ k.Rune ≠ 27)
  | 0, i, mine, hi, hm, hk => by
    refine ⟨mine, iter_inr ?_, by omega, hk⟩
    simp only [casementlaw18_KeysBack_l1, letB]
    rw [decide_eq_false (by omega)]; rfl
  | n + 1, i, mine, hi, hm, hk => by
    have hmo := most_is
    have h1 : i < ks.length := by omega
    have hx : idx ks (i : Int) = some ks[i] := by rw [idx_is (d := ⟨0, 0⟩) (by omega) (by omega), Int.toNat_natCast, List.getD_eq_getElem?_getD, List.getElem?_eq_getElem h1]; rfl
    generalize ks[i] = k at *
    have skip : casementlaw18_KeysBack_l1 ks (mine.flatMap bytesT) (mine.flatMap wordT) mine (i : Int) = some (.inl (mine.flatMap bytesT, mine.flatMap wordT, mine, ((i + 1 : Nat) : Int))) → ∃ ms, iter (fun s => casementlaw18_KeysBack_l1 ks s.1 s.2.1 s.2.2.1 s.2.2.2 : (List Int × List Int × List Key × Int) → Option ((List Int × List Int × List Key × Int) ⊕ (Key ⊕ (List Int × List Int × List Key)))) (mine.flatMap bytesT, mine.flatMap wordT, mine, (i : Int)) = some (.inr (ms.flatMap bytesT, ms.flatMap wordT, ms)) ∧ ms.length ≤ ks.length ∧ (∀ k ∈ ms, rightT k ∧ k.Rune ≠ 27) := fun h => by
      obtain ⟨ms, e, r⟩ := back_loop ks hl n (i + 1) mine (by omega) (by omega) hk
      exact ⟨ms, by rw [iter_inl h]; exact e, r⟩
    by_cases hr : rightT k
    · have hsame : (decide (k.Rune = k.Rune) && (decide (k.Mods = k.Mods) && true)) = true := by simp
      by_cases h27 : k.Rune = 27
      · apply skip
        simp only [casementlaw18_KeysBack_l1, letB]
        rw [decide_eq_true (by omega), hx, w64_id (by omega) (by omega)]
        simp only [cond_true, Option.bind_some, right_is]
        rw [decide_eq_true hr]
        simp only [Bool.not_true, cond_false, name_is' hr, Option.bind_some, parse_one hr]
        rw [show idx [k] 0 = some k from rfl]
        simp only [Option.bind_some, hsame, decide_eq_true h27]
        rfl
      · obtain ⟨hb1, hb2⟩ := flat_byts (f := bytesT) (n := 5) fun k hx => bytesT_len (hk k hx).1
        obtain ⟨hw1, hw2⟩ := flat_byts (f := wordT) (n := 16) fun k hx => word_byts (hk k hx).1
        have hb3 := (bytesT_len hr).2
        have hn := (name_byts hr).2
        have hk' : ∀ x ∈ mine ++ [k], rightT x ∧ x.Rune ≠ 27 := by
          intro x hx
          rcases List.mem_append.1 hx with hx | hx
          · exact hk x hx
          · rw [List.mem_singleton.1 hx]; exact ⟨hr, h27⟩
        obtain ⟨ms, e, r⟩ := back_loop ks hl n (i + 1) (mine ++ [k]) (by omega) (by simp; omega) hk'
        refine ⟨ms, ?_, r⟩
        rw [iter_inl (s' := ((mine ++ [k]).flatMap bytesT, (mine ++ [k]).flatMap wordT, mine ++ [k], ((i + 1 : Nat) : Int)))]
        · exact e
        · simp only [casementlaw18_KeysBack_l1, letB]
          rw [decide_eq_true (by omega), hx, w64_id (by omega) (by omega)]
          simp only [cond_true, Option.bind_some, right_is]
          rw [decide_eq_true hr]
          simp only [Bool.not_true, cond_false, name_is' hr, Option.bind_some, parse_one hr]
          rw [show idx [k] 0 = some k from rfl]
          simp only [Option.bind_some, hsame, decide_eq_false h27]
          rw [app_some (show mine.length + [k].length ≤ most by simp; omega), bytes_is, if_pos hr]
          simp only [Option.bind_some]
          rw [app_some (by omega)]
          unfold sadd
          rw [if_pos (by simp only [List.length_append, List.length_cons, List.length_nil]; omega)]
          simp only [Option.bind_some]
          rw [if_pos (by simp only [List.length_append, List.length_cons, List.length_nil]; omega)]
          simp only [Option.bind_some]
          rw [if_pos (by simp only [List.length_append, List.length_cons, List.length_nil]; omega)]
          simp only [Option.bind_some, List.flatMap_append, List.flatMap_cons, List.flatMap_nil, List.append_nil, List.append_assoc, wordT, List.cons_append, List.nil_append]
          rfl
    · apply skip
      simp only [casementlaw18_KeysBack_l1, letB]
      rw [decide_eq_true (by omega), hx, w64_id (by omega) (by omega)]
      simp only [cond_true, Option.bind_some, right_is]
      rw [decide_eq_false hr, bytes_is, name_is, if_neg hr, if_neg hr]
      rfl
theorem back_pure {ks : List Key} (hl : ks.length ≤ 1048576) : casementlaw18_KeysBack ks = some true := by
  have hm := most_is
  obtain ⟨ms, e, h1, h2⟩ := back_loop ks hl ks.length 0 [] (by omega) (Nat.le_refl _) (fun k hk => (nomatch hk))
  rw [show ((0 : Nat) : Int) = 0 from rfl, List.flatMap_nil, List.flatMap_nil] at e
  obtain ⟨hw1, hw2⟩ := flat_byts (f := wordT) (n := 16) fun k hx => word_byts (h2 k hx).1
  have hp := (Parse_keys hw1 (by omega)).1
  rw [fold_words ms [] fun k hk => (h2 k hk).1] at hp
  unfold casementlaw18_KeysBack casementlaw18_alive
  simp only [Option.bind_some, Bool.not_true, cond_false, letB]
  rw [e]
  simp only [Option.bind_some]
  rw [hp]
  simp only [Option.bind_some, List.nil_append]
  rw [read_keys h2 (by omega)]
  simp only [Option.bind_some]
  rw [same_is (by omega)]
  rfl
end Go.Proofs.YtdlijnfdkeimlaaDoor.Am.Keys

set_option linter.all false
namespace Go.Proofs.YtdlijnfdkeimlaaDoor.Am.Keys
open Go.Proofs.YtdlijnfdkeimlaaDoor.Am.T
theorem Key.ext2 {a b : Key} : a = b ↔ a.Rune = b.Rune ∧ a.Mods = b.Mods := by
  constructor
  · rintro rfl; exact ⟨rfl, rfl⟩
  · rintro ⟨h1, h2⟩; cases a; cases b; simp only at h1 h2; subst h1; subst h2; rfl
instance : DecidableEq Key := fun a b => decidable_of_iff _ (Key.ext2 (a := a) (b := b)).symm
theorem key_dec (a b : Key) : (decide (a.Rune = b.Rune) && (decide (a.Mods = b.Mods) && true)) = decide (a = b) := by
  rw [Bool.eq_iff_iff]; simp only [Bool.and_eq_true, decide_eq_true_eq, and_true]; exact Key.ext2.symm
theorem same_loop {f : Int → Option (Int ⊕ (Unit ⊕ Unit))} (a b : List Key) (hl : a.length ≤ b.length)
    (hs : ∀ i : Nat, i < a.length → f (i : Int) = if a.getD i ⟨0, 0⟩ = b.getD i ⟨0, 0⟩ then some (.inl ((i + 1 : Nat) : Int)) else some (.inr (.inl ())))
    (he : f (a.length : Int) = some (.inr (.inr ()))) : ∀ (k i : Nat), i + k = a.length →
    iter f (i : Int) = some (if a.drop i <+: b.drop i then .inr () else .inl ())
  | 0, i, hi => by
    obtain rfl : i = a.length := by omega
    rw [List.drop_length, if_pos (List.nil_prefix)]
    exact iter_inr he
  | k + 1, i, hi => by
    have h1 : i < a.length := by omega
    have h2 : i < b.length := by omega
    have st := hs i h1
    have e1 : a.getD i ⟨0, 0⟩ = a[i] := by rw [List.getD_eq_getElem?_getD, List.getElem?_eq_getElem h1]; rfl
    have e2 : b.getD i ⟨0, 0⟩ = b[i] := by rw [List.getD_eq_getElem?_getD, List.getElem?_eq_getElem h2]; rfl
    rw [e1, e2] at st
    rw [List.drop_eq_getElem_cons h1, List.drop_eq_getElem_cons h2]
    by_cases h : a[i] = b[i]
    · rw [if_pos h] at st
      rw [iter_inl st, same_loop a b hl hs he k (i + 1) (by omega)]
      congr 1
      by_cases hp : a.drop (i + 1) <+: b.drop (i + 1)
      · rw [if_pos hp, if_pos (List.cons_prefix_cons.2 ⟨h, hp⟩)]
      · rw [if_neg hp, if_neg fun hh => hp (List.cons_prefix_cons.1 hh).2]
    · rw [if_neg h] at st
      rw [iter_inr st, if_neg fun hh => h (List.cons_prefix_cons.1 hh).1]
theorem pre_len_eq {a b : List Key} (h : a <+: b) (hl : b.length ≤ a.length) : a = b := h.eq_of_length_le hl
theorem equal_dec {a b : List Key} (hl : a.length ≤ most) : slices_Equal_66 a b = some (decide (a = b)) := by
  have hm := most_is
  unfold slices_Equal_66
  simp only [letB]
  by_cases h : a.length = b.length
  · rw [decide_eq_false (by omega)]
    have := same_loop (f := fun s => slices_Equal_66_l1 a b s) a b (by omega) (fun i hi => by
      simp only [slices_Equal_66_l1, letB]
      rw [decide_eq_true (by omega), idx_is (d := ⟨0, 0⟩) (by omega) (by omega), idx_is (d := ⟨0, 0⟩) (by omega) (by omega)]
      simp only [cond_true, Option.bind_some, key_dec, Int.toNat_natCast]
      rw [w64_id (by omega) (by omega)]
      split
      · rename_i e; rw [decide_eq_true e]; rfl
      · rename_i e; rw [decide_eq_false e]; rfl) (by
      simp only [slices_Equal_66_l1, letB]
      rw [decide_eq_false (by omega)]; rfl) a.length 0 (by omega)
    rw [show ((0 : Nat) : Int) = 0 from rfl] at this
    simp only [cond_false]
    rw [this, List.drop_zero, List.drop_zero]
    by_cases hp : a <+: b
    · rw [if_pos hp, decide_eq_true (pre_len_eq hp (by omega))]; rfl
    · rw [if_neg hp, decide_eq_false (show ¬ a = b from fun e => hp (e ▸ List.prefix_rfl))]; rfl
  · rw [decide_eq_true (by omega), decide_eq_false (fun e => h (by rw [e]))]; rfl
theorem pre_dec {a b : List Key} (hl : a.length ≤ most) : keys_begins a b = some (decide (a <+: b)) := by
  unfold keys_begins
  simp only [letB]
  by_cases h : a.length ≤ b.length
  · rw [decide_eq_true (by omega)]
    unfold subB
    rw [if_pos (by omega), Int.toNat_natCast]
    simp only [cond_true, Option.bind_some, equal_dec hl]
    congr 1
    rw [decide_eq_decide]
    exact List.prefix_iff_eq_take.symm
  · rw [decide_eq_false (by omega), decide_eq_false (fun hp => h hp.length_le)]; rfl
theorem index_loop (s : List Key) (hl : s.length ≤ most) : ∀ (k i : Nat), i + k = s.length →
    ∃ r : Int ⊕ Unit, iter (fun x => slices_IndexFunc_99_l1 s 65 x : Int → Option (Int ⊕ (Int ⊕ Unit))) (i : Int) = some r ∧ (match r with | .inl j => 0 ≤ j ∧ ∃ k ∈ s.drop i, ¬ rightT k | .inr _ => ∀ k ∈ s.drop i, rightT k)
  | 0, i, hi => by
    refine ⟨.inr (), iter_inr ?_, ?_⟩
    · simp only [slices_IndexFunc_99_l1, letB]
      rw [decide_eq_false (by omega)]; rfl
    · rw [List.drop_eq_nil_of_le (by omega)]; intro k hk; cases hk
  | k + 1, i, hi => by
    have hm := most_is
    have h1 : i < s.length := by omega
    have hx : idx s (i : Int) = some s[i] := by rw [idx_is (d := ⟨0, 0⟩) (by omega) (by omega), Int.toNat_natCast, List.getD_eq_getElem?_getD, List.getElem?_eq_getElem h1]; rfl
    rw [List.drop_eq_getElem_cons h1]
    have st : slices_IndexFunc_99_l1 s 65 (i : Int) = if rightT s[i] then some (.inl ((i + 1 : Nat) : Int)) else some (.inr (.inl (i : Int))) := by
      simp only [slices_IndexFunc_99_l1, letB, keys_Board_Bind_2]
      rw [decide_eq_true (by omega), hx]
      simp only [cond_true, Option.bind_some, right_is, decide_true]
      rw [w64_id (by omega) (by omega)]
      by_cases hr : rightT s[i]
      · rw [if_pos hr, decide_eq_true hr]; rfl
      · rw [if_neg hr, decide_eq_false hr]; rfl
    by_cases hr : rightT s[i]
    · rw [if_pos hr] at st
      obtain ⟨r, e, h⟩ := index_loop s hl k (i + 1) (by omega)
      refine ⟨r, by rw [iter_inl st]; exact e, ?_⟩
      cases r with
      | inl j => obtain ⟨h0, x, hx, hn⟩ := h; exact ⟨h0, x, List.mem_cons_of_mem _ hx, hn⟩
      | inr u =>
        intro x hx
        rcases List.mem_cons.1 hx with rfl | hx
        · exact hr
        · exact h x hx
    · rw [if_neg hr] at st
      exact ⟨.inl i, iter_inr st, by omega, s[i], List.mem_cons_self, hr⟩
theorem wrong_is {s : List Key} (hl : s.length ≤ most) : slices_ContainsFunc_64 s 65 = some (decide (¬ ∀ k ∈ s, rightT k)) := by
  obtain ⟨r, e, h⟩ := index_loop s hl s.length 0 (by omega)
  unfold slices_ContainsFunc_64 slices_IndexFunc_99
  rw [show ((0 : Nat) : Int) = 0 from rfl] at e
  rw [e, List.drop_zero] at *
  cases r with
  | inl j =>
    obtain ⟨h0, x, hx, hn⟩ := h
    simp only [Option.bind_some, letB]
    rw [decide_eq_true (show j ≥ 0 from h0), decide_eq_true (show ¬ ∀ k ∈ s, rightT k from fun hh => hn (hh x hx))]
  | inr u =>
    simp only [Option.bind_some, letB]
    rw [decide_eq_false (show ¬ (-1 : Int) ≥ 0 by omega), decide_eq_false (show ¬ ¬ ∀ k ∈ s, rightT k from fun hh => hh h)]
def argsT (mode : List Int) (seq : List Key) (does : List Int) : Prop := (1 ≤ mode.length ∧ mode.length ≤ 32) ∧ (1 ≤ does.length ∧ does.length ≤ 32) ∧ 1 ≤ seq.length ∧ seq.length ≤ 4 ∧ ∀ k ∈ seq, rightT k
instance (mode : List Int) (seq : List Key) (does : List Int) : Decidable (argsT mode seq does) := inferInstanceAs (Decidable (_ ∧ _))
theorem named_is (s : List Int) : keys_Board_Bind_1 s = some (decide (1 ≤ s.length ∧ s.length ≤ 32)) := by
  unfold keys_Board_Bind_1
  simp only [letB, and_s, Option.bind_some]
  congr 1
  rw [Bool.eq_iff_iff]
  simp only [Bool.and_eq_true, decide_eq_true_eq]
  omega
def hitT (mode : List Int) (seq : List Key) (b : Binding) : Prop := b.mode = mode ∧ (b.seq <+: seq ∨ seq <+: b.seq)
instance (mode : List Int) (seq : List Key) (b : Binding) : Decidable (hitT mode seq b) := inferInstanceAs (Decidable (_ ∧ _))
def bindT (x : BoardM) (mode : List Int) (seq : List Key) (does : List Int) : Nat → List Binding → Option (Int × BoardM)
  | _, [] => none
  | i, b :: r => if hitT mode seq b then (if b.seq = seq then some (0, { x with all := x.all.set i { b with does := does } }) else some (180, x)) else bindT x mode seq does (i + 1) r
theorem bind_loop (x : BoardM) (mode : List Int) (seq : List Key) (does : List Int) (hx : x.all.length ≤ 64) (hs : ∀ b ∈ x.all, b.seq.length ≤ 4) (hl : seq.length ≤ 4) : ∀ (k i : Nat), i + k = x.all.length →
    ∃ r, iter (fun s => keys_Board_Bind_l1 x mode seq does s : Int → Option (Int ⊕ ((Int × Binding × BoardM) ⊕ Unit))) (i : Int) = some r ∧ (match bindT x mode seq does i (x.all.drop i) with | some y => ∃ b, r = .inl (y.1, b, y.2) | none => r = .inr ())
  | 0, i, hi => by
    refine ⟨.inr (), iter_inr ?_, ?_⟩
    · simp only [keys_Board_Bind_l1, letB]
      rw [decide_eq_false (by omega)]; rfl
    · rw [List.drop_eq_nil_of_le (by omega)]; rfl
  | k + 1, i, hi => by
    have hm := most_is
    have h1 : i < x.all.length := by omega
    have hx' : idx x.all (i : Int) = some x.all[i] := by rw [idx_is (d := ⟨[], [], []⟩) (by omega) (by omega), Int.toNat_natCast, List.getD_eq_getElem?_getD, List.getElem?_eq_getElem h1]; rfl
    have hb := hs _ (List.getElem_mem h1)
    rw [List.drop_eq_getElem_cons h1]
    generalize hbb : x.all[i] = b at *
    have st : keys_Board_Bind_l1 x mode seq does (i : Int) = if hitT mode seq b then (if b.seq = seq then some (.inr (.inl (0, b, { x with all := x.all.set i { b with does := does } }))) else some (.inr (.inl (180, b, x)))) else some (.inl ((i + 1 : Nat) : Int)) := by
      simp only [keys_Board_Bind_l1, letB]
      rw [decide_eq_true (by omega), hx', w64_id (by omega) (by omega)]
      simp only [cond_true, Option.bind_some]
      by_cases hmo : b.mode = mode
      · rw [decide_eq_false (show ¬ b.mode ≠ mode from fun h => h hmo), equal_dec (by omega), pre_dec (by omega), pre_dec (by omega)]
        simp only [cond_false, Option.bind_some]
        by_cases he : b.seq = seq
        · rw [decide_eq_true he, if_pos ⟨hmo, .inl (he ▸ List.prefix_rfl)⟩, if_pos he]
          rfl
        · rw [decide_eq_false he]
          by_cases hp : b.seq <+: seq ∨ seq <+: b.seq
          · rw [if_pos ⟨hmo, hp⟩, if_neg he]
            by_cases h1 : b.seq <+: seq
            · rw [decide_eq_true h1]; rfl
            · rw [decide_eq_false h1, decide_eq_true (hp.resolve_left h1)]; rfl
          · rw [if_neg (fun h => hp h.2)]
            rw [decide_eq_false (fun h => hp (.inl h)), decide_eq_false (fun h => hp (.inr h))]; rfl
      · rw [decide_eq_true (show b.mode ≠ mode from hmo), if_neg (fun h => hmo h.1)]; rfl
    unfold bindT
    by_cases hh : hitT mode seq b
    · rw [if_pos hh] at st ⊢
      split at st
      · rename_i he; rw [if_pos he]; exact ⟨_, iter_inr st, b, rfl⟩
      · rename_i he; rw [if_neg he]; exact ⟨_, iter_inr st, b, rfl⟩
    · rw [if_neg hh] at st ⊢
      obtain ⟨r, e, h⟩ := bind_loop x mode seq does hx hs hl k (i + 1) (by omega)
      exact ⟨r, by rw [iter_inl st]; exact e, h⟩
theorem bind_is {x : BoardM} {mode : List Int} {seq : List Key} {does : List Int} (hx : x.all.length ≤ 64) (hs : ∀ b ∈ x.all, b.seq.length ≤ 4) :
    keys_Board_Bind x mode seq does = some (if argsT mode seq does then (match bindT x mode seq does 0 x.all with | some y => y | none => if x.all.length = 64 then (3, x) else (0, { x with all := x.all ++ [⟨mode, seq, does⟩] })) else (1, x)) := by
  have hm := most_is
  unfold keys_Board_Bind
  simp only [named_is, letB, Option.bind_some, or_s]
  by_cases hl : seq.length ≤ 4
  · rw [wrong_is (by omega)]
    simp only [Option.bind_some, or_s]
    by_cases ha : argsT mode seq does
    · obtain ⟨a1, a2, a3, a4, a5⟩ := ha
      rw [decide_eq_true a1, decide_eq_true a2, decide_eq_false (show ¬ (seq.length : Int) < 1 by omega), decide_eq_false (show ¬ (seq.length : Int) > 4 by omega), decide_eq_false (fun h => h a5), if_pos ⟨a1, a2, a3, a4, a5⟩]
      simp only [Bool.not_true, Bool.or_false, Bool.false_or, cond_false]
      obtain ⟨r, e, h⟩ := bind_loop x mode seq does hx hs hl x.all.length 0 (by omega)
      rw [show ((0 : Nat) : Int) = 0 from rfl] at e
      rw [List.drop_zero] at h
      rw [e]
      cases hb : bindT x mode seq does 0 x.all with
      | some y =>
        rw [hb] at h
        obtain ⟨b, rfl⟩ := h
        rfl
      | none =>
        rw [hb] at h
        subst h
        simp only [Option.bind_some]
        by_cases h64 : x.all.length = 64
        · rw [decide_eq_true (by omega), if_pos h64]; rfl
        · rw [decide_eq_false (by omega), if_neg h64]
          simp only [cond_false]
          unfold slices_Clone_68
          rw [app_some (by simp; omega)]
          simp only [Option.bind_some]
          rw [app_some (by simp; omega)]; rfl
    · rw [if_neg ha]
      have : (((((!decide (1 ≤ mode.length ∧ mode.length ≤ 32)) || !decide (1 ≤ does.length ∧ does.length ≤ 32)) || decide ((seq.length : Int) < 1)) || decide ((seq.length : Int) > 4)) || decide (¬ ∀ k ∈ seq, rightT k)) = true := by
        apply Classical.byContradiction
        intro hn
        apply ha
        simp only [Bool.or_eq_true, not_or, Bool.not_eq_true, Bool.not_eq_false', decide_eq_true_eq, decide_eq_false_iff_not, Bool.not_eq_eq_eq_not, Bool.not_true, Decidable.not_not] at hn
        obtain ⟨⟨⟨⟨h1, h2⟩, h3⟩, h4⟩, h5⟩ := hn
        exact ⟨h1, h2, by omega, by omega, h5⟩
      rw [this]; rfl
  · have ha : ¬ argsT mode seq does := fun h => hl h.2.2.2.1
    rw [if_neg ha]
    rw [decide_eq_true (show (seq.length : Int) > 4 by omega)]
    simp only [Bool.or_true, cond_true, Option.bind_some]
end Go.Proofs.YtdlijnfdkeimlaaDoor.Am.Keys

set_option linter.all false
namespace Go.Proofs.YtdlijnfdkeimlaaDoor.Am.Keys
open Go.Proofs.YtdlijnfdkeimlaaDoor.Am.T
def runE (x : BoardM) : (Binding × Option (List Key)) ⊕ Option (List Key) → (List Int × Binding × BoardM) ⊕ BoardM
  | .inl (b, w) => .inl (b.does, b, { x with waits := w })
  | .inr w => .inr { x with waits := w }
def ms (b : Binding) : List Int × List Key := (b.mode, b.seq)
def Apart (l : List Binding) : Prop := (l.map ms).Pairwise fun b c => b.1 = c.1 → ¬ b.2 <+: c.2 ∧ ¬ c.2 <+: b.2
theorem bindT_some {x : BoardM} {mode : List Int} {seq : List Key} {does : List Int} : ∀ {L : List Binding} {i : Nat} {y : Int × BoardM}, L = x.all.drop i → bindT x mode seq does i L = some y →
    y = (180, x) ∨ ∃ j b, x.all[j]? = some b ∧ b.mode = mode ∧ b.seq = seq ∧ y = (0, { x with all := x.all.set j { b with does := does } })
  | [], _, _, _, h => by cases h
  | b :: r, i, y, hL, h => by
    unfold bindT at h
    split at h
    · rename_i hh
      split at h
      · rename_i he
        cases h
        refine .inr ⟨i, b, ?_, hh.1, he, rfl⟩
        have : (x.all.drop i)[0]? = some b := by rw [← hL]; rfl
        rwa [List.getElem?_drop, Nat.add_zero] at this
      · cases h; exact .inl rfl
    · refine bindT_some ?_ h
      have : (x.all.drop i).drop 1 = r := by rw [← hL]; rfl
      rw [← this, List.drop_drop]
theorem bindT_none {x : BoardM} {mode : List Int} {seq : List Key} {does : List Int} : ∀ {L : List Binding} {i : Nat}, bindT x mode seq does i L = none → ∀ b ∈ L, ¬ hitT mode seq b
  | [], _, _ => fun b hb => by cases hb
  | b :: r, i, h => by
    unfold bindT at h
    split at h
    · split at h <;> cases h
    · rename_i hh
      intro c hc
      rcases List.mem_cons.1 hc with rfl | hc
      · exact hh
      · exact bindT_none h c hc
structure Inv (x : BoardM) (took : List (List Key)) : Prop where
  few : x.all.length ≤ 64
  mine : ∀ b ∈ x.all, b.mode = [109] ∧ b.does ≠ [] ∧ b.seq.length ≤ 4 ∧ b.seq ∈ took
  apart : Apart x.all
  short : ∀ s ∈ took, s.length ≤ 4
theorem map_set {l : List Binding} {j : Nat} {b : Binding} {d : List Int} (h : l[j]? = some b) : (l.set j { b with does := d }).map ms = l.map ms := by
  rw [List.map_set]
  apply List.ext_getElem?
  intro k
  rw [List.getElem?_set]
  split
  · rename_i e
    subst e
    have hj : j < l.length := (List.getElem?_eq_some_iff.1 h).1
    rw [if_pos (by simpa using hj), List.getElem?_map, h]; rfl
  · rfl
theorem Inv.bind {x : BoardM} {took : List (List Key)} (h : Inv x took) (seq : List Key) (does : List Int) :
    ∃ e x', keys_Board_Bind x [109] seq does = some (e, x') ∧ Inv x' (if e = 0 then took ++ [seq] else took) ∧ x'.waits = x.waits := by
  rw [bind_is h.few (fun b hb => (h.mine b hb).2.2.1)]
  by_cases ha : argsT [109] seq does
  · rw [if_pos ha]
    have hd : does ≠ [] := by rintro rfl; exact absurd ha.2.1.1 (by simp)
    have hq := ha.2.2.2.1
    have hsh : ∀ s ∈ took ++ [seq], s.length ≤ 4 := by
      intro s hs
      rcases List.mem_append.1 hs with hs | hs
      · exact h.short s hs
      · rw [List.mem_singleton.1 hs]; exact hq
    cases hb : bindT x [109] seq does 0 x.all with
    | some y =>
      rcases bindT_some (by rw [List.drop_zero]) hb with rfl | ⟨j, b, e1, e2, e3, rfl⟩
      · exact ⟨180, x, rfl, by simpa using h, rfl⟩
      · refine ⟨0, _, rfl, ⟨by rw [List.length_set]; exact h.few, ?_, ?_, hsh⟩, rfl⟩
        · intro c hc
          rcases List.mem_or_eq_of_mem_set hc with hc | rfl
          · obtain ⟨m1, m2, m3, m4⟩ := h.mine c hc
            exact ⟨m1, m2, m3, List.mem_append_left _ m4⟩
          · exact ⟨e2, hd, by rw [e3]; exact hq, List.mem_append_right _ (List.mem_singleton.2 e3)⟩
        · unfold Apart
          rw [map_set e1]
          exact h.apart
    | none =>
      simp only
      by_cases h64 : x.all.length = 64
      · rw [if_pos h64]; exact ⟨3, x, rfl, by simpa using h, rfl⟩
      · rw [if_neg h64]
        have hf := h.few
        refine ⟨0, _, rfl, ⟨by simp; omega, ?_, ?_, hsh⟩, rfl⟩
        · intro c hc
          rcases List.mem_append.1 hc with hc | hc
          · obtain ⟨m1, m2, m3, m4⟩ := h.mine c hc
            exact ⟨m1, m2, m3, List.mem_append_left _ m4⟩
          · rw [List.mem_singleton.1 hc]
            exact ⟨rfl, hd, hq, List.mem_append_right _ (List.mem_singleton.2 rfl)⟩
        · unfold Apart
          rw [List.map_append, List.pairwise_append]
          refine ⟨h.apart, List.pairwise_singleton _ _, ?_⟩
          intro z hz z' hz'
          rw [List.map_cons, List.map_nil, List.mem_singleton] at hz'
          subst hz'
          obtain ⟨c, hc, rfl⟩ := List.mem_map.1 hz
          have := bindT_none hb c hc
          intro he
          exact ⟨fun hp => this ⟨he, .inl hp⟩, fun hp => this ⟨he, .inr hp⟩⟩
  · rw [if_neg ha]
    exact ⟨1, x, rfl, by simpa using h, rfl⟩
end Go.Proofs.YtdlijnfdkeimlaaDoor.Am.Keys

set_option linter.all false
namespace Go.Proofs.YtdlijnfdkeimlaaDoor.Am.Keys
open Go.Proofs.YtdlijnfdkeimlaaDoor.Am.T
structure One (x : BoardM) (seq : List Key) : Prop where
  rest : ∃ does r, x.all = ⟨[97], seq, does⟩ :: r ∧ ∀ b ∈ r, b.mode = [98]
  few : x.all.length ≤ 64
end Go.Proofs.YtdlijnfdkeimlaaDoor.Am.Keys

namespace Go.Proofs.YtdlijnfdkeimlaaDoor.Am
inductive Fits (P : Program) : TypeId → List V → Prop
 | bool {t : TypeId} (b : Bool) (h : P.underlying t = some .bool) : Fits P t [.bool b]
 | int {t : TypeId} {k : IntKind} (n : Int) (h : P.underlying t = some (.int k)) (hn : (Lit.int k n).wf = true) : Fits P t [.int k n]
 | str {t : TypeId} (s : List UInt8) (h : P.underlying t = some .string) (hs : s.length ≤ maxLen) : Fits P t [.str s]
 | nils {t e : TypeId} (h : P.underlying t = some (.slice e)) : Fits P t [.nils]
 | slice {t e : TypeId} (xs : List (List V)) (h : P.underlying t = some (.slice e)) (hl : xs.length ≤ maxLen) (hx : ∀ i, i < xs.length → Fits P e (xs.getD i [])) : Fits P t [.slice false (P.cellsOf e) xs]
 | struct {t : TypeId} {fs : Array Field} (cs : List V) (h : P.underlying t = some (.struct fs)) (hl : cs.length = P.cellsOf t) (hf : ∀ f ∈ fs.toList, Fits P f.type ((cs.drop f.offset).take (P.cellsOf f.type))) : Fits P t cs
 | array {t e : TypeId} {n : Nat} (cs : List V) (h : P.underlying t = some (.array n e)) (hl : cs.length = P.cellsOf t) (hf : ∀ i, i < n → Fits P e ((cs.drop (i * P.cellsOf e)).take (P.cellsOf e))) : Fits P t cs
def tiles (P : Program) : Nat → List Field → Nat → Bool
 | n, [], m => n == m
 | n, f :: fs, m => f.offset == n && tiles P (n + P.cellsOf f.type) fs m
def supT (P : Program) : Nat → TypeId → Bool
 | 0, _ => false
 | d + 1, t => match P.underlying t with
  | some .bool | some (.int _) | some .string => P.cellsOf t == 1
  | some (.slice e) => P.cellsOf t == 1 && decide (0 < P.cellsOf e) && supT P d e
  | some (.struct fs) => tiles P 0 fs.toList (P.cellsOf t) && fs.toList.all fun f => supT P d f.type
  | some (.array n e) => P.cellsOf t == n * P.cellsOf e && supT P d e
  | _ => false
section
variable {P : Program} {H : Type} {enc : TypeId × Value → H} {W : World}
def blocksOf (W : World) : Nat → Prop := fun c => c < W.heap.size
theorem cell_block {a : Addr} {v : Value} (h : W.cell? a = some v) : a.block < W.heap.size ∧ a.spot = none := by
 unfold World.cell? at h
 cases hb : W.heap[a.block]? with
 | none => rw [hb] at h; cases h
 | some o =>
  rw [hb] at h
  refine ⟨(Array.getElem?_eq_some_iff.1 hb).1, ?_⟩
  cases o with
  | cells c _ _ =>
   simp only at h
   split at h
   ·cases h
   ·rename_i hs; simpa using hs
  | _ => cases h
def Reads (P : Program) (W : World) (t : TypeId) (cs : List Value) : Prop :=
 ∃ vs : List V, vs.length = cs.length ∧ Fits P t vs ∧ ∀ k, k < cs.length → RB (blocksOf W) W (vs.getD k .undef) (cs.getD k undef)
theorem trod_array {n : Nat} {e t : TypeId} {base fuel : Nat} {sp : Nat → Bool} {held : Bool} {cs : List Value} {x : DataW H × List MemPlace} (ht : P.underlying t = some (.array n e)) (h : DataW.trod enc P W base sp held fuel t cs = some x) :
  cs.length = P.cellsOf t ∧ ∃ m, ∀ i, i < n → ∃ y, DataW.trod enc P W base sp held m e ((cs.drop (i * P.cellsOf e)).take (P.cellsOf e)) = some y := by
 cases fuel with
 | zero => simp [DataW.trod] at h
 | succ m =>
  unfold DataW.trod at h
  rw [ht] at h
  split at h <;> simp_all
  obtain ⟨hl, xs, hp, hd⟩ := h
  refine ⟨m, fun i hi => ?_⟩
  have h1 := mapM_some_length hp
  have h2 := mapM_some_get hp i i (by simp [hi])
  simp only [List.length_range] at h1
  rw [List.getElem?_eq_getElem (by omega)] at h2
  exact ⟨_, _, h2⟩
def RBs (W : World) (vs : List V) (cs : List Value) : Prop := vs.length = cs.length ∧ ∀ k, k < cs.length → RB (blocksOf W) W (vs.getD k .undef) (cs.getD k undef)
theorem RBs.append {vs us : List V} {cs ds : List Value} (h : RBs W vs cs) (k : RBs W us ds) : RBs W (vs ++ us) (cs ++ ds) := by
 refine ⟨by simp [h.1, k.1], fun i hi => ?_⟩
 simp only [List.getD_eq_getElem?_getD]
 have h1 := h.1
 by_cases hlt : i < cs.length
 ·have := h.2 i hlt
  simp only [List.getD_eq_getElem?_getD] at this
  rw [List.getElem?_append_left (by omega), List.getElem?_append_left hlt]; exact this
 ·rw [List.length_append] at hi
  have := k.2 (i - cs.length) (by omega)
  simp only [List.getD_eq_getElem?_getD] at this
  rw [List.getElem?_append_right (by omega), List.getElem?_append_right (by omega), h1]; exact this
theorem reads_iff {t : TypeId} {cs : List Value} : Reads P W t cs ↔ ∃ vs, Fits P t vs ∧ RBs W vs cs :=
 ⟨fun ⟨vs, a, b, c⟩ => ⟨vs, b, a, c⟩, fun ⟨vs, b, a, c⟩ => ⟨vs, a, b, c⟩⟩
theorem fields_of {cs : List Value} : ∀ {fs : List Field} {n m : Nat}, tiles P n fs m = true → m ≤ cs.length → (∀ f ∈ fs, Reads P W f.type ((cs.drop f.offset).take (P.cellsOf f.type))) →
  n ≤ m ∧ ∃ vs, RBs W vs ((cs.drop n).take (m - n)) ∧ ∀ f ∈ fs, n ≤ f.offset ∧ Fits P f.type ((vs.drop (f.offset - n)).take (P.cellsOf f.type))
 | [], n, m, ht, hm, _ => by
  have : n = m := by simpa [tiles] using ht
  subst this
  exact ⟨Nat.le_refl _, [], ⟨by simp, fun k hk => absurd hk (by simp)⟩, fun f hf => by cases hf⟩
 | f :: fs, n, m, ht, hm, hr => by
  simp only [tiles, Bool.and_eq_true, beq_iff_eq] at ht
  obtain ⟨h0, ht⟩ := ht
  obtain ⟨hle, vs, hvs, hfs⟩ := fields_of ht hm fun g hg => hr g (.tail _ hg)
  obtain ⟨us, hfit, hus⟩ := reads_iff.1 (hr f (.head _))
  rw [h0] at hus
  have hul : us.length = P.cellsOf f.type := by rw [hus.1]; simp; omega
  have hsplit : (cs.drop n).take (m - n) = (cs.drop n).take (P.cellsOf f.type) ++ (cs.drop (n + P.cellsOf f.type)).take (m - (n + P.cellsOf f.type)) := by
   rw [← List.drop_drop, ← List.take_add]
   congr 1
   omega
  refine ⟨by omega, us ++ vs, by rw [hsplit]; exact hus.append hvs, fun g hg => ?_⟩
  cases hg with
  | head =>
   refine ⟨by omega, ?_⟩
   rw [h0, Nat.sub_self, List.drop_zero, List.take_append_of_le_length (by omega), List.take_of_length_le (by omega)]
   exact hfit
  | tail _ hg =>
   obtain ⟨h1, h2⟩ := hfs g hg
   refine ⟨by omega, ?_⟩
   rw [List.drop_append, List.drop_eq_nil_of_le (by omega), List.nil_append, hul]
   rw [show g.offset - n - P.cellsOf f.type = g.offset - (n + P.cellsOf f.type) from by omega]
   exact h2
theorem elems_of {cs : List Value} {e : TypeId} : ∀ {n : Nat}, n * P.cellsOf e ≤ cs.length → (∀ i, i < n → Reads P W e ((cs.drop (i * P.cellsOf e)).take (P.cellsOf e))) →
  ∃ vs, RBs W vs (cs.take (n * P.cellsOf e)) ∧ ∀ i, i < n → Fits P e ((vs.drop (i * P.cellsOf e)).take (P.cellsOf e))
 | 0, _, _ => ⟨[], ⟨by simp, fun k hk => absurd hk (by simp)⟩, fun i hi => absurd hi (by omega)⟩
 | n + 1, hn, hr => by
  have hs : (n + 1) * P.cellsOf e = n * P.cellsOf e + P.cellsOf e := Nat.succ_mul _ _
  obtain ⟨vs, hvs, hfs⟩ := elems_of (n := n) (by omega) fun i hi => hr i (by omega)
  obtain ⟨us, hfit, hus⟩ := reads_iff.1 (hr n (by omega))
  have hvl : vs.length = n * P.cellsOf e := by rw [hvs.1]; simp; omega
  have hul : us.length = P.cellsOf e := by rw [hus.1]; simp; omega
  refine ⟨vs ++ us, by rw [hs, List.take_add]; exact hvs.append hus, fun i hi => ?_⟩
  by_cases hin : i = n
  ·subst hin
   rw [List.drop_append, List.drop_eq_nil_of_le (by omega), List.nil_append, hvl, Nat.sub_self, List.drop_zero, List.take_of_length_le (by omega)]
   exact hfit
  ·have h1 := hfs i (by omega)
   have h2 : i * P.cellsOf e + P.cellsOf e ≤ n * P.cellsOf e := by rw [← Nat.succ_mul]; exact Nat.mul_le_mul_right _ (by omega)
   rw [List.drop_append_of_le_length (by omega), List.take_append_of_le_length (by simp; omega)]
   exact h1
theorem list_choose {α : Type} {n : Nat} {p : Nat → α → Prop} (h : ∀ i, i < n → ∃ x, p i x) : ∃ l : List α, l.length = n ∧ ∀ i x, l[i]? = some x → p i x := by
 induction n with
 | zero => exact ⟨[], rfl, fun i x hx => by simp at hx⟩
 | succ n ih =>
  obtain ⟨l, hl, hp⟩ := ih fun i hi => h i (by omega)
  obtain ⟨x, hx⟩ := h n (by omega)
  refine ⟨l ++ [x], by simp [hl], fun i y hy => ?_⟩
  by_cases hi : i < l.length
  ·rw [List.getElem?_append_left hi] at hy; exact hp i y hy
  ·rw [List.getElem?_append_right (by omega)] at hy
   have : i - l.length = 0 := by
    rcases Nat.eq_zero_or_pos (i - l.length) with h0 | h0
    ·exact h0
    ·rw [List.getElem?_eq_none (by simp; omega)] at hy; cases hy
   rw [this] at hy
   simp only [List.getElem?_cons_zero, Option.some.injEq] at hy
   subst hy
   have : i = n := by omega
   subst this; exact hx
theorem reads_of : ∀ {d : Nat} {t : TypeId}, supT P d t = true → ∀ {fuel : Nat} {held : Bool} {cs : List Value} {x : DataW H × List MemPlace}, DataW.trod enc P W 0 (fun _ => true) held fuel t cs = some x → Reads P W t cs := by
 intro d
 induction d with
 | zero => intro t h; cases h
 | succ d ih =>
  intro t h fuel held cs x hx
  simp only [supT] at h
  split at h
  ·rename_i ht
   obtain ⟨b, rfl, _⟩ := DataW.trod_bool ht hx
   exact ⟨[.bool b], rfl, .bool b ht, fun k hk => by
    have : k = 0 := by simpa using hk
    subst this; exact .bool b⟩
  ·rename_i kk ht
   obtain ⟨n, rfl, _, hwf⟩ := DataW.trod_int ht hx
   exact ⟨[.int kk n], rfl, .int n ht hwf, fun k hk => by
    have : k = 0 := by simpa using hk
    subst this; exact .int kk n⟩
  ·rename_i ht
   obtain ⟨s, rfl, _, hs⟩ := DataW.trod_string ht hx
   exact ⟨[.str s.data.toList], rfl, .str _ ht (by simpa using hs), fun k hk => by
    have : k = 0 := by simpa using hk
    subst this; exact .str s⟩
  ·rename_i e ht
   simp only [Bool.and_eq_true, beq_iff_eq, decide_eq_true_eq] at h
   obtain ⟨⟨_, hpos⟩, hsup⟩ := h
   rcases DataW.trod_slice ht hx with ⟨rfl, _⟩ | ⟨a, len, cap, elems, rest, n, _, rfl, _, _, hlc, hcap, hel, he, hre, _⟩
   ·exact ⟨[.nils], rfl, .nils ht, fun k hk => by
     have : k = 0 := by simpa using hk
     subst this; exact .nils⟩
   ·have hone : ∀ i, i < len → ∃ vs : List V, Fits P e vs ∧ vs.length = P.cellsOf e ∧ ∀ k, k < P.cellsOf e → ∃ v, W.cell? ((a.add (i * P.cellsOf e)).add k) = some v ∧ RB (blocksOf W) W (vs.getD k .undef) v := fun i hi => by
     have h1 := he i hi
     rw [List.getElem?_eq_getElem (by omega)] at h1
     simp only [Option.bind_eq_some_iff] at h1
     obtain ⟨cs', hc1, hc2⟩ := h1
     obtain ⟨_, hl, hc⟩ := World.cells?_some hc1
     obtain ⟨vs, hf, hr⟩ := reads_iff.1 (ih hsup hc2)
     refine ⟨vs, hf, by rw [hr.1, hl], fun k hk => ⟨cs'.getD k undef, ?_, hr.2 k (by omega)⟩⟩
     rw [hc k hk, List.getD_eq_getElem?_getD, List.getElem?_eq_getElem (by omega)]; rfl
    obtain ⟨xs, hxl, hxs⟩ := list_choose hone
    have hxs' : ∀ i, i < xs.length → Fits P e (xs.getD i []) ∧ (xs.getD i []).length = P.cellsOf e ∧ ∀ k, k < P.cellsOf e → ∃ v, W.cell? ((a.add (i * P.cellsOf e)).add k) = some v ∧ RB (blocksOf W) W ((xs.getD i []).getD k .undef) v := fun i hi => by
     rw [List.getD_eq_getElem?_getD, List.getElem?_eq_getElem hi]
     exact hxs i _ (List.getElem?_eq_getElem hi)
    have hblk : 0 < cap → a.block < W.heap.size ∧ a.spot = none := fun hc0 => by
     have h00 : (a.add (0 * P.cellsOf e)).add 0 = a := by simp [Addr.add]
     have hcell : ∃ v, W.cell? a = some v := by
      by_cases h0 : 0 < len
      ·obtain ⟨v, hv, _⟩ := (hxs' 0 (by omega)).2.2 0 hpos
       rw [h00] at hv
       exact ⟨v, hv⟩
      ·have h1 := (hre rfl).2 0 (by omega)
       have h2 := (hre rfl).1
       have hl0 : len = 0 := by omega
       subst hl0
       rw [List.getElem?_eq_getElem (by omega)] at h1
       simp only [Option.bind_eq_some_iff] at h1
       obtain ⟨cs', hc1, _⟩ := h1
       obtain ⟨_, hl, hc⟩ := World.cells?_some hc1
       have h3 := hc 0 hpos
       rw [Nat.add_zero, h00, List.getElem?_eq_getElem (by omega)] at h3
       exact ⟨_, h3⟩
     obtain ⟨v, hv⟩ := hcell
     exact cell_block hv
    refine ⟨[.slice false (P.cellsOf e) xs], rfl, .slice xs ht (by omega) (fun i hi => (hxs' i hi).1), fun k hk => ?_⟩
    have : k = 0 := by simpa using hk
    subst this
    simp only [List.getD_cons_zero]
    refine RB.slice_iff.2 ⟨a, cap, by rw [hxl], fun hc0 => (hblk hc0).2, fun hc0 => (hblk hc0).1, by omega, fun i hi => (hxs' i hi).2.1, fun i k hi hk => ?_⟩
    obtain ⟨v, hv, hr⟩ := (hxs' i hi).2.2 k hk
    refine ⟨v, ?_, hr⟩
    have hsp := (hblk (by omega)).2
    rw [addr_add hsp, addr_add rfl] at hv
    rw [← hv]
    simp [Nat.add_assoc]
  ·rename_i fs ht
   simp only [Bool.and_eq_true, List.all_eq_true] at h
   obtain ⟨htile, hall⟩ := h
   obtain ⟨xs, n, _, _, hl, hxl, hf⟩ := DataW.trod_struct ht hx
   obtain ⟨_, vs, hvs, hfs⟩ := fields_of (P := P) (W := W) (cs := cs) htile (by omega) fun f hfm => by
    obtain ⟨i, hi⟩ := List.getElem?_of_mem hfm
    have hi' : i < fs.size := by have := (List.getElem?_eq_some_iff.1 hi).1; simpa using this
    have h1 := hf i f (by simpa using hi)
    rw [List.getElem?_eq_getElem (by omega)] at h1
    exact ih (hall f hfm) h1
   rw [List.drop_zero, Nat.sub_zero, List.take_of_length_le (by omega)] at hvs
   exact reads_iff.2 ⟨vs, .struct vs ht (by rw [hvs.1, hl]) (fun f hfm => by simpa using (hfs f hfm).2), hvs⟩
  ·rename_i n e ht
   simp only [Bool.and_eq_true, beq_iff_eq] at h
   obtain ⟨hsz, hsup⟩ := h
   obtain ⟨hl, m, hm⟩ := trod_array ht hx
   obtain ⟨vs, hvs, hfs⟩ := elems_of (P := P) (W := W) (cs := cs) (e := e) (n := n) (by omega) fun i hi => by
    obtain ⟨y, hy⟩ := hm i hi
    exact ih hsup hy
   rw [List.take_of_length_le (by omega)] at hvs
   exact reads_iff.2 ⟨vs, .array vs ht (by rw [hvs.1, hl]) hfs, hvs⟩
  ·cases h
end
end Go.Proofs.YtdlijnfdkeimlaaDoor.Am

namespace Go.Proofs.YtdlijnfdkeimlaaDoor.Am
section
variable {P : Program} {W : World}
inductive ArgOK (W : World) : V → Value → Prop
 | leaf {x : V} {v : Value} (h : RB (blocksOf W) W x v) : ArgOK W x v
 | agg (cs : List V) (arr : Array Value) (hs : arr.size = cs.length) (h : ∀ k, k < cs.length → RB (blocksOf W) W (cs.getD k .undef) (arr.getD k undef)) : ArgOK W (.agg cs) (.agg arr)
def g0 (W : World) : G := ⟨id, id, fun _ => False, blocksOf W⟩
theorem RB.toR1 {x : V} {v : Value} (h : RB (blocksOf W) W x v) : R1 (g0 W) W 0 x v := by
 cases h with
 | func f => exact ⟨#[], rfl, rfl, fun k hk => absurd hk (by simp)⟩
 | bool b => exact RB.bool b
 | int k n => exact RB.int k n
 | str b => exact RB.str b
 | nilp => exact RB.nilp
 | nils => exact RB.nils
 | nilf => exact RB.nilf
 | nili => exact RB.nili
 | slice sz xs a cap vs hs hp hc hz hv hr => exact RB.slice sz xs a cap vs hs hp hc hz hv hr
theorem RB.ok0 {x : V} {v : Value} (h : RB (blocksOf W) W x v) : x.ok0 = true := by
 cases h <;> rfl
theorem RB.cnt {x : V} {v : Value} (h : RB (blocksOf W) W x v) (c : Nat) : cnt0 c x v = 0 := by
 cases h <;> rfl
theorem ArgOK.r3 {x : V} {v : Value} (h : ArgOK W x v) (τ : Nat → Value) : R3 (g0 W) W 0 τ x v := by
 cases h with
 | leaf h =>
  have h1 := h.toR1
  cases h <;> exact h1
 | agg cs arr hs h => exact ⟨arr, rfl, hs, fun k hk => ⟨.inl (h k hk).ok0, (h k hk).toR1⟩⟩
theorem ArgOK.okArg {x : V} {v : Value} (h : ArgOK W x v) : x.okArg = true := by
 cases h with
 | leaf h => cases h <;> rfl
 | agg cs arr hs h =>
  simp only [V.okArg, List.all_eq_true]
  intro y hy
  obtain ⟨k, hk, rfl⟩ := List.getElem_of_mem hy
  have := (h k hk).ok0
  rwa [List.getD_eq_getElem?_getD, List.getElem?_eq_getElem hk] at this
theorem ArgOK.cnt {x : V} {v : Value} (h : ArgOK W x v) (c : Nat) : cnt2 c x v = 0 := by
 cases h with
 | leaf h =>
  have h1 := h.cnt c
  cases h <;> exact h1
 | agg cs arr hs h => exact sumTo_zero fun k hk => (h k hk).cnt c
theorem start {args : List V} {vs : Array Value} (hl : args.length = vs.toList.length) (ha : ∀ k, k < args.length → ArgOK W (args.getD k .undef) (vs.toList.getD k undef)) :
  SR (g0 W) W 0 (fun _ => 0) (fun _ => false) ⟨fun _ => .undef, fun _ => [], []⟩ #[] (args.zip vs.toList) := by
 have hmem : ∀ p ∈ args.zip vs.toList, ArgOK W p.1 p.2 := fun p hp => by
  obtain ⟨k, hk, rfl⟩ := List.getElem_of_mem hp
  have hk' : k < args.length := by simp at hk; omega
  have h1 := ha k hk'
  simp only [List.getElem_zip]
  rw [List.getD_eq_getElem?_getD, List.getElem?_eq_getElem hk', List.getD_eq_getElem?_getD, List.getElem?_eq_getElem (by omega)] at h1
  exact h1
 have hcP : ∀ c, cntP c (args.zip vs.toList) = 0 := fun c => by
  rw [cntP_zip hl]; exact sumTo_zero fun k hk => (ha k hk).cnt c
 have hT : ∀ c, total (g0 W) W 0 (fun _ => 0) ⟨fun _ => .undef, fun _ => [], []⟩ #[] (args.zip vs.toList) c = persOf (g0 W) c := fun c => by
  have e1 : cntT c (fun _ => V.undef) #[] = 0 := rfl
  have e2 : cntB (g0 W) W c 0 (fun _ => []) = 0 := rfl
  have e3 : cntM (g0 W) W c [] = 0 := rfl
  unfold total
  simp only [e1, e2, e3, hcP]
  omega
 refine ⟨fun s => trivial, fun s _ => rfl, fun s d hd => (by cases hd), fun p hp => (hmem p hp).r3 _, fun p hp d hd => ?_, fun j => by simp [g0], fun j hj => absurd rfl hj, fun b hb => absurd hb (by simp), fun c => ?_, fun c hc => ?_⟩
 ·obtain ⟨b, o, e⟩ := okArg_root (hmem p hp).okArg hd; cases e
 ·rw [hT]; unfold persOf; split <;> omega
 ·rw [hT]; unfold persOf
  rw [if_neg]
  show ¬ (c < W.heap.size)
  omega
theorem law_calls [Lay P] {T : Table} (hLd : Laid P (g0 W) W) (hT : TableOK P T) {f : Nat} {args : List V} {m' : List (List V)} {vs : Array Value} {b : Bool} (hret : RF T f args [] = some (.bool b, m')) (hl : args.length = vs.toList.length)
  (ha : ∀ k, k < args.length → ArgOK W (args.getD k .undef) (vs.toList.getD k undef)) : Calls P f vs W fun e W' => e = .returned (.bool b) ∧ RowKit.Below W.heap.size W W' := by
 obtain ⟨_, hcall⟩ := ret_sound hT (RF_ret.1 hret)
 have hok : args.all V.okArg = true := List.all_eq_true.2 fun y hy => by
  obtain ⟨k, hk, rfl⟩ := List.getElem_of_mem hy
  have := (ha k hk).okArg
  rwa [List.getD_eq_getElem?_getD, List.getElem?_eq_getElem hk] at this
 refine (hcall (g0 W) W (fun _ => 0) vs (by simpa using hl.symm) hok hLd (start hl ha)).mono fun e W' ⟨v, g', he, hS, hE, _⟩ => ?_
 have hv : v = .bool b := R3.bool (hS.pend _ (.head _))
 exact ⟨by rw [he, hv], hE.os, hE.tape, hE.output, hE.size, fun k hk => (hE.pers k hk).2⟩
def FitsV (P : Program) (t : TypeId) (x : V) : Prop :=
 match P.underlying t with
 | some (.struct _) | some (.array _ _) => ∃ cs, x = .agg cs ∧ Fits P t cs
 | _ => Fits P t [x]
section
variable {H : Type} {enc : TypeId × Value → H}
theorem arg_of {d : Nat} {t : TypeId} (hsup : supT P d t = true) {v : Value} {dd : DataW H} {ps : List MemPlace} {base : Nat} (hval : Value.okWide P W .any base t v) (h : DataW.Trod enc P W 0 (fun _ => true) true t v dd ps) :
  ∃ x, FitsV P t x ∧ ArgOK W x v := by
 obtain ⟨fuel, h⟩ := h
 obtain ⟨cs, hfit, hr⟩ := reads_iff.1 (reads_of hsup h)
 have agg : ∀ arr : Array Value, v = .agg arr → ArgOK W (.agg cs) v := fun arr e => by
  subst e
  have hc : (Value.agg arr).cells = arr := rfl
  rw [hc] at hr
  refine .agg cs arr (by have := hr.1; simpa using this.symm) fun k hk => ?_
  have := hr.2 k (by rw [← hr.1]; exact hk)
  rwa [array_toList_getD] at this
 have leaf : (∀ arr, v ≠ .agg arr) → cs.length = 1 → ∃ x, cs = [x] ∧ ArgOK W x v := fun hv h1 => by
  match cs, h1 with
  | [x], _ =>
   refine ⟨x, rfl, .leaf ?_⟩
   rw [cells_leaf hv] at hr
   exact hr.2 0 (by simp)
 unfold FitsV
 unfold Value.okWide at hval
 cases hu : P.underlying t with
 | none => cases hfit <;> simp_all
 | some ud =>
  rw [hu] at hval
  cases ud with
  | struct fs => obtain ⟨arr, e, _⟩ := hval; exact ⟨.agg cs, ⟨cs, rfl, hfit⟩, agg arr e⟩
  | array n e => obtain ⟨arr, e, _⟩ := hval; exact ⟨.agg cs, ⟨cs, rfl, hfit⟩, agg arr e⟩
  | _ =>
   simp only at hval ⊢
   have h1 : cs.length = 1 := by cases hfit <;> first | rfl | simp_all
   have h2 : ∀ arr, v ≠ .agg arr := fun arr e => by
    subst e
    simp only [Cell.okWide, Cell.ok, hu] at hval
   obtain ⟨x, rfl, hx⟩ := leaf h2 h1
   exact ⟨x, hfit, hx⟩
theorem args_of {d : Nat} : ∀ {ts : List TypeId} {vs : List Value} {ds : List (DataW H)} {ps : List MemPlace} {base : Nat}, ts.all (supT P d) = true → (∀ (j : Nat) (t : TypeId) (v : Value), ts[j]? = some t → vs[j]? = some v → Value.okWide P W .any base t v) →
  DataW.TrodAll enc P W 0 (fun _ => true) true ts vs ds ps → ∃ args : List V, args.length = vs.length ∧ ts.length = vs.length ∧ (∀ (j : Nat) (t : TypeId), ts[j]? = some t → FitsV P t (args.getD j .undef)) ∧ ∀ k, k < args.length → ArgOK W (args.getD k .undef) (vs.getD k undef)
 | [], vs, ds, ps, base, _, _, h => by
  obtain ⟨rfl, rfl, rfl⟩ := ChangeShapes.trodAll_nil h
  exact ⟨[], rfl, rfl, fun j t hj => by simp at hj, fun k hk => absurd hk (by simp)⟩
 | t :: ts, vs, ds, ps, base, hsup, hval, h => by
  obtain ⟨v, vs', dd, ds', p, q, rfl, rfl, rfl, h0, r0⟩ := ChangeShapes.trodAll_cons h
  simp only [List.all_cons, Bool.and_eq_true] at hsup
  obtain ⟨x, hx1, hx2⟩ := arg_of hsup.1 (hval 0 t v rfl rfl) h0
  obtain ⟨args, h1, h2, h3, h4⟩ := args_of hsup.2 (fun j t v hj hv => hval (j + 1) t v hj hv) r0
  refine ⟨x :: args, by simp [h1], by simp [h2], fun j t' hj => ?_, fun k hk => ?_⟩
  ·cases j with
   | zero => simp only [List.getElem?_cons_zero, Option.some.injEq] at hj; subst hj; exact hx1
   | succ j => exact h3 j t' hj
  ·cases k with
   | zero => exact hx2
   | succ k => exact h4 k (by simpa using hk)
theorem args_stay (hl : laidOutB P = true) {W' : World} {sp : Nat → Bool} : ∀ {ts : List TypeId} {vs : List Value} {ds : List (DataW H)} {ps : List MemPlace}, (ts.all fun t => P.readableRec t && decide (t < P.types.size)) = true →
  DataW.TrodAll enc P W 0 (fun _ => true) true ts vs ds ps → (∀ p ∈ ps, W.sameAt W' p) → (∀ p ∈ ps, sp p.block = true) → DataW.TrodAll enc P W' 0 sp true ts vs ds ps
 | [], vs, ds, ps, _, h, _, _ => by
  obtain ⟨rfl, rfl, rfl⟩ := ChangeShapes.trodAll_nil h
  exact rfl
 | t :: ts, vs, ds, ps, hr, h, hs, hsp => by
  obtain ⟨v, vs', dd, ds', p, q, rfl, rfl, rfl, h0, r0⟩ := ChangeShapes.trodAll_cons h
  simp only [List.all_cons, Bool.and_eq_true, decide_eq_true_eq] at hr
  exact trodAll_cons_mk (WideElems.Trod_stays hl hr.1.1 hr.1.2 h0 (fun x hx => hs x (List.mem_append_left _ hx)) (fun x hx => hsp x (List.mem_append_left _ hx)))
   (args_stay hl hr.2 r0 (fun x hx => hs x (List.mem_append_right _ hx)) (fun x hx => hsp x (List.mem_append_right _ hx)))
theorem trodAll_len : ∀ {ts : List TypeId} {vs : List Value} {ds : List (DataW H)} {ps : List MemPlace}, DataW.TrodAll enc P W 0 (fun _ => true) true ts vs ds ps → ds.length = ts.length
 | [], vs, ds, ps, h => by obtain ⟨rfl, rfl, rfl⟩ := ChangeShapes.trodAll_nil h; rfl
 | t :: ts, vs, ds, ps, h => by
  obtain ⟨v, vs', dd, ds', p, q, rfl, rfl, rfl, h0, r0⟩ := ChangeShapes.trodAll_cons h
  simp [trodAll_len r0]
open ChangeShapes in
theorem post_of_below {f : Func} {s : ChangeSpec} {apart fresh handsOn again : Bool} {W W' : World} {args : Array Value} {v : Value} {ds gs : List (DataW H)} {before pa pv : List MemPlace}
  (hW : DataW.Whole enc P f.params.toList s.vars apart W args.toList ds gs before)
  (hres : ∀ (b : Nat) (sp : Nat → Bool) (hd : Bool), DataW.TrodAll enc P W' b sp hd f.resultTypes.toList (v.resultList f.resultTypes.size) (s.fn H (ds ++ gs)).results [])
  (hargs : ∀ sp : Nat → Bool, (∀ p ∈ before, sp p.block = true) → DataW.TrodAll enc P W' 0 sp true f.params.toList args.toList (s.fn H (ds ++ gs)).args pa)
  (hvars : ∀ sp : Nat → Bool, (∀ p ∈ before, sp p.block = true) → DataW.TrodVars enc P W' sp s.vars (s.fn H (ds ++ gs)).vars pv)
  (hps : before = pa ++ pv) (hb : RowKit.Below W.heap.size W W')
  (hok : ∀ (j : Nat) (t : TypeId) (r : Value), f.resultTypes[j]? = some t → (v.resultList f.resultTypes.size)[j]? = some r → Value.okWide P W' .any 0 t r) :
  s.post enc P f apart fresh handsOn again W args v W' := by
 have hlt : ∀ p ∈ before, p.block < W.heap.size := fun p hp => hW.lt p hp
 have hold : ∀ p ∈ before, (fun b => decide (b < W.heap.size)) p.block = true := fun p hp => by simpa using hlt p hp
 refine ⟨ds, gs, before, [], pa, pv, hW, hres _ _ _, hargs _ hold, hvars _ hold, World.keptBut_mono (fun p hp => ⟨hp, ?_⟩) (hb.frame (· ∈ before)), fun _ => ?_⟩
 ·rw [hps, List.mem_append] at hp
  exact Or.inr hp
 ·obtain ⟨_, _, _, _, _, hz, hn⟩ := hW
  refine ⟨hok, _, _, ([] ++ pa) ++ pv, ⟨[] ++ pa, pv, trodAll_append (hargs _ (fun _ _ => rfl)) (hres _ _ _), hvars _ (fun _ _ => rfl), rfl, ?_, ?_⟩, ?_⟩
  ·intro b off hp
   have hp' : MemPlace.cell b off ∈ before := by rw [hps]; simpa using hp
   rw [hb.frozen (p := ⟨b, off, none⟩) (hlt _ hp')]
   exact hz b off hp'
  ·intro ha
   have := hn ha
   rw [hps] at this
   simpa using this
  ·intro p hp _
   rw [hps]
   simpa using hp
end
end
end Go.Proofs.YtdlijnfdkeimlaaDoor.Am

set_option linter.all false
namespace Go.Proofs.YtdlijnfdkeimlaaDoor.Am.Keys
open Go.Proofs
theorem gl2 : Tryd.prog.globalNamed "unicode/utf8.acceptRanges" = some 1 := by kernel_rfl
theorem gl1 : Tryd.prog.globalNamed "unicode/utf8.first" = some 0 := by kernel_rfl
theorem gt2 : (Tryd.prog.globals[1]?).map (·.type) = some 161 := by kernel_rfl
theorem gt1 : (Tryd.prog.globals[0]?).map (·.type) = some 158 := by kernel_rfl
noncomputable def eT (t : TypeId) : TypeId := match Tryd.prog.underlying t with | some (.array _ e) => e | _ => 0
noncomputable def fsT (t : TypeId) : Array Field := match Tryd.prog.underlying t with | some (.struct fs) => fs | _ => #[]
theorem ut1 : Tryd.prog.underlying 158 = some (.array 256 (eT 158)) := by kernel_rfl
theorem ut2 : Tryd.prog.underlying 161 = some (.array 16 (eT 161)) := by kernel_rfl
theorem ue1 : Tryd.prog.underlying (eT 158) = some (.int .u8) := by kernel_rfl
theorem ue2 : Tryd.prog.underlying (eT 161) = some (.struct (fsT (eT 161))) := by kernel_rfl
theorem uf0 : ((fsT (eT 161))[0]?.map fun f => (f.type, f.offset)) = some (5, 0) := by kernel_rfl
theorem uf1 : ((fsT (eT 161))[1]?.map fun f => (f.type, f.offset)) = some (5, 1) := by kernel_rfl
theorem u5 : Tryd.prog.underlying 5 = some (.int .u8) := by kernel_rfl
theorem kc1 : Tryd.prog.cellsOf (eT 158) = 1 := by kernel_rfl
theorem kc2 : Tryd.prog.cellsOf (eT 161) = 2 := by kernel_rfl
theorem kc5 : Tryd.prog.cellsOf 5 = 1 := by kernel_rfl
theorem laid_one {l : List (String × DataW Unit)} {W : World} {n : String} {d : DataW Unit} {g : Nat} {t : TypeId} (h : laidMetH Tryd.prog l W)
  (hf : (l.filter fun x => x.2.handleName?.isNone).filter (fun x => x.1 == n) = [(n, d)]) (hg : Tryd.prog.globalNamed n = some g) (hty : (Tryd.prog.globals[g]?).map (·.type) = some t) :
  ∃ (cs : Array Value) (fuel : Nat) (p : List MemPlace), (∀ i, W.cell? ⟨g, i, none⟩ = cs[i]?) ∧ g < W.heap.size ∧ DataW.trod (fun _ => ()) Tryd.prog W 0 (fun _ => true) false fuel t cs.toList = some (d, p) ∧ W.var? Tryd.prog n = some cs := by
 have h2 := (laidMetH_iff.1 h).1.filter (fun x => x.1 == n)
 rw [hf] at h2
 obtain ⟨ps, ⟨g', t', cs, fuel, p, q, hg', ht', hvar, hd, _, _⟩, _⟩ := h2
 obtain rfl := Option.some.inj (hg.symm.trans hg')
 obtain rfl := Option.some.inj (hty.symm.trans ht')
 have hv := hvar
 refine ⟨cs, fuel, p, fun i => World.var?_cell hg hvar i, ?_, hd, hv⟩
 clear hv
 unfold World.var? at hvar
 rw [hg] at hvar
 simp only [Option.bind_some] at hvar
 cases hh : W.heap[g]? with
 | none => rw [hh] at hvar; cases hvar
 | some o => exact (Array.getElem?_eq_some_iff.1 hh).1
noncomputable def lst (x : List V) : DataW Unit := match x with
 | [.int k n] => .lit (.int k n)
 | [.int k n, .int k' n'] => .agg [.lit (.int k n), .lit (.int k' n')]
 | _ => .nil
theorem first_rows {W : World} {cs : Array Value} {fuel : Nat} {p : List MemPlace} (h : DataW.trod (fun _ => ()) Tryd.prog W 0 (fun _ => true) false fuel 158 cs.toList = some (.agg (tab1.map lst), p)) (i : Nat) (hi : i < 256) :
  ∃ n, tab1[i]? = some [.int .u8 n] ∧ cs[i]? = some (.int .u8 n) := by
 obtain ⟨xs, m, _, hx, hl, hlen, hr⟩ := DataW.trod_array ut1 h
 have hxs : tab1.map lst = xs.map (·.1) := by
  have := congrArg Prod.fst hx
  simpa using this
 have h1 := hr i hi
 rw [kc1, List.getElem?_eq_getElem (by omega)] at h1
 obtain ⟨n, hc, hy, _⟩ := DataW.trod_int ue1 h1
 have h2 : (tab1.map lst)[i]? = some (.lit (.int .u8 n)) := by
  rw [hxs, List.getElem?_map, List.getElem?_eq_getElem (by omega), hy]; rfl
 refine ⟨n, ?_, ?_⟩
 ·rw [List.getElem?_map] at h2
  obtain ⟨x, hx1, hx2⟩ := Option.map_eq_some_iff.1 h2
  rw [hx1]
  have hk : ∀ y ∈ tab1, ∃ z, y = [.int .u8 z] := by
   have : tab1.all (fun y => match y with | [.int .u8 _] => true | _ => false) = true := by decide +kernel
   intro y hy
   have := List.all_eq_true.1 this y hy
   split at this
   ·exact ⟨_, rfl⟩
   ·cases this
  obtain ⟨z, rfl⟩ := hk x (List.mem_of_getElem? hx1)
  simp only [lst, DataW.lit.injEq, Lit.int.injEq, true_and] at hx2
  rw [hx2]
 ·have := congrArg (·[0]?) hc
  simpa [List.getElem?_take, List.getElem?_drop] using this
theorem second_rows {W : World} {cs : Array Value} {fuel : Nat} {p : List MemPlace} (h : DataW.trod (fun _ => ()) Tryd.prog W 0 (fun _ => true) false fuel 161 cs.toList = some (.agg (tab2.map lst), p)) (i : Nat) (hi : i < 16) :
  ∃ a b, tab2[i]? = some [.int .u8 a, .int .u8 b] ∧ cs[i * 2]? = some (.int .u8 a) ∧ cs[i * 2 + 1]? = some (.int .u8 b) := by
 obtain ⟨xs, m, _, hx, hl, hlen, hr⟩ := DataW.trod_array ut2 h
 have hxs : tab2.map lst = xs.map (·.1) := by
  have := congrArg Prod.fst hx
  simpa using this
 have h1 := hr i hi
 rw [kc2, List.getElem?_eq_getElem (by omega)] at h1
 obtain ⟨ys, m2, _, hy, hl2, hlen2, hr2⟩ := DataW.trod_struct ue2 h1
 have hsz : (fsT (eT 161)).size = 2 := by kernel_rfl
 obtain ⟨g0, hg0, hq0⟩ := Option.map_eq_some_iff.1 uf0
 obtain ⟨g1, hg1, hq1⟩ := Option.map_eq_some_iff.1 uf1
 have f0 := hr2 0 _ hg0
 have f1 := hr2 1 _ hg1
 rw [show g0.type = 5 from congrArg Prod.fst hq0, show g0.offset = 0 from congrArg Prod.snd hq0, kc5] at f0
 rw [show g1.type = 5 from congrArg Prod.fst hq1, show g1.offset = 1 from congrArg Prod.snd hq1, kc5] at f1
 rw [List.getElem?_eq_getElem (by omega)] at f0 f1
 obtain ⟨a, ha, hya, _⟩ := DataW.trod_int u5 f0
 obtain ⟨b, hb, hyb, _⟩ := DataW.trod_int u5 f1
 have hys : ys.map (·.1) = [.lit (.int .u8 a), .lit (.int .u8 b)] := by
  match ys, hlen2.trans hsz with
  | [y0, y1], _ =>
   simp only [List.getElem_cons_zero, List.getElem_cons_succ] at hya hyb
   rw [hya, hyb]; rfl
 have h2 : (tab2.map lst)[i]? = some (.agg [.lit (.int .u8 a), .lit (.int .u8 b)]) := by
  rw [hxs, List.getElem?_map, List.getElem?_eq_getElem (by omega), hy, ← hys]; rfl
 refine ⟨a, b, ?_, ?_, ?_⟩
 ·rw [List.getElem?_map] at h2
  obtain ⟨x, hx1, hx2⟩ := Option.map_eq_some_iff.1 h2
  rw [hx1]
  have hk : ∀ y ∈ tab2, ∃ z z', y = [.int .u8 z, .int .u8 z'] := by
   have : tab2.all (fun y => match y with | [.int .u8 _, .int .u8 _] => true | _ => false) = true := by decide +kernel
   intro y hy
   have := List.all_eq_true.1 this y hy
   split at this
   ·exact ⟨_, _, rfl⟩
   ·cases this
  obtain ⟨z, z', rfl⟩ := hk x (List.mem_of_getElem? hx1)
  simp only [lst, DataW.agg.injEq, List.cons.injEq, DataW.lit.injEq, Lit.int.injEq, true_and, and_true] at hx2
  rw [hx2.1, hx2.2]
 ·have := congrArg (·[0]?) ha
  simpa [List.getElem?_take, List.getElem?_drop] using this
 ·have := congrArg (·[0]?) hb
  simpa [List.getElem?_take, List.getElem?_drop] using this
theorem laid_of {l : List (String × DataW Unit)} {W : World} (h : laidMetH Tryd.prog l W)
  (h1 : (l.filter fun x => x.2.handleName?.isNone).filter (fun x => x.1 == "unicode/utf8.first") = [("unicode/utf8.first", .agg (tab1.map lst))])
  (h2 : (l.filter fun x => x.2.handleName?.isNone).filter (fun x => x.1 == "unicode/utf8.acceptRanges") = [("unicode/utf8.acceptRanges", .agg (tab2.map lst))]) : Laid Tryd.prog (g0 W) W := by
 obtain ⟨cs1, f1, p1, e1, s1, t1, _⟩ := laid_one h h1 gl1 gt1
 obtain ⟨cs2, f2, p2, e2, s2, t2, _⟩ := laid_one h h2 gl2 gt2
 have len1 : tab1.length = 256 := by decide +kernel
 have len2 : tab2.length = 16 := by decide +kernel
 refine ⟨fun t ht => ?_, fun t ht => ?_⟩
 case refine_2 =>
  have ht : t ∈ ([] : List (Nat × String × IntKind × List Int)) := ht
  cases ht
 have ht : t ∈ [(0, 1, tab1), (1, 2, tab2)] := ht
 rcases List.mem_cons.1 ht with rfl | ht
 ·refine ⟨s1, fun i hi => ?_, fun i k hi hk => ?_⟩
  ·have hi : i < tab1.length := hi
   obtain ⟨n, a, _⟩ := first_rows t1 i (by omega)
   show (tab1.getD i []).length = 1
   rw [List.getD_eq_getElem?_getD, a]; rfl
  ·have hi : i < tab1.length := hi
   have hk : k < 1 := hk
   obtain ⟨n, a, b⟩ := first_rows t1 i (by omega)
   obtain rfl : k = 0 := by omega
   refine ⟨.int .u8 n, ?_, ?_⟩
   ·show W.cell? ⟨0, 0 + (i * 1 + 0), none⟩ = _
    rw [show 0 + (i * 1 + 0) = i by omega, e1, b]
   ·show RB _ W ((tab1.getD i []).getD 0 .undef) _
    rw [show tab1.getD i [] = _ from List.getD_eq_getElem?_getD, a]; exact RB.int _ _
 ·obtain rfl := List.mem_singleton.1 ht
  refine ⟨s2, fun i hi => ?_, fun i k hi hk => ?_⟩
  ·have hi : i < tab2.length := hi
   obtain ⟨n, n', a, _⟩ := second_rows t2 i (by omega)
   show (tab2.getD i []).length = 2
   rw [List.getD_eq_getElem?_getD, a]; rfl
  ·have hi : i < tab2.length := hi
   have hk : k < 2 := hk
   obtain ⟨n, n', a, b, c⟩ := second_rows t2 i (by omega)
   match k, hk with
   | 0, _ =>
    refine ⟨.int .u8 n, ?_, ?_⟩
    ·show W.cell? ⟨1, 0 + (i * 2 + 0), none⟩ = _
     rw [show 0 + (i * 2 + 0) = i * 2 by omega, e2, b]
    ·show RB _ W ((tab2.getD i []).getD 0 .undef) _
     rw [show tab2.getD i [] = _ from List.getD_eq_getElem?_getD, a]; exact RB.int _ _
   | 1, _ =>
    refine ⟨.int .u8 n', ?_, ?_⟩
    ·show W.cell? ⟨1, 0 + (i * 2 + 1), none⟩ = _
     rw [show 0 + (i * 2 + 1) = i * 2 + 1 by omega, e2, c]
    ·show RB _ W ((tab2.getD i []).getD 1 .undef) _
     rw [show tab2.getD i [] = _ from List.getD_eq_getElem?_getD, a]; exact RB.int _ _
end Go.Proofs.YtdlijnfdkeimlaaDoor.Am.Keys

namespace Go.Proofs.YtdlijnfdkeimlaaDoor.Am
def ints (xs : List Int) : List (List V) := xs.map fun n => [.int .i64 n]
inductive IV : V → List Int → Prop
 | nil : IV .nils []
 | sl (xs : List Int) : IV (.slice false 1 (ints xs)) xs
def boolL (xs : List Bool) : List (List V) := xs.map fun b => [.bool b]
inductive BV : V → List Bool → Prop
 | nil : BV .nils []
 | sl (xs : List Bool) : BV (.slice false 1 (boolL xs)) xs
section
variable {P : Program}
theorem fits_int {t : TypeId} {k : IntKind} (ht : P.underlying t = some (.int k)) {vs : List V} (h : Fits P t vs) : ∃ n, vs = [.int k n] ∧ (Lit.int k n).wf = true := by
 cases h <;> simp_all
theorem fits_bool {t : TypeId} (ht : P.underlying t = some .bool) {vs : List V} (h : Fits P t vs) : ∃ b, vs = [.bool b] := by
 cases h <;> simp_all
theorem fits_str {t : TypeId} (ht : P.underlying t = some .string) {vs : List V} (h : Fits P t vs) : ∃ s, vs = [.str s] ∧ s.length ≤ maxLen := by
 cases h <;> simp_all
theorem fits_slice {t e : TypeId} (ht : P.underlying t = some (.slice e)) {vs : List V} (h : Fits P t vs) : vs = [.nils] ∨ ∃ xs, vs = [.slice false (P.cellsOf e) xs] ∧ xs.length ≤ maxLen ∧ ∀ x ∈ xs, Fits P e x := by
 cases h with
 | nils => exact .inl rfl
 | slice xs h hl hx =>
  rw [ht] at h
  cases h
  refine .inr ⟨xs, rfl, hl, fun x hm => ?_⟩
  obtain ⟨i, hi, rfl⟩ := List.getElem_of_mem hm
  have := hx i hi
  rwa [List.getD_eq_getElem?_getD, List.getElem?_eq_getElem hi] at this
 | _ => simp_all
theorem fitsV_leaf {t : TypeId} {x : V} {d : TypeDesc} (ht : P.underlying t = some d) (h : FitsV P t x) (hs : ∀ fs, d ≠ .struct fs) (ha : ∀ n e, d ≠ .array n e) : Fits P t [x] := by
 unfold FitsV at h
 rw [ht] at h
 cases d <;> first | exact h | exact absurd rfl (hs _) | exact absurd rfl (ha _ _)
end
end Go.Proofs.YtdlijnfdkeimlaaDoor.Am

namespace Go.Proofs.YtdlijnfdkeimlaaDoor.Am
inductive LT where
 | bool
 | int (k : IntKind)
 | str
 | slice (e : TypeId)
 deriving DecidableEq
def leafsF (P : Program) (F : TypeId → Option (List LT)) : Nat → List Field → Option (List LT)
 | _, [] => some []
 | n, f :: fs => if f.offset = n ∧ (F f.type).map List.length = some (P.cellsOf f.type) then (F f.type).bind fun l => (leafsF P F (n + P.cellsOf f.type) fs).bind fun r => some (l ++ r) else none
def leafs (P : Program) : Nat → TypeId → Option (List LT)
 | 0, _ => none
 | d + 1, t => match P.underlying t with
  | some .bool => some [.bool]
  | some (.int k) => some [.int k]
  | some .string => some [.str]
  | some (.slice e) => some [.slice e]
  | some (.struct fs) => (leafsF P (leafs P d) 0 fs.toList).bind fun l => if l.length = P.cellsOf t then some l else none
  | some (.array n e) => (leafs P d e).bind fun l => if l.length = P.cellsOf e ∧ P.cellsOf t = n * P.cellsOf e then some (List.replicate n l).flatten else none
  | _ => none
def LV (P : Program) (l : LT) (v : V) : Prop :=
 match l with
 | .bool => ∃ b, v = .bool b
 | .int k => ∃ n, v = .int k n ∧ (Lit.int k n).wf = true
 | .str => ∃ s, v = .str s ∧ s.length ≤ maxLen
 | .slice e => v = .nils ∨ ∃ xs, v = .slice false (P.cellsOf e) xs ∧ xs.length ≤ maxLen ∧ ∀ x ∈ xs, Fits P e x
def LVs (P : Program) : List LT → List V → Prop
 | [], [] => True
 | l :: ls, v :: vs => LV P l v ∧ LVs P ls vs
 | _, _ => False
section
variable {P : Program}
theorem LVs.append : ∀ {ls ks : List LT} {vs us : List V}, LVs P ls vs → LVs P ks us → LVs P (ls ++ ks) (vs ++ us)
 | [], _, [], _, _, h => h
 | _ :: _, _, _ :: _, _, h, k => ⟨h.1, LVs.append h.2 k⟩
 | [], _, _ :: _, _, h, _ => h.elim
 | _ :: _, _, [], _, h, _ => h.elim
theorem LVs.len : ∀ {ls : List LT} {vs : List V}, LVs P ls vs → vs.length = ls.length
 | [], [], _ => rfl
 | _ :: _, _ :: _, h => by rw [List.length_cons, List.length_cons, LVs.len h.2]
 | [], _ :: _, h => h.elim
 | _ :: _, [], h => h.elim
theorem leafsF_ok {F : TypeId → Option (List LT)} (hF : ∀ t ls vs, F t = some ls → Fits P t vs → LVs P ls vs) {vs : List V} : ∀ {fs : List Field} {n : Nat} {ls : List LT}, leafsF P F n fs = some ls → (∀ f ∈ fs, Fits P f.type ((vs.drop f.offset).take (P.cellsOf f.type))) →
  LVs P ls ((vs.drop n).take ls.length)
 | [], n, ls, h, _ => by
  simp only [leafsF, Option.some.injEq] at h
  subst h
  rw [List.length_nil, List.take_zero]; trivial
 | f :: fs, n, ls, h, hf => by
  simp only [leafsF] at h
  split at h
  ·rename_i hc
   simp only [Option.bind_eq_some_iff, Option.some.injEq] at h
   obtain ⟨l, hl, r, hr, rfl⟩ := h
   have h1 := hF _ _ _ hl (hf f (.head _))
   have h2 := leafsF_ok hF hr fun g hg => hf g (.tail _ hg)
   have hlen : l.length = P.cellsOf f.type := by
    have := hc.2
    rw [hl] at this
    simpa using this
   rw [hc.1, ← hlen] at h1
   rw [← hlen] at h2
   have hsplit : (vs.drop n).take (l ++ r).length = (vs.drop n).take l.length ++ (vs.drop (n + l.length)).take r.length := by
    rw [List.length_append, List.take_add, List.drop_drop]
   rw [hsplit]
   exact h1.append h2
  ·cases h
theorem leafs_rep {l : List LT} {e : TypeId} (hF : ∀ vs, Fits P e vs → LVs P l vs) (hl : l.length = P.cellsOf e) {vs : List V} : ∀ {n i : Nat}, (∀ j, i ≤ j → j < i + n → Fits P e ((vs.drop (j * P.cellsOf e)).take (P.cellsOf e))) →
  LVs P (List.replicate n l).flatten ((vs.drop (i * P.cellsOf e)).take (n * P.cellsOf e))
 | 0, i, _ => by rw [Nat.zero_mul, List.take_zero]; trivial
 | n + 1, i, h => by
  have h1 := hF _ (h i (Nat.le_refl _) (by omega))
  have h2 := leafs_rep hF hl (n := n) (i := i + 1) fun j hj hk => h j (by omega) (by omega)
  rw [List.replicate_succ, List.flatten_cons, Nat.succ_mul, Nat.add_comm, List.take_add, List.drop_drop]
  rw [Nat.succ_mul] at h2
  exact h1.append h2
theorem fits_leafs : ∀ {d : Nat} {t : TypeId} {ls : List LT} {vs : List V}, leafs P d t = some ls → Fits P t vs → LVs P ls vs := by
 intro d
 induction d with
 | zero => intro t ls vs h; cases h
 | succ d ih =>
  intro t ls vs h hf
  unfold leafs at h
  split at h
  ·rename_i ht
   cases h
   obtain ⟨b, rfl⟩ := fits_bool ht hf
   exact ⟨⟨b, rfl⟩, trivial⟩
  ·rename_i ht
   cases h
   obtain ⟨n, rfl, hw⟩ := fits_int ht hf
   exact ⟨⟨n, rfl, hw⟩, trivial⟩
  ·rename_i ht
   cases h
   obtain ⟨s, rfl, hw⟩ := fits_str ht hf
   exact ⟨⟨s, rfl, hw⟩, trivial⟩
  ·rename_i ht
   cases h
   rcases fits_slice ht hf with rfl | ⟨xs, rfl, h1, h2⟩
   ·exact ⟨.inl rfl, trivial⟩
   ·exact ⟨.inr ⟨xs, rfl, h1, h2⟩, trivial⟩
  ·rename_i fs ht
   simp only [Option.bind_eq_some_iff] at h
   obtain ⟨l, hl, h⟩ := h
   split at h
   ·rename_i hc
    cases h
    cases hf with
    | struct _ ht2 hlen hff =>
     rw [ht] at ht2
     cases ht2
     have := leafsF_ok (vs := vs) (fun _ _ _ a b => ih a b) hl hff
     rwa [List.drop_zero, List.take_of_length_le (by omega)] at this
    | _ => simp_all
   ·cases h
  ·rename_i n e ht
   simp only [Option.bind_eq_some_iff] at h
   obtain ⟨l, hl, h⟩ := h
   split at h
   ·rename_i hc
    cases h
    cases hf with
    | array _ ht2 hlen hff =>
     rw [ht] at ht2
     cases ht2
     have := leafs_rep (vs := vs) (fun _ b => ih hl b) hc.1 (n := n) (i := 0) fun j _ hj => hff j (by omega)
     rwa [Nat.zero_mul, List.drop_zero, List.take_of_length_le (by omega)] at this
    | _ => simp_all
   ·cases h
  ·cases h
end
end Go.Proofs.YtdlijnfdkeimlaaDoor.Am

namespace Go.Proofs.YtdlijnfdkeimlaaDoor.Am
section
variable {P : Program} {W : World} {H : Type} {enc : TypeId × Value → H}
def AsLong (x : V) (d : DataW H) : Prop := ∀ o z xs, x = .slice o z xs → ∃ elems spare, d = .slice elems spare ∧ elems.length = xs.length
theorem asLong {x : V} {v : Value} {t : TypeId} {d : DataW H} {ps : List MemPlace} (hf : FitsV P t x) (ha : ArgOK W x v) (h : DataW.Trod enc P W 0 (fun _ => true) true t v d ps) : AsLong x d := by
 intro o z xs hx
 subst hx
 have hs : ∃ e, P.underlying t = some (.slice e) := by
  unfold FitsV at hf
  split at hf
  ·obtain ⟨cs, e, _⟩ := hf; cases e
  ·obtain ⟨cs, e, _⟩ := hf; cases e
  ·cases hf <;> first | exact ⟨_, by assumption⟩ | simp_all
 obtain ⟨e, ht⟩ := hs
 have hv : ∃ a cap, v = .slice (some a) xs.length cap := by
  cases ha with
  | leaf h => cases h with | slice _ _ a cap _ _ _ _ _ _ _ => exact ⟨a, cap, rfl⟩
 obtain ⟨a, cap, rfl⟩ := hv
 obtain ⟨fuel, h⟩ := h
 rcases DataW.trod_slice ht h with ⟨h1, _⟩ | ⟨a', len, cap', elems, rest, n, _, h1, h2, _, _, _, hel, _⟩
 ·simp [Value.cells] at h1
 ·simp only [Prod.mk.injEq] at h2
  refine ⟨_, _, h2.1, ?_⟩
  have e1 : len = xs.length := by
   have : (Value.slice (some a) xs.length cap).cells.toList = [.slice (some a) xs.length cap] := rfl
   rw [this] at h1
   injection h1 with h1 _
   injection h1 with _ h1 _
   exact h1.symm
  rw [List.length_map, hel, e1]
theorem asLongs : ∀ {ts : List TypeId} {vs : List Value} {ds : List (DataW H)} {ps : List MemPlace} {args : List V}, DataW.TrodAll enc P W 0 (fun _ => true) true ts vs ds ps → args.length = vs.length → (∀ (j : Nat) (t : TypeId), ts[j]? = some t → FitsV P t (args.getD j .undef)) → (∀ k, k < args.length → ArgOK W (args.getD k .undef) (vs.getD k undef)) →
  ∀ (j : Nat) (d : DataW H), ds[j]? = some d → AsLong (args.getD j .undef) d
 | [], vs, ds, ps, args, h, _, _, _, j, d, hd => by
  obtain ⟨rfl, rfl, rfl⟩ := ChangeShapes.trodAll_nil h
  simp at hd
 | t :: ts, vs, ds, ps, args, h, hl, hf, ha, j, d, hd => by
  obtain ⟨v, vs', dd, ds', p, q, rfl, rfl, rfl, h0, r0⟩ := ChangeShapes.trodAll_cons h
  match args, hl with
  | x :: args, hl =>
   cases j with
   | zero =>
    simp only [List.getElem?_cons_zero, Option.some.injEq] at hd
    subst hd
    exact asLong (hf 0 t rfl) (ha 0 (by simp)) h0
   | succ j =>
    exact asLongs r0 (by simpa using hl) (fun i t' hi => hf (i + 1) t' hi) (fun k hk => ha (k + 1) (by simpa using hk)) j d hd
theorem law_contractU [Lay P] {T : Table} (hLd : Laid P (g0 W) W) (hT : TableOK P T) {f : Nat} {fn : Func} {tb : TypeId} {s : ChangeSpec} {apart fresh handsOn again : Bool} {d : Nat} (hbool : P.underlying tb = some .bool) (hres : fn.resultTypes = #[tb]) (hvars : s.vars = [])
  (hspec : ∀ ds : List (DataW H), ds.length = fn.params.toList.length → s.fn H ds = { results := [.lit (.bool true)], args := ds }) (hl : laidOutB P = true) (hr : (fn.params.toList.all fun t => P.readableRec t && decide (t < P.types.size)) = true)
  (hsup : fn.params.toList.all (supT P d) = true) {base : Nat} {args : Array Value} {ds gs : List (DataW H)} {before : List MemPlace}
  (law : ds.length = fn.params.toList.length → ∀ zs9 : List V, zs9.length = fn.params.toList.length → (∀ (j : Nat) (t : TypeId), fn.params.toList[j]? = some t → FitsV P t (zs9.getD j .undef)) → (∀ (j : Nat) (d : DataW H), ds[j]? = some d → AsLong (zs9.getD j .undef) d) → ∃ m', RF T f zs9 [] = some (.bool true, m'))
  (hval : ∀ (j : Nat) t v, fn.params[j]? = some t → args[j]? = some v → Value.okWide P W .any base t v) (hW : DataW.Whole enc P fn.params.toList s.vars apart W args.toList ds gs before) :
  Calls P f args W fun e W' => ∃ v, e = .returned v ∧ s.post enc P fn apart fresh handsOn again W args v W' := by
 have hW' := hW
 obtain ⟨p, q, hA, hV, rfl, hfz, hnd⟩ := hW
 rw [hvars] at hV
 obtain ⟨rfl, rfl⟩ := ChangeShapes.trodVars_none hV
 obtain ⟨zs9, h1, h2, h3, h4⟩ := args_of (base := base) hsup (fun j t v hj hv => hval j t v (by simpa using hj) (by simpa using hv)) hA
 obtain ⟨m', hm⟩ := law (trodAll_len hA) zs9 (by rw [h1, h2]) h3 (asLongs hA h1 h3 h4)
 have hds : ds.length = fn.params.toList.length := trodAll_len hA
 refine (law_calls hLd hT hm h1 h4).mono fun e W' ⟨he, hb⟩ => ?_
 subst he
 have hsp : s.fn H (ds ++ []) = { results := [.lit (.bool true)], args := ds } := by rw [List.append_nil]; exact hspec ds hds
 refine ⟨_, rfl, post_of_below (pa := p) (pv := []) hW' (fun b sp hd => ?_) (fun sp hspb => ?_) (fun sp _ => ?_) rfl hb (RowKit.ok_one hres rfl (RowKit.okWide_bool_mk hbool _))⟩
 ·rw [hsp, hres]
  exact trodAll_cons_mk (RowKit.shut_bool hbool true) rfl
 ·rw [hsp]
  exact args_stay hl hr hA (fun x hx => hb.same (hW'.lt x (by simpa using hx))) (fun x hx => hspb x (by simpa using hx))
 ·rw [hsp, hvars]; exact rfl
end
end Go.Proofs.YtdlijnfdkeimlaaDoor.Am

set_option linter.all false
namespace Go.Proofs.YtdlijnfdkeimlaaDoor.Am.Keys
open Go.Proofs.YtdlijnfdkeimlaaDoor.Am.T
theorem den_long {H : Type} {ρ : List Nat} {w : Bool} {z : Nat} {ys : List (List TV)} {x : V} {d : DataW H} (h : Den ρ (.sl w z ys) x) (ha : AsLong x d) : ys.length = 0 ∨ ∃ elems spare, d = .slice elems spare ∧ elems.length = ys.length := by
  rcases den_sl h with ⟨_, rfl⟩ | ⟨zs, rfl, hp⟩
  · exact .inl rfl
  · obtain ⟨elems, spare, e, hl⟩ := ha _ _ _ rfl
    exact .inr ⟨elems, spare, e, by rw [hl, hp.length]⟩
end Go.Proofs.YtdlijnfdkeimlaaDoor.Am.Keys

set_option linter.all false
namespace Go.Proofs.YtdlijnfdkeimlaaDoor.Am.Keys
open Go.Proofs.YtdlijnfdkeimlaaDoor.Am.T
theorem cells_key {P : Program} {e : TypeId} (hl : leafs P 8 e = some [.int .i32, .int .i64]) {cs : List V} (h : Fits P e cs) : ∃ k : Key, Pw Den0 k.c cs := by
  have h3 := fits_leafs hl h
  have h4 : cs.length = 2 := h3.len
  match cs, h4 with
  | [x1, x2], _ =>
    obtain ⟨h1, h2, _⟩ := h3
    obtain ⟨a, rfl, _⟩ := h1
    obtain ⟨b, rfl, _⟩ := h2
    exact ⟨⟨a, b⟩, .cons (.int _ _) (.cons (.int _ _) .nil)⟩
theorem keys_list {P : Program} {e : TypeId} (hl : leafs P 8 e = some [.int .i32, .int .i64]) : ∀ xs : List (List V), (∀ y ∈ xs, Fits P e y) → ∃ ks : List Key, Pw (Pw Den0) (ks.map Key.c) xs
  | [], _ => ⟨[], .nil⟩
  | y :: ys, hh => by
    obtain ⟨ks, h1⟩ := keys_list hl ys fun z hz => hh z (.tail _ hz)
    obtain ⟨k, h2⟩ := cells_key hl (hh y (.head _))
    exact ⟨k :: ks, .cons h2 h1⟩
theorem keys_den0 {P : Program} {t e : TypeId} (ht : P.underlying t = some (.slice e)) (hl : leafs P 8 e = some [.int .i32, .int .i64]) (hc : P.cellsOf e = 2) {cs : List V} (h : Fits P t cs) : ∃ ks : List Key, Pw Den0 [.sl false 2 (ks.map Key.c)] cs := by
  rcases fits_slice ht h with h | ⟨xs, h, _, hx⟩
  · subst h; exact ⟨[], .cons (.sln false 2) .nil⟩
  · subst h
    obtain ⟨ks, h1⟩ := keys_list hl xs hx
    rw [hc]
    exact ⟨ks, .cons (.sl false 2 h1) .nil⟩
theorem fits_keys {P : Program} {t e : TypeId} (ht : P.underlying t = some (.slice e)) (hl : leafs P 8 e = some [.int .i32, .int .i64]) (hc : P.cellsOf e = 2) {x : V} (h : Fits P t [x]) : ∃ ks : List Key, Den [] (.sl false 2 (ks.map Key.c)) x := by
  obtain ⟨ks, h⟩ := keys_den0 ht hl hc h
  cases h with | cons h _ => exact ⟨ks, .base h⟩
end Go.Proofs.YtdlijnfdkeimlaaDoor.Am.Keys

set_option linter.all false
namespace Go.Proofs.YtdlijnfdkeimlaaDoor.Am.Keys
open Go.Proofs.YtdlijnfdkeimlaaDoor.Am.T
theorem keysBack_ok {ks : List Key} {x : V} (hx : Den [] (.sl false 2 (ks.map Key.c)) x) (hk : ks.length ≤ 1048576) : ∃ m', RF ET 6 [x] [] = some (.bool true, m') :=
  CallT.law (casementlaw18_KeysBack_ok (back_pure hk)) (.cons hx .nil)
end Go.Proofs.YtdlijnfdkeimlaaDoor.Am.Keys

/-
KeysBack answers true where the input is of bounded bulk; the input reads as it did.
-/
namespace Go.Proofs.YtdlijnfdkeimlaaDoor
open Go.Proofs.YtdlijnfdkeimlaaDoor.Am Go.Proofs.YtdlijnfdkeimlaaDoor.Am.Keys
open Go.ChangeShapes Go.WideShapes Go.ChangeAt Go.RowKit
namespace keysBackUpto
theorem shape (l : List V) (h : l.length = 1) : ∃ x0, l = [x0] := by
  match l, h with
  | [x0], _ => exact ⟨x0, rfl⟩
theorem own : ownKnob Tryd.prog.godebug = none := by kernel_rfl
theorem laidB : laidOutB Tryd.prog = true := by kernel_rfl
theorem one_le {H : Type} (d : DataW H) : 1 ≤ Rows.uptoBulk d := by
  cases d with
  | lit l => cases l <;> simp [Rows.uptoBulk]
  | _ => simp [Rows.uptoBulk]
theorem part_le {H : Type} {d : DataW H} {l : List (DataW H)} (h : d ∈ l) : Rows.uptoBulk d ≤ Rows.uptoBulkAll l := by
  induction l with
  | nil => cases h
  | cons x r ih =>
    simp only [Rows.uptoBulkAll]
    cases List.mem_cons.1 h with
    | inl e => subst e; omega
    | inr e => have := ih e; omega
theorem append_le {H : Type} (l r : List (DataW H)) : Rows.uptoBulkAll l ≤ Rows.uptoBulkAll (l ++ r) := by
  induction l with
  | nil => exact Nat.zero_le _
  | cons x l ih => rw [List.cons_append]; simp only [Rows.uptoBulkAll]; omega
theorem len_le {H : Type} (l : List (DataW H)) : l.length ≤ Rows.uptoBulkAll l := by
  induction l with
  | nil => exact Nat.zero_le _
  | cons x l ih => simp only [Rows.uptoBulkAll, List.length_cons]; have := one_le x; omega
theorem slice_le {H : Type} {n : Nat} {d : DataW H} (h : n = 0 ∨ ∃ elems spare, d = .slice elems spare ∧ elems.length = n) (hb : Rows.uptoBulk d ≤ 1048576) : n ≤ 1048576 := by
  rcases h with rfl | ⟨elems, spare, rfl, rfl⟩
  · omega
  · have := len_le elems
    simp only [Rows.uptoBulk] at hb
    omega
set_option maxRecDepth 100000 in
theorem law {H : Type} (ds : List (DataW H)) (hk : Rows.uptoBulkAll ds ≤ 1048576) (hds : ds.length = Tryd.f6.params.toList.length) (l : List V) (hl : l.length = Tryd.f6.params.toList.length) (h : ∀ (j : Nat) (t : TypeId), Tryd.f6.params.toList[j]? = some t → FitsV Tryd.prog t (l.getD j .undef)) (hlong : ∀ (j : Nat) (d : DataW H), ds[j]? = some d → AsLong (l.getD j .undef) d) : ∃ m', RF ET 6 l [] = some (.bool true, m') := by
  have hln : l.length = 1 := hl
  have hdn : ds.length = 1 := hds
  obtain ⟨x0, rfl⟩ := shape l hln
  match ds, hdn with
  | [d0], _ =>
    have h0 := h 0 43 (by kernel_rfl)
    have k0 := hlong 0 _ rfl
    have b0 : Rows.uptoBulk d0 ≤ 1048576 := Nat.le_trans (part_le (by simp)) hk
    have u1 : Tryd.prog.underlying 43 = some (.slice 42) := by kernel_rfl
    have ul : leafs Tryd.prog 8 42 = some [.int .i32, .int .i64] := by kernel_rfl
    obtain ⟨ks, hx⟩ := fits_keys u1 ul (by kernel_rfl) (fitsV_leaf u1 h0 (fun _ e => by cases e) (fun _ _ e => by cases e))
    have e0 := slice_le (den_long hx k0) b0
    rw [List.length_map] at e0
    exact keysBack_ok hx e0
noncomputable def laidWorld (os : Os) : World :=
  { World.holding Tryd.prog os ⟨#[], #[], []⟩ with heap := (((World.holding Tryd.prog os ⟨#[], #[], []⟩).heap.modify 0 fun
      | .cells _ t frozen => .cells ((Go.Pinned.utf8FirstZ.map fun (n : Nat) => Value.int .u8 n).toArray) t frozen
      | o => o).modify 1 fun
      | .cells _ t frozen => .cells #[.int .u8 128, .int .u8 191, .int .u8 160, .int .u8 191, .int .u8 128, .int .u8 159, .int .u8 144, .int .u8 191, .int .u8 128, .int .u8 143, .int .u8 0, .int .u8 0, .int .u8 0, .int .u8 0, .int .u8 0, .int .u8 0, .int .u8 0, .int .u8 0, .int .u8 0, .int .u8 0, .int .u8 0, .int .u8 0, .int .u8 0, .int .u8 0, .int .u8 0, .int .u8 0, .int .u8 0, .int .u8 0, .int .u8 0, .int .u8 0, .int .u8 0, .int .u8 0] t frozen
      | o => o) }
theorem laid_met (os : Os) : laidMet Tryd.prog Rows.keysBackUptoRow.laid ((laidWorld os).forCall (fun _ _ => 0) ⟨#[], #[.slice none 0 0], []⟩).memory :=
  laidMet_of_run' 8 (by kernel_rfl) (by kernel_rfl)
theorem reads (os : Os) {H : Type} (enc : TypeId × Value → H) : ∃ places, DataW.whole enc Tryd.prog ((laidWorld os).forCall (fun _ _ => 0) ⟨#[], #[.slice none 0 0], []⟩).memory Tryd.f6.params.toList Rows.keysBackSpec.vars false (#[.slice none 0 0] : Array Value).toList 8 = some ([.nil], [], places) :=
  ⟨[], by kernel_rfl⟩
set_option maxRecDepth 100000 in
theorem lifted (os : Os) (started : os.Started) (H : Type) (enc : TypeId × Value → H) (F : Stop.Interp) :
    ReturnsInHanded {} Tryd.checked os 6 .any ((Rows.OpenSpec.upto Rows.keysBackSpec).preRow enc Tryd.prog Tryd.f6 Rows.keysBackUptoRow.domain false Rows.keysBackUptoRow.laid) (((Rows.OpenSpec.upto Rows.keysBackSpec).at F).post enc Tryd.prog Tryd.f6 false true false false) := by
  obtain ⟨places, hx⟩ := reads os enc
  refine returnsInHanded_of_row (C := Tryd.checked) (s := (Rows.OpenSpec.upto Rows.keysBackSpec)) own started (by kernel_rfl) Tryd.func6
    (witness_row_at (enc := enc) (C := Tryd.checked) false (laidWorld os) #[.slice none 0 0] rfl (by kernel_rfl) (by kernel_rfl) (by kernel_rfl)
      (OpenSpec.preRow_of_cond 8 hx (by kernel_rfl) (fun k hk => by cases hk; kernel_rfl) (by kernel_rfl) (laid_met os))) ?_
  intro W base args ds gs before hval hW _ hk _ hlaid _ _
  have hk2 : Rows.uptoBulkAll ds ≤ 1048576 := Nat.le_trans (append_le ds gs) (of_decide_eq_true (hk Rows.uptoSmall rfl))
  exact law_contractU (laid_of hlaid (by kernel_rfl) (by kernel_rfl)) ET_ok (tb := 4) (d := 8) (by kernel_rfl) (by kernel_rfl) rfl
    (fun ds hd => by
      have hdn : ds.length = 1 := hd
      match ds, hdn with
      | [_], _ => rfl) laidB (by kernel_rfl) (by kernel_rfl) (law ds hk2) hval hW
theorem said : Rows.KeysBackUptoSaid :=
  OpenClaim.holds_of_cond 6 Tryd.f6 rfl rfl rfl rfl rfl rfl rfl ⟨rfl, rfl, rfl, rfl, rfl⟩ rfl rfl rfl rfl rfl (by kernel_rfl) Tryd.func6 (by kernel_rfl)
    (of_decide_eq_true (by kernel_rfl)) (by unfold Func.isWrapper; first | (rw [if_pos (by decide +kernel)]; kernel_rfl) | (rw [if_neg (by decide +kernel)]; exact ⟨rfl, rfl⟩))
    (fun os started H enc _ F => by rw [OpenClaim.pre_eq_preRow]; exact lifted os started H enc F)
theorem nowant : (Tryd.f6.params.toList.all fun t => Tryd.prog.wantsStandIn t == false) = true := by kernel_rfl
theorem plain (f : FuncId) (fn : Func) (hf : Tryd.pinned.checked.prog.funcNamed "casement/casementlaw18.KeysBack" = some f) (hfn : Tryd.pinned.checked.prog.funcs[f]? = some fn) :
    false = Tryd.pinned.checked.prog.looks [] ∧ ∀ (j : Nat) t, fn.params[j]? = some t → Tryd.pinned.checked.prog.wantsStandIn t = false := by
  obtain rfl : f = 6 := Option.some.inj ((show Tryd.prog.funcNamed "casement/casementlaw18.KeysBack" = some 6 by kernel_rfl).symm.trans hf) |>.symm
  obtain rfl : fn = Tryd.f6 := (Option.some.inj (Tryd.func6.symm.trans hfn)).symm
  refine ⟨by kernel_rfl, fun j t ht => ?_⟩
  exact beq_iff_eq.1 (List.all_eq_true.1 nowant t (Array.mem_toList_iff.2 (Array.mem_of_getElem? ht)))
theorem holds : Rows.KeysBackUptoCardSaid :=
  Claim7.holds_tied_plain_at .later [] _ _ _ _ said (fun _ h => by cases h) (by kernel_rfl) (fun _ h => by cases h) keysBackUpto_row_tie rfl ⟨rfl, rfl⟩ (by kernel_rfl) rfl plain (by kernel_rfl)
#print axioms holds
end keysBackUpto
end Go.Proofs.YtdlijnfdkeimlaaDoor
