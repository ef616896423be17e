/-
KeysNames answers true where the input is of bounded bulk; the input reads as it did.
-/
import Derived.Test.YtdlijnfdkeimlaaDoorAmKeysNamesRow5
import Derived.ChangeReads
import Derived.ChangeArms
import Derived.Carry
import Derived.OpenShut
import Derived.ChangeSame
import Derived.RowKit
import Derived.Test.YtdlijnfdkeimlaaDoorRows
import Derived.LaidSub
import Derived.Test.YtdlijnfdkeimlaaDoorCards
import Derived.Test.YtdlijnfdkeimlaaDoorTie
import Derived.WalkKit
import Derived.ProofKit
import Derived.Deep.DeepHandedRow
import Derived.Lib.LaidTab
set_option linter.all false
namespace Go.Proofs.YtdlijnfdkeimlaaDoor.Am.Keys
open Go.Proofs.YtdlijnfdkeimlaaDoor.Am.T
def nameOf (t : List Int) : Option Int := if t = [84, 97, 98] then some 9 else if t = [69, 110, 116, 101, 114] then some 13 else if t = [69, 115, 99] then some 27 else if t = [66, 97, 99, 107] then some 127 else if t = [83, 112, 97, 99, 101] then some 32 else none
abbrev namesT : List (List Int) := [[84, 97, 98], [69, 110, 116, 101, 114], [69, 115, 99], [66, 97, 99, 107], [83, 112, 97, 99, 101]]
abbrev runesT : List Int := [9, 13, 27, 127, 32]
theorem called_at (i : Nat) (hi : i < 5) : keys_called (runesT.getD i 0) = some (namesT.getD i []) := by
  have : i = 0 ∨ i = 1 ∨ i = 2 ∨ i = 3 ∨ i = 4 := by omega
  rcases this with rfl | rfl | rfl | rfl | rfl <;> (rw [called_is (by decide)]; decide)
theorem pk_step (j : List Int × Key) (i : Nat) (hi : i < 5) : keys_parse_l1 j (i : Int) = if j.1 = namesT.getD i [] then some (.inr (.inl (decide (rightT ⟨runesT.getD i 0, j.2.Mods⟩), ⟨runesT.getD i 0, j.2.Mods⟩))) else some (.inl ((i + 1 : Nat) : Int)) := by
  have hx : idx runesT (i : Int) = some (runesT.getD i 0) := by rw [idx_is (d := 0) (by omega) (by simp; omega), Int.toNat_natCast]
  simp only [keys_parse_l1, letB]
  rw [decide_eq_true (show (i : Int) < (([9, 13, 27, 127, 32] : List Nat).length : Int) by simp; omega), hx, w64_id (by omega) (by omega)]
  simp only [cond_true, Option.bind_some, called_at i hi, right_is]
  by_cases hr : j.1 = namesT.getD i []
  · rw [decide_eq_true hr.symm, if_pos hr]; rfl
  · rw [decide_eq_false (fun e => hr e.symm), if_neg hr]; rfl
theorem pk_end (j : List Int × Key) : keys_parse_l1 j 5 = some (.inr (.inr ())) := by
  simp only [keys_parse_l1, letB]; rfl
theorem pr_step (j : List Int × Key) (i : Nat) (hi : i < 5) : casementref18_parse_l1 j namesL (i : Int) = if j.1 = namesT.getD i [] then some (.inr (.inl (decide (rightT ⟨runesT.getD i 0, j.2.Mods⟩), ⟨runesT.getD i 0, j.2.Mods⟩, ⟨runesT.getD i 0, j.2.Mods⟩))) else some (.inl ((i + 1 : Nat) : Int)) := by
  have hx : idx namesL.1 (i : Int) = some (runesT.getD i 0) := by rw [idx_is (d := 0) (by omega) (by simp; omega), Int.toNat_natCast]
  have hy : idx namesL.2 (i : Int) = some (namesT.getD i []) := by rw [idx_is (d := []) (by omega) (by simp; omega), Int.toNat_natCast]
  simp only [casementref18_parse_l1, letB]
  rw [decide_eq_true (show (i : Int) < ((namesL.1).length : Int) by simp; omega), hx, hy, w64_id (by omega) (by omega)]
  simp only [cond_true, Option.bind_some, right_ref]
  by_cases hr : j.1 = namesT.getD i []
  · rw [decide_eq_true hr, if_pos hr]; rfl
  · rw [decide_eq_false hr, if_neg hr]; rfl
theorem pr_end (j : List Int × Key) : casementref18_parse_l1 j namesL 5 = some (.inr (.inr ())) := by
  simp only [casementref18_parse_l1, letB]; rfl
theorem five {β : Type} {f : Int → Option (Int ⊕ (β ⊕ Unit))} {t : List Int} {g : Int → β}
    (hs : ∀ i : Nat, i < 5 → f (i : Int) = if t = namesT.getD i [] then some (.inr (.inl (g (runesT.getD i 0)))) else some (.inl ((i + 1 : Nat) : Int))) (he : f 5 = some (.inr (.inr ()))) :
    iter f 0 = some (match nameOf t with | some r => .inl (g r) | none => .inr ()) := by
  have s0 : f 0 = if t = [84, 97, 98] then some (.inr (.inl (g 9))) else some (.inl 1) := hs 0 (by omega)
  have s1 : f 1 = if t = [69, 110, 116, 101, 114] then some (.inr (.inl (g 13))) else some (.inl 2) := hs 1 (by omega)
  have s2 : f 2 = if t = [69, 115, 99] then some (.inr (.inl (g 27))) else some (.inl 3) := hs 2 (by omega)
  have s3 : f 3 = if t = [66, 97, 99, 107] then some (.inr (.inl (g 127))) else some (.inl 4) := hs 3 (by omega)
  have s4 : f 4 = if t = [83, 112, 97, 99, 101] then some (.inr (.inl (g 32))) else some (.inl 5) := hs 4 (by omega)
  unfold nameOf
  by_cases h1 : t = [84, 97, 98]
  · rw [if_pos h1] at s0 ⊢; exact iter_inr s0
  · rw [if_neg h1] at s0 ⊢
    rw [iter_inl s0]
    by_cases h2 : t = [69, 110, 116, 101, 114]
    · rw [if_pos h2] at s1 ⊢; exact iter_inr s1
    · rw [if_neg h2] at s1 ⊢
      rw [iter_inl s1]
      by_cases h3 : t = [69, 115, 99]
      · rw [if_pos h3] at s2 ⊢; exact iter_inr s2
      · rw [if_neg h3] at s2 ⊢
        rw [iter_inl s2]
        by_cases h4 : t = [66, 97, 99, 107]
        · rw [if_pos h4] at s3 ⊢; exact iter_inr s3
        · rw [if_neg h4] at s3 ⊢
          rw [iter_inl s3]
          by_cases h5 : t = [83, 112, 97, 99, 101]
          · rw [if_pos h5] at s4 ⊢; exact iter_inr s4
          · rw [if_neg h5] at s4 ⊢
            rw [iter_inl s4]
            exact iter_inr he
theorem p2_loop (y : Int × Int) : iter (fun s => casementref18_parse_l2 namesL y s : Int → Option (Int ⊕ (Unit ⊕ Unit))) 0 = some (if y.2 ∈ runesT then .inl () else .inr ()) := by
  have st : ∀ i : Nat, i < 5 → casementref18_parse_l2 namesL y (i : Int) = if y.2 = runesT.getD i 0 then some (.inr (.inl ())) else some (.inl ((i + 1 : Nat) : Int)) := by
    intro i hi
    have hx : idx namesL.1 (i : Int) = some (runesT.getD i 0) := by rw [idx_is (d := 0) (by omega) (by simp; omega), Int.toNat_natCast]
    simp only [casementref18_parse_l2, letB]
    rw [decide_eq_true (show (i : Int) < ((namesL.1).length : Int) by simp; omega), hx, w64_id (by omega) (by omega)]
    simp only [cond_true, Option.bind_some]
    by_cases hr : y.2 = runesT.getD i 0
    · rw [decide_eq_true hr, if_pos hr]; rfl
    · rw [decide_eq_false hr, if_neg hr]; rfl
  have s0 : casementref18_parse_l2 namesL y 0 = if y.2 = 9 then some (.inr (.inl ())) else some (.inl 1) := st 0 (by omega)
  have s1 : casementref18_parse_l2 namesL y 1 = if y.2 = 13 then some (.inr (.inl ())) else some (.inl 2) := st 1 (by omega)
  have s2 : casementref18_parse_l2 namesL y 2 = if y.2 = 27 then some (.inr (.inl ())) else some (.inl 3) := st 2 (by omega)
  have s3 : casementref18_parse_l2 namesL y 3 = if y.2 = 127 then some (.inr (.inl ())) else some (.inl 4) := st 3 (by omega)
  have s4 : casementref18_parse_l2 namesL y 4 = if y.2 = 32 then some (.inr (.inl ())) else some (.inl 5) := st 4 (by omega)
  have s5 : casementref18_parse_l2 namesL y 5 = some (.inr (.inr ())) := by simp only [casementref18_parse_l2, letB]; rfl
  have hm : (y.2 ∈ runesT) ↔ (y.2 = 9 ∨ y.2 = 13 ∨ y.2 = 27 ∨ y.2 = 127 ∨ y.2 = 32) := by simp
  by_cases h1 : y.2 = 9
  · rw [if_pos h1] at s0; rw [if_pos (hm.2 (.inl h1))]; exact iter_inr s0
  rw [if_neg h1] at s0
  rw [iter_inl s0]
  by_cases h2 : y.2 = 13
  · rw [if_pos h2] at s1; rw [if_pos (hm.2 (.inr (.inl h2)))]; exact iter_inr s1
  rw [if_neg h2] at s1
  rw [iter_inl s1]
  by_cases h3 : y.2 = 27
  · rw [if_pos h3] at s2; rw [if_pos (hm.2 (.inr (.inr (.inl h3))))]; exact iter_inr s2
  rw [if_neg h3] at s2
  rw [iter_inl s2]
  by_cases h4 : y.2 = 127
  · rw [if_pos h4] at s3; rw [if_pos (hm.2 (.inr (.inr (.inr (.inl h4)))))]; exact iter_inr s3
  rw [if_neg h4] at s3
  rw [iter_inl s3]
  by_cases h5 : y.2 = 32
  · rw [if_pos h5] at s4; rw [if_pos (hm.2 (.inr (.inr (.inr (.inr h5)))))]; exact iter_inr s4
  rw [if_neg h5] at s4
  rw [iter_inl s4, if_neg (fun h => by have := hm.1 h; omega)]
  exact iter_inr s5
def keyOf (t : List Int) (m : Int) : Option Key := match nameOf t with
  | some r => if rightT ⟨r, m⟩ then some ⟨r, m⟩ else none
  | none => if (whR t (t.getD 0 0)).1 = (t.length : Int) ∧ t ≠ [] ∧ rightT ⟨(whR t (t.getD 0 0)).2, m⟩ ∧ ¬ (whR t (t.getD 0 0)).2 ∈ runesT then some ⟨(whR t (t.getD 0 0)).2, m⟩ else none
def modsOf (s : List Int) : List Int × Int :=
  let a := cutT s [67, 116, 114, 108, 45]
  let b := cutT a.1 [65, 108, 116, 45]
  (b.1, (if a.2 then 1 else 0) + (if b.2 then 2 else 0))
def parseT (s : List Int) : Option Key := keyOf (modsOf s).1 (modsOf s).2
def Says (x : Option (Key × Bool)) (k : Option Key) : Prop := ∃ k' ok, x = some (k', ok) ∧ (match k with | some k => ok = true ∧ k' = k | none => ok = false)
theorem Says.some_of {k : Key} {b : Bool} {c : Prop} [Decidable c] (h : b = decide c) : Says (some (k, b)) (if c then some k else none) := by
  refine ⟨k, b, rfl, ?_⟩
  by_cases hc : c
  · rw [if_pos hc]; exact ⟨by rw [h, decide_eq_true hc], rfl⟩
  · rw [if_neg hc]; show b = false; rw [h, decide_eq_false hc]
theorem drop_slow : unicode_utf8_DecodeRuneInString [] = some (65533, 0) := by
  unfold unicode_utf8_DecodeRuneInString unicode_utf8_decodeRuneInStringSlow
  rfl
theorem byts_cut {s p : List Int} (h : Byts s) : Byts (cutT s p).1 := by
  unfold cutT; split
  · exact h.drop _
  · exact h
theorem tail_keys {t : List Int} {k : Key} (hb : Byts t) (hk : k.Rune = 0) :
    Says ((iter (fun s => keys_parse_l1 (t, k) s : Int → Option (Int ⊕ ((Bool × Key) ⊕ Unit))) 0).bind fun j14 =>
  match j14 with
  | .inl z15 => (
    some (z15.2, z15.1))
  | .inr z16 => (
    (unicode_utf8_DecodeRuneInString t).bind fun y17 =>
    letB (decide (y17.2 = (t.length : Int))) fun c18 =>
    (bif c18 then (
      letB (decide (y17.2 > 0)) fun c20 =>
      some (c20)) else some false).bind fun g19 =>
    (bif g19 then (
      letB (decide (y17.1 ≠ 65533)) fun c23 =>
      (bif c23 then some true else (
        letB (decide (y17.2 > 1)) fun c25 =>
        some (c25))).bind fun g24 =>
      some (g24)) else some false).bind fun g22 =>
    (bif g22 then (
      (keys_Right (Key.mk y17.1 k.Mods)).bind fun y29 =>
      some (y29)) else some false).bind fun g28 =>
    (bif g28 then (
      (keys_called y17.1).bind fun y32 =>
      letB (decide (y32 = t)) fun c33 =>
      some (c33)) else some false).bind fun g31 =>
    some ((Key.mk y17.1 k.Mods), g31))) (keyOf t k.Mods) := by
  rw [five (t := t) (g := fun r => (decide (rightT ⟨r, k.Mods⟩), (⟨r, k.Mods⟩ : Key))) (fun i hi => pk_step (t, k) i hi) (pk_end (t, k))]
  unfold keyOf
  cases hn : nameOf t with
  | some r => exact Says.some_of rfl
  | none =>
    simp only [Option.bind_some, letB]
    by_cases h0 : t = []
    · subst h0
      rw [drop_slow]
      refine ⟨⟨65533, k.Mods⟩, false, rfl, ?_⟩
      rw [if_neg (fun h => h.2.1 rfl)]
    rw [decS_is hb h0]
    have hpos := List.length_pos_iff.2 h0
    simp only [Option.bind_some, and_s, or_s, right_is]
    generalize hw : whR t (t.getD 0 0) = w
    obtain ⟨n, v⟩ := w
    by_cases hz : n = 0
    · have : (n, v) = (0, 0) := by
        unfold whR at hw
        split at hw
        · have := (Prod.mk.inj hw).1; omega
        · split at hw
          · have := (Prod.mk.inj hw).1; omega
          · exact hw.symm
      rw [dec_bad (hw.trans this)]
      have : (decide ((1 : Int) = (t.length : Int)) && decide ((1 : Int) > 0) && (decide ((65533 : Int) ≠ 65533) || decide ((1 : Int) > 1))) = false := by
        rw [show (decide ((65533 : Int) ≠ 65533) || decide ((1 : Int) > 1)) = false by decide, Bool.and_false]
      refine ⟨⟨65533, k.Mods⟩, false, ?_, ?_⟩
      · simp
      · rw [if_neg (fun h => by have := h.1; simp only at this; omega)]
    · have hn0 : 0 < n := by
        unfold whR at hw
        split at hw
        · have := (Prod.mk.inj hw).1; omega
        · split at hw
          · have := (Prod.mk.inj hw).1; omega
          · have := (Prod.mk.inj hw).1; omega
      obtain ⟨m, rfl⟩ := Int.eq_ofNat_of_zero_le (show 0 ≤ n by omega)
      rw [dec_good (n := m) (by omega) hw]
      by_cases hl : (m : Int) = (t.length : Int)
      · rw [hl] at hw
        obtain ⟨he, hR⟩ := enc_back hb h0 hw
        have h1 : (decide (v ≠ 65533) || decide ((m : Int) > 1)) = true := by
          by_cases hv : v = 65533
          · rw [hv, show encI 65533 = [239, 191, 189] by decide] at he
            rw [← he] at hl
            rw [decide_eq_true (show (m : Int) > 1 by simp at hl; omega), Bool.or_true]
          · rw [decide_eq_true hv, Bool.true_or]
        have h2 : (calledT v = t) ↔ ¬ v ∈ runesT := by
          have hm : (v ∈ runesT) ↔ (v = 9 ∨ v = 13 ∨ v = 27 ∨ v = 127 ∨ v = 32) := by simp
          rw [hm]
          constructor
          · intro hc hv
            rcases hv with rfl | rfl | rfl | rfl | rfl <;> (rw [← he] at hc; revert hc; decide)
          · intro hv
            unfold calledT
            rw [if_neg (by omega), if_neg (by omega), if_neg (by omega), if_neg (by omega), if_neg (by omega), he]
        rw [decide_eq_true hl, decide_eq_true (show (m : Int) > 0 by omega)]
        simp only [Bool.true_and, cond_true, Option.bind_some]
        rw [h1]
        simp only [Bool.true_and]
        rw [called_is hR]
        simp only [Option.bind_some]
        rw [and_s]
        refine Says.some_of ?_
        rw [Bool.eq_iff_iff]
        simp only [Bool.and_eq_true, decide_eq_true_eq]
        rw [h2]
        exact ⟨fun h => ⟨hl, h0, h.1, h.2⟩, fun h => ⟨h.2.2.1, h.2.2.2⟩⟩
      · rw [decide_eq_false hl]
        refine ⟨⟨v, k.Mods⟩, false, rfl, ?_⟩
        rw [if_neg (fun h => hl h.1)]
theorem whole_nil : casementref01_Whole [] = some (0, 0) := by
  unfold casementref01_Whole; rfl
theorem tail_ref {t : List Int} {k : Key} (hb : Byts t) :
    Says ((iter (fun s => casementref18_parse_l1 (t, k) namesL s : Int → Option (Int ⊕ ((Bool × Key × Key) ⊕ Unit))) 0).bind fun j17 =>
  match j17 with
  | .inl z18 => (
    some (z18.2.1, z18.1))
  | .inr z19 => (
    (casementref01_Whole t).bind fun y20 =>
    letB (decide (y20.1 = 0)) fun c21 =>
    (bif c21 then some true else (
      letB (decide (y20.1 ≠ (t.length : Int))) fun c23 =>
      some (c23))).bind fun g22 =>
    (bif g22 then some true else (
      (casementref18_Right (Key.mk y20.2 k.Mods)).bind fun y26 =>
      some ((!y26)))).bind fun g25 =>
    bif g25 then (
      some ((Key.mk y20.2 k.Mods), false))
    else (
      (iter (fun s => casementref18_parse_l2 namesL y20 s : Int → Option (Int ⊕ (Unit ⊕ Unit))) 0).bind fun j34 =>
      match j34 with
      | .inl z35 => (
        some ((Key.mk y20.2 k.Mods), false))
      | .inr z36 => (
        some ((Key.mk y20.2 k.Mods), true))))) (keyOf t k.Mods) := by
  rw [five (t := t) (g := fun r => (decide (rightT ⟨r, k.Mods⟩), (⟨r, k.Mods⟩ : Key), (⟨r, k.Mods⟩ : Key))) (fun i hi => pr_step (t, k) i hi) (pr_end (t, k))]
  unfold keyOf
  cases hn : nameOf t with
  | some r => exact Says.some_of rfl
  | none =>
    simp only [Option.bind_some, letB]
    by_cases h0 : t = []
    · subst h0
      rw [whole_nil]
      refine ⟨⟨0, k.Mods⟩, false, rfl, ?_⟩
      rw [if_neg (fun h => h.2.1 rfl)]
    rw [whole_is hb h0]
    have hpos := List.length_pos_iff.2 h0
    simp only [Option.bind_some, and_s, or_s, right_ref]
    generalize hw : whR t (t.getD 0 0) = w
    obtain ⟨n, v⟩ := w
    simp only
    by_cases hl : n = (t.length : Int)
    · rw [decide_eq_false (show ¬ n = 0 by omega), decide_eq_false (show ¬ n ≠ (t.length : Int) from fun h => h hl)]
      simp only [Bool.or_false, Bool.false_or, cond_false, Option.bind_some]
      by_cases hr : rightT ⟨v, k.Mods⟩
      · rw [decide_eq_true hr]
        simp only [Bool.not_true, cond_false]
        rw [p2_loop]
        simp only
        by_cases hm : v ∈ runesT
        · rw [if_pos hm]
          refine ⟨⟨v, k.Mods⟩, false, rfl, ?_⟩
          rw [if_neg (fun h => h.2.2.2 hm)]
        · rw [if_neg hm]
          refine ⟨⟨v, k.Mods⟩, true, rfl, ?_⟩
          rw [if_pos ⟨hl, h0, hr, hm⟩]
          exact ⟨rfl, rfl⟩
      · rw [decide_eq_false hr]
        refine ⟨⟨v, k.Mods⟩, false, rfl, ?_⟩
        rw [if_neg (fun h => hr h.2.2.1)]
    · rw [decide_eq_true (show n ≠ (t.length : Int) from hl)]
      simp only [Bool.or_true, cond_true, Option.bind_some]
      refine ⟨⟨v, k.Mods⟩, false, rfl, ?_⟩
      rw [if_neg (fun h => hl h.1)]
theorem byts_mods {s : List Int} (h : Byts s) : Byts (modsOf s).1 := byts_cut (byts_cut h)
theorem mods_is (s : List Int) : modsOf s = ((cutT (cutT s [67, 116, 114, 108, 45]).1 [65, 108, 116, 45]).1, (if (cutT s [67, 116, 114, 108, 45]).2 then 1 else 0) + (if (cutT (cutT s [67, 116, 114, 108, 45]).1 [65, 108, 116, 45]).2 then 2 else 0)) := rfl
theorem cut_ref {s p : List Int} {n : Int} (hn : n = p.length) {α : Type} {f : List Int → α} {g : α} {k : (α → Option (Key × Bool))} :
    (casementref18_begins s p).bind (fun y => Option.bind (bif y then (subA s n).bind fun x => some (f x) else some g) k) = k (if (cutT s p).2 then f (cutT s p).1 else g) := by
  rw [begins_is]
  unfold cutT
  by_cases h : s.take p.length = p
  · have hl : p.length ≤ s.length := by
      have := congrArg List.length h
      rw [List.length_take] at this
      omega
    rw [decide_eq_true h, if_pos h]
    unfold subA
    rw [hn, if_pos ⟨by omega, by omega⟩]
    simp only [Option.bind_some, cond_true, Int.toNat_natCast, if_true]
  · rw [decide_eq_false h, if_neg h]; rfl
theorem cut_keys {s p : List Int} {α : Type} (f : List Int → α) (g : α) {k : (α → Option (Key × Bool))} {r : Option Key} (h : Says (k (if (cutT s p).2 then f (cutT s p).1 else g)) r) :
    Says ((strings_CutPrefix s p).bind (fun y => Option.bind (bif y.2 then some (f y.1) else some g) k)) r := by
  rw [cut_is]
  revert h
  cases h : (cutT s p).2 <;> simp only [Option.bind_some, h, cond_true, cond_false, if_true, if_false, Bool.false_eq_true] <;> exact id
theorem cut_refS {s p : List Int} {n : Int} (hn : n = p.length) {α : Type} (f : List Int → α) (g : α) {k : (α → Option (Key × Bool))} {r : Option Key} (h : Says (k (if (cutT s p).2 then f (cutT s p).1 else g)) r) :
    Says ((casementref18_begins s p).bind (fun y => Option.bind (bif y then (subA s n).bind fun x => some (f x) else some g) k)) r := by
  rw [cut_ref hn]; exact h
theorem cut_self {s p t : List Int} (h : cutT s p = (t, false)) : t = s := by
  unfold cutT at h
  split at h
  · cases h
  · exact (Prod.mk.inj h).1.symm
theorem parse_keys {s : List Int} (hb : Byts s) : Says (keys_parse s) (parseT s) := by
  have hb2 : Byts (modsOf s).1 := byts_mods hb
  unfold parseT
  rw [mods_is] at hb2 ⊢
  unfold keys_parse
  refine cut_keys (fun x => (x, Key.mk 0 1)) (s, Key.mk 0 0) ?_
  cases h : cutT s [67, 116, 114, 108, 45] with | mk t c =>
  rw [h] at hb2
  cases c
  · obtain rfl := cut_self h
    simp only [Bool.false_eq_true, if_false] at hb2 ⊢
    refine cut_keys (fun x => (x, Key.mk 0 2)) (t, Key.mk 0 0) ?_
    cases h' : cutT t [65, 108, 116, 45] with | mk t' c =>
    rw [h'] at hb2
    cases c
    · obtain rfl := cut_self h'
      exact tail_keys (k := ⟨0, 0⟩) hb2 rfl
    · exact tail_keys (k := ⟨0, 2⟩) hb2 rfl
  · simp only [if_true] at hb2 ⊢
    refine cut_keys (fun x => (x, Key.mk 0 3)) (t, Key.mk 0 1) ?_
    cases h' : cutT t [65, 108, 116, 45] with | mk t' c =>
    rw [h'] at hb2
    cases c
    · obtain rfl := cut_self h'
      exact tail_keys (k := ⟨0, 1⟩) hb2 rfl
    · exact tail_keys (k := ⟨0, 3⟩) hb2 rfl
theorem parse_ref {s : List Int} (hb : Byts s) : Says (casementref18_parse s) (parseT s) := by
  have hb2 : Byts (modsOf s).1 := byts_mods hb
  unfold parseT
  rw [mods_is] at hb2 ⊢
  unfold casementref18_parse
  refine cut_refS (by rfl) (fun x => (x, Key.mk 0 1)) (s, Key.mk 0 0) ?_
  cases h : cutT s [67, 116, 114, 108, 45] with | mk t c =>
  rw [h] at hb2
  cases c
  · obtain rfl := cut_self h
    simp only [Bool.false_eq_true, if_false] at hb2 ⊢
    refine cut_refS (by rfl) (fun x => (x, Key.mk 0 2)) (t, Key.mk 0 0) ?_
    cases h' : cutT t [65, 108, 116, 45] with | mk t' c =>
    rw [h'] at hb2
    cases c
    · obtain rfl := cut_self h'
      exact tail_ref (k := ⟨0, 0⟩) hb2
    · exact tail_ref (k := ⟨0, 2⟩) hb2
  · simp only [if_true] at hb2 ⊢
    refine cut_refS (by rfl) (fun x => (x, Key.mk 0 3)) (t, Key.mk 0 1) ?_
    cases h' : cutT t [65, 108, 116, 45] with | mk t' c =>
    rw [h'] at hb2
    cases c
    · obtain rfl := cut_self h'
      exact tail_ref (k := ⟨0, 1⟩) hb2
    · exact tail_ref (k := ⟨0, 3⟩) hb2
end Go.Proofs.YtdlijnfdkeimlaaDoor.Am.Keys

set_option linter.all false
namespace Go.Proofs.YtdlijnfdkeimlaaDoor.Am.Keys
open Go.Proofs.YtdlijnfdkeimlaaDoor.Am.T
def splitT : List Int → List (List Int)
  | [] => [[]]
  | c :: r => if c = 32 then [] :: splitT r else match splitT r with | h :: t => (c :: h) :: t | [] => [[c]]
theorem split_ne (l : List Int) : splitT l ≠ [] := by
  cases l with
  | nil => simp [splitT]
  | cons c r => unfold splitT; split <;> (try split) <;> simp
theorem split_none : ∀ {l : List Int}, idxI l 32 = -1 → splitT l = [l] ∧ l.count 32 = 0
  | [], _ => ⟨rfl, rfl⟩
  | c :: r, h => by
    unfold idxI at h
    split at h
    · omega
    rename_i hc
    split at h
    · rename_i hr
      obtain ⟨e1, e2⟩ := split_none hr
      unfold splitT
      rw [if_neg hc, e1]
      refine ⟨rfl, ?_⟩
      rw [List.count_cons_of_ne (by simpa using hc), e2]
    · rename_i hr
      have : ∀ l : List Int, -1 ≤ idxI l 32 := by
        intro l
        induction l with
        | nil => exact Int.le_refl _
        | cons a l ih => unfold idxI; (repeat' split) <;> omega
      have := this r
      omega
theorem idx_ge : ∀ l : List Int, -1 ≤ idxI l 32
  | [] => Int.le_refl _
  | a :: l => by have := idx_ge l; unfold idxI; (repeat' split) <;> omega
theorem split_some : ∀ {l : List Int} {m : Nat}, idxI l 32 = (m : Int) → m < l.length ∧ splitT l = l.take m :: splitT (l.drop (m + 1)) ∧ l.count 32 = (l.drop (m + 1)).count 32 + 1
  | [], m, h => by unfold idxI at h; omega
  | c :: r, m, h => by
    unfold idxI at h
    split at h
    · rename_i hc
      obtain rfl : m = 0 := by omega
      subst hc
      refine ⟨by simp, ?_, ?_⟩
      · conv => lhs; unfold splitT
        rw [if_pos rfl]; rfl
      · rw [List.count_cons_self]; rfl
    rename_i hc
    split at h
    · omega
    rename_i hr
    obtain ⟨n, hn⟩ := Int.eq_ofNat_of_zero_le (show 0 ≤ idxI r 32 by have := idx_ge r; omega)
    obtain ⟨e0, e1, e2⟩ := split_some hn
    obtain rfl : m = n + 1 := by omega
    refine ⟨by simp; omega, ?_, ?_⟩
    · conv => lhs; unfold splitT
      rw [if_neg hc, e1]; rfl
    · rw [List.count_cons_of_ne (by simpa using hc), e2]; rfl
theorem split_len : ∀ l : List Int, (splitT l).length = l.count 32 + 1
  | [] => rfl
  | c :: r => by
    have ih := split_len r
    unfold splitT
    split
    · rename_i hc
      subst hc
      rw [List.count_cons_self, List.length_cons, ih]
    · rename_i hc
      rw [List.count_cons_of_ne (by simpa using hc), ← ih]
      have := split_ne r
      cases hs : splitT r with
      | nil => exact absurd hs this
      | cons h t => rfl
theorem min_w {n k : Nat} (h : n ≤ k) (hk : k < 2147483648) : min (w64 ((n : Int) + 1)) (w64 ((k : Int) + 1)) = ((n + 1 : Nat) : Int) := by
  rw [w64_id (by omega) (by omega), w64_id (by omega) (by omega)]; omega
theorem upI_is {α : Type} {l : List α} {i : Nat} {x : α} (h : i < l.length) : upI l (i : Int) x = l.set i x := by
  unfold upI
  first | rfl | simp
theorem cut_loop (s : List Int) (hs : s.length < 2147483648) : ∀ (k : Nat) (s' : List Int) (a : List (List Int)) (i : Nat), s'.length ≤ k → a.length = s.count 32 + 1 → i + s'.count 32 = s.count 32 → s'.length ≤ s.length →
    ∃ s2 a2 i2, iter (fun x => strings_genSplit_l2 s [32] 0 (w64 ((s.count 32 : Int) + 1)) x.1 x.2.1 x.2.2 : (List Int × List (List Int) × Int) → Option ((List Int × List (List Int) × Int) ⊕ (List Int × List (List Int) × Int))) (s', a, (i : Int)) = some (s2, a2, ((i2 : Nat) : Int))
      ∧ i2 = s.count 32 ∧ a2.length = a.length ∧ (a2.take i2 ++ [s2]) = a.take i ++ splitT s' := by
  intro k
  induction k with
  | zero =>
    intro s' a i hk ha hi hl
    obtain rfl : s' = [] := List.eq_nil_of_length_eq_zero (by omega)
    refine ⟨[], a, i, iter_inr ?_, by simpa using hi, rfl, rfl⟩
    simp only [strings_genSplit_l2, letB]
    rw [min_w (List.count_le_length) hs, w64_id (n := ((s.count 32 + 1 : Nat) : Int) - 1) (by omega) (by have := List.count_le_length (a := (32 : Int)) (l := s); omega)]
    rw [decide_eq_false (by simp at hi; omega)]
    rfl
  | succ k ih =>
    intro s' a i hk ha hi hl
    have hc := List.count_le_length (a := (32 : Int)) (l := s)
    have hc' := List.count_le_length (a := (32 : Int)) (l := s')
    by_cases h : idxI s' 32 = -1
    · obtain ⟨e1, e2⟩ := split_none h
      refine ⟨s', a, i, iter_inr ?_, by omega, rfl, by rw [e1]⟩
      simp only [strings_genSplit_l2, letB]
      rw [min_w (List.count_le_length) hs, w64_id (n := ((s.count 32 + 1 : Nat) : Int) - 1) (by omega) (by omega)]
      rw [decide_eq_false (by omega)]
      rfl
    · obtain ⟨m, hm⟩ := Int.eq_ofNat_of_zero_le (show 0 ≤ idxI s' 32 by have := idx_ge s'; omega)
      obtain ⟨f0, f1, f2⟩ := split_some hm
      obtain ⟨s2, a2, i2, g1, g2, g3, g4⟩ := ih (s'.drop (m + 1)) (a.set i (s'.take m)) (i + 1) (by rw [List.length_drop]; omega) (by rw [List.length_set]; exact ha) (by omega) (by rw [List.length_drop]; omega)
      refine ⟨s2, a2, i2, ?_, g2, by rw [g3, List.length_set], ?_⟩
      · rw [iter_inl (s' := (s'.drop (m + 1), a.set i (s'.take m), ((i + 1 : Nat) : Int)))]
        · exact g1
        · simp only [strings_genSplit_l2, letB, strings_Index]
          rw [min_w (List.count_le_length) hs, w64_id (n := ((s.count 32 + 1 : Nat) : Int) - 1) (by omega) (by omega)]
          rw [decide_eq_true (by omega)]
          simp only [cond_true, Option.bind_some, hm]
          rw [decide_eq_false (show ¬ (m : Int) < 0 by omega)]
          simp only [cond_false]
          rw [w64_id (n := (m : Int) + 0) (by omega) (by omega), w64_id (n := (m : Int) + (([32] : List Int).length : Int)) (by omega) (by simp; omega), w64_id (n := (i : Int) + 1) (by omega) (by omega)]
          unfold subB subA
          rw [if_pos (by omega), if_pos (by simp; omega)]
          rw [idx_is (d := []) (by omega) (by rw [ha]; omega)]
          simp only [Option.bind_some]
          rw [upI_is (by omega)]
          have t1 : ((m : Int) + 0).toNat = m := by omega
          have t2 : ((m : Int) + (([32] : List Int).length : Int)).toNat = m + 1 := by simp
          rw [t1, t2]
          rfl
      · rw [g4, f1]
        rw [List.take_succ_eq_append_getElem (by rw [List.length_set]; omega), List.take_set_of_le (Nat.le_refl i)]
        simp
theorem split_is {s : List Int} (hs : s.length ≤ 1048576) : strings_Split s [32] = some (splitT s) := by
  have hm := most_is
  have hc := List.count_le_length (a := (32 : Int)) (l := s)
  obtain ⟨s2, a2, i2, g1, g2, g3, g4⟩ := cut_loop s (by omega) s.length s (List.replicate (s.count 32 + 1) []) 0 (Nat.le_refl _) (by simp) (by omega) (Nat.le_refl _)
  unfold strings_Split strings_genSplit
  simp only [letB, strings_Count]
  rw [show decide ((-1 : Int) = 0) = false from rfl, show decide (([32] : List Int) = []) = false from rfl, show decide ((-1 : Int) < 0) = true from rfl]
  simp only [cond_true, cond_false, Option.bind_some]
  rw [w64_id (n := (s.count 32 : Int) + 1) (by omega) (by omega)] at g1 ⊢
  rw [w64_id (n := (s.length : Int) + 1) (by omega) (by omega)]
  rw [show min ((s.count 32 : Int) + 1) ((s.length : Int) + 1) = ((s.count 32 + 1 : Nat) : Int) by omega]
  unfold mkL
  rw [if_pos (by omega), Int.toNat_natCast]
  simp only [Option.bind_some]
  rw [show ((0 : Nat) : Int) = 0 from rfl] at g1
  rw [g1]
  simp only [Option.bind_some]
  rw [List.length_replicate] at g3
  rw [idx_is (d := []) (by omega) (by omega), upI_is (by omega), w64_id (by omega) (by omega)]
  simp only [Option.bind_some]
  unfold subB
  rw [if_pos (by rw [List.length_set]; omega)]
  simp only [Option.bind_some]
  rw [show ((i2 : Int) + 1).toNat = i2 + 1 by omega, List.take_succ_eq_append_getElem (by rw [List.length_set]; omega), List.take_set_of_le (Nat.le_refl _), List.getElem_set_self, g4]
  simp
theorem split_byts : ∀ {l : List Int}, Byts l → ∀ f ∈ splitT l, Byts f
  | [], _, f, hf => by
    simp only [splitT, List.mem_singleton] at hf
    subst hf; intro x hx; cases hx
  | c :: r, hb, f, hf => by
    have hr : Byts r := fun x hx => hb x (List.mem_cons_of_mem _ hx)
    have ih := split_byts hr
    have hc := hb c List.mem_cons_self
    unfold splitT at hf
    split at hf
    · rcases List.mem_cons.1 hf with rfl | hf
      · intro x hx; cases hx
      · exact ih f hf
    · split at hf
      · rename_i h t e
        rw [e] at ih
        rcases List.mem_cons.1 hf with rfl | hf
        · intro x hx
          rcases List.mem_cons.1 hx with rfl | hx
          · exact hc
          · exact ih h List.mem_cons_self x hx
        · exact ih f (List.mem_cons_of_mem _ hf)
      · rename_i e; exact absurd e (split_ne r)
def foldP : List Key → List (List Int) → Option (List Key)
  | out, [] => some out
  | out, f :: fs => if f = [] then foldP out fs else match parseT f with
    | some k => foldP (out ++ [k]) fs
    | none => none
def Ends {α : Type} (x : Option (Key ⊕ List Key)) (r : Option (List Key)) (n : Nat) : Prop := match r with
  | some ks => x = some (.inr ks) ∧ ks.length ≤ n
  | none => ∃ k, x = some (.inl k)
theorem keys_loop (y : List (List Int)) (hy : y.length ≤ 2000000) (hb : ∀ f ∈ y, Byts f) : ∀ (k i : Nat) (out : List Key), i + k = y.length → out.length ≤ i →
    Ends (α := Unit) (iter (fun s => keys_Parse_l1 y s.1 s.2 : (List Key × Int) → Option ((List Key × Int) ⊕ (Key ⊕ List Key))) (out, (i : Int))) (foldP out (y.drop i)) y.length := by
  intro k
  induction k with
  | zero =>
    intro i out hi ho
    rw [List.drop_eq_nil_of_le (by omega)]
    refine ⟨iter_inr ?_, by omega⟩
    simp only [keys_Parse_l1, letB]
    rw [decide_eq_false (by omega)]; rfl
  | succ k ih =>
    intro i out hi ho
    have hm := most_is
    have hlt : i < y.length := by omega
    have hbi : Byts y[i] := hb _ (List.getElem_mem hlt)
    have hx : idx y (i : Int) = some y[i] := by rw [idx_is (d := []) (by omega) (by omega), Int.toNat_natCast, List.getD_eq_getElem?_getD, List.getElem?_eq_getElem hlt]; rfl
    rw [List.drop_eq_getElem_cons hlt]
    unfold foldP
    have hst : keys_Parse_l1 y out (i : Int) = (if y[i] = [] then some (.inl (out, ((i + 1 : Nat) : Int))) else (keys_parse y[i]).bind fun y7 => if y7.2 then some (.inl (out ++ [y7.1], ((i + 1 : Nat) : Int))) else some (.inr (.inl y7.1))) := by
      simp only [keys_Parse_l1, letB]
      rw [decide_eq_true (by omega), hx, w64_id (by omega) (by omega)]
      simp only [cond_true, Option.bind_some]
      by_cases h : y[i] = []
      · rw [decide_eq_true h, if_pos h]; rfl
      · rw [decide_eq_false h, if_neg h]
        simp only [cond_false]
        obtain ⟨k', ok, e, _⟩ := parse_keys hbi
        rw [e]
        simp only [Option.bind_some]
        cases ok
        · rfl
        · simp only [Bool.not_true, cond_false, if_true]
          rw [app_some (by simp; omega)]; rfl
    by_cases h : y[i] = []
    · rw [if_pos h] at hst ⊢
      rw [iter_inl hst]
      exact ih (i + 1) out (by omega) (by omega)
    · rw [if_neg h] at hst ⊢
      obtain ⟨k', ok, e, hk⟩ := parse_keys hbi
      rw [e] at hst
      simp only [Option.bind_some] at hst
      cases hp : parseT y[i] with
      | none =>
        rw [hp] at hk
        simp only at hk
        subst hk
        exact ⟨k', iter_inr hst⟩
      | some k2 =>
        rw [hp] at hk
        obtain ⟨rfl, rfl⟩ := hk
        rw [iter_inl hst]
        exact ih (i + 1) _ (by omega) (by simp; omega)
theorem Parse_keys {s : List Int} (hb : Byts s) (hs : s.length ≤ 1048576) : keys_Parse s = some (match foldP [] (splitT s) with | some ks => (ks, 0) | none => ([], 180)) ∧ (∀ ks, foldP [] (splitT s) = some ks → ks.length ≤ most) := by
  have hm := most_is
  have hc := List.count_le_length (a := (32 : Int)) (l := s)
  have hl := split_len s
  have h := keys_loop (splitT s) (by omega) (split_byts hb) (splitT s).length 0 [] (by omega) (Nat.le_refl _)
  rw [List.drop_zero] at h
  unfold keys_Parse
  rw [split_is hs]
  simp only [Option.bind_some]
  rw [show ((0 : Nat) : Int) = 0 from rfl] at h
  cases hf : foldP [] (splitT s) with
  | none =>
    rw [hf] at h
    obtain ⟨k, e⟩ := h
    rw [e]
    exact ⟨rfl, fun _ h => by cases h⟩
  | some ks =>
    rw [hf] at h
    obtain ⟨e, h2⟩ := h
    rw [e]
    exact ⟨rfl, fun _ h => by cases h; omega⟩
abbrev noB (c : Int) : Bool := decide (c ≠ 32)
theorem split_head : ∀ l : List Int, splitT l = l.takeWhile noB :: (match l.dropWhile noB with | [] => [] | _ :: r => splitT r)
  | [] => rfl
  | c :: r => by
    have ih := split_head r
    by_cases hc : c = 32
    · subst hc
      conv => lhs; unfold splitT
      rw [if_pos rfl]; rfl
    · conv => lhs; unfold splitT
      rw [if_neg hc, ih, List.takeWhile_cons_of_pos (by simpa using hc), List.dropWhile_cons_of_pos (by simpa using hc)]
theorem fold_rest (out : List Key) (l : List Int) : foldP out (match l.dropWhile noB with | [] => [] | _ :: r => splitT r) = foldP out (splitT (l.dropWhile noB)) := by
  cases h : l.dropWhile noB with
  | nil => simp [splitT, foldP]
  | cons x r =>
    have : noB x = false := by
      have := List.head?_dropWhile_not noB l
      rw [h] at this
      simpa using this
    obtain rfl : x = 32 := by simpa [noB] using this
    conv => rhs; unfold splitT
    rw [if_pos rfl]
    conv => rhs; unfold foldP
    rw [if_pos rfl]
theorem end_loop (s : List Int) (hs : s.length ≤ 1048576) : ∀ (k i : Nat), i + k = s.length →
    iter (fun x => casementref18_Parse_l6 s x : Int → Option (Int ⊕ Int)) (i : Int) = some ((i + ((s.drop i).takeWhile noB).length : Nat) : Int) := by
  intro k
  induction k with
  | zero =>
    intro i hi
    rw [List.drop_eq_nil_of_le (by omega)]
    refine iter_inr ?_
    simp only [casementref18_Parse_l6, letB]
    rw [decide_eq_false (by omega)]; rfl
  | succ k ih =>
    intro i hi
    have hlt : i < s.length := by omega
    have hx : idx s (i : Int) = some s[i] := by rw [idx_is (d := 0) (by omega) (by omega), Int.toNat_natCast, List.getD_eq_getElem?_getD, List.getElem?_eq_getElem hlt]; rfl
    rw [List.drop_eq_getElem_cons hlt]
    by_cases h : s[i] = 32
    · rw [List.takeWhile_cons_of_neg (by simp [h])]
      refine iter_inr ?_
      simp only [casementref18_Parse_l6, letB]
      rw [decide_eq_true (by omega), hx]
      simp only [cond_true, Option.bind_some]
      rw [decide_eq_false (show ¬ s[i] ≠ 32 from fun hh => hh h)]; rfl
    · rw [List.takeWhile_cons_of_pos (by simpa using h)]
      rw [iter_inl (s' := ((i + 1 : Nat) : Int)) (by
        simp only [casementref18_Parse_l6, letB]
        rw [decide_eq_true (by omega), hx]
        simp only [cond_true, Option.bind_some]
        rw [decide_eq_true (show s[i] ≠ 32 from h), w64_id (by omega) (by omega)]; rfl), ih (i + 1) (by omega)]
      rw [List.length_cons]
      congr 2
      omega
theorem ref_loop (s : List Int) (hb : Byts s) (hs : s.length ≤ 1048576) : ∀ (k i : Nat) (out : List Key), s.length ≤ i + k → i ≤ s.length → out.length ≤ i →
    Ends (α := Unit) (iter (fun x => casementref18_Parse_l7 s x.1 x.2 : (List Key × Int) → Option ((List Key × Int) ⊕ (Key ⊕ List Key))) (out, (i : Int))) (foldP out (splitT (s.drop i))) s.length := by
  intro k
  induction k with
  | zero =>
    intro i out hi hi2 ho
    rw [List.drop_eq_nil_of_le (by omega)]
    have : foldP out (splitT []) = some out := by simp [splitT, foldP]
    rw [this]
    refine ⟨iter_inr ?_, by omega⟩
    simp only [casementref18_Parse_l7, letB]
    rw [decide_eq_false (by omega)]; rfl
  | succ k ih =>
    intro i out hi hi2 ho
    have hm := most_is
    by_cases hlt : i < s.length
    case neg =>
      rw [List.drop_eq_nil_of_le (by omega)]
      have : foldP out (splitT []) = some out := by simp [splitT, foldP]
      rw [this]
      refine ⟨iter_inr ?_, by omega⟩
      simp only [casementref18_Parse_l7, letB]
      rw [decide_eq_false (by omega)]; rfl
    have hx : idx s (i : Int) = some s[i] := by rw [idx_is (d := 0) (by omega) (by omega), Int.toNat_natCast, List.getD_eq_getElem?_getD, List.getElem?_eq_getElem hlt]; rfl
    by_cases h : s[i] = 32
    · rw [iter_inl (s' := (out, ((i + 1 : Nat) : Int))) (by
        simp only [casementref18_Parse_l7, letB]
        rw [decide_eq_true (by omega), hx]
        simp only [cond_true, Option.bind_some]
        rw [decide_eq_true h, w64_id (by omega) (by omega)]; rfl)]
      have := ih (i + 1) out (by omega) (by omega) (by omega)
      rw [List.drop_eq_getElem_cons hlt]
      conv => arg 2; unfold splitT
      rw [if_pos h]
      conv => arg 2; unfold foldP
      rw [if_pos rfl]
      exact this
    · have hw : (s.drop i).takeWhile noB ≠ [] := by
        rw [List.drop_eq_getElem_cons hlt, List.takeWhile_cons_of_pos (by simpa using h)]; simp
      have hsum := List.takeWhile_append_dropWhile (p := noB) (l := s.drop i)
      have he := end_loop s hs (s.length - i) i (by omega)
      rw [split_head]
      have hbf : Byts ((s.drop i).takeWhile noB) := fun x hx => hb x (List.mem_of_mem_drop ((List.takeWhile_sublist _).subset hx))
      have hlen : i + ((s.drop i).takeWhile noB).length ≤ s.length := by
        have := congrArg List.length hsum
        rw [List.length_append, List.length_drop] at this; omega
      have hdrop : s.drop (i + ((s.drop i).takeWhile noB).length) = (s.drop i).dropWhile noB := by
        rw [← List.drop_drop]
        conv => lhs; arg 2; rw [← hsum]
        rw [List.drop_left]
      have htake : subL s (i : Int) ((i + ((s.drop i).takeWhile noB).length : Nat) : Int) = some ((s.drop i).takeWhile noB) := by
        unfold subL
        rw [if_pos (by omega)]
        congr 1
        rw [Int.toNat_natCast, Int.toNat_natCast, Nat.add_sub_cancel_left]
        conv => lhs; arg 2; rw [← hsum]
        rw [List.take_left]
      have hpos := List.length_pos_iff.2 hw
      unfold foldP
      rw [if_neg hw]
      generalize hf : (s.drop i).takeWhile noB = f at *
      obtain ⟨k', ok, e, hk⟩ := parse_ref hbf
      have hst : casementref18_Parse_l7 s out (i : Int) = if ok then some (.inl (out ++ [k'], ((i + f.length : Nat) : Int))) else some (.inr (.inl k')) := by
        simp only [casementref18_Parse_l7, letB]
        rw [decide_eq_true (by omega), hx]
        simp only [cond_true, Option.bind_some]
        rw [decide_eq_false h, he]
        simp only [cond_false, Option.bind_some]
        rw [htake]
        simp only [Option.bind_some]
        rw [e]
        simp only [Option.bind_some]
        cases ok
        · rfl
        · simp only [Bool.not_true, cond_false, if_true]
          rw [app_some (by simp; omega)]; rfl
      cases hp : parseT f with
      | none =>
        rw [hp] at hk
        simp only at hk
        subst hk
        exact ⟨k', iter_inr hst⟩
      | some k2 =>
        rw [hp] at hk
        obtain ⟨rfl, rfl⟩ := hk
        rw [iter_inl hst]
        simp only
        rw [fold_rest, ← hdrop]
        exact ih _ _ (by omega) hlen (by simp; omega)
theorem Parse_ref {s : List Int} (hb : Byts s) (hs : s.length ≤ 1048576) : casementref18_Parse s = some (match foldP [] (splitT s) with | some ks => (ks, 0) | none => ([], 180)) := by
  have h := ref_loop s hb hs s.length 0 [] (by omega) (by omega) (Nat.le_refl _)
  rw [List.drop_zero, show ((0 : Nat) : Int) = 0 from rfl] at h
  unfold casementref18_Parse
  cases hf : foldP [] (splitT s) with
  | none =>
    rw [hf] at h
    obtain ⟨k, e⟩ := h
    rw [e]; rfl
  | some ks =>
    rw [hf] at h
    obtain ⟨e, h2⟩ := h
    rw [e]; rfl
theorem names_pure {s : List Int} (hb : Byts s) (hs : s.length ≤ 1048576) : casementlaw18_KeysNames s = some true := by
  obtain ⟨h1, h2⟩ := Parse_keys hb hs
  unfold casementlaw18_KeysNames casementlaw18_alive
  simp only [letB, Option.bind_some, Bool.not_true, cond_false, h1, Parse_ref hb hs, decide_true, cond_true]
  have hl : (match foldP [] (splitT s) with | some ks => (ks, (0 : Int)) | none => ([], 180)).1.length ≤ most := by
    cases hf : foldP [] (splitT s) with
    | none => exact Nat.zero_le _
    | some ks => exact h2 ks hf
  rw [same_is hl]
  rfl
end Go.Proofs.YtdlijnfdkeimlaaDoor.Am.Keys

namespace Go.Proofs.YtdlijnfdkeimlaaDoor.Am
inductive Fits (P : Program) : TypeId → List V → Prop
 | bool {t : TypeId} (b : Bool) (h : P.underlying t = some .bool) : Fits P t [.bool b]
 | int {t : TypeId} {k : IntKind} (n : Int) (h : P.underlying t = some (.int k)) (hn : (Lit.int k n).wf = true) : Fits P t [.int k n]
 | str {t : TypeId} (s : List UInt8) (h : P.underlying t = some .string) (hs : s.length ≤ maxLen) : Fits P t [.str s]
 | nils {t e : TypeId} (h : P.underlying t = some (.slice e)) : Fits P t [.nils]
 | slice {t e : TypeId} (xs : List (List V)) (h : P.underlying t = some (.slice e)) (hl : xs.length ≤ maxLen) (hx : ∀ i, i < xs.length → Fits P e (xs.getD i [])) : Fits P t [.slice false (P.cellsOf e) xs]
 | struct {t : TypeId} {fs : Array Field} (cs : List V) (h : P.underlying t = some (.struct fs)) (hl : cs.length = P.cellsOf t) (hf : ∀ f ∈ fs.toList, Fits P f.type ((cs.drop f.offset).take (P.cellsOf f.type))) : Fits P t cs
 | array {t e : TypeId} {n : Nat} (cs : List V) (h : P.underlying t = some (.array n e)) (hl : cs.length = P.cellsOf t) (hf : ∀ i, i < n → Fits P e ((cs.drop (i * P.cellsOf e)).take (P.cellsOf e))) : Fits P t cs
def tiles (P : Program) : Nat → List Field → Nat → Bool
 | n, [], m => n == m
 | n, f :: fs, m => f.offset == n && tiles P (n + P.cellsOf f.type) fs m
def supT (P : Program) : Nat → TypeId → Bool
 | 0, _ => false
 | d + 1, t => match P.underlying t with
  | some .bool | some (.int _) | some .string => P.cellsOf t == 1
  | some (.slice e) => P.cellsOf t == 1 && decide (0 < P.cellsOf e) && supT P d e
  | some (.struct fs) => tiles P 0 fs.toList (P.cellsOf t) && fs.toList.all fun f => supT P d f.type
  | some (.array n e) => P.cellsOf t == n * P.cellsOf e && supT P d e
  | _ => false
section
variable {P : Program} {H : Type} {enc : TypeId × Value → H} {W : World}
def blocksOf (W : World) : Nat → Prop := fun c => c < W.heap.size
theorem cell_block {a : Addr} {v : Value} (h : W.cell? a = some v) : a.block < W.heap.size ∧ a.spot = none := by
 unfold World.cell? at h
 cases hb : W.heap[a.block]? with
 | none => rw [hb] at h; cases h
 | some o =>
  rw [hb] at h
  refine ⟨(Array.getElem?_eq_some_iff.1 hb).1, ?_⟩
  cases o with
  | cells c _ _ =>
   simp only at h
   split at h
   ·cases h
   ·rename_i hs; simpa using hs
  | _ => cases h
def Reads (P : Program) (W : World) (t : TypeId) (cs : List Value) : Prop :=
 ∃ vs : List V, vs.length = cs.length ∧ Fits P t vs ∧ ∀ k, k < cs.length → RB (blocksOf W) W (vs.getD k .undef) (cs.getD k undef)
theorem trod_array {n : Nat} {e t : TypeId} {base fuel : Nat} {sp : Nat → Bool} {held : Bool} {cs : List Value} {x : DataW H × List MemPlace} (ht : P.underlying t = some (.array n e)) (h : DataW.trod enc P W base sp held fuel t cs = some x) :
  cs.length = P.cellsOf t ∧ ∃ m, ∀ i, i < n → ∃ y, DataW.trod enc P W base sp held m e ((cs.drop (i * P.cellsOf e)).take (P.cellsOf e)) = some y := by
 cases fuel with
 | zero => simp [DataW.trod] at h
 | succ m =>
  unfold DataW.trod at h
  rw [ht] at h
  split at h <;> simp_all
  obtain ⟨hl, xs, hp, hd⟩ := h
  refine ⟨m, fun i hi => ?_⟩
  have h1 := mapM_some_length hp
  have h2 := mapM_some_get hp i i (by simp [hi])
  simp only [List.length_range] at h1
  rw [List.getElem?_eq_getElem (by omega)] at h2
  exact ⟨_, _, h2⟩
def RBs (W : World) (vs : List V) (cs : List Value) : Prop := vs.length = cs.length ∧ ∀ k, k < cs.length → RB (blocksOf W) W (vs.getD k .undef) (cs.getD k undef)
theorem RBs.append {vs us : List V} {cs ds : List Value} (h : RBs W vs cs) (k : RBs W us ds) : RBs W (vs ++ us) (cs ++ ds) := by
 refine ⟨by simp [h.1, k.1], fun i hi => ?_⟩
 simp only [List.getD_eq_getElem?_getD]
 have h1 := h.1
 by_cases hlt : i < cs.length
 ·have := h.2 i hlt
  simp only [List.getD_eq_getElem?_getD] at this
  rw [List.getElem?_append_left (by omega), List.getElem?_append_left hlt]; exact this
 ·rw [List.length_append] at hi
  have := k.2 (i - cs.length) (by omega)
  simp only [List.getD_eq_getElem?_getD] at this
  rw [List.getElem?_append_right (by omega), List.getElem?_append_right (by omega), h1]; exact this
theorem reads_iff {t : TypeId} {cs : List Value} : Reads P W t cs ↔ ∃ vs, Fits P t vs ∧ RBs W vs cs :=
 ⟨fun ⟨vs, a, b, c⟩ => ⟨vs, b, a, c⟩, fun ⟨vs, b, a, c⟩ => ⟨vs, a, b, c⟩⟩
theorem fields_of {cs : List Value} : ∀ {fs : List Field} {n m : Nat}, tiles P n fs m = true → m ≤ cs.length → (∀ f ∈ fs, Reads P W f.type ((cs.drop f.offset).take (P.cellsOf f.type))) →
  n ≤ m ∧ ∃ vs, RBs W vs ((cs.drop n).take (m - n)) ∧ ∀ f ∈ fs, n ≤ f.offset ∧ Fits P f.type ((vs.drop (f.offset - n)).take (P.cellsOf f.type))
 | [], n, m, ht, hm, _ => by
  have : n = m := by simpa [tiles] using ht
  subst this
  exact ⟨Nat.le_refl _, [], ⟨by simp, fun k hk => absurd hk (by simp)⟩, fun f hf => by cases hf⟩
 | f :: fs, n, m, ht, hm, hr => by
  simp only [tiles, Bool.and_eq_true, beq_iff_eq] at ht
  obtain ⟨h0, ht⟩ := ht
  obtain ⟨hle, vs, hvs, hfs⟩ := fields_of ht hm fun g hg => hr g (.tail _ hg)
  obtain ⟨us, hfit, hus⟩ := reads_iff.1 (hr f (.head _))
  rw [h0] at hus
  have hul : us.length = P.cellsOf f.type := by rw [hus.1]; simp; omega
  have hsplit : (cs.drop n).take (m - n) = (cs.drop n).take (P.cellsOf f.type) ++ (cs.drop (n + P.cellsOf f.type)).take (m - (n + P.cellsOf f.type)) := by
   rw [← List.drop_drop, ← List.take_add]
   congr 1
   omega
  refine ⟨by omega, us ++ vs, by rw [hsplit]; exact hus.append hvs, fun g hg => ?_⟩
  cases hg with
  | head =>
   refine ⟨by omega, ?_⟩
   rw [h0, Nat.sub_self, List.drop_zero, List.take_append_of_le_length (by omega), List.take_of_length_le (by omega)]
   exact hfit
  | tail _ hg =>
   obtain ⟨h1, h2⟩ := hfs g hg
   refine ⟨by omega, ?_⟩
   rw [List.drop_append, List.drop_eq_nil_of_le (by omega), List.nil_append, hul]
   rw [show g.offset - n - P.cellsOf f.type = g.offset - (n + P.cellsOf f.type) from by omega]
   exact h2
theorem elems_of {cs : List Value} {e : TypeId} : ∀ {n : Nat}, n * P.cellsOf e ≤ cs.length → (∀ i, i < n → Reads P W e ((cs.drop (i * P.cellsOf e)).take (P.cellsOf e))) →
  ∃ vs, RBs W vs (cs.take (n * P.cellsOf e)) ∧ ∀ i, i < n → Fits P e ((vs.drop (i * P.cellsOf e)).take (P.cellsOf e))
 | 0, _, _ => ⟨[], ⟨by simp, fun k hk => absurd hk (by simp)⟩, fun i hi => absurd hi (by omega)⟩
 | n + 1, hn, hr => by
  have hs : (n + 1) * P.cellsOf e = n * P.cellsOf e + P.cellsOf e := Nat.succ_mul _ _
  obtain ⟨vs, hvs, hfs⟩ := elems_of (n := n) (by omega) fun i hi => hr i (by omega)
  obtain ⟨us, hfit, hus⟩ := reads_iff.1 (hr n (by omega))
  have hvl : vs.length = n * P.cellsOf e := by rw [hvs.1]; simp; omega
  have hul : us.length = P.cellsOf e := by rw [hus.1]; simp; omega
  refine ⟨vs ++ us, by rw [hs, List.take_add]; exact hvs.append hus, fun i hi => ?_⟩
  by_cases hin : i = n
  ·subst hin
   rw [List.drop_append, List.drop_eq_nil_of_le (by omega), List.nil_append, hvl, Nat.sub_self, List.drop_zero, List.take_of_length_le (by omega)]
   exact hfit
  ·have h1 := hfs i (by omega)
   have h2 : i * P.cellsOf e + P.cellsOf e ≤ n * P.cellsOf e := by rw [← Nat.succ_mul]; exact Nat.mul_le_mul_right _ (by omega)
   rw [List.drop_append_of_le_length (by omega), List.take_append_of_le_length (by simp; omega)]
   exact h1
theorem list_choose {α : Type} {n : Nat} {p : Nat → α → Prop} (h : ∀ i, i < n → ∃ x, p i x) : ∃ l : List α, l.length = n ∧ ∀ i x, l[i]? = some x → p i x := by
 induction n with
 | zero => exact ⟨[], rfl, fun i x hx => by simp at hx⟩
 | succ n ih =>
  obtain ⟨l, hl, hp⟩ := ih fun i hi => h i (by omega)
  obtain ⟨x, hx⟩ := h n (by omega)
  refine ⟨l ++ [x], by simp [hl], fun i y hy => ?_⟩
  by_cases hi : i < l.length
  ·rw [List.getElem?_append_left hi] at hy; exact hp i y hy
  ·rw [List.getElem?_append_right (by omega)] at hy
   have : i - l.length = 0 := by
    rcases Nat.eq_zero_or_pos (i - l.length) with h0 | h0
    ·exact h0
    ·rw [List.getElem?_eq_none (by simp; omega)] at hy; cases hy
   rw [this] at hy
   simp only [List.getElem?_cons_zero, Option.some.injEq] at hy
   subst hy
   have : i = n := by omega
   subst this; exact hx
theorem reads_of : ∀ {d : Nat} {t : TypeId}, supT P d t = true → ∀ {fuel : Nat} {held : Bool} {cs : List Value} {x : DataW H × List MemPlace}, DataW.trod enc P W 0 (fun _ => true) held fuel t cs = some x → Reads P W t cs := by
 intro d
 induction d with
 | zero => intro t h; cases h
 | succ d ih =>
  intro t h fuel held cs x hx
  simp only [supT] at h
  split at h
  ·rename_i ht
   obtain ⟨b, rfl, _⟩ := DataW.trod_bool ht hx
   exact ⟨[.bool b], rfl, .bool b ht, fun k hk => by
    have : k = 0 := by simpa using hk
    subst this; exact .bool b⟩
  ·rename_i kk ht
   obtain ⟨n, rfl, _, hwf⟩ := DataW.trod_int ht hx
   exact ⟨[.int kk n], rfl, .int n ht hwf, fun k hk => by
    have : k = 0 := by simpa using hk
    subst this; exact .int kk n⟩
  ·rename_i ht
   obtain ⟨s, rfl, _, hs⟩ := DataW.trod_string ht hx
   exact ⟨[.str s.data.toList], rfl, .str _ ht (by simpa using hs), fun k hk => by
    have : k = 0 := by simpa using hk
    subst this; exact .str s⟩
  ·rename_i e ht
   simp only [Bool.and_eq_true, beq_iff_eq, decide_eq_true_eq] at h
   obtain ⟨⟨_, hpos⟩, hsup⟩ := h
   rcases DataW.trod_slice ht hx with ⟨rfl, _⟩ | ⟨a, len, cap, elems, rest, n, _, rfl, _, _, hlc, hcap, hel, he, hre, _⟩
   ·exact ⟨[.nils], rfl, .nils ht, fun k hk => by
     have : k = 0 := by simpa using hk
     subst this; exact .nils⟩
   ·have hone : ∀ i, i < len → ∃ vs : List V, Fits P e vs ∧ vs.length = P.cellsOf e ∧ ∀ k, k < P.cellsOf e → ∃ v, W.cell? ((a.add (i * P.cellsOf e)).add k) = some v ∧ RB (blocksOf W) W (vs.getD k .undef) v := fun i hi => by
     have h1 := he i hi
     rw [List.getElem?_eq_getElem (by omega)] at h1
     simp only [Option.bind_eq_some_iff] at h1
     obtain ⟨cs', hc1, hc2⟩ := h1
     obtain ⟨_, hl, hc⟩ := World.cells?_some hc1
     obtain ⟨vs, hf, hr⟩ := reads_iff.1 (ih hsup hc2)
     refine ⟨vs, hf, by rw [hr.1, hl], fun k hk => ⟨cs'.getD k undef, ?_, hr.2 k (by omega)⟩⟩
     rw [hc k hk, List.getD_eq_getElem?_getD, List.getElem?_eq_getElem (by omega)]; rfl
    obtain ⟨xs, hxl, hxs⟩ := list_choose hone
    have hxs' : ∀ i, i < xs.length → Fits P e (xs.getD i []) ∧ (xs.getD i []).length = P.cellsOf e ∧ ∀ k, k < P.cellsOf e → ∃ v, W.cell? ((a.add (i * P.cellsOf e)).add k) = some v ∧ RB (blocksOf W) W ((xs.getD i []).getD k .undef) v := fun i hi => by
     rw [List.getD_eq_getElem?_getD, List.getElem?_eq_getElem hi]
     exact hxs i _ (List.getElem?_eq_getElem hi)
    have hblk : 0 < cap → a.block < W.heap.size ∧ a.spot = none := fun hc0 => by
     have h00 : (a.add (0 * P.cellsOf e)).add 0 = a := by simp [Addr.add]
     have hcell : ∃ v, W.cell? a = some v := by
      by_cases h0 : 0 < len
      ·obtain ⟨v, hv, _⟩ := (hxs' 0 (by omega)).2.2 0 hpos
       rw [h00] at hv
       exact ⟨v, hv⟩
      ·have h1 := (hre rfl).2 0 (by omega)
       have h2 := (hre rfl).1
       have hl0 : len = 0 := by omega
       subst hl0
       rw [List.getElem?_eq_getElem (by omega)] at h1
       simp only [Option.bind_eq_some_iff] at h1
       obtain ⟨cs', hc1, _⟩ := h1
       obtain ⟨_, hl, hc⟩ := World.cells?_some hc1
       have h3 := hc 0 hpos
       rw [Nat.add_zero, h00, List.getElem?_eq_getElem (by omega)] at h3
       exact ⟨_, h3⟩
     obtain ⟨v, hv⟩ := hcell
     exact cell_block hv
    refine ⟨[.slice false (P.cellsOf e) xs], rfl, .slice xs ht (by omega) (fun i hi => (hxs' i hi).1), fun k hk => ?_⟩
    have : k = 0 := by simpa using hk
    subst this
    simp only [List.getD_cons_zero]
    refine RB.slice_iff.2 ⟨a, cap, by rw [hxl], fun hc0 => (hblk hc0).2, fun hc0 => (hblk hc0).1, by omega, fun i hi => (hxs' i hi).2.1, fun i k hi hk => ?_⟩
    obtain ⟨v, hv, hr⟩ := (hxs' i hi).2.2 k hk
    refine ⟨v, ?_, hr⟩
    have hsp := (hblk (by omega)).2
    rw [addr_add hsp, addr_add rfl] at hv
    rw [← hv]
    simp [Nat.add_assoc]
  ·rename_i fs ht
   simp only [Bool.and_eq_true, List.all_eq_true] at h
   obtain ⟨htile, hall⟩ := h
   obtain ⟨xs, n, _, _, hl, hxl, hf⟩ := DataW.trod_struct ht hx
   obtain ⟨_, vs, hvs, hfs⟩ := fields_of (P := P) (W := W) (cs := cs) htile (by omega) fun f hfm => by
    obtain ⟨i, hi⟩ := List.getElem?_of_mem hfm
    have hi' : i < fs.size := by have := (List.getElem?_eq_some_iff.1 hi).1; simpa using this
    have h1 := hf i f (by simpa using hi)
    rw [List.getElem?_eq_getElem (by omega)] at h1
    exact ih (hall f hfm) h1
   rw [List.drop_zero, Nat.sub_zero, List.take_of_length_le (by omega)] at hvs
   exact reads_iff.2 ⟨vs, .struct vs ht (by rw [hvs.1, hl]) (fun f hfm => by simpa using (hfs f hfm).2), hvs⟩
  ·rename_i n e ht
   simp only [Bool.and_eq_true, beq_iff_eq] at h
   obtain ⟨hsz, hsup⟩ := h
   obtain ⟨hl, m, hm⟩ := trod_array ht hx
   obtain ⟨vs, hvs, hfs⟩ := elems_of (P := P) (W := W) (cs := cs) (e := e) (n := n) (by omega) fun i hi => by
    obtain ⟨y, hy⟩ := hm i hi
    exact ih hsup hy
   rw [List.take_of_length_le (by omega)] at hvs
   exact reads_iff.2 ⟨vs, .array vs ht (by rw [hvs.1, hl]) hfs, hvs⟩
  ·cases h
end
end Go.Proofs.YtdlijnfdkeimlaaDoor.Am

namespace Go.Proofs.YtdlijnfdkeimlaaDoor.Am
section
variable {P : Program} {W : World}
inductive ArgOK (W : World) : V → Value → Prop
 | leaf {x : V} {v : Value} (h : RB (blocksOf W) W x v) : ArgOK W x v
 | agg (cs : List V) (arr : Array Value) (hs : arr.size = cs.length) (h : ∀ k, k < cs.length → RB (blocksOf W) W (cs.getD k .undef) (arr.getD k undef)) : ArgOK W (.agg cs) (.agg arr)
def g0 (W : World) : G := ⟨id, id, fun _ => False, blocksOf W⟩
theorem RB.toR1 {x : V} {v : Value} (h : RB (blocksOf W) W x v) : R1 (g0 W) W 0 x v := by
 cases h with
 | func f => exact ⟨#[], rfl, rfl, fun k hk => absurd hk (by simp)⟩
 | bool b => exact RB.bool b
 | int k n => exact RB.int k n
 | str b => exact RB.str b
 | nilp => exact RB.nilp
 | nils => exact RB.nils
 | nilf => exact RB.nilf
 | nili => exact RB.nili
 | slice sz xs a cap vs hs hp hc hz hv hr => exact RB.slice sz xs a cap vs hs hp hc hz hv hr
theorem RB.ok0 {x : V} {v : Value} (h : RB (blocksOf W) W x v) : x.ok0 = true := by
 cases h <;> rfl
theorem RB.cnt {x : V} {v : Value} (h : RB (blocksOf W) W x v) (c : Nat) : cnt0 c x v = 0 := by
 cases h <;> rfl
theorem ArgOK.r3 {x : V} {v : Value} (h : ArgOK W x v) (τ : Nat → Value) : R3 (g0 W) W 0 τ x v := by
 cases h with
 | leaf h =>
  have h1 := h.toR1
  cases h <;> exact h1
 | agg cs arr hs h => exact ⟨arr, rfl, hs, fun k hk => ⟨.inl (h k hk).ok0, (h k hk).toR1⟩⟩
theorem ArgOK.okArg {x : V} {v : Value} (h : ArgOK W x v) : x.okArg = true := by
 cases h with
 | leaf h => cases h <;> rfl
 | agg cs arr hs h =>
  simp only [V.okArg, List.all_eq_true]
  intro y hy
  obtain ⟨k, hk, rfl⟩ := List.getElem_of_mem hy
  have := (h k hk).ok0
  rwa [List.getD_eq_getElem?_getD, List.getElem?_eq_getElem hk] at this
theorem ArgOK.cnt {x : V} {v : Value} (h : ArgOK W x v) (c : Nat) : cnt2 c x v = 0 := by
 cases h with
 | leaf h =>
  have h1 := h.cnt c
  cases h <;> exact h1
 | agg cs arr hs h => exact sumTo_zero fun k hk => (h k hk).cnt c
theorem start {args : List V} {vs : Array Value} (hl : args.length = vs.toList.length) (ha : ∀ k, k < args.length → ArgOK W (args.getD k .undef) (vs.toList.getD k undef)) :
  SR (g0 W) W 0 (fun _ => 0) (fun _ => false) ⟨fun _ => .undef, fun _ => [], []⟩ #[] (args.zip vs.toList) := by
 have hmem : ∀ p ∈ args.zip vs.toList, ArgOK W p.1 p.2 := fun p hp => by
  obtain ⟨k, hk, rfl⟩ := List.getElem_of_mem hp
  have hk' : k < args.length := by simp at hk; omega
  have h1 := ha k hk'
  simp only [List.getElem_zip]
  rw [List.getD_eq_getElem?_getD, List.getElem?_eq_getElem hk', List.getD_eq_getElem?_getD, List.getElem?_eq_getElem (by omega)] at h1
  exact h1
 have hcP : ∀ c, cntP c (args.zip vs.toList) = 0 := fun c => by
  rw [cntP_zip hl]; exact sumTo_zero fun k hk => (ha k hk).cnt c
 have hT : ∀ c, total (g0 W) W 0 (fun _ => 0) ⟨fun _ => .undef, fun _ => [], []⟩ #[] (args.zip vs.toList) c = persOf (g0 W) c := fun c => by
  have e1 : cntT c (fun _ => V.undef) #[] = 0 := rfl
  have e2 : cntB (g0 W) W c 0 (fun _ => []) = 0 := rfl
  have e3 : cntM (g0 W) W c [] = 0 := rfl
  unfold total
  simp only [e1, e2, e3, hcP]
  omega
 refine ⟨fun s => trivial, fun s _ => rfl, fun s d hd => (by cases hd), fun p hp => (hmem p hp).r3 _, fun p hp d hd => ?_, fun j => by simp [g0], fun j hj => absurd rfl hj, fun b hb => absurd hb (by simp), fun c => ?_, fun c hc => ?_⟩
 ·obtain ⟨b, o, e⟩ := okArg_root (hmem p hp).okArg hd; cases e
 ·rw [hT]; unfold persOf; split <;> omega
 ·rw [hT]; unfold persOf
  rw [if_neg]
  show ¬ (c < W.heap.size)
  omega
theorem law_calls [Lay P] {T : Table} (hLd : Laid P (g0 W) W) (hT : TableOK P T) {f : Nat} {args : List V} {m' : List (List V)} {vs : Array Value} {b : Bool} (hret : RF T f args [] = some (.bool b, m')) (hl : args.length = vs.toList.length)
  (ha : ∀ k, k < args.length → ArgOK W (args.getD k .undef) (vs.toList.getD k undef)) : Calls P f vs W fun e W' => e = .returned (.bool b) ∧ RowKit.Below W.heap.size W W' := by
 obtain ⟨_, hcall⟩ := ret_sound hT (RF_ret.1 hret)
 have hok : args.all V.okArg = true := List.all_eq_true.2 fun y hy => by
  obtain ⟨k, hk, rfl⟩ := List.getElem_of_mem hy
  have := (ha k hk).okArg
  rwa [List.getD_eq_getElem?_getD, List.getElem?_eq_getElem hk] at this
 refine (hcall (g0 W) W (fun _ => 0) vs (by simpa using hl.symm) hok hLd (start hl ha)).mono fun e W' ⟨v, g', he, hS, hE, _⟩ => ?_
 have hv : v = .bool b := R3.bool (hS.pend _ (.head _))
 exact ⟨by rw [he, hv], hE.os, hE.tape, hE.output, hE.size, fun k hk => (hE.pers k hk).2⟩
def FitsV (P : Program) (t : TypeId) (x : V) : Prop :=
 match P.underlying t with
 | some (.struct _) | some (.array _ _) => ∃ cs, x = .agg cs ∧ Fits P t cs
 | _ => Fits P t [x]
section
variable {H : Type} {enc : TypeId × Value → H}
theorem arg_of {d : Nat} {t : TypeId} (hsup : supT P d t = true) {v : Value} {dd : DataW H} {ps : List MemPlace} {base : Nat} (hval : Value.okWide P W .any base t v) (h : DataW.Trod enc P W 0 (fun _ => true) true t v dd ps) :
  ∃ x, FitsV P t x ∧ ArgOK W x v := by
 obtain ⟨fuel, h⟩ := h
 obtain ⟨cs, hfit, hr⟩ := reads_iff.1 (reads_of hsup h)
 have agg : ∀ arr : Array Value, v = .agg arr → ArgOK W (.agg cs) v := fun arr e => by
  subst e
  have hc : (Value.agg arr).cells = arr := rfl
  rw [hc] at hr
  refine .agg cs arr (by have := hr.1; simpa using this.symm) fun k hk => ?_
  have := hr.2 k (by rw [← hr.1]; exact hk)
  rwa [array_toList_getD] at this
 have leaf : (∀ arr, v ≠ .agg arr) → cs.length = 1 → ∃ x, cs = [x] ∧ ArgOK W x v := fun hv h1 => by
  match cs, h1 with
  | [x], _ =>
   refine ⟨x, rfl, .leaf ?_⟩
   rw [cells_leaf hv] at hr
   exact hr.2 0 (by simp)
 unfold FitsV
 unfold Value.okWide at hval
 cases hu : P.underlying t with
 | none => cases hfit <;> simp_all
 | some ud =>
  rw [hu] at hval
  cases ud with
  | struct fs => obtain ⟨arr, e, _⟩ := hval; exact ⟨.agg cs, ⟨cs, rfl, hfit⟩, agg arr e⟩
  | array n e => obtain ⟨arr, e, _⟩ := hval; exact ⟨.agg cs, ⟨cs, rfl, hfit⟩, agg arr e⟩
  | _ =>
   simp only at hval ⊢
   have h1 : cs.length = 1 := by cases hfit <;> first | rfl | simp_all
   have h2 : ∀ arr, v ≠ .agg arr := fun arr e => by
    subst e
    simp only [Cell.okWide, Cell.ok, hu] at hval
   obtain ⟨x, rfl, hx⟩ := leaf h2 h1
   exact ⟨x, hfit, hx⟩
theorem args_of {d : Nat} : ∀ {ts : List TypeId} {vs : List Value} {ds : List (DataW H)} {ps : List MemPlace} {base : Nat}, ts.all (supT P d) = true → (∀ (j : Nat) (t : TypeId) (v : Value), ts[j]? = some t → vs[j]? = some v → Value.okWide P W .any base t v) →
  DataW.TrodAll enc P W 0 (fun _ => true) true ts vs ds ps → ∃ args : List V, args.length = vs.length ∧ ts.length = vs.length ∧ (∀ (j : Nat) (t : TypeId), ts[j]? = some t → FitsV P t (args.getD j .undef)) ∧ ∀ k, k < args.length → ArgOK W (args.getD k .undef) (vs.getD k undef)
 | [], vs, ds, ps, base, _, _, h => by
  obtain ⟨rfl, rfl, rfl⟩ := ChangeShapes.trodAll_nil h
  exact ⟨[], rfl, rfl, fun j t hj => by simp at hj, fun k hk => absurd hk (by simp)⟩
 | t :: ts, vs, ds, ps, base, hsup, hval, h => by
  obtain ⟨v, vs', dd, ds', p, q, rfl, rfl, rfl, h0, r0⟩ := ChangeShapes.trodAll_cons h
  simp only [List.all_cons, Bool.and_eq_true] at hsup
  obtain ⟨x, hx1, hx2⟩ := arg_of hsup.1 (hval 0 t v rfl rfl) h0
  obtain ⟨args, h1, h2, h3, h4⟩ := args_of hsup.2 (fun j t v hj hv => hval (j + 1) t v hj hv) r0
  refine ⟨x :: args, by simp [h1], by simp [h2], fun j t' hj => ?_, fun k hk => ?_⟩
  ·cases j with
   | zero => simp only [List.getElem?_cons_zero, Option.some.injEq] at hj; subst hj; exact hx1
   | succ j => exact h3 j t' hj
  ·cases k with
   | zero => exact hx2
   | succ k => exact h4 k (by simpa using hk)
theorem args_stay (hl : laidOutB P = true) {W' : World} {sp : Nat → Bool} : ∀ {ts : List TypeId} {vs : List Value} {ds : List (DataW H)} {ps : List MemPlace}, (ts.all fun t => P.readableRec t && decide (t < P.types.size)) = true →
  DataW.TrodAll enc P W 0 (fun _ => true) true ts vs ds ps → (∀ p ∈ ps, W.sameAt W' p) → (∀ p ∈ ps, sp p.block = true) → DataW.TrodAll enc P W' 0 sp true ts vs ds ps
 | [], vs, ds, ps, _, h, _, _ => by
  obtain ⟨rfl, rfl, rfl⟩ := ChangeShapes.trodAll_nil h
  exact rfl
 | t :: ts, vs, ds, ps, hr, h, hs, hsp => by
  obtain ⟨v, vs', dd, ds', p, q, rfl, rfl, rfl, h0, r0⟩ := ChangeShapes.trodAll_cons h
  simp only [List.all_cons, Bool.and_eq_true, decide_eq_true_eq] at hr
  exact trodAll_cons_mk (WideElems.Trod_stays hl hr.1.1 hr.1.2 h0 (fun x hx => hs x (List.mem_append_left _ hx)) (fun x hx => hsp x (List.mem_append_left _ hx)))
   (args_stay hl hr.2 r0 (fun x hx => hs x (List.mem_append_right _ hx)) (fun x hx => hsp x (List.mem_append_right _ hx)))
theorem trodAll_len : ∀ {ts : List TypeId} {vs : List Value} {ds : List (DataW H)} {ps : List MemPlace}, DataW.TrodAll enc P W 0 (fun _ => true) true ts vs ds ps → ds.length = ts.length
 | [], vs, ds, ps, h => by obtain ⟨rfl, rfl, rfl⟩ := ChangeShapes.trodAll_nil h; rfl
 | t :: ts, vs, ds, ps, h => by
  obtain ⟨v, vs', dd, ds', p, q, rfl, rfl, rfl, h0, r0⟩ := ChangeShapes.trodAll_cons h
  simp [trodAll_len r0]
open ChangeShapes in
theorem post_of_below {f : Func} {s : ChangeSpec} {apart fresh handsOn again : Bool} {W W' : World} {args : Array Value} {v : Value} {ds gs : List (DataW H)} {before pa pv : List MemPlace}
  (hW : DataW.Whole enc P f.params.toList s.vars apart W args.toList ds gs before)
  (hres : ∀ (b : Nat) (sp : Nat → Bool) (hd : Bool), DataW.TrodAll enc P W' b sp hd f.resultTypes.toList (v.resultList f.resultTypes.size) (s.fn H (ds ++ gs)).results [])
  (hargs : ∀ sp : Nat → Bool, (∀ p ∈ before, sp p.block = true) → DataW.TrodAll enc P W' 0 sp true f.params.toList args.toList (s.fn H (ds ++ gs)).args pa)
  (hvars : ∀ sp : Nat → Bool, (∀ p ∈ before, sp p.block = true) → DataW.TrodVars enc P W' sp s.vars (s.fn H (ds ++ gs)).vars pv)
  (hps : before = pa ++ pv) (hb : RowKit.Below W.heap.size W W')
  (hok : ∀ (j : Nat) (t : TypeId) (r : Value), f.resultTypes[j]? = some t → (v.resultList f.resultTypes.size)[j]? = some r → Value.okWide P W' .any 0 t r) :
  s.post enc P f apart fresh handsOn again W args v W' := by
 have hlt : ∀ p ∈ before, p.block < W.heap.size := fun p hp => hW.lt p hp
 have hold : ∀ p ∈ before, (fun b => decide (b < W.heap.size)) p.block = true := fun p hp => by simpa using hlt p hp
 refine ⟨ds, gs, before, [], pa, pv, hW, hres _ _ _, hargs _ hold, hvars _ hold, World.keptBut_mono (fun p hp => ⟨hp, ?_⟩) (hb.frame (· ∈ before)), fun _ => ?_⟩
 ·rw [hps, List.mem_append] at hp
  exact Or.inr hp
 ·obtain ⟨_, _, _, _, _, hz, hn⟩ := hW
  refine ⟨hok, _, _, ([] ++ pa) ++ pv, ⟨[] ++ pa, pv, trodAll_append (hargs _ (fun _ _ => rfl)) (hres _ _ _), hvars _ (fun _ _ => rfl), rfl, ?_, ?_⟩, ?_⟩
  ·intro b off hp
   have hp' : MemPlace.cell b off ∈ before := by rw [hps]; simpa using hp
   rw [hb.frozen (p := ⟨b, off, none⟩) (hlt _ hp')]
   exact hz b off hp'
  ·intro ha
   have := hn ha
   rw [hps] at this
   simpa using this
  ·intro p hp _
   rw [hps]
   simpa using hp
end
end
end Go.Proofs.YtdlijnfdkeimlaaDoor.Am

set_option linter.all false
namespace Go.Proofs.YtdlijnfdkeimlaaDoor.Am.Keys
open Go.Proofs
theorem gl2 : Tryd.prog.globalNamed "unicode/utf8.acceptRanges" = some 1 := by kernel_rfl
theorem gl1 : Tryd.prog.globalNamed "unicode/utf8.first" = some 0 := by kernel_rfl
theorem gt2 : (Tryd.prog.globals[1]?).map (·.type) = some 161 := by kernel_rfl
theorem gt1 : (Tryd.prog.globals[0]?).map (·.type) = some 158 := by kernel_rfl
noncomputable def eT (t : TypeId) : TypeId := match Tryd.prog.underlying t with | some (.array _ e) => e | _ => 0
noncomputable def fsT (t : TypeId) : Array Field := match Tryd.prog.underlying t with | some (.struct fs) => fs | _ => #[]
theorem ut1 : Tryd.prog.underlying 158 = some (.array 256 (eT 158)) := by kernel_rfl
theorem ut2 : Tryd.prog.underlying 161 = some (.array 16 (eT 161)) := by kernel_rfl
theorem ue1 : Tryd.prog.underlying (eT 158) = some (.int .u8) := by kernel_rfl
theorem ue2 : Tryd.prog.underlying (eT 161) = some (.struct (fsT (eT 161))) := by kernel_rfl
theorem uf0 : ((fsT (eT 161))[0]?.map fun f => (f.type, f.offset)) = some (5, 0) := by kernel_rfl
theorem uf1 : ((fsT (eT 161))[1]?.map fun f => (f.type, f.offset)) = some (5, 1) := by kernel_rfl
theorem u5 : Tryd.prog.underlying 5 = some (.int .u8) := by kernel_rfl
theorem kc1 : Tryd.prog.cellsOf (eT 158) = 1 := by kernel_rfl
theorem kc2 : Tryd.prog.cellsOf (eT 161) = 2 := by kernel_rfl
theorem kc5 : Tryd.prog.cellsOf 5 = 1 := by kernel_rfl
theorem laid_one {l : List (String × DataW Unit)} {W : World} {n : String} {d : DataW Unit} {g : Nat} {t : TypeId} (h : laidMetH Tryd.prog l W)
  (hf : (l.filter fun x => x.2.handleName?.isNone).filter (fun x => x.1 == n) = [(n, d)]) (hg : Tryd.prog.globalNamed n = some g) (hty : (Tryd.prog.globals[g]?).map (·.type) = some t) :
  ∃ (cs : Array Value) (fuel : Nat) (p : List MemPlace), (∀ i, W.cell? ⟨g, i, none⟩ = cs[i]?) ∧ g < W.heap.size ∧ DataW.trod (fun _ => ()) Tryd.prog W 0 (fun _ => true) false fuel t cs.toList = some (d, p) ∧ W.var? Tryd.prog n = some cs := by
 have h2 := (laidMetH_iff.1 h).1.filter (fun x => x.1 == n)
 rw [hf] at h2
 obtain ⟨ps, ⟨g', t', cs, fuel, p, q, hg', ht', hvar, hd, _, _⟩, _⟩ := h2
 obtain rfl := Option.some.inj (hg.symm.trans hg')
 obtain rfl := Option.some.inj (hty.symm.trans ht')
 have hv := hvar
 refine ⟨cs, fuel, p, fun i => World.var?_cell hg hvar i, ?_, hd, hv⟩
 clear hv
 unfold World.var? at hvar
 rw [hg] at hvar
 simp only [Option.bind_some] at hvar
 cases hh : W.heap[g]? with
 | none => rw [hh] at hvar; cases hvar
 | some o => exact (Array.getElem?_eq_some_iff.1 hh).1
noncomputable def lst (x : List V) : DataW Unit := match x with
 | [.int k n] => .lit (.int k n)
 | [.int k n, .int k' n'] => .agg [.lit (.int k n), .lit (.int k' n')]
 | _ => .nil
theorem first_rows {W : World} {cs : Array Value} {fuel : Nat} {p : List MemPlace} (h : DataW.trod (fun _ => ()) Tryd.prog W 0 (fun _ => true) false fuel 158 cs.toList = some (.agg (tab1.map lst), p)) (i : Nat) (hi : i < 256) :
  ∃ n, tab1[i]? = some [.int .u8 n] ∧ cs[i]? = some (.int .u8 n) := by
 obtain ⟨xs, m, _, hx, hl, hlen, hr⟩ := DataW.trod_array ut1 h
 have hxs : tab1.map lst = xs.map (·.1) := by
  have := congrArg Prod.fst hx
  simpa using this
 have h1 := hr i hi
 rw [kc1, List.getElem?_eq_getElem (by omega)] at h1
 obtain ⟨n, hc, hy, _⟩ := DataW.trod_int ue1 h1
 have h2 : (tab1.map lst)[i]? = some (.lit (.int .u8 n)) := by
  rw [hxs, List.getElem?_map, List.getElem?_eq_getElem (by omega), hy]; rfl
 refine ⟨n, ?_, ?_⟩
 ·rw [List.getElem?_map] at h2
  obtain ⟨x, hx1, hx2⟩ := Option.map_eq_some_iff.1 h2
  rw [hx1]
  have hk : ∀ y ∈ tab1, ∃ z, y = [.int .u8 z] := by
   have : tab1.all (fun y => match y with | [.int .u8 _] => true | _ => false) = true := by decide +kernel
   intro y hy
   have := List.all_eq_true.1 this y hy
   split at this
   ·exact ⟨_, rfl⟩
   ·cases this
  obtain ⟨z, rfl⟩ := hk x (List.mem_of_getElem? hx1)
  simp only [lst, DataW.lit.injEq, Lit.int.injEq, true_and] at hx2
  rw [hx2]
 ·have := congrArg (·[0]?) hc
  simpa [List.getElem?_take, List.getElem?_drop] using this
theorem second_rows {W : World} {cs : Array Value} {fuel : Nat} {p : List MemPlace} (h : DataW.trod (fun _ => ()) Tryd.prog W 0 (fun _ => true) false fuel 161 cs.toList = some (.agg (tab2.map lst), p)) (i : Nat) (hi : i < 16) :
  ∃ a b, tab2[i]? = some [.int .u8 a, .int .u8 b] ∧ cs[i * 2]? = some (.int .u8 a) ∧ cs[i * 2 + 1]? = some (.int .u8 b) := by
 obtain ⟨xs, m, _, hx, hl, hlen, hr⟩ := DataW.trod_array ut2 h
 have hxs : tab2.map lst = xs.map (·.1) := by
  have := congrArg Prod.fst hx
  simpa using this
 have h1 := hr i hi
 rw [kc2, List.getElem?_eq_getElem (by omega)] at h1
 obtain ⟨ys, m2, _, hy, hl2, hlen2, hr2⟩ := DataW.trod_struct ue2 h1
 have hsz : (fsT (eT 161)).size = 2 := by kernel_rfl
 obtain ⟨g0, hg0, hq0⟩ := Option.map_eq_some_iff.1 uf0
 obtain ⟨g1, hg1, hq1⟩ := Option.map_eq_some_iff.1 uf1
 have f0 := hr2 0 _ hg0
 have f1 := hr2 1 _ hg1
 rw [show g0.type = 5 from congrArg Prod.fst hq0, show g0.offset = 0 from congrArg Prod.snd hq0, kc5] at f0
 rw [show g1.type = 5 from congrArg Prod.fst hq1, show g1.offset = 1 from congrArg Prod.snd hq1, kc5] at f1
 rw [List.getElem?_eq_getElem (by omega)] at f0 f1
 obtain ⟨a, ha, hya, _⟩ := DataW.trod_int u5 f0
 obtain ⟨b, hb, hyb, _⟩ := DataW.trod_int u5 f1
 have hys : ys.map (·.1) = [.lit (.int .u8 a), .lit (.int .u8 b)] := by
  match ys, hlen2.trans hsz with
  | [y0, y1], _ =>
   simp only [List.getElem_cons_zero, List.getElem_cons_succ] at hya hyb
   rw [hya, hyb]; rfl
 have h2 : (tab2.map lst)[i]? = some (.agg [.lit (.int .u8 a), .lit (.int .u8 b)]) := by
  rw [hxs, List.getElem?_map, List.getElem?_eq_getElem (by omega), hy, ← hys]; rfl
 refine ⟨a, b, ?_, ?_, ?_⟩
 ·rw [List.getElem?_map] at h2
  obtain ⟨x, hx1, hx2⟩ := Option.map_eq_some_iff.1 h2
  rw [hx1]
  have hk : ∀ y ∈ tab2, ∃ z z', y = [.int .u8 z, .int .u8 z'] := by
   have : tab2.all (fun y => match y with | [.int .u8 _, .int .u8 _] => true | _ => false) = true := by decide +kernel
   intro y hy
   have := List.all_eq_true.1 this y hy
   split at this
   ·exact ⟨_, _, rfl⟩
   ·cases this
  obtain ⟨z, z', rfl⟩ := hk x (List.mem_of_getElem? hx1)
  simp only [lst, DataW.agg.injEq, List.cons.injEq, DataW.lit.injEq, Lit.int.injEq, true_and, and_true] at hx2
  rw [hx2.1, hx2.2]
 ·have := congrArg (·[0]?) ha
  simpa [List.getElem?_take, List.getElem?_drop] using this
 ·have := congrArg (·[0]?) hb
  simpa [List.getElem?_take, List.getElem?_drop] using this
theorem laid_of {l : List (String × DataW Unit)} {W : World} (h : laidMetH Tryd.prog l W)
  (h1 : (l.filter fun x => x.2.handleName?.isNone).filter (fun x => x.1 == "unicode/utf8.first") = [("unicode/utf8.first", .agg (tab1.map lst))])
  (h2 : (l.filter fun x => x.2.handleName?.isNone).filter (fun x => x.1 == "unicode/utf8.acceptRanges") = [("unicode/utf8.acceptRanges", .agg (tab2.map lst))]) : Laid Tryd.prog (g0 W) W := by
 obtain ⟨cs1, f1, p1, e1, s1, t1, _⟩ := laid_one h h1 gl1 gt1
 obtain ⟨cs2, f2, p2, e2, s2, t2, _⟩ := laid_one h h2 gl2 gt2
 have len1 : tab1.length = 256 := by decide +kernel
 have len2 : tab2.length = 16 := by decide +kernel
 refine ⟨fun t ht => ?_, fun t ht => ?_⟩
 case refine_2 =>
  have ht : t ∈ ([] : List (Nat × String × IntKind × List Int)) := ht
  cases ht
 have ht : t ∈ [(0, 1, tab1), (1, 2, tab2)] := ht
 rcases List.mem_cons.1 ht with rfl | ht
 ·refine ⟨s1, fun i hi => ?_, fun i k hi hk => ?_⟩
  ·have hi : i < tab1.length := hi
   obtain ⟨n, a, _⟩ := first_rows t1 i (by omega)
   show (tab1.getD i []).length = 1
   rw [List.getD_eq_getElem?_getD, a]; rfl
  ·have hi : i < tab1.length := hi
   have hk : k < 1 := hk
   obtain ⟨n, a, b⟩ := first_rows t1 i (by omega)
   obtain rfl : k = 0 := by omega
   refine ⟨.int .u8 n, ?_, ?_⟩
   ·show W.cell? ⟨0, 0 + (i * 1 + 0), none⟩ = _
    rw [show 0 + (i * 1 + 0) = i by omega, e1, b]
   ·show RB _ W ((tab1.getD i []).getD 0 .undef) _
    rw [show tab1.getD i [] = _ from List.getD_eq_getElem?_getD, a]; exact RB.int _ _
 ·obtain rfl := List.mem_singleton.1 ht
  refine ⟨s2, fun i hi => ?_, fun i k hi hk => ?_⟩
  ·have hi : i < tab2.length := hi
   obtain ⟨n, n', a, _⟩ := second_rows t2 i (by omega)
   show (tab2.getD i []).length = 2
   rw [List.getD_eq_getElem?_getD, a]; rfl
  ·have hi : i < tab2.length := hi
   have hk : k < 2 := hk
   obtain ⟨n, n', a, b, c⟩ := second_rows t2 i (by omega)
   match k, hk with
   | 0, _ =>
    refine ⟨.int .u8 n, ?_, ?_⟩
    ·show W.cell? ⟨1, 0 + (i * 2 + 0), none⟩ = _
     rw [show 0 + (i * 2 + 0) = i * 2 by omega, e2, b]
    ·show RB _ W ((tab2.getD i []).getD 0 .undef) _
     rw [show tab2.getD i [] = _ from List.getD_eq_getElem?_getD, a]; exact RB.int _ _
   | 1, _ =>
    refine ⟨.int .u8 n', ?_, ?_⟩
    ·show W.cell? ⟨1, 0 + (i * 2 + 1), none⟩ = _
     rw [show 0 + (i * 2 + 1) = i * 2 + 1 by omega, e2, c]
    ·show RB _ W ((tab2.getD i []).getD 1 .undef) _
     rw [show tab2.getD i [] = _ from List.getD_eq_getElem?_getD, a]; exact RB.int _ _
end Go.Proofs.YtdlijnfdkeimlaaDoor.Am.Keys

namespace Go.Proofs.YtdlijnfdkeimlaaDoor.Am
def ints (xs : List Int) : List (List V) := xs.map fun n => [.int .i64 n]
inductive IV : V → List Int → Prop
 | nil : IV .nils []
 | sl (xs : List Int) : IV (.slice false 1 (ints xs)) xs
def boolL (xs : List Bool) : List (List V) := xs.map fun b => [.bool b]
inductive BV : V → List Bool → Prop
 | nil : BV .nils []
 | sl (xs : List Bool) : BV (.slice false 1 (boolL xs)) xs
section
variable {P : Program}
theorem fits_str {t : TypeId} (ht : P.underlying t = some .string) {vs : List V} (h : Fits P t vs) : ∃ s, vs = [.str s] ∧ s.length ≤ maxLen := by
 cases h <;> simp_all
theorem fitsV_leaf {t : TypeId} {x : V} {d : TypeDesc} (ht : P.underlying t = some d) (h : FitsV P t x) (hs : ∀ fs, d ≠ .struct fs) (ha : ∀ n e, d ≠ .array n e) : Fits P t [x] := by
 unfold FitsV at h
 rw [ht] at h
 cases d <;> first | exact h | exact absurd rfl (hs _) | exact absurd rfl (ha _ _)
end
end Go.Proofs.YtdlijnfdkeimlaaDoor.Am

namespace Go.Proofs.YtdlijnfdkeimlaaDoor.Am
inductive LT where
 | bool
 | int (k : IntKind)
 | str
 | slice (e : TypeId)
 deriving DecidableEq
def LV (P : Program) (l : LT) (v : V) : Prop :=
 match l with
 | .bool => ∃ b, v = .bool b
 | .int k => ∃ n, v = .int k n ∧ (Lit.int k n).wf = true
 | .str => ∃ s, v = .str s ∧ s.length ≤ maxLen
 | .slice e => v = .nils ∨ ∃ xs, v = .slice false (P.cellsOf e) xs ∧ xs.length ≤ maxLen ∧ ∀ x ∈ xs, Fits P e x
def LVs (P : Program) : List LT → List V → Prop
 | [], [] => True
 | l :: ls, v :: vs => LV P l v ∧ LVs P ls vs
 | _, _ => False
section
variable {P : Program}
theorem LVs.append : ∀ {ls ks : List LT} {vs us : List V}, LVs P ls vs → LVs P ks us → LVs P (ls ++ ks) (vs ++ us)
 | [], _, [], _, _, h => h
 | _ :: _, _, _ :: _, _, h, k => ⟨h.1, LVs.append h.2 k⟩
 | [], _, _ :: _, _, h, _ => h.elim
 | _ :: _, _, [], _, h, _ => h.elim
theorem LVs.len : ∀ {ls : List LT} {vs : List V}, LVs P ls vs → vs.length = ls.length
 | [], [], _ => rfl
 | _ :: _, _ :: _, h => by rw [List.length_cons, List.length_cons, LVs.len h.2]
 | [], _ :: _, h => h.elim
 | _ :: _, [], h => h.elim
end
end Go.Proofs.YtdlijnfdkeimlaaDoor.Am

namespace Go.Proofs.YtdlijnfdkeimlaaDoor.Am
section
variable {P : Program} {W : World} {H : Type} {enc : TypeId × Value → H}
def AsLong (x : V) (d : DataW H) : Prop := ∀ o z xs, x = .slice o z xs → ∃ elems spare, d = .slice elems spare ∧ elems.length = xs.length
theorem asLong {x : V} {v : Value} {t : TypeId} {d : DataW H} {ps : List MemPlace} (hf : FitsV P t x) (ha : ArgOK W x v) (h : DataW.Trod enc P W 0 (fun _ => true) true t v d ps) : AsLong x d := by
 intro o z xs hx
 subst hx
 have hs : ∃ e, P.underlying t = some (.slice e) := by
  unfold FitsV at hf
  split at hf
  ·obtain ⟨cs, e, _⟩ := hf; cases e
  ·obtain ⟨cs, e, _⟩ := hf; cases e
  ·cases hf <;> first | exact ⟨_, by assumption⟩ | simp_all
 obtain ⟨e, ht⟩ := hs
 have hv : ∃ a cap, v = .slice (some a) xs.length cap := by
  cases ha with
  | leaf h => cases h with | slice _ _ a cap _ _ _ _ _ _ _ => exact ⟨a, cap, rfl⟩
 obtain ⟨a, cap, rfl⟩ := hv
 obtain ⟨fuel, h⟩ := h
 rcases DataW.trod_slice ht h with ⟨h1, _⟩ | ⟨a', len, cap', elems, rest, n, _, h1, h2, _, _, _, hel, _⟩
 ·simp [Value.cells] at h1
 ·simp only [Prod.mk.injEq] at h2
  refine ⟨_, _, h2.1, ?_⟩
  have e1 : len = xs.length := by
   have : (Value.slice (some a) xs.length cap).cells.toList = [.slice (some a) xs.length cap] := rfl
   rw [this] at h1
   injection h1 with h1 _
   injection h1 with _ h1 _
   exact h1.symm
  rw [List.length_map, hel, e1]
end
end Go.Proofs.YtdlijnfdkeimlaaDoor.Am

set_option linter.all false
namespace Go.Proofs.YtdlijnfdkeimlaaDoor.Am.Keys
open Go.Proofs.YtdlijnfdkeimlaaDoor.Am.T
end Go.Proofs.YtdlijnfdkeimlaaDoor.Am.Keys

namespace Go.Proofs.YtdlijnfdkeimlaaDoor.Am
section
variable {P : Program} {W : World} {H : Type} {enc : TypeId × Value → H}
def Tells (x : V) (d : DataW H) : Prop := AsLong x d ∧ ∀ s, x = .str s → d = .lit (.string s)
theorem tells {x : V} {v : Value} {t : TypeId} {d : DataW H} {ps : List MemPlace} (hf : FitsV P t x) (ha : ArgOK W x v) (h : DataW.Trod enc P W 0 (fun _ => true) true t v d ps) : Tells x d := by
 refine ⟨asLong hf ha h, fun s hx => ?_⟩
 subst hx
 have ht : P.underlying t = some .string := by
  unfold FitsV at hf
  split at hf
  ·obtain ⟨cs, e, _⟩ := hf; cases e
  ·obtain ⟨cs, e, _⟩ := hf; cases e
  ·cases hf <;> first | assumption | simp_all
 obtain ⟨fuel, h⟩ := h
 obtain ⟨b, h1, h2⟩ := DataW.trod_string ht h
 have hv : ∃ b : ByteArray, v = .string b ∧ b.data.toList = s := by
  cases ha with
  | leaf h => cases h with | str b => exact ⟨b, rfl, rfl⟩
 obtain ⟨c, rfl, rfl⟩ := hv
 have : (Value.string c).cells.toList = [.string c] := rfl
 rw [this] at h1
 injection h1 with h1 _
 injection h1 with h1
 have h3 := (Prod.mk.inj h2.1).1
 subst h1
 exact h3
theorem tellsAll : ∀ {ts : List TypeId} {vs : List Value} {ds : List (DataW H)} {ps : List MemPlace} {args : List V}, DataW.TrodAll enc P W 0 (fun _ => true) true ts vs ds ps → args.length = vs.length → (∀ (j : Nat) (t : TypeId), ts[j]? = some t → FitsV P t (args.getD j .undef)) → (∀ k, k < args.length → ArgOK W (args.getD k .undef) (vs.getD k undef)) →
  ∀ (j : Nat) (d : DataW H), ds[j]? = some d → Tells (args.getD j .undef) d
 | [], vs, ds, ps, args, h, _, _, _, j, d, hd => by
  obtain ⟨rfl, rfl, rfl⟩ := ChangeShapes.trodAll_nil h
  simp at hd
 | t :: ts, vs, ds, ps, args, h, hl, hf, ha, j, d, hd => by
  obtain ⟨v, vs', dd, ds', p, q, rfl, rfl, rfl, h0, r0⟩ := ChangeShapes.trodAll_cons h
  match args, hl with
  | x :: args, hl =>
   cases j with
   | zero =>
    simp only [List.getElem?_cons_zero, Option.some.injEq] at hd
    subst hd
    exact tells (hf 0 t rfl) (ha 0 (by simp)) h0
   | succ j =>
    exact tellsAll r0 (by simpa using hl) (fun i t' hi => hf (i + 1) t' hi) (fun k hk => ha (k + 1) (by simpa using hk)) j d hd
theorem law_contractS [Lay P] {T : Table} (hLd : Laid P (g0 W) W) (hT : TableOK P T) {f : Nat} {fn : Func} {tb : TypeId} {s : ChangeSpec} {apart fresh handsOn again : Bool} {d : Nat} (hbool : P.underlying tb = some .bool) (hres : fn.resultTypes = #[tb]) (hvars : s.vars = [])
  (hspec : ∀ ds : List (DataW H), ds.length = fn.params.toList.length → s.fn H ds = { results := [.lit (.bool true)], args := ds }) (hl : laidOutB P = true) (hr : (fn.params.toList.all fun t => P.readableRec t && decide (t < P.types.size)) = true)
  (hsup : fn.params.toList.all (supT P d) = true) {base : Nat} {args : Array Value} {ds gs : List (DataW H)} {before : List MemPlace}
  (law : ds.length = fn.params.toList.length → ∀ zs9 : List V, zs9.length = fn.params.toList.length → (∀ (j : Nat) (t : TypeId), fn.params.toList[j]? = some t → FitsV P t (zs9.getD j .undef)) → (∀ (j : Nat) (d : DataW H), ds[j]? = some d → Tells (zs9.getD j .undef) d) → ∃ m', RF T f zs9 [] = some (.bool true, m'))
  (hval : ∀ (j : Nat) t v, fn.params[j]? = some t → args[j]? = some v → Value.okWide P W .any base t v) (hW : DataW.Whole enc P fn.params.toList s.vars apart W args.toList ds gs before) :
  Calls P f args W fun e W' => ∃ v, e = .returned v ∧ s.post enc P fn apart fresh handsOn again W args v W' := by
 have hW' := hW
 obtain ⟨p, q, hA, hV, rfl, hfz, hnd⟩ := hW
 rw [hvars] at hV
 obtain ⟨rfl, rfl⟩ := ChangeShapes.trodVars_none hV
 obtain ⟨zs9, h1, h2, h3, h4⟩ := args_of (base := base) hsup (fun j t v hj hv => hval j t v (by simpa using hj) (by simpa using hv)) hA
 obtain ⟨m', hm⟩ := law (trodAll_len hA) zs9 (by rw [h1, h2]) h3 (tellsAll hA h1 h3 h4)
 have hds : ds.length = fn.params.toList.length := trodAll_len hA
 refine (law_calls hLd hT hm h1 h4).mono fun e W' ⟨he, hb⟩ => ?_
 subst he
 have hsp : s.fn H (ds ++ []) = { results := [.lit (.bool true)], args := ds } := by rw [List.append_nil]; exact hspec ds hds
 refine ⟨_, rfl, post_of_below (pa := p) (pv := []) hW' (fun b sp hd => ?_) (fun sp hspb => ?_) (fun sp _ => ?_) rfl hb (RowKit.ok_one hres rfl (RowKit.okWide_bool_mk hbool _))⟩
 ·rw [hsp, hres]
  exact trodAll_cons_mk (RowKit.shut_bool hbool true) rfl
 ·rw [hsp]
  exact args_stay hl hr hA (fun x hx => hb.same (hW'.lt x (by simpa using hx))) (fun x hx => hspb x (by simpa using hx))
 ·rw [hsp, hvars]; exact rfl
end
end Go.Proofs.YtdlijnfdkeimlaaDoor.Am

set_option linter.all false
namespace Go.Proofs.YtdlijnfdkeimlaaDoor.Am.Keys
open Go.Proofs.YtdlijnfdkeimlaaDoor.Am.T
theorem byts_of (s : List UInt8) : Byts (s.map byteI) := by
  intro x hx
  obtain ⟨b, _, rfl⟩ := List.mem_map.1 hx
  have := b.toNat_lt
  unfold byteI; omega
theorem keysNames_ok {s : List UInt8} (hl : s.length ≤ 1048576) : ∃ m', RF ET 5 [.str s] [] = some (.bool true, m') :=
  CallT.law (casementlaw18_KeysNames_ok (s_ := s.map byteI) (names_pure (byts_of s) (by simpa using hl))) (.cons (.base (.str s)) .nil)
end Go.Proofs.YtdlijnfdkeimlaaDoor.Am.Keys

/-
KeysNames answers true where the input is of bounded bulk; the input reads as it did.
-/
namespace Go.Proofs.YtdlijnfdkeimlaaDoor
open Go.Proofs.YtdlijnfdkeimlaaDoor.Am Go.Proofs.YtdlijnfdkeimlaaDoor.Am.Keys
open Go.ChangeShapes Go.WideShapes Go.ChangeAt Go.RowKit
namespace keysNamesUpto
theorem shape (l : List V) (h : l.length = 1) : ∃ x0, l = [x0] := by
  match l, h with
  | [x0], _ => exact ⟨x0, rfl⟩
theorem own : ownKnob Tryd.prog.godebug = none := by kernel_rfl
theorem laidB : laidOutB Tryd.prog = true := by kernel_rfl
theorem one_le {H : Type} (d : DataW H) : 1 ≤ Rows.uptoBulk d := by
  cases d with
  | lit l => cases l <;> simp [Rows.uptoBulk]
  | _ => simp [Rows.uptoBulk]
theorem part_le {H : Type} {d : DataW H} {l : List (DataW H)} (h : d ∈ l) : Rows.uptoBulk d ≤ Rows.uptoBulkAll l := by
  induction l with
  | nil => cases h
  | cons x r ih =>
    simp only [Rows.uptoBulkAll]
    cases List.mem_cons.1 h with
    | inl e => subst e; omega
    | inr e => have := ih e; omega
theorem append_le {H : Type} (l r : List (DataW H)) : Rows.uptoBulkAll l ≤ Rows.uptoBulkAll (l ++ r) := by
  induction l with
  | nil => exact Nat.zero_le _
  | cons x l ih => rw [List.cons_append]; simp only [Rows.uptoBulkAll]; omega
theorem len_le {H : Type} (l : List (DataW H)) : l.length ≤ Rows.uptoBulkAll l := by
  induction l with
  | nil => exact Nat.zero_le _
  | cons x l ih => simp only [Rows.uptoBulkAll, List.length_cons]; have := one_le x; omega
theorem slice_le {H : Type} {n : Nat} {d : DataW H} (h : n = 0 ∨ ∃ elems spare, d = .slice elems spare ∧ elems.length = n) (hb : Rows.uptoBulk d ≤ 1048576) : n ≤ 1048576 := by
  rcases h with rfl | ⟨elems, spare, rfl, rfl⟩
  · omega
  · have := len_le elems
    simp only [Rows.uptoBulk] at hb
    omega
set_option maxRecDepth 100000 in
theorem law {H : Type} (ds : List (DataW H)) (hk : Rows.uptoBulkAll ds ≤ 1048576) (hds : ds.length = Tryd.f5.params.toList.length) (l : List V) (hl : l.length = Tryd.f5.params.toList.length) (h : ∀ (j : Nat) (t : TypeId), Tryd.f5.params.toList[j]? = some t → FitsV Tryd.prog t (l.getD j .undef)) (hlong : ∀ (j : Nat) (d : DataW H), ds[j]? = some d → Tells (l.getD j .undef) d) : ∃ m', RF ET 5 l [] = some (.bool true, m') := by
  have hln : l.length = 1 := hl
  have hdn : ds.length = 1 := hds
  obtain ⟨x0, rfl⟩ := shape l hln
  match ds, hdn with
  | [d0], _ =>
    have h0 := h 0 9 (by kernel_rfl)
    have k0 := hlong 0 _ rfl
    have b0 : Rows.uptoBulk d0 ≤ 1048576 := Nat.le_trans (part_le (by simp)) hk
    have t0 : Tryd.prog.underlying 9 = some .string := by kernel_rfl
    obtain ⟨s, e1, _⟩ := fits_str t0 (fitsV_leaf t0 h0 (fun _ e => by cases e) (fun _ _ e => by cases e))
    injection e1 with e1 _
    subst e1
    have e2 := k0.2 s rfl
    subst e2
    have e3 : s.length + 1 ≤ 1048576 := b0
    exact keysNames_ok (by omega)
noncomputable def laidWorld (os : Os) : World :=
  { World.holding Tryd.prog os ⟨#[], #[], []⟩ with heap := (((World.holding Tryd.prog os ⟨#[], #[], []⟩).heap.modify 0 fun
      | .cells _ t frozen => .cells ((Go.Pinned.utf8FirstZ.map fun (n : Nat) => Value.int .u8 n).toArray) t frozen
      | o => o).modify 1 fun
      | .cells _ t frozen => .cells #[.int .u8 128, .int .u8 191, .int .u8 160, .int .u8 191, .int .u8 128, .int .u8 159, .int .u8 144, .int .u8 191, .int .u8 128, .int .u8 143, .int .u8 0, .int .u8 0, .int .u8 0, .int .u8 0, .int .u8 0, .int .u8 0, .int .u8 0, .int .u8 0, .int .u8 0, .int .u8 0, .int .u8 0, .int .u8 0, .int .u8 0, .int .u8 0, .int .u8 0, .int .u8 0, .int .u8 0, .int .u8 0, .int .u8 0, .int .u8 0, .int .u8 0, .int .u8 0] t frozen
      | o => o) }
theorem laid_met (os : Os) : laidMet Tryd.prog Rows.keysNamesUptoRow.laid ((laidWorld os).forCall (fun _ _ => 0) ⟨#[], #[.string ⟨#[]⟩], []⟩).memory :=
  laidMet_of_run' 8 (by kernel_rfl) (by kernel_rfl)
theorem reads (os : Os) {H : Type} (enc : TypeId × Value → H) : ∃ places, DataW.whole enc Tryd.prog ((laidWorld os).forCall (fun _ _ => 0) ⟨#[], #[.string ⟨#[]⟩], []⟩).memory Tryd.f5.params.toList Rows.keysNamesSpec.vars false (#[.string ⟨#[]⟩] : Array Value).toList 8 = some ([.lit (.string [])], [], places) :=
  ⟨[], by kernel_rfl⟩
set_option maxRecDepth 100000 in
theorem lifted (os : Os) (started : os.Started) (H : Type) (enc : TypeId × Value → H) (F : Stop.Interp) :
    ReturnsInHanded {} Tryd.checked os 5 .any ((Rows.OpenSpec.upto Rows.keysNamesSpec).preRow enc Tryd.prog Tryd.f5 Rows.keysNamesUptoRow.domain false Rows.keysNamesUptoRow.laid) (((Rows.OpenSpec.upto Rows.keysNamesSpec).at F).post enc Tryd.prog Tryd.f5 false true false false) := by
  obtain ⟨places, hx⟩ := reads os enc
  refine returnsInHanded_of_row (C := Tryd.checked) (s := (Rows.OpenSpec.upto Rows.keysNamesSpec)) own started (by kernel_rfl) Tryd.func5
    (witness_row_at (enc := enc) (C := Tryd.checked) false (laidWorld os) #[.string ⟨#[]⟩] rfl (by kernel_rfl) (by kernel_rfl) (by kernel_rfl)
      (OpenSpec.preRow_of_cond 8 hx (by kernel_rfl) (fun k hk => by cases hk; kernel_rfl) (by kernel_rfl) (laid_met os))) ?_
  intro W base args ds gs before hval hW _ hk _ hlaid _ _
  have hk2 : Rows.uptoBulkAll ds ≤ 1048576 := Nat.le_trans (append_le ds gs) (of_decide_eq_true (hk Rows.uptoSmall rfl))
  exact law_contractS (laid_of hlaid (by kernel_rfl) (by kernel_rfl)) ET_ok (tb := 4) (d := 8) (by kernel_rfl) (by kernel_rfl) rfl
    (fun ds hd => by
      have hdn : ds.length = 1 := hd
      match ds, hdn with
      | [_], _ => rfl) laidB (by kernel_rfl) (by kernel_rfl) (law ds hk2) hval hW
theorem said : Rows.KeysNamesUptoSaid :=
  OpenClaim.holds_of_cond 5 Tryd.f5 rfl rfl rfl rfl rfl rfl rfl ⟨rfl, rfl, rfl, rfl, rfl⟩ rfl rfl rfl rfl rfl (by kernel_rfl) Tryd.func5 (by kernel_rfl)
    (of_decide_eq_true (by kernel_rfl)) (by unfold Func.isWrapper; first | (rw [if_pos (by decide +kernel)]; kernel_rfl) | (rw [if_neg (by decide +kernel)]; exact ⟨rfl, rfl⟩))
    (fun os started H enc _ F => by rw [OpenClaim.pre_eq_preRow]; exact lifted os started H enc F)
theorem nowant : (Tryd.f5.params.toList.all fun t => Tryd.prog.wantsStandIn t == false) = true := by kernel_rfl
theorem plain (f : FuncId) (fn : Func) (hf : Tryd.pinned.checked.prog.funcNamed "casement/casementlaw18.KeysNames" = some f) (hfn : Tryd.pinned.checked.prog.funcs[f]? = some fn) :
    false = Tryd.pinned.checked.prog.looks [] ∧ ∀ (j : Nat) t, fn.params[j]? = some t → Tryd.pinned.checked.prog.wantsStandIn t = false := by
  obtain rfl : f = 5 := Option.some.inj ((show Tryd.prog.funcNamed "casement/casementlaw18.KeysNames" = some 5 by kernel_rfl).symm.trans hf) |>.symm
  obtain rfl : fn = Tryd.f5 := (Option.some.inj (Tryd.func5.symm.trans hfn)).symm
  refine ⟨by kernel_rfl, fun j t ht => ?_⟩
  exact beq_iff_eq.1 (List.all_eq_true.1 nowant t (Array.mem_toList_iff.2 (Array.mem_of_getElem? ht)))
theorem holds : Rows.KeysNamesUptoCardSaid :=
  Claim7.holds_tied_plain_at .later [] _ _ _ _ said (fun _ h => by cases h) (by kernel_rfl) (fun _ h => by cases h) keysNamesUpto_row_tie rfl ⟨rfl, rfl⟩ (by kernel_rfl) rfl plain (by kernel_rfl)
#print axioms holds
end keysNamesUpto
end Go.Proofs.YtdlijnfdkeimlaaDoor
