/-
KeysReads answers true where the input is of bounded bulk; the input reads as it did.
-/
import Derived.Test.YtdlijnfdkeimlaaDoorAmKeysReadsRow5
import Derived.ChangeReads
import Derived.ChangeArms
import Derived.Carry
import Derived.OpenShut
import Derived.ChangeSame
import Derived.RowKit
import Derived.Test.YtdlijnfdkeimlaaDoorRows
import Derived.LaidSub
import Derived.Test.YtdlijnfdkeimlaaDoorCards
import Derived.Test.YtdlijnfdkeimlaaDoorTie
import Derived.WalkKit
import Derived.ProofKit
import Derived.Deep.DeepHandedRow
import Derived.Lib.LaidTab
set_option linter.all false
namespace Go.Proofs.YtdlijnfdkeimlaaDoor.Am.Keys
open Go.Proofs.YtdlijnfdkeimlaaDoor.Am.T
theorem okR_len {l : List Int} {a : Int} (h2 : 2 ≤ szOf a) (h : okR l a) : szOf a ≤ l.length := by
  have := @sz_le a
  unfold okR inT at h
  omega
theorem rn_ex : ∀ (n : Nat) (b : List Int), b.length ≤ n → ∃ rs, Rn b rs
  | 0, b, h => by
    have : b = [] := List.length_eq_zero_iff.1 (by omega)
    subst this
    exact ⟨[], .nil⟩
  | n + 1, b, h => by
    by_cases hn : b = []
    · subst hn; exact ⟨[], .nil⟩
    have hpos := List.length_pos_iff.2 hn
    by_cases h1 : szOf (b.getD 0 0) = 1
    · obtain ⟨rs, hr⟩ := rn_ex n (b.drop 1) (by rw [List.length_drop]; omega)
      exact ⟨_, .good (n := 1) (v := b.getD 0 0) hn (Nat.le_refl _) hpos (by unfold whR; rw [if_pos h1]; rfl) hr⟩
    · by_cases h2 : 2 ≤ szOf (b.getD 0 0) ∧ okR b (b.getD 0 0)
      · have hl := okR_len h2.1 h2.2
        obtain ⟨rs, hr⟩ := rn_ex n (b.drop (szOf (b.getD 0 0))) (by rw [List.length_drop]; omega)
        exact ⟨_, .good (n := szOf (b.getD 0 0)) hn (by omega) hl (wh_ok h2.1 h2.2) hr⟩
      · obtain ⟨rs, hr⟩ := rn_ex n (b.drop 1) (by rw [List.length_drop]; omega)
        exact ⟨_, .bad hn (wh_bad h1 h2) hr⟩
theorem dec_bad {l : List Int} {a : Int} (h : whR l a = (0, 0)) : decR l a = (65533, 1) := by
  by_cases h1 : szOf a = 1
  · exfalso; unfold whR at h; rw [if_pos h1] at h; cases h
  · by_cases h2 : 2 ≤ szOf a ∧ okR l a
    · exfalso
      rw [wh_ok h2.1 h2.2] at h
      have := (Prod.mk.inj h).1
      omega
    · exact de_bad h1 h2
theorem dec_good {l : List Int} {a v : Int} {n : Nat} (hn : 1 ≤ n) (h : whR l a = ((n : Int), v)) : decR l a = (v, (n : Int)) := by
  by_cases h1 : szOf a = 1
  · unfold whR at h; rw [if_pos h1] at h
    have := Prod.mk.inj h
    unfold decR; rw [if_pos h1, this.2, ← this.1]
  · by_cases h2 : 2 ≤ szOf a ∧ okR l a
    · rw [wh_ok h2.1 h2.2] at h
      have := Prod.mk.inj h
      rw [de_ok h2.1 h2.2, this.1, this.2]
    · rw [wh_bad h1 h2] at h
      have := (Prod.mk.inj h).1
      omega
theorem glyph_loop {bs rs : List Int} (h : Rn bs rs) : ∀ (out : List Int), Byts bs → out.length + rs.length ≤ most →
    iter (fun s => glyph_Runes_l1 s.1 s.2 : (List Int × List Int) → Option ((List Int × List Int) ⊕ List Int)) (bs, out) = some (out ++ rs) := by
  induction h with
  | nil =>
    intro out _ _
    rw [List.append_nil]
    exact iter_inr (by simp only [glyph_Runes_l1, letB]; rfl)
  | @bad bs rs hn h hr ih =>
    intro out hb ho
    have hpos := List.length_pos_iff.2 hn
    simp only [List.length_cons] at ho
    rw [iter_inl (s' := (bs.drop 1, out ++ [65533])) (by
      simp only [glyph_Runes_l1, letB]
      rw [decide_eq_true (by omega)]
      simp only [cond_true]
      rw [dec_is hb hn, dec_bad h]
      simp only [Option.bind_some]
      rw [app_some (by simp; omega)]
      simp only [Option.bind_some]
      unfold subA
      rw [if_pos ⟨by omega, by omega⟩]; rfl)]
    rw [ih (out ++ [65533]) (hb.drop _) (by simp; omega)]
    simp
  | @good bs rs n v hn h1 hl h hr ih =>
    intro out hb ho
    have hpos := List.length_pos_iff.2 hn
    simp only [List.length_cons] at ho
    rw [iter_inl (s' := (bs.drop n, out ++ [v])) (by
      simp only [glyph_Runes_l1, letB]
      rw [decide_eq_true (by omega)]
      simp only [cond_true]
      rw [dec_is hb hn, dec_good h1 h]
      simp only [Option.bind_some]
      rw [app_some (by simp; omega)]
      simp only [Option.bind_some]
      unfold subA
      rw [if_pos ⟨by omega, by omega⟩]; rfl)]
    rw [ih (out ++ [v]) (hb.drop _) (by simp; omega)]
    simp
theorem glyph_is {b rs : List Int} (hb : Byts b) (hl : b.length ≤ most) (h : Rn b rs) : glyph_Runes b = some rs := by
  unfold glyph_Runes
  have := glyph_loop h [] hb (by have := h.len; simp; omega)
  have e : iter (fun s => glyph_Runes_l1 s.1 s.2 : (List Int × List Int) → Option ((List Int × List Int) ⊕ List Int)) (b, []) = some rs := this
  rw [e]; rfl
def oneK (r : Int) : Key := if r = 9 ∨ r = 13 ∨ r = 27 ∨ r > 31 then ⟨r, 0⟩ else if r = 0 then ⟨32, 1⟩ else if r < 27 then ⟨w32 (r + 96), 1⟩ else ⟨w32 (r + 64), 1⟩
theorem w32_two (a b c : Int) : w32 (w32 (a + b) - c) = w32 (b + (a - c)) := by
  simp only [IntKind.wrap_i32]; omega
theorem one_is (r : Int) : keys_one r = some (oneK r) := by
  unfold keys_one oneK
  simp only [letB]
  by_cases h1 : r = 9
  · subst h1; rfl
  · by_cases h2 : r = 13
    · subst h2; rfl
    · by_cases h3 : r = 27
      · subst h3; rfl
      · by_cases h4 : r > 31
        · rw [decide_eq_false h1, decide_eq_false h2, decide_eq_false h3, decide_eq_true h4, if_pos (by omega)]; rfl
        · rw [decide_eq_false h1, decide_eq_false h2, decide_eq_false h3, decide_eq_false h4, if_neg (by omega)]
          simp only [cond_false, Option.bind_some]
          by_cases h5 : r = 0
          · rw [decide_eq_true h5, if_pos h5]; rfl
          · rw [decide_eq_false h5, if_neg h5]
            simp only [cond_false]
            by_cases h6 : r < 27
            · rw [decide_eq_true h6, if_pos h6]
              simp only [cond_true]
              rw [w32_two]; rfl
            · rw [decide_eq_false h6, if_neg h6]
              simp only [cond_false]
              rw [w32_two]; rfl
theorem one_ref (r : Int) : casementref18_one r = some (oneK r) := by
  unfold casementref18_one oneK
  simp only [letB]
  by_cases h5 : r = 0
  · subst h5; rfl
  · rw [decide_eq_false h5]
    simp only [cond_false]
    by_cases h6 : r < 27
    · rw [decide_eq_true h6]
      by_cases h1 : r = 9
      · subst h1; rfl
      · by_cases h2 : r = 13
        · subst h2; rfl
        · rw [decide_eq_true h1, decide_eq_true h2, if_neg (by omega), if_neg h5, if_pos h6]; rfl
    · rw [decide_eq_false h6]
      simp only [cond_false, Option.bind_some]
      by_cases h7 : r ≥ 28
      · rw [decide_eq_true h7]
        by_cases h8 : r ≤ 31
        · rw [decide_eq_true h8, if_neg (by omega), if_neg h5, if_neg h6]; rfl
        · rw [decide_eq_false h8, if_pos (by omega)]; rfl
      · have : r = 27 := by omega
        subst this; rfl
theorem oneK_mods (r : Int) : iOr .i64 (oneK r).Mods 2 = w64 ((oneK r).Mods + 2) := by
  have : (oneK r).Mods = 0 ∨ (oneK r).Mods = 1 := by unfold oneK; (repeat' split) <;> simp
  rcases this with h | h <;> rw [h] <;> rfl
theorem bind_eta {α β : Type} (x : Option (α × β)) : (x.bind fun j => some (j.1, j.2)) = x := by cases x <;> rfl
theorem step_is (y : List Int) (out : List Key) (i : Int) : casementref18_Read_l1 y out i = keys_Read_l1 y out i := by
  unfold casementref18_Read_l1 keys_Read_l1
  simp only [letB, one_is, one_ref, Option.bind_some, oneK_mods, bind_eta]
theorem read_loop (y : List Int) (hl : y.length ≤ most) : ∀ (k i : Nat) (out : List Key), i + k = y.length → out.length ≤ i →
    ∃ ks, iter (fun s => keys_Read_l1 y s.1 s.2 : (List Key × Int) → Option ((List Key × Int) ⊕ List Key)) (out, (i : Int)) = some ks ∧ ks.length ≤ y.length := by
  intro k
  induction k using Nat.strongRecOn with
  | ind k ih =>
    intro i out hi ho
    have hm := most_is
    by_cases hk : k = 0
    · refine ⟨out, iter_inr (by
        simp only [keys_Read_l1, letB]
        rw [decide_eq_false (by omega)]; rfl), by omega⟩
    · have hx : idx y (i : Int) = some (y.getD i 0) := by rw [idx_is (d := 0) (by omega) (by omega), Int.toNat_natCast]
      have plain : (keys_Read_l1 y out (i : Int) = some (.inl (out ++ [oneK (y.getD i 0)], ((i + 1 : Nat) : Int)))) → ∃ ks, iter (fun s => keys_Read_l1 y s.1 s.2 : (List Key × Int) → Option ((List Key × Int) ⊕ List Key)) (out, (i : Int)) = some ks ∧ ks.length ≤ y.length := fun h => by
        rw [iter_inl h]
        exact ih (k - 1) (by omega) (i + 1) _ (by omega) (by simp; omega)
      have w1 : w64 ((i : Int) + 1) = ((i + 1 : Nat) : Int) := by rw [w64_id (by omega) (by omega)]; rfl
      by_cases h27 : y.getD i 0 = 27
      · by_cases hn : i + 1 < y.length
        · have hx1 : idx y ((i + 1 : Nat) : Int) = some (y.getD (i + 1) 0) := by rw [idx_is (d := 0) (by omega) (by omega), Int.toNat_natCast]
          by_cases h28 : y.getD (i + 1) 0 ≠ 27
          · rw [iter_inl (s' := (out ++ [Key.mk (oneK (y.getD (i + 1) 0)).Rune (iOr .i64 (oneK (y.getD (i + 1) 0)).Mods 2)], ((i + 2 : Nat) : Int))) (by
              simp only [keys_Read_l1, letB]
              rw [decide_eq_true (by omega), hx, w1, hx1]
              simp only [cond_true, Option.bind_some]
              rw [decide_eq_true h27, decide_eq_true (by omega), decide_eq_true h28]
              simp only [cond_true, Option.bind_some, one_is]
              rw [app_some (by simp; omega)]
              simp only [Option.bind_some]
              rw [w64_id (by omega) (by omega)]; rfl)]
            exact ih (k - 2) (by omega) (i + 2) _ (by omega) (by simp; omega)
          · exact plain (by
              simp only [keys_Read_l1, letB]
              rw [decide_eq_true (by omega), hx, w1, hx1]
              simp only [cond_true, Option.bind_some]
              rw [decide_eq_true h27, decide_eq_true (by omega), decide_eq_false h28]
              simp only [cond_true, cond_false, Option.bind_some, one_is]
              rw [app_some (by simp; omega)]
              simp only [Option.bind_some]
              rw [w1])
        · exact plain (by
            simp only [keys_Read_l1, letB]
            rw [decide_eq_true (by omega), hx, w1]
            simp only [cond_true, Option.bind_some]
            rw [decide_eq_true h27, decide_eq_false (by omega)]
            simp only [cond_true, cond_false, Option.bind_some, one_is]
            rw [app_some (by simp; omega)]
            simp only [Option.bind_some]
            rw [w1])
      · exact plain (by
          simp only [keys_Read_l1, letB]
          rw [decide_eq_true (by omega), hx]
          simp only [cond_true, Option.bind_some]
          rw [decide_eq_false h27]
          simp only [cond_true, cond_false, Option.bind_some, one_is]
          rw [app_some (by simp; omega)]
          simp only [Option.bind_some]
          rw [w1])
theorem read_is {b : List Int} (hb : Byts b) (hl : b.length ≤ most) : ∃ ks, keys_Read b = some ks ∧ casementref18_Read b = some ks ∧ ks.length ≤ most := by
  obtain ⟨rs, hr⟩ := rn_ex b.length b (Nat.le_refl _)
  have hlen := hr.len
  obtain ⟨ks, h1, h2⟩ := read_loop rs (by omega) rs.length 0 [] (by omega) (Nat.le_refl _)
  have h1 : iter (fun s => keys_Read_l1 rs s.1 s.2 : (List Key × Int) → Option ((List Key × Int) ⊕ List Key)) ([], 0) = some ks := h1
  refine ⟨ks, ?_, ?_, by omega⟩
  · unfold keys_Read
    rw [glyph_is hb hl hr]
    simp only [Option.bind_some]
    rw [h1]; rfl
  · unfold casementref18_Read
    rw [runes_is hb hl hr]
    simp only [Option.bind_some, step_is]
    rw [h1]; rfl
theorem begins_loop (a : List Key) (hl : a.length ≤ most) : ∀ (k i : Nat), i + k = a.length →
    iter (fun s => casementref18_Begins_l1 a a s : Int → Option (Int ⊕ (Unit ⊕ Unit))) (i : Int) = some (.inr ())
  | 0, i, hi => iter_inr (by
      simp only [casementref18_Begins_l1, letB]
      rw [decide_eq_false (by omega)]; rfl)
  | k + 1, i, hi => by
    have hm := most_is
    rw [iter_inl (s' := ((i + 1 : Nat) : Int)) (by
      simp only [casementref18_Begins_l1, letB]
      rw [decide_eq_true (by omega), idx_is (d := ⟨0, 0⟩) (by omega) (by omega)]
      simp only [cond_true, Option.bind_some, decide_true, Bool.and_true, Bool.not_true, cond_false]
      rw [w64_id (by omega) (by omega)]; rfl)]
    exact begins_loop a hl k (i + 1) (by omega)
theorem same_is {a : List Key} (hl : a.length ≤ most) : casementref18_Same a a = some true := by
  unfold casementref18_Same casementref18_Begins
  have h : iter (fun s => casementref18_Begins_l1 a a s : Int → Option (Int ⊕ (Unit ⊕ Unit))) 0 = some (.inr ()) := begins_loop a hl a.length 0 (by omega)
  rw [h]
  simp only [letB, decide_true, cond_true]
  rw [decide_eq_false (by omega)]; rfl
theorem bytes_loop (a : List Int) (hl : a.length ≤ most) : ∀ (k i : Nat), i + k = a.length →
    iter (fun s => casementref01_SameBytes_l1 a a s : Int → Option (Int ⊕ (Unit ⊕ Unit))) (i : Int) = some (.inr ())
  | 0, i, hi => iter_inr (by
      simp only [casementref01_SameBytes_l1, letB]
      rw [decide_eq_false (by omega)]; rfl)
  | k + 1, i, hi => by
    have hm := most_is
    rw [iter_inl (s' := ((i + 1 : Nat) : Int)) (by
      simp only [casementref01_SameBytes_l1, letB]
      rw [decide_eq_true (by omega), idx_is (d := 0) (by omega) (by omega)]
      simp only [cond_true, Option.bind_some]
      rw [decide_eq_false (fun h => h rfl), w64_id (by omega) (by omega)]; rfl)]
    exact bytes_loop a hl k (i + 1) (by omega)
theorem bytes_same {a : List Int} (hl : a.length ≤ most) : casementref01_SameBytes a a = some true := by
  unfold casementref01_SameBytes
  have h : iter (fun s => casementref01_SameBytes_l1 a a s : Int → Option (Int ⊕ (Unit ⊕ Unit))) 0 = some (.inr ()) := bytes_loop a hl a.length 0 (by omega)
  rw [h]
  simp only [letB]
  rw [decide_eq_false (fun h => h rfl)]; rfl
end Go.Proofs.YtdlijnfdkeimlaaDoor.Am.Keys

set_option linter.all false
namespace Go.Proofs.YtdlijnfdkeimlaaDoor.Am.Keys
open Go.Proofs.YtdlijnfdkeimlaaDoor.Am.T
theorem or_s {c d : Bool} : (bif c then some true else some d) = some (c || d) := by cases c <;> rfl
theorem and_s {c d : Bool} : (bif c then some d else some false) = some (c && d) := by cases c <;> rfl
theorem w32_id {n : Int} (h1 : -2147483648 ≤ n) (h2 : n ≤ 2147483647) : w32 n = n := by
  simp only [IntKind.wrap_i32]; omega
def isR (r : Int) : Prop := (0 ≤ r ∧ r < 55296) ∨ (57343 < r ∧ r ≤ 1114111)
instance (r : Int) : Decidable (isR r) := inferInstanceAs (Decidable (_ ∨ _))
def plainT (r : Int) : Prop := (32 ≤ r ∧ r ≤ 127) ∨ r = 9 ∨ r = 13 ∨ r = 27 ∨ (128 ≤ r ∧ isR r)
instance (r : Int) : Decidable (plainT r) := inferInstanceAs (Decidable (_ ∨ _))
theorem valid_is (r : Int) : unicode_utf8_ValidRune r = some (decide (isR r)) := by
  unfold unicode_utf8_ValidRune
  simp only [letB, or_s, and_s, Option.bind_some]
  congr 1
  rw [Bool.eq_iff_iff]
  simp only [Bool.or_eq_true, Bool.and_eq_true, decide_eq_true_eq, and_true]
  exact Iff.rfl
theorem plain_is (r : Int) : keys_plain r = some (decide (plainT r)) := by
  unfold keys_plain
  simp only [letB, or_s, and_s, Option.bind_some, valid_is]
  congr 1
  rw [Bool.eq_iff_iff]
  simp only [Bool.or_eq_true, Bool.and_eq_true, decide_eq_true_eq]
  unfold plainT isR
  omega
theorem rune_is (r : Int) : casementref01_IsRune r = some (decide (isR r)) := by
  unfold casementref01_IsRune
  simp only [letB, or_s, and_s, Option.bind_some]
  congr 1
  rw [Bool.eq_iff_iff]
  simp only [Bool.or_eq_true, Bool.and_eq_true, decide_eq_true_eq]
  unfold isR
  omega
def ctlT (r : Int) : Int := if r = 32 then 0 else if 97 ≤ r ∧ r ≤ 122 ∧ r ≠ 105 ∧ r ≠ 109 then r - 96 else if 92 ≤ r ∧ r ≤ 95 then r - 64 else -1
theorem ctl_is (r : Int) : keys_control r = some (ctlT r) := by
  unfold keys_control ctlT
  simp only [letB, or_s, and_s, Option.bind_some]
  by_cases h1 : r = 105 ∨ r = 109
  · have : (decide (r = 105) || decide (r = 109)) = true := by simp only [Bool.or_eq_true, decide_eq_true_eq]; exact h1
    rw [this, if_neg (by omega), if_neg (by omega), if_neg (by omega)]; rfl
  · have : (decide (r = 105) || decide (r = 109)) = false := by rw [Bool.eq_false_iff]; simp only [ne_eq, Bool.or_eq_true, decide_eq_true_eq]; exact h1
    rw [this]
    simp only [cond_false]
    by_cases h2 : 97 ≤ r ∧ r ≤ 122
    · have : (decide (r ≥ 97) && decide (r ≤ 122)) = true := by simp only [Bool.and_eq_true, decide_eq_true_eq]; omega
      rw [this, if_neg (by omega), if_pos (by omega), w32_id (by omega) (by omega), w64_id (n := r - 97) (by omega) (by omega), w64_id (by omega) (by omega)]
      show some _ = some _
      congr 1; omega
    · have : (decide (r ≥ 97) && decide (r ≤ 122)) = false := by rw [Bool.eq_false_iff]; simp only [ne_eq, Bool.and_eq_true, decide_eq_true_eq]; omega
      rw [this]
      simp only [cond_false]
      by_cases h3 : r = 32
      · rw [decide_eq_true h3, if_pos h3]; rfl
      · rw [decide_eq_false h3, if_neg h3, if_neg (by omega)]
        simp only [cond_false]
        by_cases h4 : 92 ≤ r ∧ r ≤ 95
        · have : (decide (r ≥ 92) && decide (r ≤ 95)) = true := by simp only [Bool.and_eq_true, decide_eq_true_eq]; omega
          rw [this, if_pos h4, w32_id (by omega) (by omega), w64_id (n := r - 92) (by omega) (by omega), w64_id (by omega) (by omega)]
          show some _ = some _
          congr 1; omega
        · have : (decide (r ≥ 92) && decide (r ≤ 95)) = false := by rw [Bool.eq_false_iff]; simp only [ne_eq, Bool.and_eq_true, decide_eq_true_eq]; omega
          rw [this, if_neg h4]; rfl
theorem signs_step (r : Int) (i : Nat) (h : i < 4) : casementref18_control_l1 r (i : Int) = if r = 92 + (i : Int) then some (.inr (.inl (28 + (i : Int)))) else some (.inl ((i + 1 : Nat) : Int)) := by
  have hx : idx [92, 93, 94, 95] (i : Int) = some (92 + (i : Int)) := by
    have : i = 0 ∨ i = 1 ∨ i = 2 ∨ i = 3 := by omega
    rcases this with rfl | rfl | rfl | rfl <;> rfl
  simp only [casementref18_control_l1, letB]
  rw [decide_eq_true (by omega), hx, w64_id (by omega) (by omega), w64_id (by omega) (by omega)]
  simp only [cond_true, Option.bind_some]
  by_cases hr : r = 92 + (i : Int)
  · rw [decide_eq_true hr, if_pos hr]; rfl
  · rw [decide_eq_false hr, if_neg hr]; rfl
theorem signs_loop (r : Int) : ∀ (k i : Nat), i + k = 4 → (r < 92 ∨ 92 + (i : Int) ≤ r) →
    iter (fun s => casementref18_control_l1 r s : Int → Option (Int ⊕ (Int ⊕ Unit))) (i : Int) = some (if 92 ≤ r ∧ r ≤ 95 then .inl (r - 64) else .inr ())
  | 0, i, hi, hr => iter_inr (by
      simp only [casementref18_control_l1, letB]
      rw [decide_eq_false (by omega), if_neg (by omega)]; rfl)
  | k + 1, i, hi, hr => by
    by_cases h : r = 92 + (i : Int)
    · refine iter_inr ?_
      rw [signs_step r i (by omega), if_pos h, if_pos (by omega)]
      congr 3; omega
    · rw [iter_inl (s' := ((i + 1 : Nat) : Int)) (by rw [signs_step r i (by omega), if_neg h])]
      exact signs_loop r k (i + 1) (by omega) (by omega)
theorem ctl_ref (r : Int) : casementref18_control r = some (ctlT r) := by
  unfold casementref18_control ctlT
  simp only [letB, or_s, and_s, Option.bind_some]
  have hs : iter (fun s => casementref18_control_l1 r s : Int → Option (Int ⊕ (Int ⊕ Unit))) 0 = some (if 92 ≤ r ∧ r ≤ 95 then .inl (r - 64) else .inr ()) := signs_loop r 4 0 rfl (by omega)
  by_cases h3 : r = 32
  · rw [decide_eq_true h3, if_pos h3]; rfl
  · rw [decide_eq_false h3, if_neg h3]
    simp only [cond_false]
    by_cases h2 : 97 ≤ r ∧ r ≤ 122 ∧ r ≠ 105 ∧ r ≠ 109
    · have : (((decide (r ≥ 97) && decide (r ≤ 122)) && decide (r ≠ 105)) && decide (r ≠ 109)) = true := by simp only [Bool.and_eq_true, decide_eq_true_eq]; omega
      rw [this, if_pos h2, w32_id (by omega) (by omega), w64_id (n := r - 97) (by omega) (by omega), w64_id (by omega) (by omega)]
      show some _ = some _
      congr 1; omega
    · have : (((decide (r ≥ 97) && decide (r ≤ 122)) && decide (r ≠ 105)) && decide (r ≠ 109)) = false := by rw [Bool.eq_false_iff]; simp only [ne_eq, Bool.and_eq_true, decide_eq_true_eq]; omega
      rw [this, if_neg h2, hs]
      simp only [cond_false, Option.bind_some]
      by_cases h4 : 92 ≤ r ∧ r ≤ 95
      · rw [if_pos h4, if_pos h4]
      · rw [if_neg h4, if_neg h4]
def rightT (k : Key) : Prop := ((k.Mods = 0 ∨ k.Mods = 2) ∧ plainT k.Rune) ∨ ((k.Mods = 1 ∨ k.Mods = 3) ∧ 0 ≤ ctlT k.Rune)
instance (k : Key) : Decidable (rightT k) := inferInstanceAs (Decidable (_ ∨ _))
theorem right_is (k : Key) : keys_Right k = some (decide (rightT k)) := by
  unfold keys_Right
  simp only [letB, plain_is, ctl_is, Option.bind_some]
  have key : ∀ {a b : Bool}, (a = true ↔ b = true) → some a = some b := fun h => congrArg some (Bool.eq_iff_iff.2 h)
  by_cases h0 : k.Mods = 0
  · rw [decide_eq_true h0]
    exact key (by simp only [decide_eq_true_eq]; exact ⟨fun h => .inl ⟨.inl h0, h⟩, fun h => h.elim (fun x => x.2) fun x => absurd x.1 (by omega)⟩)
  · rw [decide_eq_false h0]
    by_cases h2 : k.Mods = 2
    · rw [decide_eq_true h2]
      exact key (by simp only [decide_eq_true_eq]; exact ⟨fun h => .inl ⟨.inr h2, h⟩, fun h => h.elim (fun x => x.2) fun x => absurd x.1 (by omega)⟩)
    · rw [decide_eq_false h2]
      by_cases h1 : k.Mods = 1
      · rw [decide_eq_true h1]
        exact key (by simp only [decide_eq_true_eq]; unfold rightT; omega)
      · rw [decide_eq_false h1]
        by_cases h3 : k.Mods = 3
        · rw [decide_eq_true h3]
          exact key (by simp only [decide_eq_true_eq]; unfold rightT; omega)
        · rw [decide_eq_false h3]
          exact key (by simp only [decide_eq_true_eq]; unfold rightT; simp only [Bool.false_eq_true, false_iff]; omega)
theorem right_ref (k : Key) : casementref18_Right k = some (decide (rightT k)) := by
  unfold casementref18_Right
  simp only [letB, or_s, and_s, Option.bind_some, ctl_ref, rune_is]
  have key : ∀ {a b : Bool}, (a = true ↔ b = true) → some a = some b := fun h => congrArg some (Bool.eq_iff_iff.2 h)
  by_cases h1 : k.Mods = 1 ∨ k.Mods = 3
  · have : (decide (k.Mods = 1) || decide (k.Mods = 3)) = true := by simp only [Bool.or_eq_true, decide_eq_true_eq]; exact h1
    rw [this]
    exact key (by simp only [decide_eq_true_eq]; unfold rightT; omega)
  · have : (decide (k.Mods = 1) || decide (k.Mods = 3)) = false := by rw [Bool.eq_false_iff]; simp only [ne_eq, Bool.or_eq_true, decide_eq_true_eq]; exact h1
    rw [this]
    simp only [cond_false]
    by_cases h2 : k.Mods = 0 ∨ k.Mods = 2
    · have : (decide (k.Mods ≠ 0) && decide (k.Mods ≠ 2)) = false := by rw [Bool.eq_false_iff]; simp only [ne_eq, Bool.and_eq_true, decide_eq_true_eq]; omega
      rw [this]
      exact key (by simp only [cond_false, Bool.or_eq_true, Bool.and_eq_true, decide_eq_true_eq]; unfold rightT plainT isR; omega)
    · have : (decide (k.Mods ≠ 0) && decide (k.Mods ≠ 2)) = true := by simp only [Bool.and_eq_true, decide_eq_true_eq]; omega
      rw [this]
      exact key (by simp only [decide_eq_true_eq]; unfold rightT; simp only [Bool.false_eq_true, false_iff]; omega)
end Go.Proofs.YtdlijnfdkeimlaaDoor.Am.Keys

set_option linter.all false
namespace Go.Proofs.YtdlijnfdkeimlaaDoor.Am.Keys
open Go.Proofs.YtdlijnfdkeimlaaDoor.Am.T
def encI (r : Int) : List Int := if r < 128 then [r] else if r < 2048 then [192 + r / 64, 128 + r % 64] else if r < 65536 then [224 + r / 4096, 128 + r / 64 % 64, 128 + r % 64] else [240 + r / 262144, 128 + r / 4096 % 64, 128 + r / 64 % 64, 128 + r % 64]
theorem isR_range {r : Int} (h : isR r) : 0 ≤ r ∧ r ≤ 1114111 := by unfold isR at h; omega
theorem byteI_of {n : Nat} (h : n < 256) : byteI (UInt8.ofNat n) = (n : Int) := by
  unfold byteI
  rw [UInt8.toNat_ofNat', Nat.mod_eq_of_lt (by simpa using h)]
theorem runeT_is {r : Int} (h : isR r) : runeT r = encI r := by
  obtain ⟨h0, h1⟩ := isR_range h
  obtain ⟨n, rfl⟩ := Int.eq_ofNat_of_zero_le h0
  have v : Utf8.valid (n : Int) = true := by unfold isR at h; simp [Utf8.valid]; omega
  unfold runeT encI Utf8.encode
  simp only [v, if_true, Int.toNat_natCast]
  by_cases c1 : n < 128
  · have c1' : (n : Int) < 128 := by omega
    simp only [if_pos c1, if_pos c1', List.map_cons, List.map_nil]
    rw [byteI_of (by omega)]
  · have c1' : ¬ (n : Int) < 128 := by omega
    simp only [if_neg c1, if_neg c1']
    by_cases c2 : n < 2048
    · have c2' : (n : Int) < 2048 := by omega
      simp only [if_pos c2, if_pos c2', List.map_cons, List.map_nil]
      rw [byteI_of (by omega), byteI_of (by omega)]
      simp
    · have c2' : ¬ (n : Int) < 2048 := by omega
      simp only [if_neg c2, if_neg c2']
      by_cases c3 : n < 65536
      · have c3' : (n : Int) < 65536 := by omega
        simp only [if_pos c3, if_pos c3', List.map_cons, List.map_nil]
        rw [byteI_of (by omega), byteI_of (by omega), byteI_of (by omega)]
        simp
      · have c3' : ¬ (n : Int) < 65536 := by omega
        simp only [if_neg c3, if_neg c3', List.map_cons, List.map_nil]
        rw [byteI_of (by omega), byteI_of (by omega), byteI_of (by omega), byteI_of (by omega)]
        simp
theorem or128 : ∀ x : Nat, x < 64 → iOr .u8 128 (x : Int) = 128 + x := by decide +kernel
theorem or192 : ∀ x : Nat, x < 32 → iOr .u8 192 (x : Int) = 192 + x := by decide +kernel
theorem or224 : ∀ x : Nat, x < 16 → iOr .u8 224 (x : Int) = 224 + x := by decide +kernel
theorem or240 : ∀ x : Nat, x < 8 → iOr .u8 240 (x : Int) = 240 + x := by decide +kernel
theorem or128I {x : Int} (h0 : 0 ≤ x) (h : x < 64) : iOr .u8 128 x = 128 + x := by
  obtain ⟨n, rfl⟩ := Int.eq_ofNat_of_zero_le h0; exact or128 n (by omega)
theorem or192I {x : Int} (h0 : 0 ≤ x) (h : x < 32) : iOr .u8 192 x = 192 + x := by
  obtain ⟨n, rfl⟩ := Int.eq_ofNat_of_zero_le h0; exact or192 n (by omega)
theorem or224I {x : Int} (h0 : 0 ≤ x) (h : x < 16) : iOr .u8 224 x = 224 + x := by
  obtain ⟨n, rfl⟩ := Int.eq_ofNat_of_zero_le h0; exact or224 n (by omega)
theorem or240I {x : Int} (h0 : 0 ≤ x) (h : x < 8) : iOr .u8 240 x = 240 + x := by
  obtain ⟨n, rfl⟩ := Int.eq_ofNat_of_zero_le h0; exact or240 n (by omega)
theorem w8_id {n : Int} (h0 : 0 ≤ n) (h : n < 256) : w8 n = n := by
  simp only [IntKind.wrap_u8]; omega
theorem and63_8 (x : Int) : iAnd .u8 (w8 x) 63 = x % 64 := by
  have h : ((BitVec.ofInt 8 (w8 x) &&& BitVec.ofInt 8 63).toNat : Int) = x % 64 := by
    have e : (BitVec.ofInt 8 63).toNat = 2 ^ 6 - 1 := rfl
    rw [BitVec.toNat_and, e, Nat.and_two_pow_sub_one_eq_mod, BitVec.toNat_ofInt]
    simp only [IntKind.wrap_u8]
    omega
  show IntKind.wrap .u8 ((BitVec.ofInt 8 (w8 x) &&& BitVec.ofInt 8 63).toNat : Int) = _
  rw [h]
  exact w8_id (by omega) (by omega)
theorem and63_32 (x : Int) : iAnd .i32 x 63 = x % 64 := by
  have h : ((BitVec.ofInt 32 x &&& BitVec.ofInt 32 63).toNat : Int) = x % 64 := by
    have e : (BitVec.ofInt 32 63).toNat = 2 ^ 6 - 1 := rfl
    rw [BitVec.toNat_and, e, Nat.and_two_pow_sub_one_eq_mod, BitVec.toNat_ofInt]
    omega
  show IntKind.wrap .i32 ((BitVec.ofInt 32 x &&& BitVec.ofInt 32 63).toNat : Int) = _
  rw [h]
  exact w32_id (by omega) (by omega)
theorem shr6 {r : Int} (h : 0 ≤ r) : iShr .i32 r 6 = r / 64 := Int.fdiv_eq_ediv_of_nonneg _ (by decide)
theorem shr12 {r : Int} (h : 0 ≤ r) : iShr .i32 r 12 = r / 4096 := Int.fdiv_eq_ediv_of_nonneg _ (by decide)
theorem shr18 {r : Int} (h : 0 ≤ r) : iShr .i32 r 18 = r / 262144 := Int.fdiv_eq_ediv_of_nonneg _ (by decide)
theorem wu32_id {n : Int} (h0 : 0 ≤ n) (h : n < 4294967296) : wu32 n = n := by
  simp only [IntKind.wrap_u32]; omega
theorem app_nil {l : List Int} (h : l.length ≤ most) : app [] l = some l := by
  rw [app_some (by simpa using h)]; rfl
theorem add_rune {r : Int} (h : isR r) : unicode_utf8_AppendRune [] r = some (encI r) := by
  obtain ⟨h0, h1⟩ := isR_range h
  have hm := most_is
  unfold unicode_utf8_AppendRune unicode_utf8_appendRuneNonASCII encI
  simp only [letB, or_s, and_s, Option.bind_some, wu32_id h0 (by omega), shr6 h0, shr12 h0, shr18 h0, and63_8]
  by_cases c1 : r ≤ 127
  · rw [decide_eq_true c1, if_pos (by omega), w8_id h0 (by omega)]
    simp only [cond_true]
    rw [app_nil (by simp; omega)]; rfl
  · rw [decide_eq_false c1, if_neg (by omega)]
    simp only [cond_false]
    by_cases c2 : r ≤ 2047
    · rw [decide_eq_true c2, if_pos (by omega)]
      simp only [cond_true]
      rw [w8_id (by omega) (by omega), or192I (by omega) (by omega), or128I (by omega) (by omega), app_nil (by simp; omega)]; rfl
    · rw [decide_eq_false c2, if_neg (by omega)]
      simp only [cond_false]
      by_cases c3 : r < 65536
      · rw [if_pos c3]
        have hc : ((bif decide (r < 55296) then some (decide (r < 55296)) else some (decide (57343 < r) && decide (r ≤ 65535)) : Option Bool)) = some true := by
          by_cases c4 : r < 55296
          · rw [decide_eq_true c4]; rfl
          · unfold isR at h
            rw [decide_eq_false c4, decide_eq_true (show 57343 < r by omega), decide_eq_true (show r ≤ 65535 by omega)]; rfl
        rw [hc]
        simp only [Option.bind_some, cond_true]
        rw [w8_id (by omega) (by omega), or224I (by omega) (by omega), or128I (by omega) (by omega), or128I (by omega) (by omega), app_nil (by simp; omega)]; rfl
      · rw [if_neg c3]
        rw [decide_eq_false (show ¬ r < 55296 by omega), decide_eq_false (show ¬ r ≤ 65535 by omega), decide_eq_true (show r > 65535 by omega), decide_eq_true h1]
        simp only [Bool.and_false, cond_false, Option.bind_some, Bool.and_true, cond_true]
        rw [w8_id (by omega) (by omega), or240I (by omega) (by omega), or128I (by omega) (by omega), or128I (by omega) (by omega), or128I (by omega) (by omega), app_nil (by simp; omega)]; rfl
theorem glyph_bytes {r : Int} (h : isR r) : glyph_Bytes [r] = some (encI r) := by
  have hm := most_is
  unfold glyph_Bytes
  have : iter (fun s => glyph_Bytes_l1 [r] s.1 s.2 : (List Int × Int) → Option ((List Int × Int) ⊕ List Int)) ([], 0) = some (encI r) := by
    rw [iter_inl (s' := (encI r, 1)) (by
      simp only [glyph_Bytes_l1, letB]
      have hx : idx [r] 0 = some r := rfl
      rw [hx, decide_eq_true (show (0 : Int) < (([r] : List Int).length : Int) by simp)]
      simp only [cond_true, Option.bind_some, add_rune h]; rfl)]
    exact iter_inr (by simp only [glyph_Bytes_l1, letB]; rfl)
  rw [this]; rfl
theorem ref_bytes {r : Int} (h : isR r) : casementref01_Bytes [r] = some (encI r) := by
  obtain ⟨h0, h1⟩ := isR_range h
  have hm := most_is
  unfold casementref01_Bytes
  have : iter (fun s => casementref01_Bytes_l1 [r] s.1 s.2 : (List Int × Int) → Option ((List Int × Int) ⊕ List Int)) ([], 0) = some (encI r) := by
    rw [iter_inl (s' := (encI r, 1)) (by
      simp only [casementref01_Bytes_l1, letB]
      have hx : idx [r] 0 = some r := rfl
      rw [hx, decide_eq_true (show (0 : Int) < (([r] : List Int).length : Int) by simp)]
      simp only [cond_true, Option.bind_some, rune_is, decide_eq_true h, Bool.not_true, cond_false, shr6 h0, shr12 h0, shr18 h0, and63_32]
      unfold encI
      by_cases c1 : r < 128
      · rw [decide_eq_true c1, if_pos c1, w8_id h0 (by omega)]
        simp only [cond_true]
        rw [app_nil (by simp; omega)]; rfl
      · rw [decide_eq_false c1, if_neg c1]
        simp only [cond_false]
        by_cases c2 : r < 2048
        · rw [decide_eq_true c2, if_pos c2]
          simp only [cond_true]
          rw [w8_id (n := r / 64) (by omega) (by omega), w8_id (by omega) (by omega), or192I (by omega) (by omega), or128I (by omega) (by omega), app_nil (by simp; omega)]; rfl
        · rw [decide_eq_false c2, if_neg c2]
          simp only [cond_false]
          by_cases c3 : r < 65536
          · rw [decide_eq_true c3, if_pos c3]
            simp only [cond_true]
            rw [w8_id (n := r / 4096) (by omega) (by omega), w8_id (n := r / 64 % 64) (by omega) (by omega), w8_id (n := r % 64) (by omega) (by omega), or224I (by omega) (by omega), or128I (by omega) (by omega), or128I (by omega) (by omega), app_nil (by simp; omega)]; rfl
          · rw [decide_eq_false c3, if_neg c3]
            simp only [cond_false]
            rw [w8_id (n := r / 262144) (by omega) (by omega), w8_id (n := r / 4096 % 64) (by omega) (by omega), w8_id (n := r / 64 % 64) (by omega) (by omega), w8_id (n := r % 64) (by omega) (by omega), or240I (by omega) (by omega), or128I (by omega) (by omega), or128I (by omega) (by omega), or128I (by omega) (by omega), app_nil (by simp; omega)]; rfl)]
    exact iter_inr (by simp only [casementref01_Bytes_l1, letB]; rfl)
  rw [this]; rfl
theorem encI_byts {r : Int} (h : isR r) : Byts (encI r) ∧ (encI r).length ≤ 4 := by
  obtain ⟨h0, h1⟩ := isR_range h
  unfold encI
  (repeat' split) <;> refine ⟨fun x hx => ?_, by simp⟩ <;> simp only [List.mem_cons, List.not_mem_nil, or_false] at hx <;> omega
end Go.Proofs.YtdlijnfdkeimlaaDoor.Am.Keys

set_option linter.all false
namespace Go.Proofs.YtdlijnfdkeimlaaDoor.Am.Keys
open Go.Proofs.YtdlijnfdkeimlaaDoor.Am.T
theorem plain_rune {r : Int} (h : plainT r) : isR r := by unfold plainT isR at *; omega
theorem ctl_rune {r : Int} (h : 0 ≤ ctlT r) : isR r := by
  unfold ctlT at h; unfold isR
  (repeat' split at h) <;> omega
theorem right_rune {k : Key} (h : rightT k) : isR k.Rune := by
  rcases h with h | h
  · exact plain_rune h.2
  · exact ctl_rune h.2
theorem right_mods {k : Key} (h : rightT k) : k.Mods = 0 ∨ k.Mods = 1 ∨ k.Mods = 2 ∨ k.Mods = 3 := by unfold rightT at h; omega
theorem copy_loop (y : List Int) (hl : y.length + 8 ≤ most) : ∀ (k i : Nat) (out : List Int), i + k = y.length → out.length ≤ i + 8 →
    iter (fun s => casementref18_Bytes_l1 y s.1 s.2 : (List Int × Int) → Option ((List Int × Int) ⊕ List Int)) (out, (i : Int)) = some (out ++ y.drop i)
  | 0, i, out, hi, ho => by
    rw [List.drop_eq_nil_of_le (by omega), List.append_nil]
    exact iter_inr (by
      simp only [casementref18_Bytes_l1, letB]
      rw [decide_eq_false (by omega)]; rfl)
  | k + 1, i, out, hi, ho => by
    have hm := most_is
    rw [iter_inl (s' := (out ++ [y.getD i 0], ((i + 1 : Nat) : Int))) (by
      simp only [casementref18_Bytes_l1, letB]
      rw [decide_eq_true (by omega), idx_is (d := 0) (by omega) (by omega), Int.toNat_natCast]
      simp only [cond_true, Option.bind_some]
      rw [app_some (by simp; omega)]
      simp only [Option.bind_some]
      rw [w64_id (by omega) (by omega)]; rfl), copy_loop y hl k (i + 1) _ (by omega) (by simp; omega)]
    rw [List.append_assoc]
    congr 2
    rw [List.drop_eq_getElem_cons (by omega : i < y.length), List.getD_eq_getElem?_getD, List.getElem?_eq_getElem (by omega)]; rfl
theorem copy_is {y out : List Int} (hl : y.length + 8 ≤ most) (ho : out.length ≤ 8) :
    iter (fun s => casementref18_Bytes_l1 y s.1 s.2 : (List Int × Int) → Option ((List Int × Int) ⊕ List Int)) (out, 0) = some (out ++ y) := copy_loop y hl y.length 0 out (by omega) (by omega)
theorem m02 : decide (iAnd .i64 0 2 ≠ 0) = false := by decide +kernel
theorem m01 : decide (iAnd .i64 0 1 ≠ 0) = false := by decide +kernel
theorem m12 : decide (iAnd .i64 1 2 ≠ 0) = false := by decide +kernel
theorem m11 : decide (iAnd .i64 1 1 ≠ 0) = true := by decide +kernel
theorem m22 : decide (iAnd .i64 2 2 ≠ 0) = true := by decide +kernel
theorem m21 : decide (iAnd .i64 2 1 ≠ 0) = false := by decide +kernel
theorem m32 : decide (iAnd .i64 3 2 ≠ 0) = true := by decide +kernel
theorem m31 : decide (iAnd .i64 3 1 ≠ 0) = true := by decide +kernel
def bytesT (k : Key) : List Int := (if k.Mods = 2 ∨ k.Mods = 3 then [27] else []) ++ (if k.Mods = 1 ∨ k.Mods = 3 then [w8 (ctlT k.Rune)] else encI k.Rune)
theorem bytes_is (k : Key) : keys_Bytes k = some (if rightT k then bytesT k else []) := by
  have hm := most_is
  unfold keys_Bytes
  rw [right_is]
  simp only [Option.bind_some]
  by_cases h : rightT k
  · have hR := right_rune h
    have hb := (encI_byts hR).2
    rw [decide_eq_true h, if_pos h]
    have hM := right_mods h
    obtain ⟨r, m⟩ := k
    simp only at hM hR hb
    simp only [Bool.not_true, cond_false, letB, ctl_is, Option.bind_some, glyph_bytes hR]
    unfold bytesT
    simp only
    rcases hM with rfl | rfl | rfl | rfl
    · rw [m02, m01]
      show (app [] (encI r)).bind _ = _
      rw [app_some (by simp; omega)]; rfl
    · rw [m12, m11]
      show (app [] [w8 (ctlT r)]).bind _ = _
      rw [app_some (by simp; omega)]; rfl
    · rw [m22, m21]
      show ((app [] [27]).bind fun x5 => some x5).bind _ = _
      rw [app_some (by simp; omega)]
      simp only [Option.bind_some]
      show (app ([] ++ [27]) (encI r)).bind _ = _
      rw [app_some (by simp; omega)]; rfl
    · rw [m32, m31]
      show ((app [] [27]).bind fun x5 => some x5).bind _ = _
      rw [app_some (by simp; omega)]
      simp only [Option.bind_some]
      show (app ([] ++ [27]) [w8 (ctlT r)]).bind _ = _
      rw [app_some (by simp; omega)]; rfl
  · rw [decide_eq_false h, if_neg h]; rfl
theorem bytes_ref (k : Key) : casementref18_Bytes k = some (if rightT k then bytesT k else []) := by
  have hm := most_is
  unfold casementref18_Bytes
  rw [right_ref]
  simp only [Option.bind_some]
  by_cases h : rightT k
  · have hR := right_rune h
    have hb := (encI_byts hR).2
    rw [decide_eq_true h, if_pos h]
    have hM := right_mods h
    obtain ⟨r, m⟩ := k
    simp only at hM hR hb
    simp only [Bool.not_true, cond_false, letB, or_s, ctl_ref, Option.bind_some, ref_bytes hR]
    unfold bytesT
    simp only
    rcases hM with rfl | rfl | rfl | rfl
    · show (iter (fun s => casementref18_Bytes_l1 (encI r) s.1 s.2 : (List Int × Int) → Option ((List Int × Int) ⊕ List Int)) ([], 0)).bind _ = _
      rw [copy_is (by omega) (by simp)]; rfl
    · show (app [] [w8 (ctlT r)]).bind _ = _
      rw [app_some (by simp; omega)]; rfl
    · show ((app [] [27]).bind fun x5 => some x5).bind _ = _
      rw [app_some (by simp; omega)]
      simp only [Option.bind_some]
      show (iter (fun s => casementref18_Bytes_l1 (encI r) s.1 s.2 : (List Int × Int) → Option ((List Int × Int) ⊕ List Int)) ([] ++ [27], 0)).bind _ = _
      rw [copy_is (by omega) (by simp)]; rfl
    · show ((app [] [27]).bind fun x5 => some x5).bind _ = _
      rw [app_some (by simp; omega)]
      simp only [Option.bind_some]
      show (app ([] ++ [27]) [w8 (ctlT r)]).bind _ = _
      rw [app_some (by simp; omega)]; rfl
  · rw [decide_eq_false h, if_neg h]; rfl
def calledT (r : Int) : List Int := if r = 9 then [84, 97, 98] else if r = 13 then [69, 110, 116, 101, 114] else if r = 27 then [69, 115, 99] else if r = 127 then [66, 97, 99, 107] else if r = 32 then [83, 112, 97, 99, 101] else encI r
theorem called_is {r : Int} (h : isR r) : keys_called r = some (calledT r) := by
  unfold keys_called calledT
  simp only [letB, runeT_is h]
  by_cases h1 : r = 9
  · rw [decide_eq_true h1, if_pos h1]; rfl
  · rw [decide_eq_false h1, if_neg h1]
    by_cases h2 : r = 13
    · rw [decide_eq_true h2, if_pos h2]; rfl
    · rw [decide_eq_false h2, if_neg h2]
      by_cases h3 : r = 27
      · rw [decide_eq_true h3, if_pos h3]; rfl
      · rw [decide_eq_false h3, if_neg h3]
        by_cases h4 : r = 127
        · rw [decide_eq_true h4, if_pos h4]; rfl
        · rw [decide_eq_false h4, if_neg h4]
          by_cases h5 : r = 32
          · rw [decide_eq_true h5, if_pos h5]; rfl
          · rw [decide_eq_false h5, if_neg h5]; rfl
theorem called_len {r : Int} (h : isR r) : (calledT r).length ≤ 5 := by
  have := (encI_byts h).2
  unfold calledT
  (repeat' split) <;> first | (simp; done) | omega
theorem sadd_some {a b : List Int} (h : a.length + b.length ≤ 100) : sadd a b = some (a ++ b) := by unfold sadd; rw [if_pos (by omega)]
def preT (m : Int) : List Int := (if m = 1 ∨ m = 3 then [67, 116, 114, 108, 45] else []) ++ (if m = 2 ∨ m = 3 then [65, 108, 116, 45] else [])
theorem pre_len (m : Int) : (preT m).length ≤ 9 := by unfold preT; (repeat' split) <;> simp
theorem name_is (k : Key) : keys_Name k = some (if rightT k then preT k.Mods ++ calledT k.Rune else []) := by
  unfold keys_Name
  rw [right_is]
  simp only [Option.bind_some]
  by_cases h : rightT k
  · have hR := right_rune h
    have hb := called_len hR
    rw [decide_eq_true h, if_pos h]
    have hM := right_mods h
    obtain ⟨r, m⟩ := k
    simp only at hM hR hb
    simp only [Bool.not_true, cond_false, letB, called_is hR, Option.bind_some]
    rcases hM with rfl | rfl | rfl | rfl
    · rw [m01, m02]
      show (sadd [] (calledT r)).bind _ = _
      rw [sadd_some (by simp; omega)]; rfl
    · rw [m11, m12]
      show (sadd [67, 116, 114, 108, 45] (calledT r)).bind _ = _
      rw [sadd_some (by simp; omega)]; rfl
    · rw [m21, m22]
      show (sadd [65, 108, 116, 45] (calledT r)).bind _ = _
      rw [sadd_some (by simp; omega)]; rfl
    · rw [m31, m32]
      show (sadd [67, 116, 114, 108, 45, 65, 108, 116, 45] (calledT r)).bind _ = _
      rw [sadd_some (by simp; omega)]; rfl
  · rw [decide_eq_false h, if_neg h]; rfl
abbrev namesL : List Int × List (List Int) := ([9, 13, 27, 127, 32], [[84, 97, 98], [69, 110, 116, 101, 114], [69, 115, 99], [66, 97, 99, 107], [83, 112, 97, 99, 101]])
theorem named_step (k : Key) (j : List Int) (hj : j.length ≤ 9) (i : Nat) (hi : i < 5) : casementref18_Name_l1 k j namesL (i : Int) = if k.Rune = namesL.1.getD i 0 then some (.inr (.inl (j ++ namesL.2.getD i []))) else some (.inl ((i + 1 : Nat) : Int)) := by
  have hx : idx namesL.1 (i : Int) = some (namesL.1.getD i 0) := by rw [idx_is (d := 0) (by omega) (by simp; omega), Int.toNat_natCast]
  have hy : idx namesL.2 (i : Int) = some (namesL.2.getD i []) := by rw [idx_is (d := []) (by omega) (by simp; omega), Int.toNat_natCast]
  have hlen : (namesL.2.getD i []).length ≤ 5 := by
    have : i = 0 ∨ i = 1 ∨ i = 2 ∨ i = 3 ∨ i = 4 := by omega
    rcases this with rfl | rfl | rfl | rfl | rfl <;> decide
  simp only [casementref18_Name_l1, letB]
  rw [decide_eq_true (show (i : Int) < ((namesL.1).length : Int) by simp; omega), hx, hy, w64_id (by omega) (by omega)]
  simp only [cond_true, Option.bind_some]
  rw [sadd_some (by have h5 := hlen; dsimp only [namesL] at h5; omega)]
  by_cases hr : k.Rune = namesL.1.getD i 0
  · rw [decide_eq_true hr, if_pos hr]; rfl
  · rw [decide_eq_false hr, if_neg hr]; rfl
theorem named_end (k : Key) (j : List Int) : casementref18_Name_l1 k j namesL 5 = some (.inr (.inr ())) := by
  simp only [casementref18_Name_l1, letB]; rfl
theorem named_loop (k : Key) (j : List Int) (hj : j.length ≤ 9) : iter (fun s => casementref18_Name_l1 k j namesL s : Int → Option (Int ⊕ (List Int ⊕ Unit))) 0 =
    some (if k.Rune = 9 then .inl (j ++ [84, 97, 98]) else if k.Rune = 13 then .inl (j ++ [69, 110, 116, 101, 114]) else if k.Rune = 27 then .inl (j ++ [69, 115, 99]) else if k.Rune = 127 then .inl (j ++ [66, 97, 99, 107]) else if k.Rune = 32 then .inl (j ++ [83, 112, 97, 99, 101]) else .inr ()) := by
  have s0 : casementref18_Name_l1 k j namesL 0 = if k.Rune = 9 then some (.inr (.inl (j ++ [84, 97, 98]))) else some (.inl 1) := named_step k j hj 0 (by omega)
  have s1 : casementref18_Name_l1 k j namesL 1 = if k.Rune = 13 then some (.inr (.inl (j ++ [69, 110, 116, 101, 114]))) else some (.inl 2) := named_step k j hj 1 (by omega)
  have s2 : casementref18_Name_l1 k j namesL 2 = if k.Rune = 27 then some (.inr (.inl (j ++ [69, 115, 99]))) else some (.inl 3) := named_step k j hj 2 (by omega)
  have s3 : casementref18_Name_l1 k j namesL 3 = if k.Rune = 127 then some (.inr (.inl (j ++ [66, 97, 99, 107]))) else some (.inl 4) := named_step k j hj 3 (by omega)
  have s4 : casementref18_Name_l1 k j namesL 4 = if k.Rune = 32 then some (.inr (.inl (j ++ [83, 112, 97, 99, 101]))) else some (.inl 5) := named_step k j hj 4 (by omega)
  by_cases h1 : k.Rune = 9
  · rw [if_pos h1] at s0 ⊢; exact iter_inr s0
  · rw [if_neg h1] at s0 ⊢
    rw [iter_inl s0]
    by_cases h2 : k.Rune = 13
    · rw [if_pos h2] at s1 ⊢; exact iter_inr s1
    · rw [if_neg h2] at s1 ⊢
      rw [iter_inl s1]
      by_cases h3 : k.Rune = 27
      · rw [if_pos h3] at s2 ⊢; exact iter_inr s2
      · rw [if_neg h3] at s2 ⊢
        rw [iter_inl s2]
        by_cases h4 : k.Rune = 127
        · rw [if_pos h4] at s3 ⊢; exact iter_inr s3
        · rw [if_neg h4] at s3 ⊢
          rw [iter_inl s3]
          by_cases h5 : k.Rune = 32
          · rw [if_pos h5] at s4 ⊢; exact iter_inr s4
          · rw [if_neg h5] at s4 ⊢
            rw [iter_inl s4]
            exact iter_inr (named_end k j)
theorem bstr_is {l : List Int} (h : Byts l) : bstr l = some l := by
  unfold bstr
  have : (l.all fun b => decide (0 ≤ b ∧ b < 256)) = true := List.all_eq_true.2 fun x hx => decide_eq_true (h x hx)
  rw [this]; rfl
theorem name_ref (k : Key) : casementref18_Name k = some (if rightT k then preT k.Mods ++ calledT k.Rune else []) := by
  unfold casementref18_Name
  rw [right_ref]
  simp only [Option.bind_some]
  by_cases h : rightT k
  · have hR := right_rune h
    have hb := encI_byts hR
    rw [decide_eq_true h, if_pos h]
    have hM := right_mods h
    have hpre : ((bif (decide (k.Mods = 1) || decide (k.Mods = 3)) then some [67, 116, 114, 108, 45] else some [] : Option (List Int)).bind fun j8 => ((bif decide (k.Mods ≥ 2) then (sadd j8 [65, 108, 116, 45]).bind fun x11 => some x11 else some j8 : Option (List Int)))) = some (preT k.Mods) := by
      rcases hM with h | h | h | h <;> rw [h] <;> rfl
    have hpl := pre_len k.Mods
    simp only [Bool.not_true, cond_false, letB, or_s, Option.bind_some]
    revert hpre
    generalize (bif (decide (k.Mods = 1) || decide (k.Mods = 3)) then some [67, 116, 114, 108, 45] else some [] : Option (List Int)) = q
    cases q with
    | none => intro hpre; cases hpre
    | some j8 =>
      simp only [Option.bind_some]
      intro hpre
      rw [hpre]
      simp only [Option.bind_some, casementref18_named]
      rw [named_loop k (preT k.Mods) hpl]
      simp only [Option.bind_some, ref_bytes hR, bstr_is hb.1]
      rw [sadd_some (by omega)]
      unfold calledT
      by_cases h1 : k.Rune = 9
      · rw [if_pos h1, if_pos h1]
      · rw [if_neg h1, if_neg h1]
        by_cases h2 : k.Rune = 13
        · rw [if_pos h2, if_pos h2]
        · rw [if_neg h2, if_neg h2]
          by_cases h3 : k.Rune = 27
          · rw [if_pos h3, if_pos h3]
          · rw [if_neg h3, if_neg h3]
            by_cases h4 : k.Rune = 127
            · rw [if_pos h4, if_pos h4]
            · rw [if_neg h4, if_neg h4]
              by_cases h5 : k.Rune = 32
              · rw [if_pos h5, if_pos h5]
              · rw [if_neg h5, if_neg h5]; rfl
  · rw [decide_eq_false h, if_neg h]; rfl
theorem reads_pure {b : List Int} {k : Key} (hb : Byts b) (hl : b.length ≤ most) : casementlaw18_KeysReads b k = some true := by
  have hm := most_is
  obtain ⟨ks, h1, h2, h3⟩ := read_is hb hl
  have hbl : (if rightT k then bytesT k else []).length ≤ most := by
    split
    · rename_i h
      have := (encI_byts (right_rune h)).2
      unfold bytesT
      rw [List.length_append]
      have e1 : (if k.Mods = 2 ∨ k.Mods = 3 then [(27 : Int)] else []).length ≤ 1 := by split <;> simp
      have e2 : (if k.Mods = 1 ∨ k.Mods = 3 then [w8 (ctlT k.Rune)] else encI k.Rune).length ≤ 4 := by split <;> first | (simp; done) | omega
      omega
    · simp
  unfold casementlaw18_KeysReads casementlaw18_alive
  simp only [letB, Option.bind_some, h1, h2, same_is h3, right_is, right_ref, bytes_is, bytes_ref, bytes_same hbl, name_is, name_ref, Bool.not_true, cond_false, cond_true, beq_self_eq_true, decide_true]
end Go.Proofs.YtdlijnfdkeimlaaDoor.Am.Keys

namespace Go.Proofs.YtdlijnfdkeimlaaDoor.Am
inductive Fits (P : Program) : TypeId → List V → Prop
 | bool {t : TypeId} (b : Bool) (h : P.underlying t = some .bool) : Fits P t [.bool b]
 | int {t : TypeId} {k : IntKind} (n : Int) (h : P.underlying t = some (.int k)) (hn : (Lit.int k n).wf = true) : Fits P t [.int k n]
 | str {t : TypeId} (s : List UInt8) (h : P.underlying t = some .string) (hs : s.length ≤ maxLen) : Fits P t [.str s]
 | nils {t e : TypeId} (h : P.underlying t = some (.slice e)) : Fits P t [.nils]
 | slice {t e : TypeId} (xs : List (List V)) (h : P.underlying t = some (.slice e)) (hl : xs.length ≤ maxLen) (hx : ∀ i, i < xs.length → Fits P e (xs.getD i [])) : Fits P t [.slice false (P.cellsOf e) xs]
 | struct {t : TypeId} {fs : Array Field} (cs : List V) (h : P.underlying t = some (.struct fs)) (hl : cs.length = P.cellsOf t) (hf : ∀ f ∈ fs.toList, Fits P f.type ((cs.drop f.offset).take (P.cellsOf f.type))) : Fits P t cs
 | array {t e : TypeId} {n : Nat} (cs : List V) (h : P.underlying t = some (.array n e)) (hl : cs.length = P.cellsOf t) (hf : ∀ i, i < n → Fits P e ((cs.drop (i * P.cellsOf e)).take (P.cellsOf e))) : Fits P t cs
def tiles (P : Program) : Nat → List Field → Nat → Bool
 | n, [], m => n == m
 | n, f :: fs, m => f.offset == n && tiles P (n + P.cellsOf f.type) fs m
def supT (P : Program) : Nat → TypeId → Bool
 | 0, _ => false
 | d + 1, t => match P.underlying t with
  | some .bool | some (.int _) | some .string => P.cellsOf t == 1
  | some (.slice e) => P.cellsOf t == 1 && decide (0 < P.cellsOf e) && supT P d e
  | some (.struct fs) => tiles P 0 fs.toList (P.cellsOf t) && fs.toList.all fun f => supT P d f.type
  | some (.array n e) => P.cellsOf t == n * P.cellsOf e && supT P d e
  | _ => false
section
variable {P : Program} {H : Type} {enc : TypeId × Value → H} {W : World}
def blocksOf (W : World) : Nat → Prop := fun c => c < W.heap.size
theorem cell_block {a : Addr} {v : Value} (h : W.cell? a = some v) : a.block < W.heap.size ∧ a.spot = none := by
 unfold World.cell? at h
 cases hb : W.heap[a.block]? with
 | none => rw [hb] at h; cases h
 | some o =>
  rw [hb] at h
  refine ⟨(Array.getElem?_eq_some_iff.1 hb).1, ?_⟩
  cases o with
  | cells c _ _ =>
   simp only at h
   split at h
   ·cases h
   ·rename_i hs; simpa using hs
  | _ => cases h
def Reads (P : Program) (W : World) (t : TypeId) (cs : List Value) : Prop :=
 ∃ vs : List V, vs.length = cs.length ∧ Fits P t vs ∧ ∀ k, k < cs.length → RB (blocksOf W) W (vs.getD k .undef) (cs.getD k undef)
theorem trod_array {n : Nat} {e t : TypeId} {base fuel : Nat} {sp : Nat → Bool} {held : Bool} {cs : List Value} {x : DataW H × List MemPlace} (ht : P.underlying t = some (.array n e)) (h : DataW.trod enc P W base sp held fuel t cs = some x) :
  cs.length = P.cellsOf t ∧ ∃ m, ∀ i, i < n → ∃ y, DataW.trod enc P W base sp held m e ((cs.drop (i * P.cellsOf e)).take (P.cellsOf e)) = some y := by
 cases fuel with
 | zero => simp [DataW.trod] at h
 | succ m =>
  unfold DataW.trod at h
  rw [ht] at h
  split at h <;> simp_all
  obtain ⟨hl, xs, hp, hd⟩ := h
  refine ⟨m, fun i hi => ?_⟩
  have h1 := mapM_some_length hp
  have h2 := mapM_some_get hp i i (by simp [hi])
  simp only [List.length_range] at h1
  rw [List.getElem?_eq_getElem (by omega)] at h2
  exact ⟨_, _, h2⟩
def RBs (W : World) (vs : List V) (cs : List Value) : Prop := vs.length = cs.length ∧ ∀ k, k < cs.length → RB (blocksOf W) W (vs.getD k .undef) (cs.getD k undef)
theorem RBs.append {vs us : List V} {cs ds : List Value} (h : RBs W vs cs) (k : RBs W us ds) : RBs W (vs ++ us) (cs ++ ds) := by
 refine ⟨by simp [h.1, k.1], fun i hi => ?_⟩
 simp only [List.getD_eq_getElem?_getD]
 have h1 := h.1
 by_cases hlt : i < cs.length
 ·have := h.2 i hlt
  simp only [List.getD_eq_getElem?_getD] at this
  rw [List.getElem?_append_left (by omega), List.getElem?_append_left hlt]; exact this
 ·rw [List.length_append] at hi
  have := k.2 (i - cs.length) (by omega)
  simp only [List.getD_eq_getElem?_getD] at this
  rw [List.getElem?_append_right (by omega), List.getElem?_append_right (by omega), h1]; exact this
theorem reads_iff {t : TypeId} {cs : List Value} : Reads P W t cs ↔ ∃ vs, Fits P t vs ∧ RBs W vs cs :=
 ⟨fun ⟨vs, a, b, c⟩ => ⟨vs, b, a, c⟩, fun ⟨vs, b, a, c⟩ => ⟨vs, a, b, c⟩⟩
theorem fields_of {cs : List Value} : ∀ {fs : List Field} {n m : Nat}, tiles P n fs m = true → m ≤ cs.length → (∀ f ∈ fs, Reads P W f.type ((cs.drop f.offset).take (P.cellsOf f.type))) →
  n ≤ m ∧ ∃ vs, RBs W vs ((cs.drop n).take (m - n)) ∧ ∀ f ∈ fs, n ≤ f.offset ∧ Fits P f.type ((vs.drop (f.offset - n)).take (P.cellsOf f.type))
 | [], n, m, ht, hm, _ => by
  have : n = m := by simpa [tiles] using ht
  subst this
  exact ⟨Nat.le_refl _, [], ⟨by simp, fun k hk => absurd hk (by simp)⟩, fun f hf => by cases hf⟩
 | f :: fs, n, m, ht, hm, hr => by
  simp only [tiles, Bool.and_eq_true, beq_iff_eq] at ht
  obtain ⟨h0, ht⟩ := ht
  obtain ⟨hle, vs, hvs, hfs⟩ := fields_of ht hm fun g hg => hr g (.tail _ hg)
  obtain ⟨us, hfit, hus⟩ := reads_iff.1 (hr f (.head _))
  rw [h0] at hus
  have hul : us.length = P.cellsOf f.type := by rw [hus.1]; simp; omega
  have hsplit : (cs.drop n).take (m - n) = (cs.drop n).take (P.cellsOf f.type) ++ (cs.drop (n + P.cellsOf f.type)).take (m - (n + P.cellsOf f.type)) := by
   rw [← List.drop_drop, ← List.take_add]
   congr 1
   omega
  refine ⟨by omega, us ++ vs, by rw [hsplit]; exact hus.append hvs, fun g hg => ?_⟩
  cases hg with
  | head =>
   refine ⟨by omega, ?_⟩
   rw [h0, Nat.sub_self, List.drop_zero, List.take_append_of_le_length (by omega), List.take_of_length_le (by omega)]
   exact hfit
  | tail _ hg =>
   obtain ⟨h1, h2⟩ := hfs g hg
   refine ⟨by omega, ?_⟩
   rw [List.drop_append, List.drop_eq_nil_of_le (by omega), List.nil_append, hul]
   rw [show g.offset - n - P.cellsOf f.type = g.offset - (n + P.cellsOf f.type) from by omega]
   exact h2
theorem elems_of {cs : List Value} {e : TypeId} : ∀ {n : Nat}, n * P.cellsOf e ≤ cs.length → (∀ i, i < n → Reads P W e ((cs.drop (i * P.cellsOf e)).take (P.cellsOf e))) →
  ∃ vs, RBs W vs (cs.take (n * P.cellsOf e)) ∧ ∀ i, i < n → Fits P e ((vs.drop (i * P.cellsOf e)).take (P.cellsOf e))
 | 0, _, _ => ⟨[], ⟨by simp, fun k hk => absurd hk (by simp)⟩, fun i hi => absurd hi (by omega)⟩
 | n + 1, hn, hr => by
  have hs : (n + 1) * P.cellsOf e = n * P.cellsOf e + P.cellsOf e := Nat.succ_mul _ _
  obtain ⟨vs, hvs, hfs⟩ := elems_of (n := n) (by omega) fun i hi => hr i (by omega)
  obtain ⟨us, hfit, hus⟩ := reads_iff.1 (hr n (by omega))
  have hvl : vs.length = n * P.cellsOf e := by rw [hvs.1]; simp; omega
  have hul : us.length = P.cellsOf e := by rw [hus.1]; simp; omega
  refine ⟨vs ++ us, by rw [hs, List.take_add]; exact hvs.append hus, fun i hi => ?_⟩
  by_cases hin : i = n
  ·subst hin
   rw [List.drop_append, List.drop_eq_nil_of_le (by omega), List.nil_append, hvl, Nat.sub_self, List.drop_zero, List.take_of_length_le (by omega)]
   exact hfit
  ·have h1 := hfs i (by omega)
   have h2 : i * P.cellsOf e + P.cellsOf e ≤ n * P.cellsOf e := by rw [← Nat.succ_mul]; exact Nat.mul_le_mul_right _ (by omega)
   rw [List.drop_append_of_le_length (by omega), List.take_append_of_le_length (by simp; omega)]
   exact h1
theorem list_choose {α : Type} {n : Nat} {p : Nat → α → Prop} (h : ∀ i, i < n → ∃ x, p i x) : ∃ l : List α, l.length = n ∧ ∀ i x, l[i]? = some x → p i x := by
 induction n with
 | zero => exact ⟨[], rfl, fun i x hx => by simp at hx⟩
 | succ n ih =>
  obtain ⟨l, hl, hp⟩ := ih fun i hi => h i (by omega)
  obtain ⟨x, hx⟩ := h n (by omega)
  refine ⟨l ++ [x], by simp [hl], fun i y hy => ?_⟩
  by_cases hi : i < l.length
  ·rw [List.getElem?_append_left hi] at hy; exact hp i y hy
  ·rw [List.getElem?_append_right (by omega)] at hy
   have : i - l.length = 0 := by
    rcases Nat.eq_zero_or_pos (i - l.length) with h0 | h0
    ·exact h0
    ·rw [List.getElem?_eq_none (by simp; omega)] at hy; cases hy
   rw [this] at hy
   simp only [List.getElem?_cons_zero, Option.some.injEq] at hy
   subst hy
   have : i = n := by omega
   subst this; exact hx
theorem reads_of : ∀ {d : Nat} {t : TypeId}, supT P d t = true → ∀ {fuel : Nat} {held : Bool} {cs : List Value} {x : DataW H × List MemPlace}, DataW.trod enc P W 0 (fun _ => true) held fuel t cs = some x → Reads P W t cs := by
 intro d
 induction d with
 | zero => intro t h; cases h
 | succ d ih =>
  intro t h fuel held cs x hx
  simp only [supT] at h
  split at h
  ·rename_i ht
   obtain ⟨b, rfl, _⟩ := DataW.trod_bool ht hx
   exact ⟨[.bool b], rfl, .bool b ht, fun k hk => by
    have : k = 0 := by simpa using hk
    subst this; exact .bool b⟩
  ·rename_i kk ht
   obtain ⟨n, rfl, _, hwf⟩ := DataW.trod_int ht hx
   exact ⟨[.int kk n], rfl, .int n ht hwf, fun k hk => by
    have : k = 0 := by simpa using hk
    subst this; exact .int kk n⟩
  ·rename_i ht
   obtain ⟨s, rfl, _, hs⟩ := DataW.trod_string ht hx
   exact ⟨[.str s.data.toList], rfl, .str _ ht (by simpa using hs), fun k hk => by
    have : k = 0 := by simpa using hk
    subst this; exact .str s⟩
  ·rename_i e ht
   simp only [Bool.and_eq_true, beq_iff_eq, decide_eq_true_eq] at h
   obtain ⟨⟨_, hpos⟩, hsup⟩ := h
   rcases DataW.trod_slice ht hx with ⟨rfl, _⟩ | ⟨a, len, cap, elems, rest, n, _, rfl, _, _, hlc, hcap, hel, he, hre, _⟩
   ·exact ⟨[.nils], rfl, .nils ht, fun k hk => by
     have : k = 0 := by simpa using hk
     subst this; exact .nils⟩
   ·have hone : ∀ i, i < len → ∃ vs : List V, Fits P e vs ∧ vs.length = P.cellsOf e ∧ ∀ k, k < P.cellsOf e → ∃ v, W.cell? ((a.add (i * P.cellsOf e)).add k) = some v ∧ RB (blocksOf W) W (vs.getD k .undef) v := fun i hi => by
     have h1 := he i hi
     rw [List.getElem?_eq_getElem (by omega)] at h1
     simp only [Option.bind_eq_some_iff] at h1
     obtain ⟨cs', hc1, hc2⟩ := h1
     obtain ⟨_, hl, hc⟩ := World.cells?_some hc1
     obtain ⟨vs, hf, hr⟩ := reads_iff.1 (ih hsup hc2)
     refine ⟨vs, hf, by rw [hr.1, hl], fun k hk => ⟨cs'.getD k undef, ?_, hr.2 k (by omega)⟩⟩
     rw [hc k hk, List.getD_eq_getElem?_getD, List.getElem?_eq_getElem (by omega)]; rfl
    obtain ⟨xs, hxl, hxs⟩ := list_choose hone
    have hxs' : ∀ i, i < xs.length → Fits P e (xs.getD i []) ∧ (xs.getD i []).length = P.cellsOf e ∧ ∀ k, k < P.cellsOf e → ∃ v, W.cell? ((a.add (i * P.cellsOf e)).add k) = some v ∧ RB (blocksOf W) W ((xs.getD i []).getD k .undef) v := fun i hi => by
     rw [List.getD_eq_getElem?_getD, List.getElem?_eq_getElem hi]
     exact hxs i _ (List.getElem?_eq_getElem hi)
    have hblk : 0 < cap → a.block < W.heap.size ∧ a.spot = none := fun hc0 => by
     have h00 : (a.add (0 * P.cellsOf e)).add 0 = a := by simp [Addr.add]
     have hcell : ∃ v, W.cell? a = some v := by
      by_cases h0 : 0 < len
      ·obtain ⟨v, hv, _⟩ := (hxs' 0 (by omega)).2.2 0 hpos
       rw [h00] at hv
       exact ⟨v, hv⟩
      ·have h1 := (hre rfl).2 0 (by omega)
       have h2 := (hre rfl).1
       have hl0 : len = 0 := by omega
       subst hl0
       rw [List.getElem?_eq_getElem (by omega)] at h1
       simp only [Option.bind_eq_some_iff] at h1
       obtain ⟨cs', hc1, _⟩ := h1
       obtain ⟨_, hl, hc⟩ := World.cells?_some hc1
       have h3 := hc 0 hpos
       rw [Nat.add_zero, h00, List.getElem?_eq_getElem (by omega)] at h3
       exact ⟨_, h3⟩
     obtain ⟨v, hv⟩ := hcell
     exact cell_block hv
    refine ⟨[.slice false (P.cellsOf e) xs], rfl, .slice xs ht (by omega) (fun i hi => (hxs' i hi).1), fun k hk => ?_⟩
    have : k = 0 := by simpa using hk
    subst this
    simp only [List.getD_cons_zero]
    refine RB.slice_iff.2 ⟨a, cap, by rw [hxl], fun hc0 => (hblk hc0).2, fun hc0 => (hblk hc0).1, by omega, fun i hi => (hxs' i hi).2.1, fun i k hi hk => ?_⟩
    obtain ⟨v, hv, hr⟩ := (hxs' i hi).2.2 k hk
    refine ⟨v, ?_, hr⟩
    have hsp := (hblk (by omega)).2
    rw [addr_add hsp, addr_add rfl] at hv
    rw [← hv]
    simp [Nat.add_assoc]
  ·rename_i fs ht
   simp only [Bool.and_eq_true, List.all_eq_true] at h
   obtain ⟨htile, hall⟩ := h
   obtain ⟨xs, n, _, _, hl, hxl, hf⟩ := DataW.trod_struct ht hx
   obtain ⟨_, vs, hvs, hfs⟩ := fields_of (P := P) (W := W) (cs := cs) htile (by omega) fun f hfm => by
    obtain ⟨i, hi⟩ := List.getElem?_of_mem hfm
    have hi' : i < fs.size := by have := (List.getElem?_eq_some_iff.1 hi).1; simpa using this
    have h1 := hf i f (by simpa using hi)
    rw [List.getElem?_eq_getElem (by omega)] at h1
    exact ih (hall f hfm) h1
   rw [List.drop_zero, Nat.sub_zero, List.take_of_length_le (by omega)] at hvs
   exact reads_iff.2 ⟨vs, .struct vs ht (by rw [hvs.1, hl]) (fun f hfm => by simpa using (hfs f hfm).2), hvs⟩
  ·rename_i n e ht
   simp only [Bool.and_eq_true, beq_iff_eq] at h
   obtain ⟨hsz, hsup⟩ := h
   obtain ⟨hl, m, hm⟩ := trod_array ht hx
   obtain ⟨vs, hvs, hfs⟩ := elems_of (P := P) (W := W) (cs := cs) (e := e) (n := n) (by omega) fun i hi => by
    obtain ⟨y, hy⟩ := hm i hi
    exact ih hsup hy
   rw [List.take_of_length_le (by omega)] at hvs
   exact reads_iff.2 ⟨vs, .array vs ht (by rw [hvs.1, hl]) hfs, hvs⟩
  ·cases h
end
end Go.Proofs.YtdlijnfdkeimlaaDoor.Am

namespace Go.Proofs.YtdlijnfdkeimlaaDoor.Am
section
variable {P : Program} {W : World}
inductive ArgOK (W : World) : V → Value → Prop
 | leaf {x : V} {v : Value} (h : RB (blocksOf W) W x v) : ArgOK W x v
 | agg (cs : List V) (arr : Array Value) (hs : arr.size = cs.length) (h : ∀ k, k < cs.length → RB (blocksOf W) W (cs.getD k .undef) (arr.getD k undef)) : ArgOK W (.agg cs) (.agg arr)
def g0 (W : World) : G := ⟨id, id, fun _ => False, blocksOf W⟩
theorem RB.toR1 {x : V} {v : Value} (h : RB (blocksOf W) W x v) : R1 (g0 W) W 0 x v := by
 cases h with
 | func f => exact ⟨#[], rfl, rfl, fun k hk => absurd hk (by simp)⟩
 | bool b => exact RB.bool b
 | int k n => exact RB.int k n
 | str b => exact RB.str b
 | nilp => exact RB.nilp
 | nils => exact RB.nils
 | nilf => exact RB.nilf
 | nili => exact RB.nili
 | slice sz xs a cap vs hs hp hc hz hv hr => exact RB.slice sz xs a cap vs hs hp hc hz hv hr
theorem RB.ok0 {x : V} {v : Value} (h : RB (blocksOf W) W x v) : x.ok0 = true := by
 cases h <;> rfl
theorem RB.cnt {x : V} {v : Value} (h : RB (blocksOf W) W x v) (c : Nat) : cnt0 c x v = 0 := by
 cases h <;> rfl
theorem ArgOK.r3 {x : V} {v : Value} (h : ArgOK W x v) (τ : Nat → Value) : R3 (g0 W) W 0 τ x v := by
 cases h with
 | leaf h =>
  have h1 := h.toR1
  cases h <;> exact h1
 | agg cs arr hs h => exact ⟨arr, rfl, hs, fun k hk => ⟨.inl (h k hk).ok0, (h k hk).toR1⟩⟩
theorem ArgOK.okArg {x : V} {v : Value} (h : ArgOK W x v) : x.okArg = true := by
 cases h with
 | leaf h => cases h <;> rfl
 | agg cs arr hs h =>
  simp only [V.okArg, List.all_eq_true]
  intro y hy
  obtain ⟨k, hk, rfl⟩ := List.getElem_of_mem hy
  have := (h k hk).ok0
  rwa [List.getD_eq_getElem?_getD, List.getElem?_eq_getElem hk] at this
theorem ArgOK.cnt {x : V} {v : Value} (h : ArgOK W x v) (c : Nat) : cnt2 c x v = 0 := by
 cases h with
 | leaf h =>
  have h1 := h.cnt c
  cases h <;> exact h1
 | agg cs arr hs h => exact sumTo_zero fun k hk => (h k hk).cnt c
theorem start {args : List V} {vs : Array Value} (hl : args.length = vs.toList.length) (ha : ∀ k, k < args.length → ArgOK W (args.getD k .undef) (vs.toList.getD k undef)) :
  SR (g0 W) W 0 (fun _ => 0) (fun _ => false) ⟨fun _ => .undef, fun _ => [], []⟩ #[] (args.zip vs.toList) := by
 have hmem : ∀ p ∈ args.zip vs.toList, ArgOK W p.1 p.2 := fun p hp => by
  obtain ⟨k, hk, rfl⟩ := List.getElem_of_mem hp
  have hk' : k < args.length := by simp at hk; omega
  have h1 := ha k hk'
  simp only [List.getElem_zip]
  rw [List.getD_eq_getElem?_getD, List.getElem?_eq_getElem hk', List.getD_eq_getElem?_getD, List.getElem?_eq_getElem (by omega)] at h1
  exact h1
 have hcP : ∀ c, cntP c (args.zip vs.toList) = 0 := fun c => by
  rw [cntP_zip hl]; exact sumTo_zero fun k hk => (ha k hk).cnt c
 have hT : ∀ c, total (g0 W) W 0 (fun _ => 0) ⟨fun _ => .undef, fun _ => [], []⟩ #[] (args.zip vs.toList) c = persOf (g0 W) c := fun c => by
  have e1 : cntT c (fun _ => V.undef) #[] = 0 := rfl
  have e2 : cntB (g0 W) W c 0 (fun _ => []) = 0 := rfl
  have e3 : cntM (g0 W) W c [] = 0 := rfl
  unfold total
  simp only [e1, e2, e3, hcP]
  omega
 refine ⟨fun s => trivial, fun s _ => rfl, fun s d hd => (by cases hd), fun p hp => (hmem p hp).r3 _, fun p hp d hd => ?_, fun j => by simp [g0], fun j hj => absurd rfl hj, fun b hb => absurd hb (by simp), fun c => ?_, fun c hc => ?_⟩
 ·obtain ⟨b, o, e⟩ := okArg_root (hmem p hp).okArg hd; cases e
 ·rw [hT]; unfold persOf; split <;> omega
 ·rw [hT]; unfold persOf
  rw [if_neg]
  show ¬ (c < W.heap.size)
  omega
theorem law_calls [Lay P] {T : Table} (hLd : Laid P (g0 W) W) (hT : TableOK P T) {f : Nat} {args : List V} {m' : List (List V)} {vs : Array Value} {b : Bool} (hret : RF T f args [] = some (.bool b, m')) (hl : args.length = vs.toList.length)
  (ha : ∀ k, k < args.length → ArgOK W (args.getD k .undef) (vs.toList.getD k undef)) : Calls P f vs W fun e W' => e = .returned (.bool b) ∧ RowKit.Below W.heap.size W W' := by
 obtain ⟨_, hcall⟩ := ret_sound hT (RF_ret.1 hret)
 have hok : args.all V.okArg = true := List.all_eq_true.2 fun y hy => by
  obtain ⟨k, hk, rfl⟩ := List.getElem_of_mem hy
  have := (ha k hk).okArg
  rwa [List.getD_eq_getElem?_getD, List.getElem?_eq_getElem hk] at this
 refine (hcall (g0 W) W (fun _ => 0) vs (by simpa using hl.symm) hok hLd (start hl ha)).mono fun e W' ⟨v, g', he, hS, hE, _⟩ => ?_
 have hv : v = .bool b := R3.bool (hS.pend _ (.head _))
 exact ⟨by rw [he, hv], hE.os, hE.tape, hE.output, hE.size, fun k hk => (hE.pers k hk).2⟩
def FitsV (P : Program) (t : TypeId) (x : V) : Prop :=
 match P.underlying t with
 | some (.struct _) | some (.array _ _) => ∃ cs, x = .agg cs ∧ Fits P t cs
 | _ => Fits P t [x]
section
variable {H : Type} {enc : TypeId × Value → H}
theorem arg_of {d : Nat} {t : TypeId} (hsup : supT P d t = true) {v : Value} {dd : DataW H} {ps : List MemPlace} {base : Nat} (hval : Value.okWide P W .any base t v) (h : DataW.Trod enc P W 0 (fun _ => true) true t v dd ps) :
  ∃ x, FitsV P t x ∧ ArgOK W x v := by
 obtain ⟨fuel, h⟩ := h
 obtain ⟨cs, hfit, hr⟩ := reads_iff.1 (reads_of hsup h)
 have agg : ∀ arr : Array Value, v = .agg arr → ArgOK W (.agg cs) v := fun arr e => by
  subst e
  have hc : (Value.agg arr).cells = arr := rfl
  rw [hc] at hr
  refine .agg cs arr (by have := hr.1; simpa using this.symm) fun k hk => ?_
  have := hr.2 k (by rw [← hr.1]; exact hk)
  rwa [array_toList_getD] at this
 have leaf : (∀ arr, v ≠ .agg arr) → cs.length = 1 → ∃ x, cs = [x] ∧ ArgOK W x v := fun hv h1 => by
  match cs, h1 with
  | [x], _ =>
   refine ⟨x, rfl, .leaf ?_⟩
   rw [cells_leaf hv] at hr
   exact hr.2 0 (by simp)
 unfold FitsV
 unfold Value.okWide at hval
 cases hu : P.underlying t with
 | none => cases hfit <;> simp_all
 | some ud =>
  rw [hu] at hval
  cases ud with
  | struct fs => obtain ⟨arr, e, _⟩ := hval; exact ⟨.agg cs, ⟨cs, rfl, hfit⟩, agg arr e⟩
  | array n e => obtain ⟨arr, e, _⟩ := hval; exact ⟨.agg cs, ⟨cs, rfl, hfit⟩, agg arr e⟩
  | _ =>
   simp only at hval ⊢
   have h1 : cs.length = 1 := by cases hfit <;> first | rfl | simp_all
   have h2 : ∀ arr, v ≠ .agg arr := fun arr e => by
    subst e
    simp only [Cell.okWide, Cell.ok, hu] at hval
   obtain ⟨x, rfl, hx⟩ := leaf h2 h1
   exact ⟨x, hfit, hx⟩
theorem args_of {d : Nat} : ∀ {ts : List TypeId} {vs : List Value} {ds : List (DataW H)} {ps : List MemPlace} {base : Nat}, ts.all (supT P d) = true → (∀ (j : Nat) (t : TypeId) (v : Value), ts[j]? = some t → vs[j]? = some v → Value.okWide P W .any base t v) →
  DataW.TrodAll enc P W 0 (fun _ => true) true ts vs ds ps → ∃ args : List V, args.length = vs.length ∧ ts.length = vs.length ∧ (∀ (j : Nat) (t : TypeId), ts[j]? = some t → FitsV P t (args.getD j .undef)) ∧ ∀ k, k < args.length → ArgOK W (args.getD k .undef) (vs.getD k undef)
 | [], vs, ds, ps, base, _, _, h => by
  obtain ⟨rfl, rfl, rfl⟩ := ChangeShapes.trodAll_nil h
  exact ⟨[], rfl, rfl, fun j t hj => by simp at hj, fun k hk => absurd hk (by simp)⟩
 | t :: ts, vs, ds, ps, base, hsup, hval, h => by
  obtain ⟨v, vs', dd, ds', p, q, rfl, rfl, rfl, h0, r0⟩ := ChangeShapes.trodAll_cons h
  simp only [List.all_cons, Bool.and_eq_true] at hsup
  obtain ⟨x, hx1, hx2⟩ := arg_of hsup.1 (hval 0 t v rfl rfl) h0
  obtain ⟨args, h1, h2, h3, h4⟩ := args_of hsup.2 (fun j t v hj hv => hval (j + 1) t v hj hv) r0
  refine ⟨x :: args, by simp [h1], by simp [h2], fun j t' hj => ?_, fun k hk => ?_⟩
  ·cases j with
   | zero => simp only [List.getElem?_cons_zero, Option.some.injEq] at hj; subst hj; exact hx1
   | succ j => exact h3 j t' hj
  ·cases k with
   | zero => exact hx2
   | succ k => exact h4 k (by simpa using hk)
theorem args_stay (hl : laidOutB P = true) {W' : World} {sp : Nat → Bool} : ∀ {ts : List TypeId} {vs : List Value} {ds : List (DataW H)} {ps : List MemPlace}, (ts.all fun t => P.readableRec t && decide (t < P.types.size)) = true →
  DataW.TrodAll enc P W 0 (fun _ => true) true ts vs ds ps → (∀ p ∈ ps, W.sameAt W' p) → (∀ p ∈ ps, sp p.block = true) → DataW.TrodAll enc P W' 0 sp true ts vs ds ps
 | [], vs, ds, ps, _, h, _, _ => by
  obtain ⟨rfl, rfl, rfl⟩ := ChangeShapes.trodAll_nil h
  exact rfl
 | t :: ts, vs, ds, ps, hr, h, hs, hsp => by
  obtain ⟨v, vs', dd, ds', p, q, rfl, rfl, rfl, h0, r0⟩ := ChangeShapes.trodAll_cons h
  simp only [List.all_cons, Bool.and_eq_true, decide_eq_true_eq] at hr
  exact trodAll_cons_mk (WideElems.Trod_stays hl hr.1.1 hr.1.2 h0 (fun x hx => hs x (List.mem_append_left _ hx)) (fun x hx => hsp x (List.mem_append_left _ hx)))
   (args_stay hl hr.2 r0 (fun x hx => hs x (List.mem_append_right _ hx)) (fun x hx => hsp x (List.mem_append_right _ hx)))
theorem trodAll_len : ∀ {ts : List TypeId} {vs : List Value} {ds : List (DataW H)} {ps : List MemPlace}, DataW.TrodAll enc P W 0 (fun _ => true) true ts vs ds ps → ds.length = ts.length
 | [], vs, ds, ps, h => by obtain ⟨rfl, rfl, rfl⟩ := ChangeShapes.trodAll_nil h; rfl
 | t :: ts, vs, ds, ps, h => by
  obtain ⟨v, vs', dd, ds', p, q, rfl, rfl, rfl, h0, r0⟩ := ChangeShapes.trodAll_cons h
  simp [trodAll_len r0]
open ChangeShapes in
theorem post_of_below {f : Func} {s : ChangeSpec} {apart fresh handsOn again : Bool} {W W' : World} {args : Array Value} {v : Value} {ds gs : List (DataW H)} {before pa pv : List MemPlace}
  (hW : DataW.Whole enc P f.params.toList s.vars apart W args.toList ds gs before)
  (hres : ∀ (b : Nat) (sp : Nat → Bool) (hd : Bool), DataW.TrodAll enc P W' b sp hd f.resultTypes.toList (v.resultList f.resultTypes.size) (s.fn H (ds ++ gs)).results [])
  (hargs : ∀ sp : Nat → Bool, (∀ p ∈ before, sp p.block = true) → DataW.TrodAll enc P W' 0 sp true f.params.toList args.toList (s.fn H (ds ++ gs)).args pa)
  (hvars : ∀ sp : Nat → Bool, (∀ p ∈ before, sp p.block = true) → DataW.TrodVars enc P W' sp s.vars (s.fn H (ds ++ gs)).vars pv)
  (hps : before = pa ++ pv) (hb : RowKit.Below W.heap.size W W')
  (hok : ∀ (j : Nat) (t : TypeId) (r : Value), f.resultTypes[j]? = some t → (v.resultList f.resultTypes.size)[j]? = some r → Value.okWide P W' .any 0 t r) :
  s.post enc P f apart fresh handsOn again W args v W' := by
 have hlt : ∀ p ∈ before, p.block < W.heap.size := fun p hp => hW.lt p hp
 have hold : ∀ p ∈ before, (fun b => decide (b < W.heap.size)) p.block = true := fun p hp => by simpa using hlt p hp
 refine ⟨ds, gs, before, [], pa, pv, hW, hres _ _ _, hargs _ hold, hvars _ hold, World.keptBut_mono (fun p hp => ⟨hp, ?_⟩) (hb.frame (· ∈ before)), fun _ => ?_⟩
 ·rw [hps, List.mem_append] at hp
  exact Or.inr hp
 ·obtain ⟨_, _, _, _, _, hz, hn⟩ := hW
  refine ⟨hok, _, _, ([] ++ pa) ++ pv, ⟨[] ++ pa, pv, trodAll_append (hargs _ (fun _ _ => rfl)) (hres _ _ _), hvars _ (fun _ _ => rfl), rfl, ?_, ?_⟩, ?_⟩
  ·intro b off hp
   have hp' : MemPlace.cell b off ∈ before := by rw [hps]; simpa using hp
   rw [hb.frozen (p := ⟨b, off, none⟩) (hlt _ hp')]
   exact hz b off hp'
  ·intro ha
   have := hn ha
   rw [hps] at this
   simpa using this
  ·intro p hp _
   rw [hps]
   simpa using hp
end
end
end Go.Proofs.YtdlijnfdkeimlaaDoor.Am

set_option linter.all false
namespace Go.Proofs.YtdlijnfdkeimlaaDoor.Am.Keys
open Go.Proofs
theorem gl2 : Tryd.prog.globalNamed "unicode/utf8.acceptRanges" = some 1 := by kernel_rfl
theorem gl1 : Tryd.prog.globalNamed "unicode/utf8.first" = some 0 := by kernel_rfl
theorem gt2 : (Tryd.prog.globals[1]?).map (·.type) = some 161 := by kernel_rfl
theorem gt1 : (Tryd.prog.globals[0]?).map (·.type) = some 158 := by kernel_rfl
noncomputable def eT (t : TypeId) : TypeId := match Tryd.prog.underlying t with | some (.array _ e) => e | _ => 0
noncomputable def fsT (t : TypeId) : Array Field := match Tryd.prog.underlying t with | some (.struct fs) => fs | _ => #[]
theorem ut1 : Tryd.prog.underlying 158 = some (.array 256 (eT 158)) := by kernel_rfl
theorem ut2 : Tryd.prog.underlying 161 = some (.array 16 (eT 161)) := by kernel_rfl
theorem ue1 : Tryd.prog.underlying (eT 158) = some (.int .u8) := by kernel_rfl
theorem ue2 : Tryd.prog.underlying (eT 161) = some (.struct (fsT (eT 161))) := by kernel_rfl
theorem uf0 : ((fsT (eT 161))[0]?.map fun f => (f.type, f.offset)) = some (5, 0) := by kernel_rfl
theorem uf1 : ((fsT (eT 161))[1]?.map fun f => (f.type, f.offset)) = some (5, 1) := by kernel_rfl
theorem u5 : Tryd.prog.underlying 5 = some (.int .u8) := by kernel_rfl
theorem kc1 : Tryd.prog.cellsOf (eT 158) = 1 := by kernel_rfl
theorem kc2 : Tryd.prog.cellsOf (eT 161) = 2 := by kernel_rfl
theorem kc5 : Tryd.prog.cellsOf 5 = 1 := by kernel_rfl
theorem laid_one {l : List (String × DataW Unit)} {W : World} {n : String} {d : DataW Unit} {g : Nat} {t : TypeId} (h : laidMetH Tryd.prog l W)
  (hf : (l.filter fun x => x.2.handleName?.isNone).filter (fun x => x.1 == n) = [(n, d)]) (hg : Tryd.prog.globalNamed n = some g) (hty : (Tryd.prog.globals[g]?).map (·.type) = some t) :
  ∃ (cs : Array Value) (fuel : Nat) (p : List MemPlace), (∀ i, W.cell? ⟨g, i, none⟩ = cs[i]?) ∧ g < W.heap.size ∧ DataW.trod (fun _ => ()) Tryd.prog W 0 (fun _ => true) false fuel t cs.toList = some (d, p) ∧ W.var? Tryd.prog n = some cs := by
 have h2 := (laidMetH_iff.1 h).1.filter (fun x => x.1 == n)
 rw [hf] at h2
 obtain ⟨ps, ⟨g', t', cs, fuel, p, q, hg', ht', hvar, hd, _, _⟩, _⟩ := h2
 obtain rfl := Option.some.inj (hg.symm.trans hg')
 obtain rfl := Option.some.inj (hty.symm.trans ht')
 have hv := hvar
 refine ⟨cs, fuel, p, fun i => World.var?_cell hg hvar i, ?_, hd, hv⟩
 clear hv
 unfold World.var? at hvar
 rw [hg] at hvar
 simp only [Option.bind_some] at hvar
 cases hh : W.heap[g]? with
 | none => rw [hh] at hvar; cases hvar
 | some o => exact (Array.getElem?_eq_some_iff.1 hh).1
noncomputable def lst (x : List V) : DataW Unit := match x with
 | [.int k n] => .lit (.int k n)
 | [.int k n, .int k' n'] => .agg [.lit (.int k n), .lit (.int k' n')]
 | _ => .nil
theorem first_rows {W : World} {cs : Array Value} {fuel : Nat} {p : List MemPlace} (h : DataW.trod (fun _ => ()) Tryd.prog W 0 (fun _ => true) false fuel 158 cs.toList = some (.agg (tab1.map lst), p)) (i : Nat) (hi : i < 256) :
  ∃ n, tab1[i]? = some [.int .u8 n] ∧ cs[i]? = some (.int .u8 n) := by
 obtain ⟨xs, m, _, hx, hl, hlen, hr⟩ := DataW.trod_array ut1 h
 have hxs : tab1.map lst = xs.map (·.1) := by
  have := congrArg Prod.fst hx
  simpa using this
 have h1 := hr i hi
 rw [kc1, List.getElem?_eq_getElem (by omega)] at h1
 obtain ⟨n, hc, hy, _⟩ := DataW.trod_int ue1 h1
 have h2 : (tab1.map lst)[i]? = some (.lit (.int .u8 n)) := by
  rw [hxs, List.getElem?_map, List.getElem?_eq_getElem (by omega), hy]; rfl
 refine ⟨n, ?_, ?_⟩
 ·rw [List.getElem?_map] at h2
  obtain ⟨x, hx1, hx2⟩ := Option.map_eq_some_iff.1 h2
  rw [hx1]
  have hk : ∀ y ∈ tab1, ∃ z, y = [.int .u8 z] := by
   have : tab1.all (fun y => match y with | [.int .u8 _] => true | _ => false) = true := by decide +kernel
   intro y hy
   have := List.all_eq_true.1 this y hy
   split at this
   ·exact ⟨_, rfl⟩
   ·cases this
  obtain ⟨z, rfl⟩ := hk x (List.mem_of_getElem? hx1)
  simp only [lst, DataW.lit.injEq, Lit.int.injEq, true_and] at hx2
  rw [hx2]
 ·have := congrArg (·[0]?) hc
  simpa [List.getElem?_take, List.getElem?_drop] using this
theorem second_rows {W : World} {cs : Array Value} {fuel : Nat} {p : List MemPlace} (h : DataW.trod (fun _ => ()) Tryd.prog W 0 (fun _ => true) false fuel 161 cs.toList = some (.agg (tab2.map lst), p)) (i : Nat) (hi : i < 16) :
  ∃ a b, tab2[i]? = some [.int .u8 a, .int .u8 b] ∧ cs[i * 2]? = some (.int .u8 a) ∧ cs[i * 2 + 1]? = some (.int .u8 b) := by
 obtain ⟨xs, m, _, hx, hl, hlen, hr⟩ := DataW.trod_array ut2 h
 have hxs : tab2.map lst = xs.map (·.1) := by
  have := congrArg Prod.fst hx
  simpa using this
 have h1 := hr i hi
 rw [kc2, List.getElem?_eq_getElem (by omega)] at h1
 obtain ⟨ys, m2, _, hy, hl2, hlen2, hr2⟩ := DataW.trod_struct ue2 h1
 have hsz : (fsT (eT 161)).size = 2 := by kernel_rfl
 obtain ⟨g0, hg0, hq0⟩ := Option.map_eq_some_iff.1 uf0
 obtain ⟨g1, hg1, hq1⟩ := Option.map_eq_some_iff.1 uf1
 have f0 := hr2 0 _ hg0
 have f1 := hr2 1 _ hg1
 rw [show g0.type = 5 from congrArg Prod.fst hq0, show g0.offset = 0 from congrArg Prod.snd hq0, kc5] at f0
 rw [show g1.type = 5 from congrArg Prod.fst hq1, show g1.offset = 1 from congrArg Prod.snd hq1, kc5] at f1
 rw [List.getElem?_eq_getElem (by omega)] at f0 f1
 obtain ⟨a, ha, hya, _⟩ := DataW.trod_int u5 f0
 obtain ⟨b, hb, hyb, _⟩ := DataW.trod_int u5 f1
 have hys : ys.map (·.1) = [.lit (.int .u8 a), .lit (.int .u8 b)] := by
  match ys, hlen2.trans hsz with
  | [y0, y1], _ =>
   simp only [List.getElem_cons_zero, List.getElem_cons_succ] at hya hyb
   rw [hya, hyb]; rfl
 have h2 : (tab2.map lst)[i]? = some (.agg [.lit (.int .u8 a), .lit (.int .u8 b)]) := by
  rw [hxs, List.getElem?_map, List.getElem?_eq_getElem (by omega), hy, ← hys]; rfl
 refine ⟨a, b, ?_, ?_, ?_⟩
 ·rw [List.getElem?_map] at h2
  obtain ⟨x, hx1, hx2⟩ := Option.map_eq_some_iff.1 h2
  rw [hx1]
  have hk : ∀ y ∈ tab2, ∃ z z', y = [.int .u8 z, .int .u8 z'] := by
   have : tab2.all (fun y => match y with | [.int .u8 _, .int .u8 _] => true | _ => false) = true := by decide +kernel
   intro y hy
   have := List.all_eq_true.1 this y hy
   split at this
   ·exact ⟨_, _, rfl⟩
   ·cases this
  obtain ⟨z, z', rfl⟩ := hk x (List.mem_of_getElem? hx1)
  simp only [lst, DataW.agg.injEq, List.cons.injEq, DataW.lit.injEq, Lit.int.injEq, true_and, and_true] at hx2
  rw [hx2.1, hx2.2]
 ·have := congrArg (·[0]?) ha
  simpa [List.getElem?_take, List.getElem?_drop] using this
 ·have := congrArg (·[0]?) hb
  simpa [List.getElem?_take, List.getElem?_drop] using this
theorem laid_of {l : List (String × DataW Unit)} {W : World} (h : laidMetH Tryd.prog l W)
  (h1 : (l.filter fun x => x.2.handleName?.isNone).filter (fun x => x.1 == "unicode/utf8.first") = [("unicode/utf8.first", .agg (tab1.map lst))])
  (h2 : (l.filter fun x => x.2.handleName?.isNone).filter (fun x => x.1 == "unicode/utf8.acceptRanges") = [("unicode/utf8.acceptRanges", .agg (tab2.map lst))]) : Laid Tryd.prog (g0 W) W := by
 obtain ⟨cs1, f1, p1, e1, s1, t1, _⟩ := laid_one h h1 gl1 gt1
 obtain ⟨cs2, f2, p2, e2, s2, t2, _⟩ := laid_one h h2 gl2 gt2
 have len1 : tab1.length = 256 := by decide +kernel
 have len2 : tab2.length = 16 := by decide +kernel
 refine ⟨fun t ht => ?_, fun t ht => ?_⟩
 case refine_2 =>
  have ht : t ∈ ([] : List (Nat × String × IntKind × List Int)) := ht
  cases ht
 have ht : t ∈ [(0, 1, tab1), (1, 2, tab2)] := ht
 rcases List.mem_cons.1 ht with rfl | ht
 ·refine ⟨s1, fun i hi => ?_, fun i k hi hk => ?_⟩
  ·have hi : i < tab1.length := hi
   obtain ⟨n, a, _⟩ := first_rows t1 i (by omega)
   show (tab1.getD i []).length = 1
   rw [List.getD_eq_getElem?_getD, a]; rfl
  ·have hi : i < tab1.length := hi
   have hk : k < 1 := hk
   obtain ⟨n, a, b⟩ := first_rows t1 i (by omega)
   obtain rfl : k = 0 := by omega
   refine ⟨.int .u8 n, ?_, ?_⟩
   ·show W.cell? ⟨0, 0 + (i * 1 + 0), none⟩ = _
    rw [show 0 + (i * 1 + 0) = i by omega, e1, b]
   ·show RB _ W ((tab1.getD i []).getD 0 .undef) _
    rw [show tab1.getD i [] = _ from List.getD_eq_getElem?_getD, a]; exact RB.int _ _
 ·obtain rfl := List.mem_singleton.1 ht
  refine ⟨s2, fun i hi => ?_, fun i k hi hk => ?_⟩
  ·have hi : i < tab2.length := hi
   obtain ⟨n, n', a, _⟩ := second_rows t2 i (by omega)
   show (tab2.getD i []).length = 2
   rw [List.getD_eq_getElem?_getD, a]; rfl
  ·have hi : i < tab2.length := hi
   have hk : k < 2 := hk
   obtain ⟨n, n', a, b, c⟩ := second_rows t2 i (by omega)
   match k, hk with
   | 0, _ =>
    refine ⟨.int .u8 n, ?_, ?_⟩
    ·show W.cell? ⟨1, 0 + (i * 2 + 0), none⟩ = _
     rw [show 0 + (i * 2 + 0) = i * 2 by omega, e2, b]
    ·show RB _ W ((tab2.getD i []).getD 0 .undef) _
     rw [show tab2.getD i [] = _ from List.getD_eq_getElem?_getD, a]; exact RB.int _ _
   | 1, _ =>
    refine ⟨.int .u8 n', ?_, ?_⟩
    ·show W.cell? ⟨1, 0 + (i * 2 + 1), none⟩ = _
     rw [show 0 + (i * 2 + 1) = i * 2 + 1 by omega, e2, c]
    ·show RB _ W ((tab2.getD i []).getD 1 .undef) _
     rw [show tab2.getD i [] = _ from List.getD_eq_getElem?_getD, a]; exact RB.int _ _
end Go.Proofs.YtdlijnfdkeimlaaDoor.Am.Keys

namespace Go.Proofs.YtdlijnfdkeimlaaDoor.Am
def ints (xs : List Int) : List (List V) := xs.map fun n => [.int .i64 n]
inductive IV : V → List Int → Prop
 | nil : IV .nils []
 | sl (xs : List Int) : IV (.slice false 1 (ints xs)) xs
def boolL (xs : List Bool) : List (List V) := xs.map fun b => [.bool b]
inductive BV : V → List Bool → Prop
 | nil : BV .nils []
 | sl (xs : List Bool) : BV (.slice false 1 (boolL xs)) xs
section
variable {P : Program}
theorem fits_int {t : TypeId} {k : IntKind} (ht : P.underlying t = some (.int k)) {vs : List V} (h : Fits P t vs) : ∃ n, vs = [.int k n] ∧ (Lit.int k n).wf = true := by
 cases h <;> simp_all
theorem fits_bool {t : TypeId} (ht : P.underlying t = some .bool) {vs : List V} (h : Fits P t vs) : ∃ b, vs = [.bool b] := by
 cases h <;> simp_all
theorem fits_str {t : TypeId} (ht : P.underlying t = some .string) {vs : List V} (h : Fits P t vs) : ∃ s, vs = [.str s] ∧ s.length ≤ maxLen := by
 cases h <;> simp_all
theorem fits_slice {t e : TypeId} (ht : P.underlying t = some (.slice e)) {vs : List V} (h : Fits P t vs) : vs = [.nils] ∨ ∃ xs, vs = [.slice false (P.cellsOf e) xs] ∧ xs.length ≤ maxLen ∧ ∀ x ∈ xs, Fits P e x := by
 cases h with
 | nils => exact .inl rfl
 | slice xs h hl hx =>
  rw [ht] at h
  cases h
  refine .inr ⟨xs, rfl, hl, fun x hm => ?_⟩
  obtain ⟨i, hi, rfl⟩ := List.getElem_of_mem hm
  have := hx i hi
  rwa [List.getD_eq_getElem?_getD, List.getElem?_eq_getElem hi] at this
 | _ => simp_all
theorem list_of {α β : Type} {f : α → β} {Q : α → Prop} : ∀ {xs : List β}, (∀ x ∈ xs, ∃ a, f a = x ∧ Q a) → ∃ l : List α, xs = l.map f ∧ ∀ a ∈ l, Q a
 | [], _ => ⟨[], rfl, fun a h => (nomatch h)⟩
 | x :: xs, h => by
  obtain ⟨a, ha, hq⟩ := h x (.head _)
  obtain ⟨l, has, hqs⟩ := list_of (f := f) (Q := Q) fun y hy => h y (.tail _ hy)
  exact ⟨a :: l, by rw [List.map_cons, ha, has], fun b hb => by cases hb with | head => exact hq | tail _ hb => exact hqs b hb⟩
theorem fitsV_leaf {t : TypeId} {x : V} {d : TypeDesc} (ht : P.underlying t = some d) (h : FitsV P t x) (hs : ∀ fs, d ≠ .struct fs) (ha : ∀ n e, d ≠ .array n e) : Fits P t [x] := by
 unfold FitsV at h
 rw [ht] at h
 cases d <;> first | exact h | exact absurd rfl (hs _) | exact absurd rfl (ha _ _)
end
end Go.Proofs.YtdlijnfdkeimlaaDoor.Am

namespace Go.Proofs.YtdlijnfdkeimlaaDoor.Am
inductive LT where
 | bool
 | int (k : IntKind)
 | str
 | slice (e : TypeId)
 deriving DecidableEq
def leafsF (P : Program) (F : TypeId → Option (List LT)) : Nat → List Field → Option (List LT)
 | _, [] => some []
 | n, f :: fs => if f.offset = n ∧ (F f.type).map List.length = some (P.cellsOf f.type) then (F f.type).bind fun l => (leafsF P F (n + P.cellsOf f.type) fs).bind fun r => some (l ++ r) else none
def leafs (P : Program) : Nat → TypeId → Option (List LT)
 | 0, _ => none
 | d + 1, t => match P.underlying t with
  | some .bool => some [.bool]
  | some (.int k) => some [.int k]
  | some .string => some [.str]
  | some (.slice e) => some [.slice e]
  | some (.struct fs) => (leafsF P (leafs P d) 0 fs.toList).bind fun l => if l.length = P.cellsOf t then some l else none
  | some (.array n e) => (leafs P d e).bind fun l => if l.length = P.cellsOf e ∧ P.cellsOf t = n * P.cellsOf e then some (List.replicate n l).flatten else none
  | _ => none
def LV (P : Program) (l : LT) (v : V) : Prop :=
 match l with
 | .bool => ∃ b, v = .bool b
 | .int k => ∃ n, v = .int k n ∧ (Lit.int k n).wf = true
 | .str => ∃ s, v = .str s ∧ s.length ≤ maxLen
 | .slice e => v = .nils ∨ ∃ xs, v = .slice false (P.cellsOf e) xs ∧ xs.length ≤ maxLen ∧ ∀ x ∈ xs, Fits P e x
def LVs (P : Program) : List LT → List V → Prop
 | [], [] => True
 | l :: ls, v :: vs => LV P l v ∧ LVs P ls vs
 | _, _ => False
section
variable {P : Program}
theorem LVs.append : ∀ {ls ks : List LT} {vs us : List V}, LVs P ls vs → LVs P ks us → LVs P (ls ++ ks) (vs ++ us)
 | [], _, [], _, _, h => h
 | _ :: _, _, _ :: _, _, h, k => ⟨h.1, LVs.append h.2 k⟩
 | [], _, _ :: _, _, h, _ => h.elim
 | _ :: _, _, [], _, h, _ => h.elim
theorem LVs.len : ∀ {ls : List LT} {vs : List V}, LVs P ls vs → vs.length = ls.length
 | [], [], _ => rfl
 | _ :: _, _ :: _, h => by rw [List.length_cons, List.length_cons, LVs.len h.2]
 | [], _ :: _, h => h.elim
 | _ :: _, [], h => h.elim
theorem leafsF_ok {F : TypeId → Option (List LT)} (hF : ∀ t ls vs, F t = some ls → Fits P t vs → LVs P ls vs) {vs : List V} : ∀ {fs : List Field} {n : Nat} {ls : List LT}, leafsF P F n fs = some ls → (∀ f ∈ fs, Fits P f.type ((vs.drop f.offset).take (P.cellsOf f.type))) →
  LVs P ls ((vs.drop n).take ls.length)
 | [], n, ls, h, _ => by
  simp only [leafsF, Option.some.injEq] at h
  subst h
  rw [List.length_nil, List.take_zero]; trivial
 | f :: fs, n, ls, h, hf => by
  simp only [leafsF] at h
  split at h
  ·rename_i hc
   simp only [Option.bind_eq_some_iff, Option.some.injEq] at h
   obtain ⟨l, hl, r, hr, rfl⟩ := h
   have h1 := hF _ _ _ hl (hf f (.head _))
   have h2 := leafsF_ok hF hr fun g hg => hf g (.tail _ hg)
   have hlen : l.length = P.cellsOf f.type := by
    have := hc.2
    rw [hl] at this
    simpa using this
   rw [hc.1, ← hlen] at h1
   rw [← hlen] at h2
   have hsplit : (vs.drop n).take (l ++ r).length = (vs.drop n).take l.length ++ (vs.drop (n + l.length)).take r.length := by
    rw [List.length_append, List.take_add, List.drop_drop]
   rw [hsplit]
   exact h1.append h2
  ·cases h
theorem leafs_rep {l : List LT} {e : TypeId} (hF : ∀ vs, Fits P e vs → LVs P l vs) (hl : l.length = P.cellsOf e) {vs : List V} : ∀ {n i : Nat}, (∀ j, i ≤ j → j < i + n → Fits P e ((vs.drop (j * P.cellsOf e)).take (P.cellsOf e))) →
  LVs P (List.replicate n l).flatten ((vs.drop (i * P.cellsOf e)).take (n * P.cellsOf e))
 | 0, i, _ => by rw [Nat.zero_mul, List.take_zero]; trivial
 | n + 1, i, h => by
  have h1 := hF _ (h i (Nat.le_refl _) (by omega))
  have h2 := leafs_rep hF hl (n := n) (i := i + 1) fun j hj hk => h j (by omega) (by omega)
  rw [List.replicate_succ, List.flatten_cons, Nat.succ_mul, Nat.add_comm, List.take_add, List.drop_drop]
  rw [Nat.succ_mul] at h2
  exact h1.append h2
theorem fits_leafs : ∀ {d : Nat} {t : TypeId} {ls : List LT} {vs : List V}, leafs P d t = some ls → Fits P t vs → LVs P ls vs := by
 intro d
 induction d with
 | zero => intro t ls vs h; cases h
 | succ d ih =>
  intro t ls vs h hf
  unfold leafs at h
  split at h
  ·rename_i ht
   cases h
   obtain ⟨b, rfl⟩ := fits_bool ht hf
   exact ⟨⟨b, rfl⟩, trivial⟩
  ·rename_i ht
   cases h
   obtain ⟨n, rfl, hw⟩ := fits_int ht hf
   exact ⟨⟨n, rfl, hw⟩, trivial⟩
  ·rename_i ht
   cases h
   obtain ⟨s, rfl, hw⟩ := fits_str ht hf
   exact ⟨⟨s, rfl, hw⟩, trivial⟩
  ·rename_i ht
   cases h
   rcases fits_slice ht hf with rfl | ⟨xs, rfl, h1, h2⟩
   ·exact ⟨.inl rfl, trivial⟩
   ·exact ⟨.inr ⟨xs, rfl, h1, h2⟩, trivial⟩
  ·rename_i fs ht
   simp only [Option.bind_eq_some_iff] at h
   obtain ⟨l, hl, h⟩ := h
   split at h
   ·rename_i hc
    cases h
    cases hf with
    | struct _ ht2 hlen hff =>
     rw [ht] at ht2
     cases ht2
     have := leafsF_ok (vs := vs) (fun _ _ _ a b => ih a b) hl hff
     rwa [List.drop_zero, List.take_of_length_le (by omega)] at this
    | _ => simp_all
   ·cases h
  ·rename_i n e ht
   simp only [Option.bind_eq_some_iff] at h
   obtain ⟨l, hl, h⟩ := h
   split at h
   ·rename_i hc
    cases h
    cases hf with
    | array _ ht2 hlen hff =>
     rw [ht] at ht2
     cases ht2
     have := leafs_rep (vs := vs) (fun _ b => ih hl b) hc.1 (n := n) (i := 0) fun j _ hj => hff j (by omega)
     rwa [Nat.zero_mul, List.drop_zero, List.take_of_length_le (by omega)] at this
    | _ => simp_all
   ·cases h
  ·cases h
end
end Go.Proofs.YtdlijnfdkeimlaaDoor.Am

namespace Go.Proofs.YtdlijnfdkeimlaaDoor.Am
section
variable {P : Program} {W : World} {H : Type} {enc : TypeId × Value → H}
def AsLong (x : V) (d : DataW H) : Prop := ∀ o z xs, x = .slice o z xs → ∃ elems spare, d = .slice elems spare ∧ elems.length = xs.length
theorem asLong {x : V} {v : Value} {t : TypeId} {d : DataW H} {ps : List MemPlace} (hf : FitsV P t x) (ha : ArgOK W x v) (h : DataW.Trod enc P W 0 (fun _ => true) true t v d ps) : AsLong x d := by
 intro o z xs hx
 subst hx
 have hs : ∃ e, P.underlying t = some (.slice e) := by
  unfold FitsV at hf
  split at hf
  ·obtain ⟨cs, e, _⟩ := hf; cases e
  ·obtain ⟨cs, e, _⟩ := hf; cases e
  ·cases hf <;> first | exact ⟨_, by assumption⟩ | simp_all
 obtain ⟨e, ht⟩ := hs
 have hv : ∃ a cap, v = .slice (some a) xs.length cap := by
  cases ha with
  | leaf h => cases h with | slice _ _ a cap _ _ _ _ _ _ _ => exact ⟨a, cap, rfl⟩
 obtain ⟨a, cap, rfl⟩ := hv
 obtain ⟨fuel, h⟩ := h
 rcases DataW.trod_slice ht h with ⟨h1, _⟩ | ⟨a', len, cap', elems, rest, n, _, h1, h2, _, _, _, hel, _⟩
 ·simp [Value.cells] at h1
 ·simp only [Prod.mk.injEq] at h2
  refine ⟨_, _, h2.1, ?_⟩
  have e1 : len = xs.length := by
   have : (Value.slice (some a) xs.length cap).cells.toList = [.slice (some a) xs.length cap] := rfl
   rw [this] at h1
   injection h1 with h1 _
   injection h1 with _ h1 _
   exact h1.symm
  rw [List.length_map, hel, e1]
theorem asLongs : ∀ {ts : List TypeId} {vs : List Value} {ds : List (DataW H)} {ps : List MemPlace} {args : List V}, DataW.TrodAll enc P W 0 (fun _ => true) true ts vs ds ps → args.length = vs.length → (∀ (j : Nat) (t : TypeId), ts[j]? = some t → FitsV P t (args.getD j .undef)) → (∀ k, k < args.length → ArgOK W (args.getD k .undef) (vs.getD k undef)) →
  ∀ (j : Nat) (d : DataW H), ds[j]? = some d → AsLong (args.getD j .undef) d
 | [], vs, ds, ps, args, h, _, _, _, j, d, hd => by
  obtain ⟨rfl, rfl, rfl⟩ := ChangeShapes.trodAll_nil h
  simp at hd
 | t :: ts, vs, ds, ps, args, h, hl, hf, ha, j, d, hd => by
  obtain ⟨v, vs', dd, ds', p, q, rfl, rfl, rfl, h0, r0⟩ := ChangeShapes.trodAll_cons h
  match args, hl with
  | x :: args, hl =>
   cases j with
   | zero =>
    simp only [List.getElem?_cons_zero, Option.some.injEq] at hd
    subst hd
    exact asLong (hf 0 t rfl) (ha 0 (by simp)) h0
   | succ j =>
    exact asLongs r0 (by simpa using hl) (fun i t' hi => hf (i + 1) t' hi) (fun k hk => ha (k + 1) (by simpa using hk)) j d hd
theorem law_contractU [Lay P] {T : Table} (hLd : Laid P (g0 W) W) (hT : TableOK P T) {f : Nat} {fn : Func} {tb : TypeId} {s : ChangeSpec} {apart fresh handsOn again : Bool} {d : Nat} (hbool : P.underlying tb = some .bool) (hres : fn.resultTypes = #[tb]) (hvars : s.vars = [])
  (hspec : ∀ ds : List (DataW H), ds.length = fn.params.toList.length → s.fn H ds = { results := [.lit (.bool true)], args := ds }) (hl : laidOutB P = true) (hr : (fn.params.toList.all fun t => P.readableRec t && decide (t < P.types.size)) = true)
  (hsup : fn.params.toList.all (supT P d) = true) {base : Nat} {args : Array Value} {ds gs : List (DataW H)} {before : List MemPlace}
  (law : ds.length = fn.params.toList.length → ∀ zs9 : List V, zs9.length = fn.params.toList.length → (∀ (j : Nat) (t : TypeId), fn.params.toList[j]? = some t → FitsV P t (zs9.getD j .undef)) → (∀ (j : Nat) (d : DataW H), ds[j]? = some d → AsLong (zs9.getD j .undef) d) → ∃ m', RF T f zs9 [] = some (.bool true, m'))
  (hval : ∀ (j : Nat) t v, fn.params[j]? = some t → args[j]? = some v → Value.okWide P W .any base t v) (hW : DataW.Whole enc P fn.params.toList s.vars apart W args.toList ds gs before) :
  Calls P f args W fun e W' => ∃ v, e = .returned v ∧ s.post enc P fn apart fresh handsOn again W args v W' := by
 have hW' := hW
 obtain ⟨p, q, hA, hV, rfl, hfz, hnd⟩ := hW
 rw [hvars] at hV
 obtain ⟨rfl, rfl⟩ := ChangeShapes.trodVars_none hV
 obtain ⟨zs9, h1, h2, h3, h4⟩ := args_of (base := base) hsup (fun j t v hj hv => hval j t v (by simpa using hj) (by simpa using hv)) hA
 obtain ⟨m', hm⟩ := law (trodAll_len hA) zs9 (by rw [h1, h2]) h3 (asLongs hA h1 h3 h4)
 have hds : ds.length = fn.params.toList.length := trodAll_len hA
 refine (law_calls hLd hT hm h1 h4).mono fun e W' ⟨he, hb⟩ => ?_
 subst he
 have hsp : s.fn H (ds ++ []) = { results := [.lit (.bool true)], args := ds } := by rw [List.append_nil]; exact hspec ds hds
 refine ⟨_, rfl, post_of_below (pa := p) (pv := []) hW' (fun b sp hd => ?_) (fun sp hspb => ?_) (fun sp _ => ?_) rfl hb (RowKit.ok_one hres rfl (RowKit.okWide_bool_mk hbool _))⟩
 ·rw [hsp, hres]
  exact trodAll_cons_mk (RowKit.shut_bool hbool true) rfl
 ·rw [hsp]
  exact args_stay hl hr hA (fun x hx => hb.same (hW'.lt x (by simpa using hx))) (fun x hx => hspb x (by simpa using hx))
 ·rw [hsp, hvars]; exact rfl
end
end Go.Proofs.YtdlijnfdkeimlaaDoor.Am

set_option linter.all false
namespace Go.Proofs.YtdlijnfdkeimlaaDoor.Am.Keys
open Go.Proofs.YtdlijnfdkeimlaaDoor.Am.T
theorem wf8 {n : Int} (h : (Lit.int .u8 n).wf = true) : 0 ≤ n ∧ n < 256 := by
  simp [Lit.wf, IntKind.min, IntKind.max, IntKind.signed, IntKind.bits] at h
  omega
theorem den_one {k : IntKind} (l : List Int) : Pw (Pw Den0) (l.map fun n => [TV.int k n]) (l.map fun n => [V.int k n]) := by
  induction l with
  | nil => exact .nil
  | cons x l ih => exact .cons (.cons (.int _ _) .nil) ih
theorem fits_bytes {P : Program} {t e : TypeId} (ht : P.underlying t = some (.slice e)) (he : P.underlying e = some (.int .u8)) (hc : P.cellsOf e = 1) {x : V} (h : Fits P t [x]) :
    ∃ l : List Int, Den [] (.sl false 1 (l.map by8)) x ∧ Byts l ∧ l.length ≤ maxLen := by
  rcases fits_slice ht h with h | ⟨xs, h, hl, hx⟩
  · injection h with h _; subst h; exact ⟨[], .base (.sln false 1), (fun _ h => by cases h), Nat.zero_le _⟩
  · injection h with h _; subst h
    obtain ⟨l, rfl, hb⟩ := list_of (f := fun n : Int => [V.int .u8 n]) (Q := fun n => 0 ≤ n ∧ n < 256) fun x hm => by
      obtain ⟨n, rfl, hw⟩ := fits_int he (hx x hm)
      exact ⟨n, rfl, wf8 hw⟩
    rw [hc]
    exact ⟨l, .base (.sl false 1 (den_one l)), hb, by simpa using hl⟩
theorem den_long {H : Type} {ρ : List Nat} {w : Bool} {z : Nat} {ys : List (List TV)} {x : V} {d : DataW H} (h : Den ρ (.sl w z ys) x) (ha : AsLong x d) : ys.length = 0 ∨ ∃ elems spare, d = .slice elems spare ∧ elems.length = ys.length := by
  rcases den_sl h with ⟨_, rfl⟩ | ⟨zs, rfl, hp⟩
  · exact .inl rfl
  · obtain ⟨elems, spare, e, hl⟩ := ha _ _ _ rfl
    exact .inr ⟨elems, spare, e, by rw [hl, hp.length]⟩
def isStr : Option TypeDesc → Bool
  | some (.struct _) => true
  | _ => false
theorem fits_key {P : Program} {t : TypeId} (hi : isStr (P.underlying t) = true) (hl : leafs P 8 t = some [.int .i32, .int .i64]) {x : V} (h : FitsV P t x) : ∃ k : Key, Den [] (.agg k.c) x := by
  obtain ⟨fs, ht⟩ : ∃ fs, P.underlying t = some (.struct fs) := by
    unfold isStr at hi
    split at hi
    · exact ⟨_, by assumption⟩
    · cases hi
  unfold FitsV at h
  rw [ht] at h
  obtain ⟨cs, rfl, hf⟩ := h
  have h3 := fits_leafs hl hf
  have h4 : cs.length = 2 := h3.len
  match cs, h4 with
  | [x1, x2], _ =>
    obtain ⟨h1, h2, _⟩ := h3
    obtain ⟨a, rfl, _⟩ := h1
    obtain ⟨b, rfl, _⟩ := h2
    exact ⟨⟨a, b⟩, .agg (.cons (.base (.int _ _)) (.cons (.base (.int _ _)) .nil))⟩
theorem keysReads_ok {b : List Int} {k : Key} {x y : V} (hx : Den [] (.sl false 1 (b.map by8)) x) (hy : Den [] (.agg k.c) y) (hb : Byts b) (hl : b.length ≤ 1048576) : ∃ m', RF ET 4 [x, y] [] = some (.bool true, m') :=
  CallT.law (casementlaw18_KeysReads_ok (reads_pure hb (by have := most_is; omega))) (.cons hx (.cons hy .nil))
end Go.Proofs.YtdlijnfdkeimlaaDoor.Am.Keys

/-
KeysReads answers true where the input is of bounded bulk; the input reads as it did.
-/
namespace Go.Proofs.YtdlijnfdkeimlaaDoor
open Go.Proofs.YtdlijnfdkeimlaaDoor.Am Go.Proofs.YtdlijnfdkeimlaaDoor.Am.Keys
open Go.ChangeShapes Go.WideShapes Go.ChangeAt Go.RowKit
namespace keysReadsUpto
theorem shape (l : List V) (h : l.length = 2) : ∃ x0 x1, l = [x0, x1] := by
  match l, h with
  | [x0, x1], _ => exact ⟨x0, x1, rfl⟩
theorem own : ownKnob Tryd.prog.godebug = none := by kernel_rfl
theorem laidB : laidOutB Tryd.prog = true := by kernel_rfl
theorem one_le {H : Type} (d : DataW H) : 1 ≤ Rows.uptoBulk d := by
  cases d with
  | lit l => cases l <;> simp [Rows.uptoBulk]
  | _ => simp [Rows.uptoBulk]
theorem part_le {H : Type} {d : DataW H} {l : List (DataW H)} (h : d ∈ l) : Rows.uptoBulk d ≤ Rows.uptoBulkAll l := by
  induction l with
  | nil => cases h
  | cons x r ih =>
    simp only [Rows.uptoBulkAll]
    cases List.mem_cons.1 h with
    | inl e => subst e; omega
    | inr e => have := ih e; omega
theorem append_le {H : Type} (l r : List (DataW H)) : Rows.uptoBulkAll l ≤ Rows.uptoBulkAll (l ++ r) := by
  induction l with
  | nil => exact Nat.zero_le _
  | cons x l ih => rw [List.cons_append]; simp only [Rows.uptoBulkAll]; omega
theorem len_le {H : Type} (l : List (DataW H)) : l.length ≤ Rows.uptoBulkAll l := by
  induction l with
  | nil => exact Nat.zero_le _
  | cons x l ih => simp only [Rows.uptoBulkAll, List.length_cons]; have := one_le x; omega
theorem slice_le {H : Type} {n : Nat} {d : DataW H} (h : n = 0 ∨ ∃ elems spare, d = .slice elems spare ∧ elems.length = n) (hb : Rows.uptoBulk d ≤ 1048576) : n ≤ 1048576 := by
  rcases h with rfl | ⟨elems, spare, rfl, rfl⟩
  · omega
  · have := len_le elems
    simp only [Rows.uptoBulk] at hb
    omega
set_option maxRecDepth 100000 in
theorem law {H : Type} (ds : List (DataW H)) (hk : Rows.uptoBulkAll ds ≤ 1048576) (hds : ds.length = Tryd.f4.params.toList.length) (l : List V) (hl : l.length = Tryd.f4.params.toList.length) (h : ∀ (j : Nat) (t : TypeId), Tryd.f4.params.toList[j]? = some t → FitsV Tryd.prog t (l.getD j .undef)) (hlong : ∀ (j : Nat) (d : DataW H), ds[j]? = some d → AsLong (l.getD j .undef) d) : ∃ m', RF ET 4 l [] = some (.bool true, m') := by
  have hln : l.length = 2 := hl
  have hdn : ds.length = 2 := hds
  obtain ⟨x0, x1, rfl⟩ := shape l hln
  match ds, hdn with
  | [d0, d1], _ =>
    have h0 := h 0 25 (by kernel_rfl)
    have k0 := hlong 0 _ rfl
    have b0 : Rows.uptoBulk d0 ≤ 1048576 := Nat.le_trans (part_le (by simp)) hk
    have h1 := h 1 42 (by kernel_rfl)
    have k1 := hlong 1 _ rfl
    have b1 : Rows.uptoBulk d1 ≤ 1048576 := Nat.le_trans (part_le (by simp)) hk
    have u5 : Tryd.prog.underlying 5 = some (.int .u8) := by kernel_rfl
    have t0 : Tryd.prog.underlying 25 = some (.slice 5) := by kernel_rfl
    obtain ⟨b, hx, hb, _⟩ := fits_bytes t0 u5 (by kernel_rfl) (fitsV_leaf t0 h0 (fun _ e => by cases e) (fun _ _ e => by cases e))
    obtain ⟨k, hy⟩ := fits_key (by kernel_rfl) (by kernel_rfl) h1
    have e0 := slice_le (den_long hx k0) b0
    rw [List.length_map] at e0
    exact keysReads_ok hx hy hb e0
noncomputable def laidWorld (os : Os) : World :=
  { World.holding Tryd.prog os ⟨#[], #[], []⟩ with heap := (((World.holding Tryd.prog os ⟨#[], #[], []⟩).heap.modify 0 fun
      | .cells _ t frozen => .cells ((Go.Pinned.utf8FirstZ.map fun (n : Nat) => Value.int .u8 n).toArray) t frozen
      | o => o).modify 1 fun
      | .cells _ t frozen => .cells #[.int .u8 128, .int .u8 191, .int .u8 160, .int .u8 191, .int .u8 128, .int .u8 159, .int .u8 144, .int .u8 191, .int .u8 128, .int .u8 143, .int .u8 0, .int .u8 0, .int .u8 0, .int .u8 0, .int .u8 0, .int .u8 0, .int .u8 0, .int .u8 0, .int .u8 0, .int .u8 0, .int .u8 0, .int .u8 0, .int .u8 0, .int .u8 0, .int .u8 0, .int .u8 0, .int .u8 0, .int .u8 0, .int .u8 0, .int .u8 0, .int .u8 0, .int .u8 0] t frozen
      | o => o) }
theorem laid_met (os : Os) : laidMet Tryd.prog Rows.keysReadsUptoRow.laid ((laidWorld os).forCall (fun _ _ => 0) ⟨#[], #[.slice none 0 0, .agg #[.int .i32 0, .int .i64 0]], []⟩).memory :=
  laidMet_of_run' 8 (by kernel_rfl) (by kernel_rfl)
theorem reads (os : Os) {H : Type} (enc : TypeId × Value → H) : ∃ places, DataW.whole enc Tryd.prog ((laidWorld os).forCall (fun _ _ => 0) ⟨#[], #[.slice none 0 0, .agg #[.int .i32 0, .int .i64 0]], []⟩).memory Tryd.f4.params.toList Rows.keysReadsSpec.vars false (#[.slice none 0 0, .agg #[.int .i32 0, .int .i64 0]] : Array Value).toList 8 = some ([.nil, .agg [.lit (.int .i32 0), .lit (.int .i64 0)]], [], places) :=
  ⟨[], by kernel_rfl⟩
set_option maxRecDepth 100000 in
theorem lifted (os : Os) (started : os.Started) (H : Type) (enc : TypeId × Value → H) (F : Stop.Interp) :
    ReturnsInHanded {} Tryd.checked os 4 .any ((Rows.OpenSpec.upto Rows.keysReadsSpec).preRow enc Tryd.prog Tryd.f4 Rows.keysReadsUptoRow.domain false Rows.keysReadsUptoRow.laid) (((Rows.OpenSpec.upto Rows.keysReadsSpec).at F).post enc Tryd.prog Tryd.f4 false true false false) := by
  obtain ⟨places, hx⟩ := reads os enc
  refine returnsInHanded_of_row (C := Tryd.checked) (s := (Rows.OpenSpec.upto Rows.keysReadsSpec)) own started (by kernel_rfl) Tryd.func4
    (witness_row_at (enc := enc) (C := Tryd.checked) false (laidWorld os) #[.slice none 0 0, .agg #[.int .i32 0, .int .i64 0]] rfl (by kernel_rfl) (by kernel_rfl) (by kernel_rfl)
      (OpenSpec.preRow_of_cond 8 hx (by kernel_rfl) (fun k hk => by cases hk; kernel_rfl) (by kernel_rfl) (laid_met os))) ?_
  intro W base args ds gs before hval hW _ hk _ hlaid _ _
  have hk2 : Rows.uptoBulkAll ds ≤ 1048576 := Nat.le_trans (append_le ds gs) (of_decide_eq_true (hk Rows.uptoSmall rfl))
  exact law_contractU (laid_of hlaid (by kernel_rfl) (by kernel_rfl)) ET_ok (tb := 4) (d := 8) (by kernel_rfl) (by kernel_rfl) rfl
    (fun ds hd => by
      have hdn : ds.length = 2 := hd
      match ds, hdn with
      | [_, _], _ => rfl) laidB (by kernel_rfl) (by kernel_rfl) (law ds hk2) hval hW
theorem said : Rows.KeysReadsUptoSaid :=
  OpenClaim.holds_of_cond 4 Tryd.f4 rfl rfl rfl rfl rfl rfl rfl ⟨rfl, rfl, rfl, rfl, rfl⟩ rfl rfl rfl rfl rfl (by kernel_rfl) Tryd.func4 (by kernel_rfl)
    (of_decide_eq_true (by kernel_rfl)) (by unfold Func.isWrapper; first | (rw [if_pos (by decide +kernel)]; kernel_rfl) | (rw [if_neg (by decide +kernel)]; exact ⟨rfl, rfl⟩))
    (fun os started H enc _ F => by rw [OpenClaim.pre_eq_preRow]; exact lifted os started H enc F)
theorem nowant : (Tryd.f4.params.toList.all fun t => Tryd.prog.wantsStandIn t == false) = true := by kernel_rfl
theorem plain (f : FuncId) (fn : Func) (hf : Tryd.pinned.checked.prog.funcNamed "casement/casementlaw18.KeysReads" = some f) (hfn : Tryd.pinned.checked.prog.funcs[f]? = some fn) :
    false = Tryd.pinned.checked.prog.looks [] ∧ ∀ (j : Nat) t, fn.params[j]? = some t → Tryd.pinned.checked.prog.wantsStandIn t = false := by
  obtain rfl : f = 4 := Option.some.inj ((show Tryd.prog.funcNamed "casement/casementlaw18.KeysReads" = some 4 by kernel_rfl).symm.trans hf) |>.symm
  obtain rfl : fn = Tryd.f4 := (Option.some.inj (Tryd.func4.symm.trans hfn)).symm
  refine ⟨by kernel_rfl, fun j t ht => ?_⟩
  exact beq_iff_eq.1 (List.all_eq_true.1 nowant t (Array.mem_toList_iff.2 (Array.mem_of_getElem? ht)))
theorem holds : Rows.KeysReadsUptoCardSaid :=
  Claim7.holds_tied_plain_at .later [] _ _ _ _ said (fun _ h => by cases h) (by kernel_rfl) (fun _ h => by cases h) keysReadsUpto_row_tie rfl ⟨rfl, rfl⟩ (by kernel_rfl) rfl plain (by kernel_rfl)
#print axioms holds
end keysReadsUpto
end Go.Proofs.YtdlijnfdkeimlaaDoor
