/-
LayoutStacks answers true whatever its input; the input reads as it did.
-/
import Derived.Test.YtakdnfneikbjjaaGreatDoorAmLayoutStacksRow5
import Derived.ChangeReads
import Derived.ChangeArms
import Derived.Carry
import Derived.OpenShut
import Derived.ChangeSame
import Derived.RowKit
import Derived.Test.YtakdnfneikbjjaaGreatDoorCards
import Derived.Test.YtakdnfneikbjjaaGreatDoorTie
import Derived.WalkKit
import Derived.ProofKit
import Derived.Deep.DeepHandedRow
import Derived.Lib.LaidTab
set_option linter.all false
namespace Go.Proofs.YtakdnfneikbjjaaGreatDoor.Am.Lay10
open Go.Proofs.YtakdnfneikbjjaaGreatDoor.Am.T
def sizeOK (s : Size) : Prop := s.Kind = 0 ∨ (s.Kind = 1 ∧ 1 ≤ s.N ∧ s.N ≤ 200) ∨ (s.Kind = 2 ∧ 1 ≤ s.N ∧ s.N ≤ 100)
instance (s : Size) : Decidable (sizeOK s) := by unfold sizeOK; infer_instance
theorem check_is (s : Size) : solve_Check s = some (if sizeOK s then 0 else 1) := by
  unfold solve_Check sizeOK
  simp only [letB, Option.bind_some, and_s]
  by_cases h0 : s.Kind = 0
  · simp [h0]
  · by_cases h1 : s.Kind = 1
    · have h2 : ¬ s.Kind = 2 := by omega
      by_cases ha : s.N ≥ 1 <;> by_cases hb : s.N ≤ 200 <;> simp [h1, ha, hb]
    · by_cases h2 : s.Kind = 2
      · by_cases ha : s.N ≥ 1 <;> by_cases hb : s.N ≤ 100 <;> simp [h2, ha, hb]
      · simp [h0, h1, h2]
def kindOK (p : Plan) : Prop := p.Kind = 2 ∨ p.Kind = 3 ∨ p.Kind = 4
instance (p : Plan) : Decidable (kindOK p) := by unfold kindOK; infer_instance
def mKids (f : Plan → Int → Bool × Int) (q : Plan) : List Plan → Int → Bool × Int
  | [], n => (true, n)
  | k :: ks, n => if q.Kind = 4 ∧ k.Kind ≠ 1 then (false, n) else if (f k n).1 = true then mKids f q ks (f k n).2 else (false, (f k n).2)
def mT : Nat → Plan → Int → Bool × Int
  | 0, _, n => (false, n)
  | d + 1, p, n => if ¬ sizeOK p.Size then (false, n) else if p.Kind = 1 then (decide (n + 1 ≤ 24), n + 1) else
    if ¬ kindOK p then (false, n) else if p.Kids.length < 1 ∨ 16 < p.Kids.length then (false, n) else mKids (mT d) p p.Kids n
def Rng (n : Int) (r : Bool × Int) : Prop := n ≤ r.2 ∧ r.2 ≤ 25 ∧ (r.1 = true → r.2 ≤ 24)
theorem mKids_range {f : Plan → Int → Bool × Int} {q : Plan} (hf : ∀ k n, 0 ≤ n → n ≤ 24 → Rng n (f k n)) : ∀ (ks : List Plan) (n : Int), 0 ≤ n → n ≤ 24 → Rng n (mKids f q ks n)
  | [], n, h0, h1 => ⟨Int.le_refl _, by show n ≤ 25; omega, fun _ => h1⟩
  | k :: ks, n, h0, h1 => by
    have h2 := hf k n h0 h1
    unfold mKids
    split
    · exact ⟨Int.le_refl _, by show n ≤ 25; omega, fun h => by cases h⟩
    · split
      · rename_i hb
        have h3 := h2.2.2 hb
        have h4 := h2.1
        have := mKids_range (q := q) hf ks (f k n).2 (by omega) h3
        exact ⟨Int.le_trans h4 this.1, this.2.1, this.2.2⟩
      · exact ⟨h2.1, h2.2.1, fun h => by cases h⟩
theorem mT_range : ∀ (d : Nat) (p : Plan) (n : Int), 0 ≤ n → n ≤ 24 → Rng n (mT d p n)
  | 0, p, n, h0, h1 => ⟨Int.le_refl _, by show n ≤ 25; omega, fun h => by cases h⟩
  | d + 1, p, n, h0, h1 => by
    have triv : Rng n (false, n) := ⟨Int.le_refl _, by show n ≤ 25; omega, fun h => by cases h⟩
    unfold mT
    split
    · exact triv
    · split
      · exact ⟨by show n ≤ n + 1; omega, by show n + 1 ≤ 25; omega, fun h => of_decide_eq_true h⟩
      · split
        · exact triv
        · split
          · exact triv
          · exact mKids_range (mT_range d) _ _ h0 h1
theorem kids_is {rec : Plan → Int → Int → Option (Bool × Int)} {p : Plan} {deep : Int} {f : Plan → Int → Bool × Int} (hd : 0 ≤ deep ∧ deep ≤ 100) (hl : p.Kids.length ≤ 16) (hr : ∀ k n, 0 ≤ n → n ≤ 24 → rec k (deep + 1) n = some (f k n)) (hf : ∀ k n, 0 ≤ n → n ≤ 24 → Rng n (f k n)) :
    ∀ (ks : List Plan) (i : Nat) (n : Int), 0 ≤ n → n ≤ 24 → i + ks.length = p.Kids.length → p.Kids.drop i = ks →
    ∃ j, iter (fun s => layout_measureF_l1 p deep rec s.1 s.2 : (Int × Int) → Option ((Int × Int) ⊕ ((Plan × Int) ⊕ Int))) ((i : Int), n) = some j ∧ (match j with | .inl z => (false, z.2) | .inr z => (true, z)) = mKids f p ks n
  | [], i, n, h0, h1, hi, hk => by
    refine ⟨.inr n, iter_inr ?_, rfl⟩
    simp only [layout_measureF_l1, letB]
    rw [decide_eq_false (by simp only [List.length_nil] at hi; omega)]; rfl
  | k :: ks, i, n, h0, h1, hi, hk => by
    simp only [List.length_cons] at hi
    have hlt : i < p.Kids.length := by omega
    have hget : p.Kids[i] = k := by
      have := List.getElem_drop (xs := p.Kids) (i := i) (j := 0) (h := by simp; omega)
      simp only [hk, List.getElem_cons_zero, Nat.add_zero] at this
      exact this.symm
    have hidx : idx p.Kids (i : Int) = some k := by
      rw [idx_is (d := p) (by omega) (by omega), Int.toNat_natCast, List.getD_eq_getElem?_getD, List.getElem?_eq_getElem hlt, hget]; rfl
    have hdrop : p.Kids.drop (i + 1) = ks := by rw [← List.drop_drop, hk]; rfl
    have key : layout_measureF_l1 p deep rec (i : Int) n = if p.Kind = 4 ∧ k.Kind ≠ 1 then some (.inr (.inl (k, n))) else if (f k n).1 = true then some (.inl (((i + 1 : Nat) : Int), (f k n).2)) else some (.inr (.inl (k, (f k n).2))) := by
      simp only [layout_measureF_l1, letB]
      rw [decide_eq_true (show (i : Int) < (p.Kids.length : Int) by omega), w64_id (by omega) (by omega), w64_id (by omega) (by omega)]
      simp only [cond_true, hidx, Option.bind_some, and_s]
      by_cases h4 : p.Kind = 4 ∧ k.Kind ≠ 1
      · rw [decide_eq_true h4.1, decide_eq_true h4.2, if_pos h4]; rfl
      · rw [if_neg h4]
        have : (decide (p.Kind = 4) && decide (k.Kind ≠ 1)) = false := by
          simp only [Bool.and_eq_false_iff, decide_eq_false_iff_not]
          by_cases h : p.Kind = 4
          · exact .inr fun hh => h4 ⟨h, hh⟩
          · exact .inl h
        rw [this, hr k n h0 h1]
        simp only [cond_false, Option.bind_some]
        cases (f k n).1 <;> rfl
    unfold mKids
    by_cases h4 : p.Kind = 4 ∧ k.Kind ≠ 1
    · rw [if_pos h4] at key ⊢
      exact ⟨_, iter_inr key, rfl⟩
    · rw [if_neg h4] at key ⊢
      by_cases hb : (f k n).1 = true
      · rw [if_pos hb] at key ⊢
        obtain ⟨r1, r2, r3⟩ := hf k n h0 h1
        obtain ⟨j, e1, e2⟩ := kids_is hd hl hr hf ks (i + 1) (f k n).2 (by omega) (r3 hb) (by omega) hdrop
        exact ⟨j, (iter_inl key).trans e1, e2⟩
      · rw [if_neg hb] at key ⊢
        exact ⟨_, iter_inr key, rfl⟩
theorem kind_is {p : Plan} : (Option.bind (bif decide (p.Kind = 2) then some (decide (p.Kind = 2)) else Option.bind (bif decide (p.Kind = 3) then some (decide (p.Kind = 3)) else some (decide (p.Kind = 4))) fun j15 => some j15) fun j => some j) = some (decide (kindOK p)) := by
  unfold kindOK
  by_cases h2 : p.Kind = 2
  · simp [h2]
  · by_cases h3 : p.Kind = 3
    · simp [h3]
    · simp [h2, h3]
theorem measure_is : ∀ (d k : Nat) (deep : Int) (p : Plan) (n : Int), deep = 13 - (d : Int) → d ≤ 12 → d + 1 ≤ k → 0 ≤ n → n ≤ 24 → layout_measureG k p deep n = some (mT d p n)
  | d, 0, deep, p, n, hd, hd2, hk, h0, h1 => by omega
  | 0, k + 1, deep, p, n, hd, hd2, hk, h0, h1 => by
    show layout_measureF (layout_measureG k) p deep n = _
    unfold layout_measureF
    simp only [letB]
    rw [decide_eq_true (show deep > 12 by omega)]
    rfl
  | d + 1, k + 1, deep, p, n, hd, hd2, hk, h0, h1 => by
    show layout_measureF (layout_measureG k) p deep n = _
    unfold layout_measureF mT
    simp only [letB]
    rw [decide_eq_false (show ¬ deep > 12 by omega), check_is, w64_id (n := n + 1) (by omega) (by omega)]
    simp only [cond_false, Option.bind_some]
    by_cases hs : sizeOK p.Size
    · rw [if_pos hs, if_neg (by simpa using hs)]
      simp only [ne_eq, not_true_eq_false, decide_false, cond_false]
      by_cases hk1 : p.Kind = 1
      · rw [if_pos hk1, decide_eq_true hk1]; rfl
      · rw [if_neg hk1, decide_eq_false hk1]
        simp only [cond_false]
        have hkd := kind_is (p := p)
        by_cases hko : kindOK p
        · rw [if_neg (by simpa using hko)]
          rw [decide_eq_true hko] at hkd
          have hkd2 : (Option.bind (bif decide (p.Kind = 2) then some (decide (p.Kind = 2)) else Option.bind (bif decide (p.Kind = 3) then some (decide (p.Kind = 3)) else some (decide (p.Kind = 4))) fun j15 => some j15) fun j16 => (bif j16 then some (.inl ()) else some (.inr (false, n)) : Option (Unit ⊕ (Bool × Int)))) = some (.inl ()) := by
            have := congrArg (fun o => Option.bind o fun j => (bif j then some (.inl ()) else some (.inr (false, n)) : Option (Unit ⊕ (Bool × Int)))) hkd
            simpa only [Option.bind_assoc, Option.bind_some, cond_true] using this
          rw [hkd2]
          simp only [Option.bind_some, or_s]
          by_cases hlen : p.Kids.length < 1 ∨ 16 < p.Kids.length
          · rw [if_pos hlen]
            have : (decide ((p.Kids.length : Int) < 1) || decide ((p.Kids.length : Int) > 16)) = true := by
              simp only [Bool.or_eq_true, decide_eq_true_eq]; omega
            rw [this]; rfl
          · rw [if_neg hlen]
            have : (decide ((p.Kids.length : Int) < 1) || decide ((p.Kids.length : Int) > 16)) = false := by
              simp only [Bool.or_eq_false_iff, decide_eq_false_iff_not]; omega
            rw [this]
            simp only [cond_false]
            obtain ⟨j, e1, e2⟩ := kids_is (f := mT d) (rec := layout_measureG k) (p := p) (deep := deep) ⟨by omega, by omega⟩ (by omega) (fun x m a b => measure_is d k (deep + 1) x m (by omega) (by omega) (by omega) a b) (mT_range d) p.Kids 0 n h0 h1 (by omega) rfl
            rw [show (0 : Int) = ((0 : Nat) : Int) from rfl, e1, ← e2]
            simp only [Option.bind_some]
            cases j <;> rfl
        · rw [if_pos (by simpa using hko)]
          rw [decide_eq_false hko] at hkd
          have hkd2 : (Option.bind (bif decide (p.Kind = 2) then some (decide (p.Kind = 2)) else Option.bind (bif decide (p.Kind = 3) then some (decide (p.Kind = 3)) else some (decide (p.Kind = 4))) fun j15 => some j15) fun j16 => (bif j16 then some (.inl ()) else some (.inr (false, n)) : Option (Unit ⊕ (Bool × Int)))) = some (.inr (false, n)) := by
            have := congrArg (fun o => Option.bind o fun j => (bif j then some (.inl ()) else some (.inr (false, n)) : Option (Unit ⊕ (Bool × Int)))) hkd
            simpa only [Option.bind_assoc, Option.bind_some, cond_false] using this
          rw [hkd2]
          rfl
    · rw [if_neg hs, if_pos hs]; rfl
theorem check_plan (p : Plan) : layout_Check p = some (if (mT 12 p 0).1 = true ∧ (p.Float.length : Int) ≤ 24 - (mT 12 p 0).2 then 0 else 100) := by
  have h := mT_range 12 p 0 (by omega) (by omega)
  unfold Rng at h
  unfold layout_Check layout_measure
  rw [measure_is 12 30 1 p 0 (by omega) (by omega) (by omega) (by omega) (by omega)]
  simp only [Option.bind_some, letB, or_s]
  generalize mT 12 p 0 = r at *
  rw [w64_id (by omega) (by omega)]
  cases hb : r.1 with
  | false => rw [if_neg (by simp)]; rfl
  | true =>
    by_cases hf : (p.Float.length : Int) ≤ 24 - r.2
    · rw [if_pos ⟨rfl, hf⟩, decide_eq_false (by omega)]; rfl
    · rw [if_neg (fun h => hf h.2), decide_eq_true (by omega)]; rfl
end Go.Proofs.YtakdnfneikbjjaaGreatDoor.Am.Lay10

set_option linter.all false
namespace Go.Proofs.YtakdnfneikbjjaaGreatDoor.Am.Lay10
open Go.Proofs.YtakdnfneikbjjaaGreatDoor.Am.T
def sumI : List Int → Int
  | [] => 0
  | x :: l => x + sumI l
theorem sumI_set : ∀ (l : List Int) (i : Nat) (v : Int) (h : i < l.length), sumI (l.set i v) = sumI l - l[i] + v
  | x :: l, 0, v, h => by simp only [List.set_cons_zero, sumI, List.getElem_cons_zero]; omega
  | x :: l, i + 1, v, h => by
    have := sumI_set l i v (by simpa using h)
    simp only [List.set_cons_succ, sumI, List.getElem_cons_succ, this]; omega
theorem sumI_ge : ∀ (l : List Int), (∀ x ∈ l, 1 ≤ x) → (l.length : Int) ≤ sumI l
  | [], _ => by simp [sumI]
  | x :: l, h => by
    have := sumI_ge l fun y hy => h y (.tail _ hy)
    have := h x (.head _)
    simp only [sumI, List.length_cons]; omega
theorem sumI_mem : ∀ (l : List Int), (∀ x ∈ l, 1 ≤ x) → ∀ x ∈ l, x ≤ sumI l
  | y :: l, h, x, hx => by
    have h1 := sumI_ge l fun y hy => h y (.tail _ hy)
    have h2 := h y (.head _)
    simp only [sumI]
    rcases List.mem_cons.1 hx with rfl | hx
    · omega
    · have := sumI_mem l (fun y hy => h y (.tail _ hy)) x hx; omega
theorem sumI_ones : ∀ (l : List Int), (∀ x ∈ l, x = 1) → sumI l = l.length
  | [], _ => rfl
  | x :: l, h => by
    have := sumI_ones l fun y hy => h y (.tail _ hy)
    have := h x (.head _)
    simp only [sumI, List.length_cons]; omega
theorem idx_nat {α : Type} {l : List α} {i : Nat} (h : i < l.length) : idx l (i : Int) = some l[i] := by
  unfold idx
  rw [if_pos (by omega), Int.toNat_natCast, List.getElem?_eq_getElem h]
theorem app_one {α : Type} {l : List α} {x : α} (h : l.length < 1000000) : app l [x] = some (l ++ [x]) := by
  unfold app
  rw [if_pos (by rw [most_is]; simp; omega)]
theorem drop_get {α : Type} {l ks : List α} {k : α} {i : Nat} (hk : l.drop i = k :: ks) : ∃ h : i < l.length, l[i] = k ∧ l.drop (i + 1) = ks := by
  have hlt : i < l.length := by
    have := congrArg List.length hk
    simp at this; omega
  refine ⟨hlt, ?_, by rw [← List.drop_drop, hk]; rfl⟩
  have := List.drop_eq_getElem_cons hlt
  rw [hk] at this
  exact (List.cons.inj this).1.symm
def wT (total : Int) (s : Size) : Int := if s.Kind = 1 then s.N else if s.Kind = 2 then max (Int.tdiv (total * s.N) 100) 1 else 1
theorem wT_range {total : Int} {s : Size} (h0 : 0 ≤ total) (h1 : total ≤ 200) (hs : sizeOK s) : 1 ≤ wT total s ∧ wT total s ≤ 200 := by
  unfold wT
  unfold sizeOK at hs
  split
  · omega
  · split
    · have hn : 1 ≤ s.N ∧ s.N ≤ 100 := by omega
      have e1 : total * s.N ≤ total * 100 := Int.mul_le_mul_of_nonneg_left hn.2 h0
      have e2 : 0 ≤ total * s.N := Int.mul_nonneg h0 (by omega)
      rw [Int.tdiv_eq_ediv_of_nonneg e2]
      omega
    · omega
theorem wants_is {total : Int} {s : Size} (h0 : 0 ≤ total) (h1 : total ≤ 200) (hs : sizeOK s) : solve_wants total s = some (wT total s) := by
  unfold solve_wants wT
  simp only [letB]
  unfold sizeOK at hs
  by_cases k1 : s.Kind = 1
  · rw [decide_eq_true k1, if_pos k1]; rfl
  · rw [decide_eq_false k1, if_neg k1]
    by_cases k2 : s.Kind = 2
    · have hn : 1 ≤ s.N ∧ s.N ≤ 100 := by omega
      have e1 : total * s.N ≤ total * 100 := Int.mul_le_mul_of_nonneg_left hn.2 h0
      have e2 : 0 ≤ total * s.N := Int.mul_nonneg h0 (by omega)
      rw [decide_eq_true k2, if_pos k2, w64_id (n := total * s.N) (by omega) (by omega), Int.tdiv_eq_ediv_of_nonneg e2, w64_id (by omega) (by omega)]
      rfl
    · rw [decide_eq_false k2, if_neg k2]; rfl
def flx : List Size → Nat → List Int
  | [], _ => []
  | s :: ss, i => if s.Kind = 0 then (i : Int) :: flx ss (i + 1) else flx ss (i + 1)
theorem flx_len : ∀ (ss : List Size) (i : Nat), (flx ss i).length ≤ ss.length
  | [], _ => Nat.le_refl _
  | s :: ss, i => by
    have := flx_len ss (i + 1)
    unfold flx
    split <;> simp only [List.length_cons] <;> omega
theorem flx_mem : ∀ (ss : List Size) (i : Nat) (x : Int), x ∈ flx ss i → (i : Int) ≤ x ∧ x < i + ss.length
  | s :: ss, i, x, h => by
    unfold flx at h
    simp only [List.length_cons]
    split at h
    · rcases List.mem_cons.1 h with rfl | h
      · omega
      · have := flx_mem ss (i + 1) x h; omega
    · have := flx_mem ss (i + 1) x h; omega
theorem share1_is {total : Int} {sizes : List Size} (h0 : 0 ≤ total) (h1 : total ≤ 200) (hl : sizes.length ≤ 16) (hs : ∀ s ∈ sizes, sizeOK s) :
    ∀ (ss : List Size) (i : Nat) (out flex : List Int) (left : Int), sizes.drop i = ss → out.length = i → i + ss.length = sizes.length → flex.length ≤ i → -200 * i ≤ left → left ≤ 200 →
    iter (fun s => solve_Share_l1 total sizes s.1 s.2.1 s.2.2.1 s.2.2.2 : (List Int × List Int × Int × Int) → Option ((List Int × List Int × Int × Int) ⊕ (List Int × List Int × Int))) (out, flex, left, (i : Int)) = some (out ++ ss.map (wT total), flex ++ flx ss i, left - sumI (ss.map (wT total)))
  | [], i, out, flex, left, hd, ho, hi, hf, hb, hc => by
    refine iter_inr ?_
    simp only [solve_Share_l1, letB]
    rw [decide_eq_false (by simp only [List.length_nil] at hi; omega)]
    simp [flx, sumI]
  | s :: ss, i, out, flex, left, hd, ho, hi, hf, hb, hc => by
    obtain ⟨hlt, hget, hdrop⟩ := drop_get hd
    simp only [List.length_cons] at hi
    have hso : sizeOK s := hs s (hget ▸ List.getElem_mem hlt)
    have hw := wT_range h0 h1 hso
    have hidx : idx sizes (i : Int) = some s := by rw [idx_nat hlt, hget]
    have hidx2 : idx (out ++ [wT total s]) (i : Int) = some (wT total s) := by
      rw [idx_nat (by simp; omega)]
      simp [← ho]
    have key : solve_Share_l1 total sizes out flex left (i : Int) = some (.inl (out ++ [wT total s], (if s.Kind = 0 then flex ++ [(i : Int)] else flex), left - wT total s, ((i + 1 : Nat) : Int))) := by
      simp only [solve_Share_l1, letB]
      rw [decide_eq_true (show (i : Int) < (sizes.length : Int) by omega), w64_id (n := (i : Int) + 1) (by omega) (by omega)]
      simp only [cond_true, hidx, Option.bind_some, wants_is h0 h1 hso, app_one (show out.length < 1000000 by omega), hidx2, app_one (show flex.length < 1000000 by omega), w64_id (n := left - wT total s) (show _ ≤ _ by omega) (show _ ≤ _ by omega)]
      by_cases h : s.Kind = 0
      · rw [decide_eq_true h, if_pos h]; rfl
      · rw [decide_eq_false h, if_neg h]; rfl
    refine (iter_inl key).trans ?_
    rw [share1_is h0 h1 hl hs ss (i + 1) _ _ _ hdrop (by simp; omega) (by omega) (by split <;> (try simp) <;> omega) (by omega) (by omega)]
    simp only [List.map_cons, sumI, flx]
    congr 1
    refine Prod.ext ?_ (Prod.ext ?_ ?_)
    · simp
    · simp only; split <;> simp
    · simp only; omega
theorem share2_is {total : Int} {n : Nat} (hn : n ≤ 16) (hnt : (n : Int) ≤ total) (ht : total ≤ 200) :
    ∀ (m : Nat) (out : List Int) (left : Int), out.length = n → m ≤ n → (∀ x ∈ out, 1 ≤ x ∧ x ≤ 200) → sumI out + left = total → left ≤ 200 → (left < 0 → ∀ j, m ≤ j → ∀ h : j < out.length, out[j] = 1) →
    ∃ out' left', iter (fun s => solve_Share_l2 s.1 s.2.1 s.2.2 : (List Int × Int × Int) → Option ((List Int × Int × Int) ⊕ (List Int × Int))) (out, left, (m : Int) - 1) = some (out', left') ∧ 0 ≤ left' ∧ out'.length = n ∧ (∀ x ∈ out', 1 ≤ x ∧ x ≤ 200) ∧ sumI out' + left' = total := by
  intro m
  induction m with
  | zero =>
    intro out left ho hm hr hs hl2 ht2
    have hl : 0 ≤ left := by
      rcases Int.lt_or_le left 0 with h | h
      · have h1 := sumI_ones out fun x hx => by
          obtain ⟨j, hj, rfl⟩ := List.mem_iff_getElem.1 hx
          exact ht2 h j (Nat.zero_le _) hj
        omega
      · exact h
    refine ⟨out, left, iter_inr ?_, hl, ho, hr, hs⟩
    simp only [solve_Share_l2, letB]
    rw [decide_eq_false (by omega)]; rfl
  | succ m ih =>
    intro out left ho hm hr hs hl2 ht2
    have hex : 0 ≤ left → ∃ out' left', iter (fun s => solve_Share_l2 s.1 s.2.1 s.2.2 : (List Int × Int × Int) → Option ((List Int × Int × Int) ⊕ (List Int × Int))) (out, left, ((m + 1 : Nat) : Int) - 1) = some (out', left') ∧ 0 ≤ left' ∧ out'.length = n ∧ (∀ x ∈ out', 1 ≤ x ∧ x ≤ 200) ∧ sumI out' + left' = total := fun hl => by
      refine ⟨out, left, iter_inr ?_, hl, ho, hr, hs⟩
      simp only [solve_Share_l2, letB]
      rw [decide_eq_false (by omega)]; rfl
    rcases Int.lt_or_le left 0 with h | h
    · have hlt : m < out.length := by omega
      have hx := hr out[m] (List.getElem_mem hlt)
      have hsum : (-3200 : Int) ≤ left := by
        have : ∀ l : List Int, (∀ x ∈ l, 1 ≤ x ∧ x ≤ 200) → sumI l ≤ 200 * l.length := by
          intro l
          induction l with
          | nil => intro _; simp [sumI]
          | cons y l ih =>
            intro hl
            have h1 := ih fun z hz => hl z (.tail _ hz)
            have h2 := hl y (.head _)
            simp only [sumI, List.length_cons]; omega
        have := this out hr
        omega
      have hidx : idx out (m : Int) = some out[m] := idx_nat hlt
      generalize hless : min (out[m] - 1) (0 - left) = less
      have hl0 : 0 ≤ less ∧ less ≤ out[m] - 1 ∧ less ≤ 0 - left := by omega
      have key : solve_Share_l2 out left (((m + 1 : Nat) : Int) - 1) = some (.inl (out.set m (out[m] - less), left + less, (m : Int) - 1)) := by
        simp only [solve_Share_l2, letB]
        rw [decide_eq_true h, show ((m + 1 : Nat) : Int) - 1 = (m : Int) by omega]
        simp only [cond_true, hidx, Option.bind_some]
        rw [w64_id (n := out[m] - 1) (by omega) (by omega), w64_id (n := 0 - left) (by omega) (by omega), hless, w64_id (n := out[m] - less) (by omega) (by omega), w64_id (n := left + less) (by omega) (by omega), w64_id (n := (m : Int) - 1) (by omega) (by omega)]
        unfold upI
        rw [Int.toNat_natCast]
      obtain ⟨out', left', e, r⟩ := ih (out.set m (out[m] - less)) (left + less) (by simp; omega) (by omega) (fun x hx => by
          rcases List.mem_or_eq_of_mem_set hx with hx | rfl
          · exact hr x hx
          · omega) (by rw [sumI_set out m _ hlt]; omega) (by omega) (fun hneg j hj hj2 => by
          by_cases hjm : j = m
          · subst hjm
            rw [List.getElem_set_self]
            omega
          · rw [List.getElem_set_ne (by omega)]
            exact ht2 h j (by omega) (by simpa using hj2))
      exact ⟨out', left', (iter_inl key).trans e, r⟩
    · exact hex h
def give (left : Int) (k : Nat) (t : Nat) : Int := left / k + if (t : Int) < left % k then 1 else 0
def giveS (left : Int) (k : Nat) : Nat → Int
  | 0 => 0
  | t + 1 => giveS left k t + give left k t
theorem giveS_is {left : Int} {k : Nat} (hk : 0 < k) (hl : 0 ≤ left) : ∀ t : Nat, t ≤ k → giveS left k t = t * (left / k) + min (t : Int) (left % k)
  | 0, _ => by
    have : 0 ≤ left % k := Int.emod_nonneg _ (by omega)
    simp only [giveS]; simp; omega
  | t + 1, h => by
    have h1 := giveS_is hk hl t (by omega)
    simp only [giveS, give, h1]
    have e : ((t + 1 : Nat) : Int) * (left / k) = t * (left / k) + left / k := by rw [show ((t + 1 : Nat) : Int) = t + 1 by omega, Int.add_mul]; omega
    rw [e]
    split <;> omega
theorem giveS_all {left : Int} {k : Nat} (hk : 0 < k) (hl : 0 ≤ left) : giveS left k k = left := by
  rw [giveS_is hk hl k (Nat.le_refl _)]
  have h1 := Int.emod_lt_of_pos left (show (0 : Int) < k by omega)
  have h2 := Int.mul_ediv_add_emod left k
  omega
theorem share3_is {j24 : List Int × List Int × Int} {j30 : List Int × Int} {n : Nat} (hn : n ≤ 16) (hfl : j24.2.1.length ≤ 16) (hfm : ∀ x ∈ j24.2.1, 0 ≤ x ∧ x < n) (hpos : 0 < j24.2.1.length) (hl0 : 0 ≤ j30.2) (hl1 : j30.2 ≤ 200) :
    ∀ (m t : Nat) (out : List Int), t + m = j24.2.1.length → out.length = n → (∀ x ∈ out, 1 ≤ x) → sumI out ≤ 200 + giveS j30.2 j24.2.1.length t → 0 ≤ giveS j30.2 j24.2.1.length t → giveS j30.2 j24.2.1.length t ≤ 400 →
    (∀ t', t ≤ t' → t' ≤ j24.2.1.length → 0 ≤ giveS j30.2 j24.2.1.length t' ∧ giveS j30.2 j24.2.1.length t' ≤ 400) →
    ∃ out', iter (fun s => solve_Share_l3 j24 j30 s.1 s.2 : (List Int × Int) → Option ((List Int × Int) ⊕ List Int)) (out, (t : Int)) = some out' ∧ out'.length = n ∧ (∀ x ∈ out', 1 ≤ x) ∧ sumI out' = sumI out + giveS j30.2 j24.2.1.length j24.2.1.length - giveS j30.2 j24.2.1.length t
  | 0, t, out, hm, ho, hr, hs, hg0, hg1, hg => by
    refine ⟨out, iter_inr ?_, ho, hr, by rw [show t = j24.2.1.length by omega]; omega⟩
    simp only [solve_Share_l3, letB]
    rw [decide_eq_false (by omega)]; rfl
  | m + 1, t, out, hm, ho, hr, hs, hg0, hg1, hg => by
    have hlt : t < j24.2.1.length := by omega
    have hx := hfm _ (List.getElem_mem hlt)
    obtain ⟨x, hxe⟩ : ∃ x : Nat, (x : Int) = j24.2.1[t] := ⟨j24.2.1[t].toNat, by omega⟩
    have hxn : x < out.length := by omega
    have hidx : idx j24.2.1 (t : Int) = some (x : Int) := by rw [idx_nat hlt, hxe]
    have hidx2 : idx out (x : Int) = some out[x] := idx_nat hxn
    have hox := hr _ (List.getElem_mem hxn)
    have hoy := sumI_mem out hr _ (List.getElem_mem hxn)
    have hreq : req (decide ((j24.2.1.length : Int) ≠ 0)) = some () := by rw [decide_eq_true (by omega)]; rfl
    have hk : (0 : Int) < (j24.2.1.length : Int) := by omega
    have hq : 0 ≤ j30.2 / (j24.2.1.length : Int) ∧ j30.2 / (j24.2.1.length : Int) ≤ 200 := ⟨Int.ediv_nonneg hl0 (by omega), Int.le_trans (Int.ediv_le_self _ hl0) hl1⟩
    have hgt := hg (t + 1) (by omega) (by omega)
    have hgive : 0 ≤ give j30.2 j24.2.1.length t ∧ give j30.2 j24.2.1.length t ≤ 201 := by unfold give; split <;> omega
    have key : solve_Share_l3 j24 j30 out (t : Int) = some (.inl (out.set x (out[x] + give j30.2 j24.2.1.length t), ((t + 1 : Nat) : Int))) := by
      simp only [solve_Share_l3, letB]
      rw [decide_eq_true (show (t : Int) < (j24.2.1.length : Int) by omega), w64_id (n := (t : Int) + 1) (by omega) (by omega)]
      simp only [cond_true, hidx, Option.bind_some, hidx2, hreq, Int.tdiv_eq_ediv_of_nonneg hl0, Int.tmod_eq_emod_of_nonneg hl0]
      rw [w64_id (n := j30.2 / (j24.2.1.length : Int)) (by omega) (by omega), w64_id (n := out[x] + j30.2 / (j24.2.1.length : Int)) (by omega) (by omega)]
      have hset : idx (upI out (x : Int) (out[x] + j30.2 / (j24.2.1.length : Int))) (x : Int) = some (out[x] + j30.2 / (j24.2.1.length : Int)) := by
        unfold upI
        rw [Int.toNat_natCast, idx_nat (by simp; omega), List.getElem_set_self]
      unfold give
      by_cases hb : (t : Int) < j30.2 % (j24.2.1.length : Int)
      · rw [decide_eq_true hb, if_pos hb]
        simp only [cond_true, hset, Option.bind_some]
        rw [w64_id (n := out[x] + j30.2 / (j24.2.1.length : Int) + 1) (by omega) (by omega)]
        unfold upI
        rw [Int.toNat_natCast, List.set_set, Int.add_assoc]
        rfl
      · rw [decide_eq_false hb, if_neg hb]
        simp only [cond_false, Option.bind_some]
        unfold upI
        rw [Int.toNat_natCast, Int.add_zero]
        rfl
    obtain ⟨out', e, r1, r2, r3⟩ := share3_is hn hfl hfm hpos hl0 hl1 m (t + 1) (out.set x (out[x] + give j30.2 j24.2.1.length t)) (by omega) (by simp; omega) (fun y hy => by
        rcases List.mem_or_eq_of_mem_set hy with hy | rfl
        · exact hr y hy
        · omega) (by rw [sumI_set out x _ hxn]; simp only [giveS]; omega) hgt.1 hgt.2 (fun t' h1 h2 => hg t' (by omega) h2)
    refine ⟨out', (iter_inl key).trans e, r1, r2, ?_⟩
    rw [r3, sumI_set out x _ hxn]
    simp only [giveS]
    omega
theorem contains_is {sizes : List Size} (hl : sizes.length ≤ 16) (hs : ∀ s ∈ sizes, sizeOK s) : slices_ContainsFunc_56 sizes 57 = some false := by
  have loop : ∀ (ss : List Size) (i : Nat), sizes.drop i = ss → i + ss.length = sizes.length → iter (fun s => slices_IndexFunc_80_l1 sizes 57 s : Int → Option (Int ⊕ (Int ⊕ Unit))) (i : Int) = some (.inr ()) := by
    intro ss
    induction ss with
    | nil =>
      intro i hd hi
      refine iter_inr ?_
      simp only [slices_IndexFunc_80_l1, letB]
      rw [decide_eq_false (by simp only [List.length_nil] at hi; omega)]; rfl
    | cons s ss ih =>
      intro i hd hi
      obtain ⟨hlt, hget, hdrop⟩ := drop_get hd
      simp only [List.length_cons] at hi
      have hso : sizeOK s := hs s (hget ▸ List.getElem_mem hlt)
      refine (iter_inl (s' := ((i + 1 : Nat) : Int)) ?_).trans (ih (i + 1) hdrop (by omega))
      simp only [slices_IndexFunc_80_l1, letB]
      rw [decide_eq_true (show (i : Int) < (sizes.length : Int) by omega), idx_nat hlt, hget, w64_id (n := (i : Int) + 1) (by omega) (by omega)]
      simp only [cond_true, Option.bind_some, solve_Share_1, check_is, if_pos hso, letB]
      rfl
  unfold slices_ContainsFunc_56 slices_IndexFunc_80
  rw [show (0 : Int) = ((0 : Nat) : Int) from rfl, loop sizes 0 rfl (by omega)]
  rfl
theorem share_room {total : Int} {sizes : List Size} (hn0 : 1 ≤ sizes.length) (hl : sizes.length ≤ 16) (hs : ∀ s ∈ sizes, sizeOK s) (h1 : total ≤ 200) (hlt : total < sizes.length) : solve_Share total sizes = some ([], 90) := by
  unfold solve_Share
  simp only [letB, contains_is hl hs, Option.bind_some]
  rw [decide_eq_false (by omega), decide_eq_false (by omega), decide_eq_false (by omega), decide_eq_true hlt]
  rfl
theorem share_is {total : Int} {sizes : List Size} (hn0 : 1 ≤ sizes.length) (hl : sizes.length ≤ 16) (hs : ∀ s ∈ sizes, sizeOK s) (h1 : total ≤ 200) (hge : (sizes.length : Int) ≤ total) :
    ∃ l, solve_Share total sizes = some (l, 0) ∧ l.length = sizes.length ∧ (∀ x ∈ l, 1 ≤ x) ∧ sumI l = total := by
  have hw : ∀ x ∈ sizes.map (wT total), 1 ≤ x ∧ x ≤ 200 := fun x hx => by
    obtain ⟨s, hm, rfl⟩ := List.mem_map.1 hx
    exact wT_range (by omega) h1 (hs s hm)
  have e1 := share1_is (by omega) h1 hl hs sizes 0 [] [] total rfl rfl (by omega) (Nat.le_refl _) (by omega) h1
  simp only [List.nil_append] at e1
  obtain ⟨out, left, e2, hl0, ho, hr, hsum⟩ := share2_is hl hge h1 sizes.length (sizes.map (wT total)) (total - sumI (sizes.map (wT total))) (by simp) (Nat.le_refl _) hw (by omega) (by have := sumI_ge _ fun x hx => (hw x hx).1; omega) (fun _ j hj h => by simp at h; omega)
  have hr1 : ∀ x ∈ out, 1 ≤ x := fun x hx => (hr x hx).1
  have hoge := sumI_ge out hr1
  have pre : solve_Share total sizes = (letB (decide (((flx sizes 0).length : Int) = 0)) fun c31 =>
        bif c31 then (
          (idx out (w64 ((out.length : Int) - 1))).bind fun x33 =>
          (idx out (w64 ((out.length : Int) - 1))).bind fun x34 =>
          some (upI out (w64 ((out.length : Int) - 1)) (w64 (x33 + left)), 0))
        else (
          (iter (fun s => solve_Share_l3 (sizes.map (wT total), flx sizes 0, total - sumI (sizes.map (wT total))) (out, left) s.1 s.2 : (List Int × Int) → Option ((List Int × Int) ⊕ List Int)) (out, 0)).bind fun j48 =>
          some (j48, 0))) := by
    unfold solve_Share
    simp only [letB, contains_is hl hs, Option.bind_some]
    rw [decide_eq_false (by omega), decide_eq_false (by omega), decide_eq_false (by omega), decide_eq_false (by omega)]
    simp only [cond_false, Option.bind_some]
    rw [show (0 : Int) = ((0 : Nat) : Int) from rfl, e1]
    simp only [Option.bind_some]
    rw [show w64 (((sizes.map (wT total)).length : Int) - 1) = (sizes.length : Int) - 1 by rw [List.length_map, w64_id (by omega) (by omega)], e2]
    rfl
  rw [pre]
  simp only [letB]
  by_cases hf : (flx sizes 0).length = 0
  · rw [decide_eq_true (by omega), w64_id (n := (out.length : Int) - 1) (by omega) (by omega), show (out.length : Int) - 1 = ((out.length - 1 : Nat) : Int) by omega, idx_nat (by omega)]
    simp only [cond_true, Option.bind_some]
    have hlast : out.length - 1 < out.length := by omega
    have hb := hr _ (List.getElem_mem hlast)
    rw [w64_id (by omega) (by omega)]
    unfold upI
    rw [Int.toNat_natCast]
    refine ⟨_, rfl, by simp; omega, fun x hx => ?_, ?_⟩
    · rcases List.mem_or_eq_of_mem_set hx with hx | rfl
      · exact hr1 x hx
      · omega
    · rw [sumI_set out _ _ hlast]; omega
  · rw [decide_eq_false (by omega)]
    simp only [cond_false]
    have hfl := flx_len sizes 0
    have hfp : 0 < (flx sizes 0).length := by omega
    have hg : ∀ t', 0 ≤ t' → t' ≤ (flx sizes 0).length → 0 ≤ giveS left (flx sizes 0).length t' ∧ giveS left (flx sizes 0).length t' ≤ 400 := fun t' _ ht => by
      rw [giveS_is hfp hl0 t' ht]
      have a1 : 0 ≤ left % ((flx sizes 0).length : Int) := Int.emod_nonneg _ (by omega)
      have a2 : 0 ≤ left / ((flx sizes 0).length : Int) := Int.ediv_nonneg hl0 (by omega)
      have a3 : 0 ≤ (t' : Int) * (left / ((flx sizes 0).length : Int)) := Int.mul_nonneg (by omega) a2
      have a4 : (t' : Int) * (left / ((flx sizes 0).length : Int)) ≤ ((flx sizes 0).length : Int) * (left / ((flx sizes 0).length : Int)) := Int.mul_le_mul_of_nonneg_right (by omega) a2
      have a5 := Int.mul_ediv_add_emod left ((flx sizes 0).length : Int)
      omega
    have h0 := hg 0 (Nat.le_refl _) (by omega)
    obtain ⟨out', e3, r1, r2, r3⟩ := share3_is (j24 := (sizes.map (wT total), flx sizes 0, total - sumI (sizes.map (wT total)))) (j30 := (out, left)) (n := sizes.length) hl (by show (flx sizes 0).length ≤ 16; omega) (fun x hx => by have := flx_mem sizes 0 x hx; omega) hfp hl0 (by show left ≤ 200; omega) (flx sizes 0).length 0 out (by show 0 + (flx sizes 0).length = (flx sizes 0).length; omega) ho hr1 (by show sumI out ≤ 200 + giveS left (flx sizes 0).length 0; simp only [giveS]; omega) h0.1 h0.2 hg
    rw [show (0 : Int) = ((0 : Nat) : Int) from rfl, e3]
    refine ⟨out', rfl, r1, r2, ?_⟩
    rw [r3]
    show sumI out + giveS left (flx sizes 0).length (flx sizes 0).length - giveS left (flx sizes 0).length 0 = total
    rw [giveS_all hfp hl0]
    simp only [giveS]
    omega
end Go.Proofs.YtakdnfneikbjjaaGreatDoor.Am.Lay10

set_option linter.all false
namespace Go.Proofs.YtakdnfneikbjjaaGreatDoor.Am.Lay10
open Go.Proofs.YtakdnfneikbjjaaGreatDoor.Am.T
def Rok (r : Rect) : Prop := -5000 ≤ r.X ∧ 0 ≤ r.W ∧ r.W ≤ 200 ∧ r.X + r.W ≤ 5000 ∧ -5000 ≤ r.Y ∧ 0 ≤ r.H ∧ r.H ≤ 200 ∧ r.Y + r.H ≤ 5000
def Nice (r : Rect) : Prop := Rok r ∧ ((r.W = 0 ∨ r.H = 0) → r = ⟨0, 0, 0, 0⟩)
theorem clean_rok {r : Rect} (h : Rok r) : cleanT r = if r.W = 0 ∨ r.H = 0 then ⟨0, 0, 0, 0⟩ else r := by
  obtain ⟨h1, h2, h3, h4, h5, h6, h7, h8⟩ := h
  unfold cleanT cl
  simp only
  have e1 : max (-5000) (min r.X 5000) = r.X := by omega
  have e2 : max (-5000) (min r.Y 5000) = r.Y := by omega
  rw [e1, e2]
  have e3 : max 0 (min r.W (min 200 (5000 - r.X))) = r.W := by omega
  have e4 : max 0 (min r.H (min 200 (5000 - r.Y))) = r.H := by omega
  rw [e3, e4]
theorem nice_clean (r : Rect) : Nice (cleanT r) := by
  unfold cleanT
  simp only
  have hx := cl_range (n := r.X) (show (-5000 : Int) ≤ 5000 by omega)
  have hy := cl_range (n := r.Y) (show (-5000 : Int) ≤ 5000 by omega)
  generalize cl r.X (-5000) 5000 = x at *
  generalize cl r.Y (-5000) 5000 = y at *
  have hw := cl_range (n := r.W) (show (0 : Int) ≤ min 200 (5000 - x) by omega)
  have hh := cl_range (n := r.H) (show (0 : Int) ≤ min 200 (5000 - y) by omega)
  split
  · exact ⟨⟨by decide, by decide, by decide, by decide, by decide, by decide, by decide, by decide⟩, fun _ => rfl⟩
  · rename_i h
    exact ⟨⟨hx.1, hw.1, by simp only; omega, by simp only; omega, hy.1, hh.1, by simp only; omega, by simp only; omega⟩, fun h2 => absurd h2 h⟩
theorem clean_nice {r : Rect} (h : Nice r) : cleanT r = r := by
  rw [clean_rok h.1]
  split
  · rename_i h2; exact (h.2 h2).symm
  · rfl
def cutA (across : Bool) (r : Rect) (n : Int) : Rect := if across = true then { r with H := cl n 0 r.H } else { r with W := cl n 0 r.W }
def cutB (across : Bool) (r : Rect) (n : Int) : Rect := if across = true then { r with Y := r.Y + cl n 0 r.H, H := r.H - cl n 0 r.H } else { r with X := r.X + cl n 0 r.W, W := r.W - cl n 0 r.W }
def cutT (across : Bool) : Rect → List Int → List Rect
  | _, [] => []
  | r, n :: ns => cleanT (cutA across r n) :: cutT across (cutB across r n) ns
theorem cutT_len (across : Bool) : ∀ (r : Rect) (ns : List Int), (cutT across r ns).length = ns.length
  | _, [] => rfl
  | r, n :: ns => by simp only [cutT, List.length_cons, cutT_len across _ ns]
theorem cutB_rok {across : Bool} {r : Rect} {n : Int} (h : Rok r) : Rok (cutB across r n) := by
  obtain ⟨h1, h2, h3, h4, h5, h6, h7, h8⟩ := h
  have a := cl_range (n := n) h2
  have b := cl_range (n := n) h6
  unfold cutB Rok
  split <;> simp only <;> omega
theorem cut_loop {across : Bool} {ns : List Int} (hl : ns.length ≤ 16) : ∀ (ms : List Int) (i : Nat) (out : List Rect) (r : Rect), ns.drop i = ms → out.length = i → i + ms.length = ns.length → Rok r →
    ∃ r', iter (fun s => rect_Cut_l1 across ns s.1 s.2.1 s.2.2 : (List Rect × Int × Rect) → Option ((List Rect × Int × Rect) ⊕ (List Rect × Rect))) (out, (i : Int), r) = some (out ++ cutT across r ms, r')
  | [], i, out, r, hd, ho, hi, hr => by
    refine ⟨r, iter_inr ?_⟩
    simp only [rect_Cut_l1, letB]
    rw [decide_eq_false (by simp only [List.length_nil] at hi; omega)]
    simp [cutT]
  | n :: ms, i, out, r, hd, ho, hi, hr => by
    obtain ⟨hlt, hget, hdrop⟩ := drop_get hd
    simp only [List.length_cons] at hi
    obtain ⟨r', e⟩ := cut_loop hl ms (i + 1) (out ++ [cleanT (cutA across r n)]) (cutB across r n) hdrop (by simp; omega) (by omega) (cutB_rok hr)
    refine ⟨r', (iter_inl ?_).trans (e.trans ?_)⟩
    · obtain ⟨h1, h2, h3, h4, h5, h6, h7, h8⟩ := hr
      have a := cl_range (n := n) h2
      have b := cl_range (n := n) h6
      simp only [rect_Cut_l1, letB]
      rw [decide_eq_true (show (i : Int) < (ns.length : Int) by omega), idx_nat hlt, hget, w64_id (n := (i : Int) + 1) (by omega) (by omega)]
      simp only [cond_true, Option.bind_some, rect_Clamp, clean_is]
      unfold cl at a b
      cases across with
      | true =>
        rw [w64_id (n := r.Y + max 0 (min n r.H)) (by omega) (by omega), w64_id (n := r.H - max 0 (min n r.H)) (by omega) (by omega)]
        simp only [cond_true, Option.bind_some, app_one (show out.length < 1000000 by omega)]
        rfl
      | false =>
        rw [w64_id (n := r.X + max 0 (min n r.W)) (by omega) (by omega), w64_id (n := r.W - max 0 (min n r.W)) (by omega) (by omega)]
        simp only [cond_false, Option.bind_some, app_one (show out.length < 1000000 by omega)]
        rfl
    · simp [cutT]
theorem cut_is {across : Bool} {r : Rect} {ns : List Int} (hl : ns.length ≤ 16) (hr : Nice r) : rect_Cut r ns across = some (cutT across r ns) := by
  unfold rect_Cut subB
  rw [clean_is, clean_nice hr]
  simp only [Option.bind_some]
  rw [if_pos (by omega)]
  simp only [Option.bind_some]
  rw [show (min (ns.length : Int) 16).toNat = ns.length by omega, List.take_length]
  obtain ⟨r', e⟩ := cut_loop (across := across) hl ns 0 [] r rfl rfl (by omega) hr.1
  rw [show (0 : Int) = ((0 : Nat) : Int) from rfl, e]
  simp
def addC (sp : List Spot) (c : Rect × Bool) : List Spot := sp ++ [⟨sp.length, c.1, 0, c.2⟩]
theorem addC_len (cs : List (Rect × Bool)) : ∀ sp : List Spot, (cs.foldl addC sp).length = sp.length + cs.length := by
  induction cs with
  | nil => intro sp; rfl
  | cons c cs ih => intro sp; rw [List.foldl_cons, ih]; simp [addC]; omega
theorem add_is {sp : List Spot} {r : Rect} {z : Int} {t : Bool} (h : sp.length < 1000000) : layout_placer_add ⟨sp⟩ r z t = some ⟨sp ++ [⟨sp.length, r, z, t⟩]⟩ := by
  unfold layout_placer_add
  rw [app_one h]; rfl
def stkT : Nat → Rect → List (Rect × Bool)
  | 0, r => [(cleanT r, false)]
  | k + 1, r => (cleanT { r with H := min 1 (max (r.H - 1) 0) }, true) :: stkT k { r with Y := r.Y + min 1 (max (r.H - 1) 0), H := r.H - min 1 (max (r.H - 1) 0) }
theorem stkT_len : ∀ (k : Nat) (r : Rect), (stkT k r).length = k + 1
  | 0, _ => rfl
  | k + 1, r => by simp only [stkT, List.length_cons, stkT_len k]
theorem stk_loop {xs : List Plan} (hl : xs.length ≤ 16) : ∀ (m i : Nat) (r : Rect) (sp : List Spot), i + m = xs.length → Rok r → sp.length + (m + 1) < 1000000 →
    ∃ r' sp', iter (fun s => layout_placer_layF_l8 xs s.1 s.2.1 s.2.2 : (Int × Rect × Placer) → Option ((Int × Rect × Placer) ⊕ (Rect × Placer))) ((i : Int), r, ⟨sp⟩) = some (r', ⟨sp'⟩) ∧ sp' ++ [⟨sp'.length, cleanT r', 0, false⟩] = (stkT m r).foldl addC sp ∧ sp'.length < 1000000
  | 0, i, r, sp, hi, hr, hs => by
    refine ⟨r, sp, iter_inr ?_, rfl, by omega⟩
    simp only [layout_placer_layF_l8, letB]
    rw [decide_eq_false (by omega)]; rfl
  | m + 1, i, r, sp, hi, hr, hs => by
    obtain ⟨h1, h2, h3, h4, h5, h6, h7, h8⟩ := hr
    obtain ⟨r', sp', e, e2, e3⟩ := stk_loop hl m (i + 1) { r with Y := r.Y + min 1 (max (r.H - 1) 0), H := r.H - min 1 (max (r.H - 1) 0) } (addC sp (cleanT { r with H := min 1 (max (r.H - 1) 0) }, true)) (by omega) (by unfold Rok; simp only; omega) (by simp [addC]; omega)
    refine ⟨r', sp', (iter_inl ?_).trans e, e2, e3⟩
    simp only [layout_placer_layF_l8, letB]
    rw [decide_eq_true (show (i : Int) < (xs.length : Int) by omega), w64_id (n := r.H - 1) (by omega) (by omega), w64_id (n := (i : Int) + 1) (by omega) (by omega), w64_id (n := r.Y + min 1 (max (r.H - 1) 0)) (by omega) (by omega), w64_id (n := r.H - min 1 (max (r.H - 1) 0)) (by omega) (by omega)]
    simp only [cond_true, clean_is, Option.bind_some, add_is (show sp.length < 1000000 by omega)]
    rfl
def Rt : Nat → Plan → Prop
  | 0, _ => False
  | d + 1, p => sizeOK p.Size ∧ (p.Kind = 1 ∨ (p.Kind ≠ 1 ∧ kindOK p ∧ 1 ≤ p.Kids.length ∧ p.Kids.length ≤ 16 ∧ ∀ k ∈ p.Kids, Rt d k ∧ (p.Kind = 4 → k.Kind = 1)))
def sumN : List Nat → Nat
  | [] => 0
  | x :: l => x + sumN l
def lv : Nat → Plan → Nat
  | 0, _ => 0
  | d + 1, p => if p.Kind = 1 then 1 else sumN (p.Kids.map (lv d))
theorem mKids_right {d : Nat} {q : Plan} (hd : ∀ k n n', 0 ≤ n → n ≤ 24 → mT d k n = (true, n') → Rt d k ∧ n' = n + lv d k) : ∀ (ks : List Plan) (n n' : Int), 0 ≤ n → n ≤ 24 → mKids (mT d) q ks n = (true, n') → (∀ k ∈ ks, Rt d k ∧ (q.Kind = 4 → k.Kind = 1)) ∧ n' = n + sumN (ks.map (lv d))
  | [], n, n', h0, h1, h => by
    unfold mKids at h
    cases h
    exact ⟨fun _ h => (by cases h), by simp [sumN]⟩
  | k :: ks, n, n', h0, h1, h => by
    unfold mKids at h
    split at h
    · cases h
    · rename_i h4
      split at h
      · rename_i hb
        have hr := mT_range d k n h0 h1
        obtain ⟨a, b⟩ := hd k n (mT d k n).2 h0 h1 (Prod.ext hb rfl)
        have h4' := hr.2.2 hb
        have h5' := hr.1
        obtain ⟨c, e⟩ := mKids_right hd ks _ n' (by omega) h4' h
        refine ⟨fun x hx => ?_, ?_⟩
        · rcases List.mem_cons.1 hx with rfl | hx
          · exact ⟨a, fun h => Classical.byContradiction fun hh => h4 ⟨h, hh⟩⟩
          · exact c x hx
        · simp only [List.map_cons, sumN]; omega
      · cases h
theorem mT_right : ∀ (d : Nat) (p : Plan) (n n' : Int), 0 ≤ n → n ≤ 24 → mT d p n = (true, n') → Rt d p ∧ n' = n + lv d p
  | 0, p, n, n', h0, h1, h => by cases h
  | d + 1, p, n, n', h0, h1, h => by
    unfold mT at h
    unfold Rt lv
    split at h
    · cases h
    · rename_i hs
      have hs : sizeOK p.Size := Classical.not_not.1 hs
      split at h
      · rename_i hk
        obtain ⟨_, rfl⟩ := Prod.mk.inj h
        rw [if_pos hk]
        exact ⟨⟨hs, .inl hk⟩, rfl⟩
      · rename_i hk
        split at h
        · cases h
        · rename_i hko
          have hko : kindOK p := Classical.not_not.1 hko
          split at h
          · cases h
          · rename_i hlen
            obtain ⟨a, b⟩ := mKids_right (mT_right d) p.Kids n n' h0 h1 h
            rw [if_neg hk]
            exact ⟨⟨hs, .inr ⟨hk, hko, by omega, by omega, a⟩⟩, b⟩
noncomputable def lenT (total : Int) (sizes : List Size) : List Int := match solve_Share total sizes with
  | some (l, e) => if e = 0 then l else List.replicate sizes.length 1
  | none => []
def totT (p : Plan) (r : Rect) : Int := if p.Kind = 3 then r.H else r.W
noncomputable def partsT (p : Plan) (r : Rect) : List Rect := cutT (decide (p.Kind = 3)) r (lenT (totT p r) (p.Kids.map Plan.Size))
noncomputable def layT : Nat → Plan → Rect → List (Rect × Bool)
  | 0, _, _ => []
  | d + 1, p, r => if p.Kind = 1 then [(r, false)] else if p.Kind = 4 then stkT (p.Kids.length - 1) r else (p.Kids.zip (partsT p r)).flatMap fun x => layT d x.1 x.2
theorem lenT_len {total : Int} {sizes : List Size} (hn0 : 1 ≤ sizes.length) (hl : sizes.length ≤ 16) (hs : ∀ s ∈ sizes, sizeOK s) (h1 : total ≤ 200) : (lenT total sizes).length = sizes.length := by
  unfold lenT
  by_cases hlt : total < sizes.length
  · rw [share_room hn0 hl hs h1 hlt]; simp
  · obtain ⟨l, e, h2, _, _⟩ := share_is hn0 hl hs h1 (by omega)
    rw [e]; exact h2
theorem Rt.sizeOK {d : Nat} {p : Plan} (h : Rt d p) : sizeOK p.Size := by
  cases d with
  | zero => exact h.elim
  | succ d => exact h.1
theorem tot_le {p : Plan} {r : Rect} (hr : Nice r) : totT p r ≤ 200 := by
  obtain ⟨h1, h2, h3, h4, h5, h6, h7, h8⟩ := hr.1
  unfold totT; split <;> assumption
theorem partsT_len {d : Nat} {p : Plan} {r : Rect} (hr : Nice r) (hn0 : 1 ≤ p.Kids.length) (hl : p.Kids.length ≤ 16) (hk : ∀ k ∈ p.Kids, Rt d k) : (partsT p r).length = p.Kids.length := by
  unfold partsT
  rw [cutT_len, lenT_len (by simpa using hn0) (by simpa using hl) (fun s hm => by
    obtain ⟨k, h1, rfl⟩ := List.mem_map.1 hm
    exact (hk k h1).sizeOK) (tot_le hr), List.length_map]
theorem layT_len : ∀ (d : Nat) (p : Plan) (r : Rect), Rt d p → Nice r → (layT d p r).length = lv d p
  | 0, p, r, h, hr => h.elim
  | d + 1, p, r, h, hr => by
    unfold layT lv
    obtain ⟨hs, h | ⟨hk, hko, hn0, hl, hks⟩⟩ := h
    · rw [if_pos h, if_pos h]; rfl
    · rw [if_neg hk, if_neg hk]
      by_cases h4 : p.Kind = 4
      · rw [if_pos h4, stkT_len]
        have key : ∀ ks : List Plan, (∀ k ∈ ks, Rt d k ∧ k.Kind = 1) → sumN (ks.map (lv d)) = ks.length := by
          intro ks
          induction ks with
          | nil => intro _; rfl
          | cons k ks ih =>
            intro hh
            obtain ⟨a, b⟩ := hh k (.head _)
            simp only [List.map_cons, sumN, ih fun x hx => hh x (.tail _ hx), List.length_cons]
            cases d with
            | zero => exact a.elim
            | succ d => rw [lv, if_pos b]; omega
        rw [key _ fun k hm => ⟨(hks k hm).1, (hks k hm).2 h4⟩]; omega
      · rw [if_neg h4]
        have hpl := partsT_len hr hn0 hl fun k hm => (hks k hm).1
        have hnice : ∀ x ∈ partsT p r, Nice x := by
          unfold partsT
          generalize lenT _ _ = ns
          have : ∀ (ns : List Int) (r : Rect), ∀ x ∈ cutT (decide (p.Kind = 3)) r ns, Nice x := by
            intro ns
            induction ns with
            | nil => intro r x hx; cases hx
            | cons n ns ih =>
              intro r x hx
              rcases List.mem_cons.1 hx with rfl | hx
              · exact nice_clean _
              · exact ih _ x hx
          exact this ns r
        have key : ∀ (ks : List Plan) (ps : List Rect), ks.length = ps.length → (∀ k ∈ ks, Rt d k) → (∀ x ∈ ps, Nice x) → ((ks.zip ps).flatMap fun x => layT d x.1 x.2).length = sumN (ks.map (lv d)) := by
          intro ks
          induction ks with
          | nil => intro ps _ _ _; rfl
          | cons k ks ih =>
            intro ps hlen hk1 hp1
            cases ps with
            | nil => cases hlen
            | cons x ps =>
              simp only [List.zip_cons_cons, List.flatMap_cons, List.length_append, List.map_cons, sumN]
              rw [layT_len d k x (hk1 k (.head _)) (hp1 x (.head _)), ih ps (by simpa using hlen) (fun y hy => hk1 y (.tail _ hy)) (fun y hy => hp1 y (.tail _ hy))]
        exact key _ _ hpl.symm (fun k hm => (hks k hm).1) hnice
theorem cutT_nice (across : Bool) : ∀ (ns : List Int) (r : Rect), ∀ x ∈ cutT across r ns, Nice x
  | [], r, x, hx => by cases hx
  | n :: ns, r, x, hx => by
    rcases List.mem_cons.1 hx with rfl | hx
    · exact nice_clean _
    · exact cutT_nice across ns _ x hx
theorem sizes_loop {p : Plan} (hl : p.Kids.length ≤ 16) : ∀ (ks : List Plan) (i : Nat) (out : List Size), p.Kids.drop i = ks → out.length = i → i + ks.length = p.Kids.length →
    iter (fun s => layout_placer_splitF_l1 p s.1 s.2 : (List Size × Int) → Option ((List Size × Int) ⊕ List Size)) (out, (i : Int)) = some (out ++ ks.map Plan.Size)
  | [], i, out, hd, ho, hi => by
    refine iter_inr ?_
    simp only [layout_placer_splitF_l1, letB]
    rw [decide_eq_false (by simp only [List.length_nil] at hi; omega)]
    simp
  | k :: ks, i, out, hd, ho, hi => by
    obtain ⟨hlt, hget, hdrop⟩ := drop_get hd
    simp only [List.length_cons] at hi
    refine (iter_inl (s' := (out ++ [k.Size], ((i + 1 : Nat) : Int))) ?_).trans ((sizes_loop hl ks (i + 1) _ hdrop (by simp; omega) (by omega)).trans (by simp))
    simp only [layout_placer_splitF_l1, letB]
    rw [decide_eq_true (show (i : Int) < (p.Kids.length : Int) by omega), idx_nat hlt, hget, w64_id (n := (i : Int) + 1) (by omega) (by omega)]
    simp only [cond_true, Option.bind_some, app_one (show out.length < 1000000 by omega)]
    rfl
theorem ones_loop {x12 : List Int} (hl : x12.length ≤ 16) : ∀ (m i : Nat) (a : List Int), a.length = i → i + m = x12.length → a = List.replicate i 1 →
    iter (fun s => layout_placer_splitF_l3 x12 s.1 s.2 : (List Int × Int) → Option ((List Int × Int) ⊕ List Int)) (a ++ List.replicate m 0, (i : Int)) = some (List.replicate (i + m) 1)
  | 0, i, a, ha, hi, h => by
    refine iter_inr ?_
    simp only [layout_placer_splitF_l3, letB]
    rw [decide_eq_false (by omega)]
    simp [h]
  | m + 1, i, a, ha, hi, h => by
    have hlt : i < (a ++ List.replicate (m + 1) (0 : Int)).length := by simp; omega
    refine (iter_inl (s' := ((a ++ [1]) ++ List.replicate m 0, ((i + 1 : Nat) : Int))) ?_).trans ((ones_loop hl m (i + 1) (a ++ [1]) (by simp; omega) (by omega) (by rw [h, List.replicate_succ'])).trans (by rw [show i + 1 + m = i + (m + 1) by omega]))
    simp only [layout_placer_splitF_l3, letB]
    rw [decide_eq_true (show (i : Int) < (x12.length : Int) by omega), idx_nat hlt, w64_id (n := (i : Int) + 1) (by omega) (by omega)]
    simp only [cond_true, Option.bind_some]
    unfold upI
    rw [Int.toNat_natCast]
    have : (a ++ List.replicate (m + 1) (0 : Int)).set i 1 = (a ++ [1]) ++ List.replicate m 0 := by
      rw [List.set_append_right _ _ (by omega), ha, Nat.sub_self, List.replicate_succ, List.set_cons_zero]
      simp
    rw [this]; rfl
theorem kid_loop {p : Plan} {d : Nat} {rec : Placer → Plan → Rect → Option Placer} {ys : List Rect} (hy : ys.length = p.Kids.length) (hl : p.Kids.length ≤ 16)
    (hrec : ∀ k ∈ p.Kids, ∀ x ∈ ys, ∀ sp : List Spot, sp.length + (layT d k x).length < 1000000 → rec ⟨sp⟩ k x = some ⟨(layT d k x).foldl addC sp⟩) :
    ∀ (zs : List (Plan × Rect)) (i : Nat) (sp : List Spot), (p.Kids.zip ys).drop i = zs → i + zs.length = p.Kids.length → sp.length + (zs.flatMap fun x => layT d x.1 x.2).length < 1000000 →
    iter (fun s => layout_placer_splitF_l4 p rec ys s.1 s.2 : (Int × Placer) → Option ((Int × Placer) ⊕ Placer)) ((i : Int), ⟨sp⟩) = some ⟨(zs.flatMap fun x => layT d x.1 x.2).foldl addC sp⟩
  | [], i, sp, hd, hi, hs => by
    refine iter_inr ?_
    simp only [layout_placer_splitF_l4, letB]
    rw [decide_eq_false (by simp only [List.length_nil] at hi; omega)]
    rfl
  | z :: zs, i, sp, hd, hi, hs => by
    obtain ⟨hlt, hget, hdrop⟩ := drop_get hd
    simp only [List.length_cons] at hi
    have h1 : i < p.Kids.length := by omega
    have h2 : i < ys.length := by omega
    rw [List.getElem_zip] at hget
    subst hget
    simp only [List.flatMap_cons, List.length_append] at hs
    simp only [List.flatMap_cons, List.foldl_append]
    have hr := hrec _ (List.getElem_mem h1) _ (List.getElem_mem h2) sp (by omega)
    refine (iter_inl (s' := (((i + 1 : Nat) : Int), ⟨(layT d p.Kids[i] ys[i]).foldl addC sp⟩)) ?_).trans (kid_loop hy hl hrec zs (i + 1) _ hdrop (by omega) (by rw [addC_len]; omega))
    simp only [layout_placer_splitF_l4, letB]
    rw [decide_eq_true (show (i : Int) < (ys.length : Int) by omega), idx_nat h2, idx_nat h1, w64_id (n := (i : Int) + 1) (by omega) (by omega)]
    simp only [cond_true, Option.bind_some, hr]
    rfl
theorem lay_is : ∀ (d m : Nat) (p : Plan) (r : Rect) (sp : List Spot), Rt d p → Nice r → 2 * d ≤ m → sp.length + (layT d p r).length < 1000000 →
    (layout_placer_layG m).1 ⟨sp⟩ p r = some ⟨(layT d p r).foldl addC sp⟩
  | 0, m, p, r, sp, h, hr, hm, hs => h.elim
  | d + 1, 0, p, r, sp, h, hr, hm, hs => by omega
  | d + 1, 1, p, r, sp, h, hr, hm, hs => by omega
  | d + 1, m + 2, p, r, sp, h, hr, hm, hs => by
    obtain ⟨hsz, h | ⟨hk, hko, hn0, hl, hks⟩⟩ := h
    · show layout_placer_layF (layout_placer_layG (m + 1)).1 (layout_placer_layG (m + 1)).2 ⟨sp⟩ p r = _
      unfold layout_placer_layF
      unfold layT at hs ⊢
      rw [if_pos h] at hs ⊢
      simp only [letB]
      rw [decide_eq_true h]
      simp only [cond_true, add_is (show sp.length < 1000000 by simp at hs; omega), Option.bind_some]
      rfl
    · show layout_placer_layF (layout_placer_layG (m + 1)).1 (layout_placer_layG (m + 1)).2 ⟨sp⟩ p r = _
      unfold layout_placer_layF
      simp only [letB]
      rw [decide_eq_false hk]
      by_cases h4 : p.Kind = 4
      · unfold layT at hs ⊢
        rw [if_neg hk, if_pos h4] at hs ⊢
        rw [stkT_len] at hs
        rw [decide_eq_true h4]
        have hsub : subA p.Kids 1 = some (p.Kids.drop 1) := by
          unfold subA
          rw [if_pos (by omega)]; rfl
        obtain ⟨r', sp', e, e2, e3⟩ := stk_loop (xs := p.Kids.drop 1) (by simp; omega) (p.Kids.length - 1) 0 r sp (by simp) hr.1 (by omega)
        simp only [cond_true, cond_false, hsub, Option.bind_some]
        rw [show (0 : Int) = ((0 : Nat) : Int) from rfl, e]
        simp only [Option.bind_some, clean_is]
        rw [show ((0 : Nat) : Int) = 0 from rfl, add_is e3]
        simp only [Option.bind_some]
        rw [e2]
      · rw [decide_eq_false h4]
        simp only [cond_false]
        have hsizes : ∀ s ∈ p.Kids.map Plan.Size, sizeOK s := fun s hm => by
          obtain ⟨k, h1, rfl⟩ := List.mem_map.1 hm
          exact (hks k h1).1.sizeOK
        have hpl := partsT_len hr hn0 hl fun k hm => (hks k hm).1
        unfold layT at hs ⊢
        rw [if_neg hk, if_neg h4] at hs ⊢
        have loop := kid_loop (p := p) (d := d) (rec := (layout_placer_layG m).1) (ys := partsT p r) hpl hl (fun k hkm x hxm sp' hsp => lay_is d m k x sp' (hks k hkm).1 (cutT_nice _ _ _ x hxm) (by omega) hsp) (p.Kids.zip (partsT p r)) 0 sp rfl (by rw [List.length_zip, hpl]; omega) hs
        have hsplit : (layout_placer_layG (m + 1)).2 ⟨sp⟩ p r = some ⟨((p.Kids.zip (partsT p r)).flatMap fun x => layT d x.1 x.2).foldl addC sp⟩ := by
          show layout_placer_splitF (layout_placer_layG m).1 (layout_placer_layG m).2 ⟨sp⟩ p r = _
          unfold layout_placer_splitF
          have htot : (bif decide (p.Kind = 3) then some r.H else some r.W : Option Int) = some (totT p r) := by
            unfold totT
            by_cases h3 : p.Kind = 3
            · rw [decide_eq_true h3, if_pos h3]; rfl
            · rw [decide_eq_false h3, if_neg h3]; rfl
          simp only [letB, htot, Option.bind_some]
          rw [show (0 : Int) = ((0 : Nat) : Int) from rfl, sizes_loop hl p.Kids 0 [] rfl rfl (by omega)]
          simp only [Option.bind_some, List.nil_append, List.length_map]
          by_cases hlt : totT p r < (p.Kids.map Plan.Size).length
          · have hsh := share_room (total := totT p r) (by simpa using hn0) (by simpa using hl) hsizes (tot_le hr) hlt
            have hparts : partsT p r = cutT (decide (p.Kind = 3)) r (List.replicate p.Kids.length 1) := by
              unfold partsT lenT
              rw [hsh]; simp
            rw [hsh]
            simp only [Option.bind_some]
            have hmk : mkL (p.Kids.length : Int) (p.Kids.length : Int) (0 : Int) = some (List.replicate p.Kids.length 0) := by
              unfold mkL
              rw [if_pos (by rw [most_is]; omega), Int.toNat_natCast]
            rw [show decide ((90 : Int) ≠ ((0 : Nat) : Int)) = true by decide, show ((0 : Nat) : Int) = 0 from rfl, hmk]
            simp only [cond_true, Option.bind_some]
            have hones := ones_loop (x12 := List.replicate p.Kids.length 0) (by simpa using hl) p.Kids.length 0 [] rfl (by simp) rfl
            simp only [List.nil_append] at hones
            rw [show ((0 : Nat) : Int) = 0 from rfl] at hones loop
            rw [hones]
            simp only [Option.bind_some, Nat.zero_add]
            rw [cut_is (by simpa using hl) hr]
            simp only [Option.bind_some]
            rw [← hparts, loop]
            rfl
          · obtain ⟨l, hsh, hll, _, _⟩ := share_is (total := totT p r) (by simpa using hn0) (by simpa using hl) hsizes (tot_le hr) (by omega)
            rw [List.length_map] at hll
            have hparts : partsT p r = cutT (decide (p.Kind = 3)) r l := by
              unfold partsT lenT
              rw [hsh]; simp
            rw [hsh]
            simp only [Option.bind_some]
            rw [show decide ((0 : Int) ≠ ((0 : Nat) : Int)) = false by decide]
            simp only [cond_false]
            rw [cut_is (by omega) hr]
            simp only [Option.bind_some]
            rw [← hparts, show (fun s : Int × Placer => layout_placer_splitF_l5 p (layout_placer_layG m).1 (partsT p r) s.1 s.2) = (fun s => layout_placer_splitF_l4 p (layout_placer_layG m).1 (partsT p r) s.1 s.2) from rfl, loop]
            rfl
        rw [hsplit]
        rfl
end Go.Proofs.YtakdnfneikbjjaaGreatDoor.Am.Lay10

set_option linter.all false
namespace Go.Proofs.YtakdnfneikbjjaaGreatDoor.Am.Lay10
open Go.Proofs.YtakdnfneikbjjaaGreatDoor.Am.T
def enumS : Nat → List (Rect × Bool) → List Spot
  | _, [] => []
  | b, c :: cs => ⟨b, c.1, 0, c.2⟩ :: enumS (b + 1) cs
theorem enumS_is : ∀ (cs : List (Rect × Bool)) (sp : List Spot), cs.foldl addC sp = sp ++ enumS sp.length cs
  | [], sp => by simp [enumS]
  | c :: cs, sp => by rw [List.foldl_cons, enumS_is cs]; simp [addC, enumS]
theorem enumS_len : ∀ (cs : List (Rect × Bool)) (b : Nat), (enumS b cs).length = cs.length
  | [], b => rfl
  | c :: cs, b => by simp only [enumS, List.length_cons, enumS_len cs]
theorem enumS_get : ∀ (cs : List (Rect × Bool)) (b i : Nat) (h : i < cs.length), (enumS b cs)[i]? = some ⟨(b + i : Nat), cs[i].1, 0, cs[i].2⟩
  | c :: cs, b, 0, h => by simp [enumS]
  | c :: cs, b, i + 1, h => by
    simp only [enumS, List.getElem?_cons_succ, List.getElem_cons_succ]
    rw [enumS_get cs (b + 1) i (by simpa using h)]
    rw [show b + 1 + i = b + (i + 1) by omega]
theorem sum_is {a b : Int} (h1 : -1000000 ≤ a ∧ a ≤ 1000000) (h2 : -1000000 ≤ b ∧ b ≤ 1000000) : rect_Sum a b = some (a + b) := by
  unfold rect_Sum
  simp only [letB]
  rw [w64_id (by omega) (by omega)]
  by_cases ha : a > 0
  · have hn : ¬ a < 0 := by omega
    by_cases hb : b > 0
    · rw [decide_eq_true ha, decide_eq_true hb, decide_eq_false (show ¬ a + b < 0 by omega), decide_eq_false hn]; rfl
    · rw [decide_eq_true ha, decide_eq_false hb, decide_eq_false hn]; rfl
  · by_cases hn : a < 0
    · by_cases hb : b < 0
      · rw [decide_eq_false ha, decide_eq_true hn, decide_eq_true hb, decide_eq_false (show ¬ a + b ≥ 0 by omega)]; rfl
      · rw [decide_eq_false ha, decide_eq_true hn, decide_eq_false hb]; rfl
    · rw [decide_eq_false ha, decide_eq_false hn]; rfl
def shiftT (r : Rect) (dx dy : Int) : Rect := cleanT { cleanT r with X := (cleanT r).X + dx, Y := (cleanT r).Y + dy }
theorem shift_is {r : Rect} {dx dy : Int} (h1 : -10000 ≤ dx ∧ dx ≤ 10000) (h2 : -10000 ≤ dy ∧ dy ≤ 10000) : rect_Shift r dx dy = some (shiftT r dx dy) := by
  unfold rect_Shift shiftT
  rw [clean_is]
  obtain ⟨a1, a2, a3, a4, a5, a6, a7, a8⟩ := (nice_clean r).1
  simp only [Option.bind_some]
  rw [sum_is (by omega) (by omega)]
  simp only [Option.bind_some]
  rw [sum_is (by omega) (by omega)]
  simp only [Option.bind_some, clean_is]
def intoT (a b : Rect) : Rect := cleanT ⟨cl a.X b.X (b.X + b.W - min a.W b.W), cl a.Y b.Y (b.Y + b.H - min a.H b.H), min a.W b.W, min a.H b.H⟩
theorem into_is {a b : Rect} (ha : Nice a) (hb : Nice b) : rect_Into a b = some (intoT a b) := by
  unfold rect_Into intoT
  rw [clean_is, clean_is, clean_nice ha, clean_nice hb]
  obtain ⟨a1, a2, a3, a4, a5, a6, a7, a8⟩ := ha.1
  obtain ⟨b1, b2, b3, b4, b5, b6, b7, b8⟩ := hb.1
  simp only [Option.bind_some, rect_Clamp]
  rw [w64_id (n := b.X + b.W) (by omega) (by omega), w64_id (n := b.Y + b.H) (by omega) (by omega), w64_id (n := b.X + b.W - min a.W b.W) (by omega) (by omega), w64_id (n := b.Y + b.H - min a.H b.H) (by omega) (by omega)]
  simp only [clean_is, Option.bind_some]
  rfl
def fltT (r f : Rect) : Rect := intoT (shiftT f r.X r.Y) r
def fltL (r : Rect) : List Rect → Nat → List Spot → List Spot
  | [], _, sp => sp
  | f :: fs, i, sp => fltL r fs (i + 1) (sp ++ [⟨sp.length, fltT r f, (i + 1 : Nat), false⟩])
theorem flt_loop {p : Plan} {r : Rect} (hr : Nice r) (hl : p.Float.length ≤ 24) : ∀ (fs : List Rect) (i : Nat) (sp : List Spot), p.Float.drop i = fs → i + fs.length = p.Float.length → sp.length + fs.length < 1000000 →
    iter (fun s => layout_Place_l1 p r s.1 s.2 : (Int × Placer) → Option ((Int × Placer) ⊕ Placer)) ((i : Int), ⟨sp⟩) = some ⟨fltL r fs i sp⟩
  | [], i, sp, hd, hi, hs => by
    refine iter_inr ?_
    simp only [layout_Place_l1, letB]
    rw [decide_eq_false (by simp only [List.length_nil] at hi; omega)]
    rfl
  | f :: fs, i, sp, hd, hi, hs => by
    obtain ⟨hlt, hget, hdrop⟩ := drop_get hd
    simp only [List.length_cons] at hi hs
    obtain ⟨a1, a2, a3, a4, a5, a6, a7, a8⟩ := hr.1
    refine (iter_inl (s' := (((i + 1 : Nat) : Int), ⟨sp ++ [⟨sp.length, fltT r f, (i + 1 : Nat), false⟩]⟩)) ?_).trans (flt_loop hr hl fs (i + 1) _ hdrop (by omega) (by simp; omega))
    simp only [layout_Place_l1, letB]
    rw [decide_eq_true (show (i : Int) < (p.Float.length : Int) by omega), idx_nat hlt, hget, w64_id (n := (i : Int) + 1) (by omega) (by omega)]
    simp only [cond_true, Option.bind_some]
    rw [shift_is (by omega) (by omega)]
    simp only [Option.bind_some]
    rw [into_is (show Nice (shiftT f r.X r.Y) from nice_clean _) hr]
    simp only [Option.bind_some]
    rw [add_is (by omega)]
    rfl
def okP (p : Plan) : Prop := (mT 12 p 0).1 = true ∧ (p.Float.length : Int) ≤ 24 - (mT 12 p 0).2
theorem okP_right {p : Plan} (h : okP p) : Rt 12 p ∧ (mT 12 p 0).2 = lv 12 p ∧ lv 12 p + p.Float.length ≤ 24 := by
  obtain ⟨h1, h2⟩ := h
  obtain ⟨a, b⟩ := mT_right 12 p 0 (mT 12 p 0).2 (by omega) (by omega) (Prod.ext h1 rfl)
  exact ⟨a, by omega, by omega⟩
noncomputable def placeT (p : Plan) (r : Rect) : List Spot := fltL (cleanT r) p.Float 0 (enumS 0 (layT 12 p (cleanT r)))
theorem place_is {p : Plan} (h : okP p) (r : Rect) : layout_Place p r = some (placeT p r) := by
  obtain ⟨h1, h2, h3⟩ := okP_right h
  unfold layout_Place placeT
  rw [check_plan, if_pos (show _ ∧ _ from h)]
  have hl := layT_len 12 p (cleanT r) h1 (nice_clean r)
  have hlay := lay_is 12 30 p (cleanT r) [] h1 (nice_clean r) (by omega) (by simp; omega)
  simp only [Option.bind_some, letB, clean_is, layout_placer_lay]
  rw [hlay]
  have hloop := flt_loop (p := p) (nice_clean r) (by omega) p.Float 0 (enumS 0 (layT 12 p (cleanT r))) rfl (by omega) (by rw [enumS_len]; omega)
  simp only [Option.bind_some, enumS_is, List.nil_append, List.length_nil]
  rw [show (0 : Int) = ((0 : Nat) : Int) from rfl, hloop]
  rfl
theorem pair_eq {a b : Rect} {c : Bool} (h : a = b) : (cleanT a, c) = (cleanT b, c) := by rw [h]
theorem stkT_get : ∀ (k : Nat) (r : Rect) (j : Nat) (h : j < (stkT k r).length), (stkT k r)[j] =
    if j < k then (cleanT { r with Y := r.Y + min (j : Int) (max (r.H - 1) 0), H := if (j : Int) < max (r.H - 1) 0 then 1 else 0 }, true)
    else (cleanT { r with Y := r.Y + min (k : Int) (max (r.H - 1) 0), H := r.H - min (k : Int) (max (r.H - 1) 0) }, false)
  | 0, r, j, h => by
    have h : j < 1 := h
    obtain rfl : j = 0 := by omega
    rw [if_neg (by omega)]
    show (cleanT r, false) = _
    have e1 : min ((0 : Nat) : Int) (max (r.H - 1) 0) = 0 := by omega
    rw [e1, Int.add_zero, Int.sub_zero]
  | k + 1, r, 0, h => by
    rw [if_pos (show 0 < k + 1 by omega)]
    show (cleanT _, true) = _
    refine pair_eq ?_
    simp only [Rect.mk.injEq, true_and]
    exact ⟨by omega, by split <;> omega⟩
  | k + 1, r, j + 1, h => by
    have := stkT_get k { r with Y := r.Y + min 1 (max (r.H - 1) 0), H := r.H - min 1 (max (r.H - 1) 0) } j (by rw [stkT_len] at h ⊢; omega)
    simp only [stkT, List.getElem_cons_succ]
    rw [this]
    by_cases hj : j < k
    · rw [if_pos hj, if_pos (show j + 1 < k + 1 by omega)]
      refine pair_eq ?_
      simp only [Rect.mk.injEq, true_and]
      refine ⟨by omega, ?_⟩
      by_cases hh : (j : Int) < max (r.H - min 1 (max (r.H - 1) 0) - 1) 0
      · rw [if_pos hh, if_pos (by omega)]
      · rw [if_neg hh, if_neg (by omega)]
    · rw [if_neg hj, if_neg (show ¬ j + 1 < k + 1 by omega)]
      refine pair_eq ?_
      simp only [Rect.mk.injEq, true_and]
      omega
def leafP : Plan := ⟨1, ⟨0, 0⟩, [], [], []⟩
def stackP (n : Nat) : Plan := ⟨4, ⟨0, 0⟩, [], List.replicate n leafP, []⟩
theorem and15 (n : Int) : ∃ k : Nat, iAnd .i64 n 15 = (k : Int) ∧ k ≤ 15 := by
  unfold iAnd
  have h1 : (BitVec.ofInt (IntKind.bits .i64) n &&& BitVec.ofInt (IntKind.bits .i64) 15).toNat ≤ 15 := by
    rw [BitVec.toNat_and]
    exact Nat.le_trans Nat.and_le_right (by decide)
  refine ⟨(BitVec.ofInt (IntKind.bits .i64) n &&& BitVec.ofInt (IntKind.bits .i64) 15).toNat, ?_, h1⟩
  exact w64_id (by omega) (by omega)
theorem build_loop {n : Int} {k : Nat} (hk : iAnd .i64 n 15 = (k : Int)) (hk2 : k ≤ 15) : ∀ (m i : Nat), i + m = k + 1 →
    iter (fun s => casementlaw10_LayoutStacks_l1 n s.1 s.2 : (Int × Plan) → Option ((Int × Plan) ⊕ Plan)) ((i : Int), stackP i) = some (stackP (k + 1))
  | 0, i, hi => by
    obtain rfl : i = k + 1 := by omega
    refine iter_inr ?_
    simp only [casementlaw10_LayoutStacks_l1, letB, hk]
    rw [w64_id (n := 1 + (k : Int)) (by omega) (by omega), decide_eq_false (by omega)]; rfl
  | m + 1, i, hi => by
    refine (iter_inl (s' := (((i + 1 : Nat) : Int), stackP (i + 1))) ?_).trans (build_loop hk hk2 m (i + 1) (by omega))
    simp only [casementlaw10_LayoutStacks_l1, letB, hk]
    rw [w64_id (n := 1 + (k : Int)) (by omega) (by omega), decide_eq_true (by omega), w64_id (n := (i : Int) + 1) (by omega) (by omega)]
    have : app (stackP i).Kids [leafP] = some (List.replicate (i + 1) leafP) := by
      rw [app_one (by simp [stackP]; omega)]
      simp [stackP, List.replicate_succ']
    show (cond true ((app (stackP i).Kids [leafP]).bind _) _) = _
    rw [this]
    rfl
theorem leaf_kids {d : Nat} {q : Plan} {s : Nat → Plan} (hs : ∀ i, sizeOK (s i).Size ∧ (s i).Kind = 1) : ∀ (ks : List Plan) (n : Int), (∀ k ∈ ks, sizeOK k.Size ∧ k.Kind = 1) → n + ks.length ≤ 24 → mKids (mT (d + 1)) q ks n = (true, n + ks.length)
  | [], n, h, hn => by simp [mKids]
  | k :: ks, n, h, hn => by
    obtain ⟨a, b⟩ := h k (.head _)
    simp only [List.length_cons] at hn
    unfold mKids
    rw [if_neg (by rw [b]; simp)]
    have e : mT (d + 1) k n = (true, n + 1) := by
      unfold mT
      rw [if_neg (by simpa using a), if_pos b, decide_eq_true (by omega)]
    rw [e, if_pos rfl, leaf_kids hs ks (n + 1) (fun x hx => h x (.tail _ hx)) (by show n + 1 + _ ≤ _; omega)]
    simp only [List.length_cons]
    congr 1; omega
theorem stack_ok {k : Nat} (hk : k ≤ 15) : okP (stackP (k + 1)) := by
  have hm : mT 12 (stackP (k + 1)) 0 = (true, 0 + ((k + 1 : Nat) : Int)) := by
    show (if ¬ sizeOK ⟨0, 0⟩ then (false, (0 : Int)) else if (4 : Int) = 1 then _ else if ¬ kindOK (stackP (k + 1)) then _ else if (stackP (k + 1)).Kids.length < 1 ∨ 16 < (stackP (k + 1)).Kids.length then _ else mKids (mT 11) (stackP (k + 1)) (stackP (k + 1)).Kids 0) = _
    rw [if_neg (by decide), if_neg (by decide), if_neg (by simp [kindOK, stackP]), if_neg (by simp [stackP]; omega)]
    rw [leaf_kids (s := fun _ => leafP) (fun _ => ⟨by decide, rfl⟩) _ _ (fun x hx => by
      obtain ⟨_, rfl⟩ := List.mem_replicate.1 hx
      exact ⟨by decide, rfl⟩) (by simp [stackP]; omega)]
    simp [stackP]
  unfold okP
  rw [hm]
  exact ⟨rfl, by simp [stackP]; omega⟩
theorem stacks_pure (n : Int) (r : Rect) : casementlaw10_LayoutStacks n r = some true := by
  obtain ⟨k, hk, hk2⟩ := and15 n
  have hn : w64 (1 + iAnd .i64 n 15) = ((k + 1 : Nat) : Int) := by rw [hk, w64_id (by omega) (by omega)]; omega
  have hnice := nice_clean r
  obtain ⟨a1, a2, a3, a4, a5, a6, a7, a8⟩ := hnice.1
  have hplace : placeT (stackP (k + 1)) r = enumS 0 (stkT k (cleanT r)) := by
    unfold placeT
    show enumS 0 (layT 12 (stackP (k + 1)) (cleanT r)) = _
    congr 1
    show (if (4 : Int) = 1 then _ else if (4 : Int) = 4 then stkT ((stackP (k + 1)).Kids.length - 1) (cleanT r) else _) = _
    rw [if_neg (by decide), if_pos rfl]
    simp [stackP]
  have loop : ∀ (m i : Nat), i + m = k + 1 → iter (fun s => casementlaw10_LayoutStacks_l2 n (enumS 0 (stkT k (cleanT r))) (cleanT r) s : Int → Option (Int ⊕ ((Spot × Rect) ⊕ Unit))) (i : Int) = some (.inr ()) := by
    intro m
    induction m with
    | zero =>
      intro i hi
      refine iter_inr ?_
      simp only [casementlaw10_LayoutStacks_l2, letB]
      rw [decide_eq_false (by rw [enumS_len, stkT_len]; omega)]; rfl
    | succ m ih =>
      intro i hi
      refine (iter_inl (s' := ((i + 1 : Nat) : Int)) ?_).trans (ih (i + 1) (by omega))
      have hlt : i < (stkT k (cleanT r)).length := by rw [stkT_len]; omega
      have hidx : idx (enumS 0 (stkT k (cleanT r))) (i : Int) = some ⟨(i : Int), (stkT k (cleanT r))[i].1, 0, (stkT k (cleanT r))[i].2⟩ := by
        unfold idx
        rw [if_pos (by omega), Int.toNat_natCast, enumS_get _ _ _ hlt]
        simp
      simp only [casementlaw10_LayoutStacks_l2, letB, hn]
      rw [decide_eq_true (by rw [enumS_len]; omega), hidx, w64_id (n := ((k + 1 : Nat) : Int) - 1) (by omega) (by omega), w64_id (n := (i : Int) + 1) (by omega) (by omega), w64_id (n := (cleanT r).H - 1) (by omega) (by omega)]
      simp only [cond_true, Option.bind_some, casementlaw10_at, and_s]
      rw [w64_id (n := (cleanT r).Y + (i : Int)) (by omega) (by omega), show ((k + 1 : Nat) : Int) - 1 = (k : Int) by omega]
      rw [w64_id (n := (cleanT r).Y + min (k : Int) (max ((cleanT r).H - 1) 0)) (by omega) (by omega), w64_id (n := (cleanT r).H - min (k : Int) (max ((cleanT r).H - 1) 0)) (by omega) (by omega)]
      have want : ∀ {w : Rect}, (Option.bind (bif decide ((i : Int) = (k : Int)) && decide ((cleanT r).H > 0) then some ⟨(cleanT r).X, (cleanT r).Y + min (k : Int) (max ((cleanT r).H - 1) 0), (cleanT r).W, (cleanT r).H - min (k : Int) (max ((cleanT r).H - 1) 0)⟩
          else Option.bind (bif decide ((i : Int) < min (k : Int) (max ((cleanT r).H - 1) 0)) then some ⟨(cleanT r).X, (cleanT r).Y + (i : Int), (cleanT r).W, 1⟩ else some ⟨0, 0, 0, 0⟩ : Option Rect) fun j23 => some j23) fun j24 => some j24) = some (stkT k (cleanT r))[i].1 ∧ ((stkT k (cleanT r))[i].2 = decide ((i : Int) < (k : Int))) := by
        intro w
        rw [stkT_get k (cleanT r) i hlt]
        generalize cleanT r = q at *
        have hz : q.H = 0 → q.W = 0 := fun h => by
          have := hnice.2 (.inr h)
          rw [this]
        have hz2 : q.W = 0 → q.H = 0 := fun h => by
          have := hnice.2 (.inl h)
          rw [this]
        have cz : ∀ {x : Rect}, Rok x → x.H = 0 → cleanT x = ⟨0, 0, 0, 0⟩ := fun hx h => by rw [clean_rok hx, if_pos (.inr h)]
        by_cases hik : i < k
        · rw [if_pos hik, decide_eq_false (show ¬ (i : Int) = (k : Int) by omega), decide_eq_true (show (i : Int) < (k : Int) by omega)]
          refine ⟨?_, rfl⟩
          simp only [Bool.false_and, cond_false]
          by_cases ht : (i : Int) < max (q.H - 1) 0
          · rw [decide_eq_true (show (i : Int) < min (k : Int) (max (q.H - 1) 0) by omega), if_pos ht]
            simp only [cond_true, Option.bind_some]
            have hx : Rok { q with Y := q.Y + min (i : Int) (max (q.H - 1) 0), H := 1 } := ⟨a1, a2, a3, a4, by simp only; omega, by simp only; omega, by simp only; omega, by simp only; omega⟩
            rw [clean_rok hx, if_neg (by simp only; omega)]
            congr 2; omega
          · rw [decide_eq_false (show ¬ (i : Int) < min (k : Int) (max (q.H - 1) 0) by omega), if_neg ht]
            simp only [cond_false, Option.bind_some]
            have hx : Rok { q with Y := q.Y + min (i : Int) (max (q.H - 1) 0), H := 0 } := ⟨a1, a2, a3, a4, by simp only; omega, by simp only; omega, by simp only; omega, by simp only; omega⟩
            rw [cz hx rfl]
        · have hik2 : i = k := by omega
          subst hik2
          rw [if_neg hik, decide_eq_false (show ¬ (i : Int) < (i : Int) by omega), decide_eq_true (show (i : Int) = (i : Int) from rfl)]
          refine ⟨?_, rfl⟩
          have hx : Rok { q with Y := q.Y + min (i : Int) (max (q.H - 1) 0), H := q.H - min (i : Int) (max (q.H - 1) 0) } := ⟨a1, a2, a3, a4, by simp only; omega, by simp only; omega, by simp only; omega, by simp only; omega⟩
          by_cases hh : q.H > 0
          · rw [decide_eq_true hh]
            simp only [Bool.and_self, cond_true, Option.bind_some]
            rw [clean_rok hx, if_neg (by simp only; omega)]
          · rw [decide_eq_false hh, decide_eq_false (show ¬ (i : Int) < min (i : Int) (max (q.H - 1) 0) by omega)]
            simp only [Bool.and_false, cond_false, Option.bind_some]
            rw [cz hx (by simp only; omega)]
      obtain ⟨w1, w2⟩ := want (w := cleanT r)
      rw [w1]
      simp only [Option.bind_some, w2]
      simp
  unfold casementlaw10_LayoutStacks casementlaw10_alive
  simp only [Option.bind_some, letB, hn]
  rw [show (Plan.mk 4 (Size.mk 0 0) [] [] []) = stackP 0 from rfl, show (0 : Int) = ((0 : Nat) : Int) from rfl, build_loop hk hk2 (k + 1) 0 (by omega)]
  simp only [Option.bind_some, Bool.not_true, cond_false, place_is (stack_ok hk2), clean_is, hplace, enumS_len, stkT_len]
  rw [show decide (((k + 1 : Nat) : Int) ≠ ((k + 1 : Nat) : Int)) = false by simp]
  simp only [cond_false]
  rw [loop (k + 1) 0 (by omega)]
  rfl
end Go.Proofs.YtakdnfneikbjjaaGreatDoor.Am.Lay10

namespace Go.Proofs.YtakdnfneikbjjaaGreatDoor.Am
inductive Fits (P : Program) : TypeId → List V → Prop
 | bool {t : TypeId} (b : Bool) (h : P.underlying t = some .bool) : Fits P t [.bool b]
 | int {t : TypeId} {k : IntKind} (n : Int) (h : P.underlying t = some (.int k)) (hn : (Lit.int k n).wf = true) : Fits P t [.int k n]
 | str {t : TypeId} (s : List UInt8) (h : P.underlying t = some .string) (hs : s.length ≤ maxLen) : Fits P t [.str s]
 | nils {t e : TypeId} (h : P.underlying t = some (.slice e)) : Fits P t [.nils]
 | slice {t e : TypeId} (xs : List (List V)) (h : P.underlying t = some (.slice e)) (hl : xs.length ≤ maxLen) (hx : ∀ i, i < xs.length → Fits P e (xs.getD i [])) : Fits P t [.slice false (P.cellsOf e) xs]
 | struct {t : TypeId} {fs : Array Field} (cs : List V) (h : P.underlying t = some (.struct fs)) (hl : cs.length = P.cellsOf t) (hf : ∀ f ∈ fs.toList, Fits P f.type ((cs.drop f.offset).take (P.cellsOf f.type))) : Fits P t cs
 | array {t e : TypeId} {n : Nat} (cs : List V) (h : P.underlying t = some (.array n e)) (hl : cs.length = P.cellsOf t) (hf : ∀ i, i < n → Fits P e ((cs.drop (i * P.cellsOf e)).take (P.cellsOf e))) : Fits P t cs
def tiles (P : Program) : Nat → List Field → Nat → Bool
 | n, [], m => n == m
 | n, f :: fs, m => f.offset == n && tiles P (n + P.cellsOf f.type) fs m
def supT (P : Program) : Nat → TypeId → Bool
 | 0, _ => false
 | d + 1, t => match P.underlying t with
  | some .bool | some (.int _) | some .string => P.cellsOf t == 1
  | some (.slice e) => P.cellsOf t == 1 && decide (0 < P.cellsOf e) && supT P d e
  | some (.struct fs) => tiles P 0 fs.toList (P.cellsOf t) && fs.toList.all fun f => supT P d f.type
  | some (.array n e) => P.cellsOf t == n * P.cellsOf e && supT P d e
  | _ => false
section
variable {P : Program} {H : Type} {enc : TypeId × Value → H} {W : World}
def blocksOf (W : World) : Nat → Prop := fun c => c < W.heap.size
theorem cell_block {a : Addr} {v : Value} (h : W.cell? a = some v) : a.block < W.heap.size ∧ a.spot = none := by
 unfold World.cell? at h
 cases hb : W.heap[a.block]? with
 | none => rw [hb] at h; cases h
 | some o =>
  rw [hb] at h
  refine ⟨(Array.getElem?_eq_some_iff.1 hb).1, ?_⟩
  cases o with
  | cells c _ _ =>
   simp only at h
   split at h
   ·cases h
   ·rename_i hs; simpa using hs
  | _ => cases h
def Reads (P : Program) (W : World) (t : TypeId) (cs : List Value) : Prop :=
 ∃ vs : List V, vs.length = cs.length ∧ Fits P t vs ∧ ∀ k, k < cs.length → RB (blocksOf W) W (vs.getD k .undef) (cs.getD k undef)
theorem trod_array {n : Nat} {e t : TypeId} {base fuel : Nat} {sp : Nat → Bool} {held : Bool} {cs : List Value} {x : DataW H × List MemPlace} (ht : P.underlying t = some (.array n e)) (h : DataW.trod enc P W base sp held fuel t cs = some x) :
  cs.length = P.cellsOf t ∧ ∃ m, ∀ i, i < n → ∃ y, DataW.trod enc P W base sp held m e ((cs.drop (i * P.cellsOf e)).take (P.cellsOf e)) = some y := by
 cases fuel with
 | zero => simp [DataW.trod] at h
 | succ m =>
  unfold DataW.trod at h
  rw [ht] at h
  split at h <;> simp_all
  obtain ⟨hl, xs, hp, hd⟩ := h
  refine ⟨m, fun i hi => ?_⟩
  have h1 := mapM_some_length hp
  have h2 := mapM_some_get hp i i (by simp [hi])
  simp only [List.length_range] at h1
  rw [List.getElem?_eq_getElem (by omega)] at h2
  exact ⟨_, _, h2⟩
def RBs (W : World) (vs : List V) (cs : List Value) : Prop := vs.length = cs.length ∧ ∀ k, k < cs.length → RB (blocksOf W) W (vs.getD k .undef) (cs.getD k undef)
theorem RBs.append {vs us : List V} {cs ds : List Value} (h : RBs W vs cs) (k : RBs W us ds) : RBs W (vs ++ us) (cs ++ ds) := by
 refine ⟨by simp [h.1, k.1], fun i hi => ?_⟩
 simp only [List.getD_eq_getElem?_getD]
 have h1 := h.1
 by_cases hlt : i < cs.length
 ·have := h.2 i hlt
  simp only [List.getD_eq_getElem?_getD] at this
  rw [List.getElem?_append_left (by omega), List.getElem?_append_left hlt]; exact this
 ·rw [List.length_append] at hi
  have := k.2 (i - cs.length) (by omega)
  simp only [List.getD_eq_getElem?_getD] at this
  rw [List.getElem?_append_right (by omega), List.getElem?_append_right (by omega), h1]; exact this
theorem reads_iff {t : TypeId} {cs : List Value} : Reads P W t cs ↔ ∃ vs, Fits P t vs ∧ RBs W vs cs :=
 ⟨fun ⟨vs, a, b, c⟩ => ⟨vs, b, a, c⟩, fun ⟨vs, b, a, c⟩ => ⟨vs, a, b, c⟩⟩
theorem fields_of {cs : List Value} : ∀ {fs : List Field} {n m : Nat}, tiles P n fs m = true → m ≤ cs.length → (∀ f ∈ fs, Reads P W f.type ((cs.drop f.offset).take (P.cellsOf f.type))) →
  n ≤ m ∧ ∃ vs, RBs W vs ((cs.drop n).take (m - n)) ∧ ∀ f ∈ fs, n ≤ f.offset ∧ Fits P f.type ((vs.drop (f.offset - n)).take (P.cellsOf f.type))
 | [], n, m, ht, hm, _ => by
  have : n = m := by simpa [tiles] using ht
  subst this
  exact ⟨Nat.le_refl _, [], ⟨by simp, fun k hk => absurd hk (by simp)⟩, fun f hf => by cases hf⟩
 | f :: fs, n, m, ht, hm, hr => by
  simp only [tiles, Bool.and_eq_true, beq_iff_eq] at ht
  obtain ⟨h0, ht⟩ := ht
  obtain ⟨hle, vs, hvs, hfs⟩ := fields_of ht hm fun g hg => hr g (.tail _ hg)
  obtain ⟨us, hfit, hus⟩ := reads_iff.1 (hr f (.head _))
  rw [h0] at hus
  have hul : us.length = P.cellsOf f.type := by rw [hus.1]; simp; omega
  have hsplit : (cs.drop n).take (m - n) = (cs.drop n).take (P.cellsOf f.type) ++ (cs.drop (n + P.cellsOf f.type)).take (m - (n + P.cellsOf f.type)) := by
   rw [← List.drop_drop, ← List.take_add]
   congr 1
   omega
  refine ⟨by omega, us ++ vs, by rw [hsplit]; exact hus.append hvs, fun g hg => ?_⟩
  cases hg with
  | head =>
   refine ⟨by omega, ?_⟩
   rw [h0, Nat.sub_self, List.drop_zero, List.take_append_of_le_length (by omega), List.take_of_length_le (by omega)]
   exact hfit
  | tail _ hg =>
   obtain ⟨h1, h2⟩ := hfs g hg
   refine ⟨by omega, ?_⟩
   rw [List.drop_append, List.drop_eq_nil_of_le (by omega), List.nil_append, hul]
   rw [show g.offset - n - P.cellsOf f.type = g.offset - (n + P.cellsOf f.type) from by omega]
   exact h2
theorem elems_of {cs : List Value} {e : TypeId} : ∀ {n : Nat}, n * P.cellsOf e ≤ cs.length → (∀ i, i < n → Reads P W e ((cs.drop (i * P.cellsOf e)).take (P.cellsOf e))) →
  ∃ vs, RBs W vs (cs.take (n * P.cellsOf e)) ∧ ∀ i, i < n → Fits P e ((vs.drop (i * P.cellsOf e)).take (P.cellsOf e))
 | 0, _, _ => ⟨[], ⟨by simp, fun k hk => absurd hk (by simp)⟩, fun i hi => absurd hi (by omega)⟩
 | n + 1, hn, hr => by
  have hs : (n + 1) * P.cellsOf e = n * P.cellsOf e + P.cellsOf e := Nat.succ_mul _ _
  obtain ⟨vs, hvs, hfs⟩ := elems_of (n := n) (by omega) fun i hi => hr i (by omega)
  obtain ⟨us, hfit, hus⟩ := reads_iff.1 (hr n (by omega))
  have hvl : vs.length = n * P.cellsOf e := by rw [hvs.1]; simp; omega
  have hul : us.length = P.cellsOf e := by rw [hus.1]; simp; omega
  refine ⟨vs ++ us, by rw [hs, List.take_add]; exact hvs.append hus, fun i hi => ?_⟩
  by_cases hin : i = n
  ·subst hin
   rw [List.drop_append, List.drop_eq_nil_of_le (by omega), List.nil_append, hvl, Nat.sub_self, List.drop_zero, List.take_of_length_le (by omega)]
   exact hfit
  ·have h1 := hfs i (by omega)
   have h2 : i * P.cellsOf e + P.cellsOf e ≤ n * P.cellsOf e := by rw [← Nat.succ_mul]; exact Nat.mul_le_mul_right _ (by omega)
   rw [List.drop_append_of_le_length (by omega), List.take_append_of_le_length (by simp; omega)]
   exact h1
theorem list_choose {α : Type} {n : Nat} {p : Nat → α → Prop} (h : ∀ i, i < n → ∃ x, p i x) : ∃ l : List α, l.length = n ∧ ∀ i x, l[i]? = some x → p i x := by
 induction n with
 | zero => exact ⟨[], rfl, fun i x hx => by simp at hx⟩
 | succ n ih =>
  obtain ⟨l, hl, hp⟩ := ih fun i hi => h i (by omega)
  obtain ⟨x, hx⟩ := h n (by omega)
  refine ⟨l ++ [x], by simp [hl], fun i y hy => ?_⟩
  by_cases hi : i < l.length
  ·rw [List.getElem?_append_left hi] at hy; exact hp i y hy
  ·rw [List.getElem?_append_right (by omega)] at hy
   have : i - l.length = 0 := by
    rcases Nat.eq_zero_or_pos (i - l.length) with h0 | h0
    ·exact h0
    ·rw [List.getElem?_eq_none (by simp; omega)] at hy; cases hy
   rw [this] at hy
   simp only [List.getElem?_cons_zero, Option.some.injEq] at hy
   subst hy
   have : i = n := by omega
   subst this; exact hx
theorem reads_of : ∀ {d : Nat} {t : TypeId}, supT P d t = true → ∀ {fuel : Nat} {held : Bool} {cs : List Value} {x : DataW H × List MemPlace}, DataW.trod enc P W 0 (fun _ => true) held fuel t cs = some x → Reads P W t cs := by
 intro d
 induction d with
 | zero => intro t h; cases h
 | succ d ih =>
  intro t h fuel held cs x hx
  simp only [supT] at h
  split at h
  ·rename_i ht
   obtain ⟨b, rfl, _⟩ := DataW.trod_bool ht hx
   exact ⟨[.bool b], rfl, .bool b ht, fun k hk => by
    have : k = 0 := by simpa using hk
    subst this; exact .bool b⟩
  ·rename_i kk ht
   obtain ⟨n, rfl, _, hwf⟩ := DataW.trod_int ht hx
   exact ⟨[.int kk n], rfl, .int n ht hwf, fun k hk => by
    have : k = 0 := by simpa using hk
    subst this; exact .int kk n⟩
  ·rename_i ht
   obtain ⟨s, rfl, _, hs⟩ := DataW.trod_string ht hx
   exact ⟨[.str s.data.toList], rfl, .str _ ht (by simpa using hs), fun k hk => by
    have : k = 0 := by simpa using hk
    subst this; exact .str s⟩
  ·rename_i e ht
   simp only [Bool.and_eq_true, beq_iff_eq, decide_eq_true_eq] at h
   obtain ⟨⟨_, hpos⟩, hsup⟩ := h
   rcases DataW.trod_slice ht hx with ⟨rfl, _⟩ | ⟨a, len, cap, elems, rest, n, _, rfl, _, _, hlc, hcap, hel, he, hre, _⟩
   ·exact ⟨[.nils], rfl, .nils ht, fun k hk => by
     have : k = 0 := by simpa using hk
     subst this; exact .nils⟩
   ·have hone : ∀ i, i < len → ∃ vs : List V, Fits P e vs ∧ vs.length = P.cellsOf e ∧ ∀ k, k < P.cellsOf e → ∃ v, W.cell? ((a.add (i * P.cellsOf e)).add k) = some v ∧ RB (blocksOf W) W (vs.getD k .undef) v := fun i hi => by
     have h1 := he i hi
     rw [List.getElem?_eq_getElem (by omega)] at h1
     simp only [Option.bind_eq_some_iff] at h1
     obtain ⟨cs', hc1, hc2⟩ := h1
     obtain ⟨_, hl, hc⟩ := World.cells?_some hc1
     obtain ⟨vs, hf, hr⟩ := reads_iff.1 (ih hsup hc2)
     refine ⟨vs, hf, by rw [hr.1, hl], fun k hk => ⟨cs'.getD k undef, ?_, hr.2 k (by omega)⟩⟩
     rw [hc k hk, List.getD_eq_getElem?_getD, List.getElem?_eq_getElem (by omega)]; rfl
    obtain ⟨xs, hxl, hxs⟩ := list_choose hone
    have hxs' : ∀ i, i < xs.length → Fits P e (xs.getD i []) ∧ (xs.getD i []).length = P.cellsOf e ∧ ∀ k, k < P.cellsOf e → ∃ v, W.cell? ((a.add (i * P.cellsOf e)).add k) = some v ∧ RB (blocksOf W) W ((xs.getD i []).getD k .undef) v := fun i hi => by
     rw [List.getD_eq_getElem?_getD, List.getElem?_eq_getElem hi]
     exact hxs i _ (List.getElem?_eq_getElem hi)
    have hblk : 0 < cap → a.block < W.heap.size ∧ a.spot = none := fun hc0 => by
     have h00 : (a.add (0 * P.cellsOf e)).add 0 = a := by simp [Addr.add]
     have hcell : ∃ v, W.cell? a = some v := by
      by_cases h0 : 0 < len
      ·obtain ⟨v, hv, _⟩ := (hxs' 0 (by omega)).2.2 0 hpos
       rw [h00] at hv
       exact ⟨v, hv⟩
      ·have h1 := (hre rfl).2 0 (by omega)
       have h2 := (hre rfl).1
       have hl0 : len = 0 := by omega
       subst hl0
       rw [List.getElem?_eq_getElem (by omega)] at h1
       simp only [Option.bind_eq_some_iff] at h1
       obtain ⟨cs', hc1, _⟩ := h1
       obtain ⟨_, hl, hc⟩ := World.cells?_some hc1
       have h3 := hc 0 hpos
       rw [Nat.add_zero, h00, List.getElem?_eq_getElem (by omega)] at h3
       exact ⟨_, h3⟩
     obtain ⟨v, hv⟩ := hcell
     exact cell_block hv
    refine ⟨[.slice false (P.cellsOf e) xs], rfl, .slice xs ht (by omega) (fun i hi => (hxs' i hi).1), fun k hk => ?_⟩
    have : k = 0 := by simpa using hk
    subst this
    simp only [List.getD_cons_zero]
    refine RB.slice_iff.2 ⟨a, cap, by rw [hxl], fun hc0 => (hblk hc0).2, fun hc0 => (hblk hc0).1, by omega, fun i hi => (hxs' i hi).2.1, fun i k hi hk => ?_⟩
    obtain ⟨v, hv, hr⟩ := (hxs' i hi).2.2 k hk
    refine ⟨v, ?_, hr⟩
    have hsp := (hblk (by omega)).2
    rw [addr_add hsp, addr_add rfl] at hv
    rw [← hv]
    simp [Nat.add_assoc]
  ·rename_i fs ht
   simp only [Bool.and_eq_true, List.all_eq_true] at h
   obtain ⟨htile, hall⟩ := h
   obtain ⟨xs, n, _, _, hl, hxl, hf⟩ := DataW.trod_struct ht hx
   obtain ⟨_, vs, hvs, hfs⟩ := fields_of (P := P) (W := W) (cs := cs) htile (by omega) fun f hfm => by
    obtain ⟨i, hi⟩ := List.getElem?_of_mem hfm
    have hi' : i < fs.size := by have := (List.getElem?_eq_some_iff.1 hi).1; simpa using this
    have h1 := hf i f (by simpa using hi)
    rw [List.getElem?_eq_getElem (by omega)] at h1
    exact ih (hall f hfm) h1
   rw [List.drop_zero, Nat.sub_zero, List.take_of_length_le (by omega)] at hvs
   exact reads_iff.2 ⟨vs, .struct vs ht (by rw [hvs.1, hl]) (fun f hfm => by simpa using (hfs f hfm).2), hvs⟩
  ·rename_i n e ht
   simp only [Bool.and_eq_true, beq_iff_eq] at h
   obtain ⟨hsz, hsup⟩ := h
   obtain ⟨hl, m, hm⟩ := trod_array ht hx
   obtain ⟨vs, hvs, hfs⟩ := elems_of (P := P) (W := W) (cs := cs) (e := e) (n := n) (by omega) fun i hi => by
    obtain ⟨y, hy⟩ := hm i hi
    exact ih hsup hy
   rw [List.take_of_length_le (by omega)] at hvs
   exact reads_iff.2 ⟨vs, .array vs ht (by rw [hvs.1, hl]) hfs, hvs⟩
  ·cases h
end
end Go.Proofs.YtakdnfneikbjjaaGreatDoor.Am

namespace Go.Proofs.YtakdnfneikbjjaaGreatDoor.Am
section
variable {P : Program} {W : World}
inductive ArgOK (W : World) : V → Value → Prop
 | leaf {x : V} {v : Value} (h : RB (blocksOf W) W x v) : ArgOK W x v
 | agg (cs : List V) (arr : Array Value) (hs : arr.size = cs.length) (h : ∀ k, k < cs.length → RB (blocksOf W) W (cs.getD k .undef) (arr.getD k undef)) : ArgOK W (.agg cs) (.agg arr)
def g0 (W : World) : G := ⟨id, id, fun _ => False, blocksOf W⟩
theorem RB.toR1 {x : V} {v : Value} (h : RB (blocksOf W) W x v) : R1 (g0 W) W 0 x v := by
 cases h with
 | func f => exact ⟨#[], rfl, rfl, fun k hk => absurd hk (by simp)⟩
 | bool b => exact RB.bool b
 | int k n => exact RB.int k n
 | str b => exact RB.str b
 | nilp => exact RB.nilp
 | nils => exact RB.nils
 | nilf => exact RB.nilf
 | nili => exact RB.nili
 | slice sz xs a cap vs hs hp hc hz hv hr => exact RB.slice sz xs a cap vs hs hp hc hz hv hr
theorem RB.ok0 {x : V} {v : Value} (h : RB (blocksOf W) W x v) : x.ok0 = true := by
 cases h <;> rfl
theorem RB.cnt {x : V} {v : Value} (h : RB (blocksOf W) W x v) (c : Nat) : cnt0 c x v = 0 := by
 cases h <;> rfl
theorem ArgOK.r3 {x : V} {v : Value} (h : ArgOK W x v) (τ : Nat → Value) : R3 (g0 W) W 0 τ x v := by
 cases h with
 | leaf h =>
  have h1 := h.toR1
  cases h <;> exact h1
 | agg cs arr hs h => exact ⟨arr, rfl, hs, fun k hk => ⟨.inl (h k hk).ok0, (h k hk).toR1⟩⟩
theorem ArgOK.okArg {x : V} {v : Value} (h : ArgOK W x v) : x.okArg = true := by
 cases h with
 | leaf h => cases h <;> rfl
 | agg cs arr hs h =>
  simp only [V.okArg, List.all_eq_true]
  intro y hy
  obtain ⟨k, hk, rfl⟩ := List.getElem_of_mem hy
  have := (h k hk).ok0
  rwa [List.getD_eq_getElem?_getD, List.getElem?_eq_getElem hk] at this
theorem ArgOK.cnt {x : V} {v : Value} (h : ArgOK W x v) (c : Nat) : cnt2 c x v = 0 := by
 cases h with
 | leaf h =>
  have h1 := h.cnt c
  cases h <;> exact h1
 | agg cs arr hs h => exact sumTo_zero fun k hk => (h k hk).cnt c
theorem start {args : List V} {vs : Array Value} (hl : args.length = vs.toList.length) (ha : ∀ k, k < args.length → ArgOK W (args.getD k .undef) (vs.toList.getD k undef)) :
  SR (g0 W) W 0 (fun _ => 0) (fun _ => false) ⟨fun _ => .undef, fun _ => [], []⟩ #[] (args.zip vs.toList) := by
 have hmem : ∀ p ∈ args.zip vs.toList, ArgOK W p.1 p.2 := fun p hp => by
  obtain ⟨k, hk, rfl⟩ := List.getElem_of_mem hp
  have hk' : k < args.length := by simp at hk; omega
  have h1 := ha k hk'
  simp only [List.getElem_zip]
  rw [List.getD_eq_getElem?_getD, List.getElem?_eq_getElem hk', List.getD_eq_getElem?_getD, List.getElem?_eq_getElem (by omega)] at h1
  exact h1
 have hcP : ∀ c, cntP c (args.zip vs.toList) = 0 := fun c => by
  rw [cntP_zip hl]; exact sumTo_zero fun k hk => (ha k hk).cnt c
 have hT : ∀ c, total (g0 W) W 0 (fun _ => 0) ⟨fun _ => .undef, fun _ => [], []⟩ #[] (args.zip vs.toList) c = persOf (g0 W) c := fun c => by
  have e1 : cntT c (fun _ => V.undef) #[] = 0 := rfl
  have e2 : cntB (g0 W) W c 0 (fun _ => []) = 0 := rfl
  have e3 : cntM (g0 W) W c [] = 0 := rfl
  unfold total
  simp only [e1, e2, e3, hcP]
  omega
 refine ⟨fun s => trivial, fun s _ => rfl, fun s d hd => (by cases hd), fun p hp => (hmem p hp).r3 _, fun p hp d hd => ?_, fun j => by simp [g0], fun j hj => absurd rfl hj, fun b hb => absurd hb (by simp), fun c => ?_, fun c hc => ?_⟩
 ·obtain ⟨b, o, e⟩ := okArg_root (hmem p hp).okArg hd; cases e
 ·rw [hT]; unfold persOf; split <;> omega
 ·rw [hT]; unfold persOf
  rw [if_neg]
  show ¬ (c < W.heap.size)
  omega
theorem law_calls [Lay P] {T : Table} (hLd : Laid P (g0 W) W) (hT : TableOK P T) {f : Nat} {args : List V} {m' : List (List V)} {vs : Array Value} {b : Bool} (hret : RF T f args [] = some (.bool b, m')) (hl : args.length = vs.toList.length)
  (ha : ∀ k, k < args.length → ArgOK W (args.getD k .undef) (vs.toList.getD k undef)) : Calls P f vs W fun e W' => e = .returned (.bool b) ∧ RowKit.Below W.heap.size W W' := by
 obtain ⟨_, hcall⟩ := ret_sound hT (RF_ret.1 hret)
 have hok : args.all V.okArg = true := List.all_eq_true.2 fun y hy => by
  obtain ⟨k, hk, rfl⟩ := List.getElem_of_mem hy
  have := (ha k hk).okArg
  rwa [List.getD_eq_getElem?_getD, List.getElem?_eq_getElem hk] at this
 refine (hcall (g0 W) W (fun _ => 0) vs (by simpa using hl.symm) hok hLd (start hl ha)).mono fun e W' ⟨v, g', he, hS, hE, _⟩ => ?_
 have hv : v = .bool b := R3.bool (hS.pend _ (.head _))
 exact ⟨by rw [he, hv], hE.os, hE.tape, hE.output, hE.size, fun k hk => (hE.pers k hk).2⟩
def FitsV (P : Program) (t : TypeId) (x : V) : Prop :=
 match P.underlying t with
 | some (.struct _) | some (.array _ _) => ∃ cs, x = .agg cs ∧ Fits P t cs
 | _ => Fits P t [x]
section
variable {H : Type} {enc : TypeId × Value → H}
theorem arg_of {d : Nat} {t : TypeId} (hsup : supT P d t = true) {v : Value} {dd : DataW H} {ps : List MemPlace} {base : Nat} (hval : Value.okWide P W .any base t v) (h : DataW.Trod enc P W 0 (fun _ => true) true t v dd ps) :
  ∃ x, FitsV P t x ∧ ArgOK W x v := by
 obtain ⟨fuel, h⟩ := h
 obtain ⟨cs, hfit, hr⟩ := reads_iff.1 (reads_of hsup h)
 have agg : ∀ arr : Array Value, v = .agg arr → ArgOK W (.agg cs) v := fun arr e => by
  subst e
  have hc : (Value.agg arr).cells = arr := rfl
  rw [hc] at hr
  refine .agg cs arr (by have := hr.1; simpa using this.symm) fun k hk => ?_
  have := hr.2 k (by rw [← hr.1]; exact hk)
  rwa [array_toList_getD] at this
 have leaf : (∀ arr, v ≠ .agg arr) → cs.length = 1 → ∃ x, cs = [x] ∧ ArgOK W x v := fun hv h1 => by
  match cs, h1 with
  | [x], _ =>
   refine ⟨x, rfl, .leaf ?_⟩
   rw [cells_leaf hv] at hr
   exact hr.2 0 (by simp)
 unfold FitsV
 unfold Value.okWide at hval
 cases hu : P.underlying t with
 | none => cases hfit <;> simp_all
 | some ud =>
  rw [hu] at hval
  cases ud with
  | struct fs => obtain ⟨arr, e, _⟩ := hval; exact ⟨.agg cs, ⟨cs, rfl, hfit⟩, agg arr e⟩
  | array n e => obtain ⟨arr, e, _⟩ := hval; exact ⟨.agg cs, ⟨cs, rfl, hfit⟩, agg arr e⟩
  | _ =>
   simp only at hval ⊢
   have h1 : cs.length = 1 := by cases hfit <;> first | rfl | simp_all
   have h2 : ∀ arr, v ≠ .agg arr := fun arr e => by
    subst e
    simp only [Cell.okWide, Cell.ok, hu] at hval
   obtain ⟨x, rfl, hx⟩ := leaf h2 h1
   exact ⟨x, hfit, hx⟩
theorem args_of {d : Nat} : ∀ {ts : List TypeId} {vs : List Value} {ds : List (DataW H)} {ps : List MemPlace} {base : Nat}, ts.all (supT P d) = true → (∀ (j : Nat) (t : TypeId) (v : Value), ts[j]? = some t → vs[j]? = some v → Value.okWide P W .any base t v) →
  DataW.TrodAll enc P W 0 (fun _ => true) true ts vs ds ps → ∃ args : List V, args.length = vs.length ∧ ts.length = vs.length ∧ (∀ (j : Nat) (t : TypeId), ts[j]? = some t → FitsV P t (args.getD j .undef)) ∧ ∀ k, k < args.length → ArgOK W (args.getD k .undef) (vs.getD k undef)
 | [], vs, ds, ps, base, _, _, h => by
  obtain ⟨rfl, rfl, rfl⟩ := ChangeShapes.trodAll_nil h
  exact ⟨[], rfl, rfl, fun j t hj => by simp at hj, fun k hk => absurd hk (by simp)⟩
 | t :: ts, vs, ds, ps, base, hsup, hval, h => by
  obtain ⟨v, vs', dd, ds', p, q, rfl, rfl, rfl, h0, r0⟩ := ChangeShapes.trodAll_cons h
  simp only [List.all_cons, Bool.and_eq_true] at hsup
  obtain ⟨x, hx1, hx2⟩ := arg_of hsup.1 (hval 0 t v rfl rfl) h0
  obtain ⟨args, h1, h2, h3, h4⟩ := args_of hsup.2 (fun j t v hj hv => hval (j + 1) t v hj hv) r0
  refine ⟨x :: args, by simp [h1], by simp [h2], fun j t' hj => ?_, fun k hk => ?_⟩
  ·cases j with
   | zero => simp only [List.getElem?_cons_zero, Option.some.injEq] at hj; subst hj; exact hx1
   | succ j => exact h3 j t' hj
  ·cases k with
   | zero => exact hx2
   | succ k => exact h4 k (by simpa using hk)
theorem args_stay (hl : laidOutB P = true) {W' : World} {sp : Nat → Bool} : ∀ {ts : List TypeId} {vs : List Value} {ds : List (DataW H)} {ps : List MemPlace}, (ts.all fun t => P.readableRec t && decide (t < P.types.size)) = true →
  DataW.TrodAll enc P W 0 (fun _ => true) true ts vs ds ps → (∀ p ∈ ps, W.sameAt W' p) → (∀ p ∈ ps, sp p.block = true) → DataW.TrodAll enc P W' 0 sp true ts vs ds ps
 | [], vs, ds, ps, _, h, _, _ => by
  obtain ⟨rfl, rfl, rfl⟩ := ChangeShapes.trodAll_nil h
  exact rfl
 | t :: ts, vs, ds, ps, hr, h, hs, hsp => by
  obtain ⟨v, vs', dd, ds', p, q, rfl, rfl, rfl, h0, r0⟩ := ChangeShapes.trodAll_cons h
  simp only [List.all_cons, Bool.and_eq_true, decide_eq_true_eq] at hr
  exact trodAll_cons_mk (WideElems.Trod_stays hl hr.1.1 hr.1.2 h0 (fun x hx => hs x (List.mem_append_left _ hx)) (fun x hx => hsp x (List.mem_append_left _ hx)))
   (args_stay hl hr.2 r0 (fun x hx => hs x (List.mem_append_right _ hx)) (fun x hx => hsp x (List.mem_append_right _ hx)))
theorem trodAll_len : ∀ {ts : List TypeId} {vs : List Value} {ds : List (DataW H)} {ps : List MemPlace}, DataW.TrodAll enc P W 0 (fun _ => true) true ts vs ds ps → ds.length = ts.length
 | [], vs, ds, ps, h => by obtain ⟨rfl, rfl, rfl⟩ := ChangeShapes.trodAll_nil h; rfl
 | t :: ts, vs, ds, ps, h => by
  obtain ⟨v, vs', dd, ds', p, q, rfl, rfl, rfl, h0, r0⟩ := ChangeShapes.trodAll_cons h
  simp [trodAll_len r0]
open ChangeShapes in
theorem post_of_below {f : Func} {s : ChangeSpec} {apart fresh handsOn again : Bool} {W W' : World} {args : Array Value} {v : Value} {ds gs : List (DataW H)} {before pa pv : List MemPlace}
  (hW : DataW.Whole enc P f.params.toList s.vars apart W args.toList ds gs before)
  (hres : ∀ (b : Nat) (sp : Nat → Bool) (hd : Bool), DataW.TrodAll enc P W' b sp hd f.resultTypes.toList (v.resultList f.resultTypes.size) (s.fn H (ds ++ gs)).results [])
  (hargs : ∀ sp : Nat → Bool, (∀ p ∈ before, sp p.block = true) → DataW.TrodAll enc P W' 0 sp true f.params.toList args.toList (s.fn H (ds ++ gs)).args pa)
  (hvars : ∀ sp : Nat → Bool, (∀ p ∈ before, sp p.block = true) → DataW.TrodVars enc P W' sp s.vars (s.fn H (ds ++ gs)).vars pv)
  (hps : before = pa ++ pv) (hb : RowKit.Below W.heap.size W W')
  (hok : ∀ (j : Nat) (t : TypeId) (r : Value), f.resultTypes[j]? = some t → (v.resultList f.resultTypes.size)[j]? = some r → Value.okWide P W' .any 0 t r) :
  s.post enc P f apart fresh handsOn again W args v W' := by
 have hlt : ∀ p ∈ before, p.block < W.heap.size := fun p hp => hW.lt p hp
 have hold : ∀ p ∈ before, (fun b => decide (b < W.heap.size)) p.block = true := fun p hp => by simpa using hlt p hp
 refine ⟨ds, gs, before, [], pa, pv, hW, hres _ _ _, hargs _ hold, hvars _ hold, World.keptBut_mono (fun p hp => ⟨hp, ?_⟩) (hb.frame (· ∈ before)), fun _ => ?_⟩
 ·rw [hps, List.mem_append] at hp
  exact Or.inr hp
 ·obtain ⟨_, _, _, _, _, hz, hn⟩ := hW
  refine ⟨hok, _, _, ([] ++ pa) ++ pv, ⟨[] ++ pa, pv, trodAll_append (hargs _ (fun _ _ => rfl)) (hres _ _ _), hvars _ (fun _ _ => rfl), rfl, ?_, ?_⟩, ?_⟩
  ·intro b off hp
   have hp' : MemPlace.cell b off ∈ before := by rw [hps]; simpa using hp
   rw [hb.frozen (p := ⟨b, off, none⟩) (hlt _ hp')]
   exact hz b off hp'
  ·intro ha
   have := hn ha
   rw [hps] at this
   simpa using this
  ·intro p hp _
   rw [hps]
   simpa using hp
theorem law_contract [Lay P] {T : Table} (hLd : Laid P (g0 W) W) (hT : TableOK P T) {f : Nat} {fn : Func} {tb : TypeId} {s : ChangeSpec} {apart fresh handsOn again : Bool} {d : Nat} (hbool : P.underlying tb = some .bool) (hres : fn.resultTypes = #[tb]) (hvars : s.vars = [])
  (hspec : ∀ ds : List (DataW H), ds.length = fn.params.toList.length → s.fn H ds = { results := [.lit (.bool true)], args := ds }) (hl : laidOutB P = true) (hr : (fn.params.toList.all fun t => P.readableRec t && decide (t < P.types.size)) = true)
  (hsup : fn.params.toList.all (supT P d) = true) {base : Nat} {args : Array Value} {ds gs : List (DataW H)} {before : List MemPlace}
  (law : ∀ zs9 : List V, zs9.length = fn.params.toList.length → (∀ (j : Nat) (t : TypeId), fn.params.toList[j]? = some t → FitsV P t (zs9.getD j .undef)) → ∃ m', RF T f zs9 [] = some (.bool true, m'))
  (hval : ∀ (j : Nat) t v, fn.params[j]? = some t → args[j]? = some v → Value.okWide P W .any base t v) (hW : DataW.Whole enc P fn.params.toList s.vars apart W args.toList ds gs before) :
  Calls P f args W fun e W' => ∃ v, e = .returned v ∧ s.post enc P fn apart fresh handsOn again W args v W' := by
 have hW' := hW
 obtain ⟨p, q, hA, hV, rfl, hfz, hnd⟩ := hW
 rw [hvars] at hV
 obtain ⟨rfl, rfl⟩ := ChangeShapes.trodVars_none hV
 obtain ⟨zs9, h1, h2, h3, h4⟩ := args_of (base := base) hsup (fun j t v hj hv => hval j t v (by simpa using hj) (by simpa using hv)) hA
 obtain ⟨m', hm⟩ := law zs9 (by rw [h1, h2]) h3
 have hds : ds.length = fn.params.toList.length := trodAll_len hA
 refine (law_calls hLd hT hm h1 h4).mono fun e W' ⟨he, hb⟩ => ?_
 subst he
 have hsp : s.fn H (ds ++ []) = { results := [.lit (.bool true)], args := ds } := by rw [List.append_nil]; exact hspec ds hds
 refine ⟨_, rfl, post_of_below (pa := p) (pv := []) hW' (fun b sp hd => ?_) (fun sp hspb => ?_) (fun sp _ => ?_) rfl hb (RowKit.ok_one hres rfl (RowKit.okWide_bool_mk hbool _))⟩
 ·rw [hsp, hres]
  exact trodAll_cons_mk (RowKit.shut_bool hbool true) rfl
 ·rw [hsp]
  exact args_stay hl hr hA (fun x hx => hb.same (hW'.lt x (by simpa using hx))) (fun x hx => hspb x (by simpa using hx))
 ·rw [hsp, hvars]; exact rfl
end
end
end Go.Proofs.YtakdnfneikbjjaaGreatDoor.Am

namespace Go.Proofs.YtakdnfneikbjjaaGreatDoor.Am
def ints (xs : List Int) : List (List V) := xs.map fun n => [.int .i64 n]
inductive IV : V → List Int → Prop
 | nil : IV .nils []
 | sl (xs : List Int) : IV (.slice false 1 (ints xs)) xs
def boolL (xs : List Bool) : List (List V) := xs.map fun b => [.bool b]
inductive BV : V → List Bool → Prop
 | nil : BV .nils []
 | sl (xs : List Bool) : BV (.slice false 1 (boolL xs)) xs
section
variable {P : Program}
theorem fits_int {t : TypeId} {k : IntKind} (ht : P.underlying t = some (.int k)) {vs : List V} (h : Fits P t vs) : ∃ n, vs = [.int k n] ∧ (Lit.int k n).wf = true := by
 cases h <;> simp_all
theorem fits_bool {t : TypeId} (ht : P.underlying t = some .bool) {vs : List V} (h : Fits P t vs) : ∃ b, vs = [.bool b] := by
 cases h <;> simp_all
theorem fits_str {t : TypeId} (ht : P.underlying t = some .string) {vs : List V} (h : Fits P t vs) : ∃ s, vs = [.str s] ∧ s.length ≤ maxLen := by
 cases h <;> simp_all
theorem fits_slice {t e : TypeId} (ht : P.underlying t = some (.slice e)) {vs : List V} (h : Fits P t vs) : vs = [.nils] ∨ ∃ xs, vs = [.slice false (P.cellsOf e) xs] ∧ xs.length ≤ maxLen ∧ ∀ x ∈ xs, Fits P e x := by
 cases h with
 | nils => exact .inl rfl
 | slice xs h hl hx =>
  rw [ht] at h
  cases h
  refine .inr ⟨xs, rfl, hl, fun x hm => ?_⟩
  obtain ⟨i, hi, rfl⟩ := List.getElem_of_mem hm
  have := hx i hi
  rwa [List.getD_eq_getElem?_getD, List.getElem?_eq_getElem hi] at this
 | _ => simp_all
theorem fitsV_leaf {t : TypeId} {x : V} {d : TypeDesc} (ht : P.underlying t = some d) (h : FitsV P t x) (hs : ∀ fs, d ≠ .struct fs) (ha : ∀ n e, d ≠ .array n e) : Fits P t [x] := by
 unfold FitsV at h
 rw [ht] at h
 cases d <;> first | exact h | exact absurd rfl (hs _) | exact absurd rfl (ha _ _)
end
end Go.Proofs.YtakdnfneikbjjaaGreatDoor.Am

namespace Go.Proofs.YtakdnfneikbjjaaGreatDoor.Am
inductive LT where
 | bool
 | int (k : IntKind)
 | str
 | slice (e : TypeId)
 deriving DecidableEq
def leafsF (P : Program) (F : TypeId → Option (List LT)) : Nat → List Field → Option (List LT)
 | _, [] => some []
 | n, f :: fs => if f.offset = n ∧ (F f.type).map List.length = some (P.cellsOf f.type) then (F f.type).bind fun l => (leafsF P F (n + P.cellsOf f.type) fs).bind fun r => some (l ++ r) else none
def leafs (P : Program) : Nat → TypeId → Option (List LT)
 | 0, _ => none
 | d + 1, t => match P.underlying t with
  | some .bool => some [.bool]
  | some (.int k) => some [.int k]
  | some .string => some [.str]
  | some (.slice e) => some [.slice e]
  | some (.struct fs) => (leafsF P (leafs P d) 0 fs.toList).bind fun l => if l.length = P.cellsOf t then some l else none
  | some (.array n e) => (leafs P d e).bind fun l => if l.length = P.cellsOf e ∧ P.cellsOf t = n * P.cellsOf e then some (List.replicate n l).flatten else none
  | _ => none
def LV (P : Program) (l : LT) (v : V) : Prop :=
 match l with
 | .bool => ∃ b, v = .bool b
 | .int k => ∃ n, v = .int k n ∧ (Lit.int k n).wf = true
 | .str => ∃ s, v = .str s ∧ s.length ≤ maxLen
 | .slice e => v = .nils ∨ ∃ xs, v = .slice false (P.cellsOf e) xs ∧ xs.length ≤ maxLen ∧ ∀ x ∈ xs, Fits P e x
def LVs (P : Program) : List LT → List V → Prop
 | [], [] => True
 | l :: ls, v :: vs => LV P l v ∧ LVs P ls vs
 | _, _ => False
section
variable {P : Program}
theorem LVs.append : ∀ {ls ks : List LT} {vs us : List V}, LVs P ls vs → LVs P ks us → LVs P (ls ++ ks) (vs ++ us)
 | [], _, [], _, _, h => h
 | _ :: _, _, _ :: _, _, h, k => ⟨h.1, LVs.append h.2 k⟩
 | [], _, _ :: _, _, h, _ => h.elim
 | _ :: _, _, [], _, h, _ => h.elim
theorem LVs.len : ∀ {ls : List LT} {vs : List V}, LVs P ls vs → vs.length = ls.length
 | [], [], _ => rfl
 | _ :: _, _ :: _, h => by rw [List.length_cons, List.length_cons, LVs.len h.2]
 | [], _ :: _, h => h.elim
 | _ :: _, [], h => h.elim
theorem leafsF_ok {F : TypeId → Option (List LT)} (hF : ∀ t ls vs, F t = some ls → Fits P t vs → LVs P ls vs) {vs : List V} : ∀ {fs : List Field} {n : Nat} {ls : List LT}, leafsF P F n fs = some ls → (∀ f ∈ fs, Fits P f.type ((vs.drop f.offset).take (P.cellsOf f.type))) →
  LVs P ls ((vs.drop n).take ls.length)
 | [], n, ls, h, _ => by
  simp only [leafsF, Option.some.injEq] at h
  subst h
  rw [List.length_nil, List.take_zero]; trivial
 | f :: fs, n, ls, h, hf => by
  simp only [leafsF] at h
  split at h
  ·rename_i hc
   simp only [Option.bind_eq_some_iff, Option.some.injEq] at h
   obtain ⟨l, hl, r, hr, rfl⟩ := h
   have h1 := hF _ _ _ hl (hf f (.head _))
   have h2 := leafsF_ok hF hr fun g hg => hf g (.tail _ hg)
   have hlen : l.length = P.cellsOf f.type := by
    have := hc.2
    rw [hl] at this
    simpa using this
   rw [hc.1, ← hlen] at h1
   rw [← hlen] at h2
   have hsplit : (vs.drop n).take (l ++ r).length = (vs.drop n).take l.length ++ (vs.drop (n + l.length)).take r.length := by
    rw [List.length_append, List.take_add, List.drop_drop]
   rw [hsplit]
   exact h1.append h2
  ·cases h
theorem leafs_rep {l : List LT} {e : TypeId} (hF : ∀ vs, Fits P e vs → LVs P l vs) (hl : l.length = P.cellsOf e) {vs : List V} : ∀ {n i : Nat}, (∀ j, i ≤ j → j < i + n → Fits P e ((vs.drop (j * P.cellsOf e)).take (P.cellsOf e))) →
  LVs P (List.replicate n l).flatten ((vs.drop (i * P.cellsOf e)).take (n * P.cellsOf e))
 | 0, i, _ => by rw [Nat.zero_mul, List.take_zero]; trivial
 | n + 1, i, h => by
  have h1 := hF _ (h i (Nat.le_refl _) (by omega))
  have h2 := leafs_rep hF hl (n := n) (i := i + 1) fun j hj hk => h j (by omega) (by omega)
  rw [List.replicate_succ, List.flatten_cons, Nat.succ_mul, Nat.add_comm, List.take_add, List.drop_drop]
  rw [Nat.succ_mul] at h2
  exact h1.append h2
theorem fits_leafs : ∀ {d : Nat} {t : TypeId} {ls : List LT} {vs : List V}, leafs P d t = some ls → Fits P t vs → LVs P ls vs := by
 intro d
 induction d with
 | zero => intro t ls vs h; cases h
 | succ d ih =>
  intro t ls vs h hf
  unfold leafs at h
  split at h
  ·rename_i ht
   cases h
   obtain ⟨b, rfl⟩ := fits_bool ht hf
   exact ⟨⟨b, rfl⟩, trivial⟩
  ·rename_i ht
   cases h
   obtain ⟨n, rfl, hw⟩ := fits_int ht hf
   exact ⟨⟨n, rfl, hw⟩, trivial⟩
  ·rename_i ht
   cases h
   obtain ⟨s, rfl, hw⟩ := fits_str ht hf
   exact ⟨⟨s, rfl, hw⟩, trivial⟩
  ·rename_i ht
   cases h
   rcases fits_slice ht hf with rfl | ⟨xs, rfl, h1, h2⟩
   ·exact ⟨.inl rfl, trivial⟩
   ·exact ⟨.inr ⟨xs, rfl, h1, h2⟩, trivial⟩
  ·rename_i fs ht
   simp only [Option.bind_eq_some_iff] at h
   obtain ⟨l, hl, h⟩ := h
   split at h
   ·rename_i hc
    cases h
    cases hf with
    | struct _ ht2 hlen hff =>
     rw [ht] at ht2
     cases ht2
     have := leafsF_ok (vs := vs) (fun _ _ _ a b => ih a b) hl hff
     rwa [List.drop_zero, List.take_of_length_le (by omega)] at this
    | _ => simp_all
   ·cases h
  ·rename_i n e ht
   simp only [Option.bind_eq_some_iff] at h
   obtain ⟨l, hl, h⟩ := h
   split at h
   ·rename_i hc
    cases h
    cases hf with
    | array _ ht2 hlen hff =>
     rw [ht] at ht2
     cases ht2
     have := leafs_rep (vs := vs) (fun _ b => ih hl b) hc.1 (n := n) (i := 0) fun j _ hj => hff j (by omega)
     rwa [Nat.zero_mul, List.drop_zero, List.take_of_length_le (by omega)] at this
    | _ => simp_all
   ·cases h
  ·cases h
end
end Go.Proofs.YtakdnfneikbjjaaGreatDoor.Am

namespace Go.Proofs.YtakdnfneikbjjaaGreatDoor.Am
section
variable {P : Program} {W : World} {H : Type} {enc : TypeId × Value → H}
end
end Go.Proofs.YtakdnfneikbjjaaGreatDoor.Am

set_option linter.all false
namespace Go.Proofs.YtakdnfneikbjjaaGreatDoor.Am.Lay10
open Go.Proofs.YtakdnfneikbjjaaGreatDoor.Am.T
theorem laid_any {W : World} : Laid Go.Proofs.Tryz.prog (g0 W) W := by
  constructor
  · intro t ht; exact absurd ht (List.not_mem_nil)
  · intro t ht; exact absurd ht (List.not_mem_nil)
end Go.Proofs.YtakdnfneikbjjaaGreatDoor.Am.Lay10

set_option linter.all false
namespace Go.Proofs.YtakdnfneikbjjaaGreatDoor.Am.Lay10
open Go.Proofs.YtakdnfneikbjjaaGreatDoor.Am.T
def isStr : Option TypeDesc → Bool
  | some (.struct _) => true
  | _ => false
theorem fits_rect {P : Program} {t : TypeId} (hi : isStr (P.underlying t) = true) (hl : leafs P 8 t = some [.int .i64, .int .i64, .int .i64, .int .i64]) {x : V} (h : FitsV P t x) : ∃ k : Rect, Den [] (.agg k.c) x := by
  obtain ⟨fs, ht⟩ : ∃ fs, P.underlying t = some (.struct fs) := by
    unfold isStr at hi
    split at hi
    · exact ⟨_, by assumption⟩
    · cases hi
  unfold FitsV at h
  rw [ht] at h
  obtain ⟨cs, rfl, hf⟩ := h
  have h3 := fits_leafs hl hf
  have h4 : cs.length = 4 := h3.len
  match cs, h4 with
  | [x1, x2, x3, x4], _ =>
    obtain ⟨h1, h2, h3, h4, _⟩ := h3
    obtain ⟨a, rfl, _⟩ := h1
    obtain ⟨b, rfl, _⟩ := h2
    obtain ⟨c, rfl, _⟩ := h3
    obtain ⟨d, rfl, _⟩ := h4
    exact ⟨⟨a, b, c, d⟩, .agg (.cons (.base (.int _ _)) (.cons (.base (.int _ _)) (.cons (.base (.int _ _)) (.cons (.base (.int _ _)) .nil))))⟩
theorem layoutStacks_ok {n : Int} {r : Rect} {x : V} (hx : Den [] (.agg r.c) x) : ∃ m', RF ET 7 [.int .i64 n, x] [] = some (.bool true, m') :=
  CallT.law (casementlaw10_LayoutStacks_ok (stacks_pure n r)) (.cons (.base (.int _ _)) (.cons hx .nil))
end Go.Proofs.YtakdnfneikbjjaaGreatDoor.Am.Lay10

/-
LayoutStacks answers true whatever its input; the input reads as it did.
-/
namespace Go.Proofs.YtakdnfneikbjjaaGreatDoor
open Go.Proofs.YtakdnfneikbjjaaGreatDoor.Am Go.Proofs.YtakdnfneikbjjaaGreatDoor.Am.Lay10
open Go.ChangeShapes Go.WideShapes Go.ChangeAt Go.RowKit
namespace layoutStacks
theorem shape (l : List V) (h : l.length = 2) : ∃ x0 x1, l = [x0, x1] := by
  match l, h with
  | [x0, x1], _ => exact ⟨x0, x1, rfl⟩
theorem own : ownKnob Tryz.prog.godebug = none := by kernel_rfl
theorem laidB : laidOutB Tryz.prog = true := by kernel_rfl
set_option maxRecDepth 100000 in
theorem law (l : List V) (hl : l.length = Tryz.f7.params.toList.length) (h : ∀ (j : Nat) (t : TypeId), Tryz.f7.params.toList[j]? = some t → FitsV Tryz.prog t (l.getD j .undef)) : ∃ m', RF ET 7 l [] = some (.bool true, m') := by
  have hln : l.length = 2 := hl
  obtain ⟨x0, x1, rfl⟩ := shape l hln
  have h0 := h 0 3 (by kernel_rfl)
  have h1 := h 1 29 (by kernel_rfl)
  have t1 : Tryz.prog.underlying 3 = some (.int .i64) := by kernel_rfl
  obtain ⟨a, e1, _⟩ := fits_int t1 (fitsV_leaf t1 h0 (fun _ e => by cases e) (fun _ _ e => by cases e))
  injection e1 with e1 _
  subst e1
  obtain ⟨r, hx⟩ := fits_rect (by kernel_rfl) (by kernel_rfl) h1
  exact layoutStacks_ok hx
noncomputable def low : Nat := (World.holding Tryz.prog default ⟨#[], #[], []⟩).heap.size
noncomputable def laidWorld (os : Os) : World :=
  { World.holding Tryz.prog os ⟨#[.cells #[.string ⟨#[118, 97, 108, 117, 101, 32, 111, 117, 116, 32, 111, 102, 32, 114, 97, 110, 103, 101]⟩] 182, .cells #[.string ⟨#[105, 110, 118, 97, 108, 105, 100, 32, 115, 121, 110, 116, 97, 120]⟩] 182], #[], []⟩ with heap := ((((((World.holding Tryz.prog os ⟨#[.cells #[.string ⟨#[118, 97, 108, 117, 101, 32, 111, 117, 116, 32, 111, 102, 32, 114, 97, 110, 103, 101]⟩] 182, .cells #[.string ⟨#[105, 110, 118, 97, 108, 105, 100, 32, 115, 121, 110, 116, 97, 120]⟩] 182], #[], []⟩).heap.modify 2 fun
      | .cells _ t frozen => .cells #[.iface 180 (.pointer (some ⟨low + 0, 0, none⟩))] t frozen
      | o => o).modify 1 fun
      | .cells _ t frozen => .cells #[.iface 180 (.pointer (some ⟨low + 1, 0, none⟩))] t frozen
      | o => o).modify 3 fun
      | .cells _ t frozen => .cells #[.int .u64 1, .int .u64 10, .int .u64 100, .int .u64 1000, .int .u64 10000, .int .u64 100000, .int .u64 1000000, .int .u64 10000000, .int .u64 100000000, .int .u64 1000000000, .int .u64 10000000000, .int .u64 100000000000, .int .u64 1000000000000, .int .u64 10000000000000, .int .u64 100000000000000, .int .u64 1000000000000000, .int .u64 10000000000000000, .int .u64 100000000000000000, .int .u64 1000000000000000000, .int .u64 10000000000000000000] t frozen
      | o => o).modify 4 fun
      | .cells _ t frozen => .cells #[.int .u8 0, .int .u8 1, .int .u8 28, .int .u8 2, .int .u8 29, .int .u8 14, .int .u8 24, .int .u8 3, .int .u8 30, .int .u8 22, .int .u8 20, .int .u8 15, .int .u8 25, .int .u8 17, .int .u8 4, .int .u8 8, .int .u8 31, .int .u8 27, .int .u8 13, .int .u8 23, .int .u8 21, .int .u8 19, .int .u8 16, .int .u8 7, .int .u8 26, .int .u8 12, .int .u8 18, .int .u8 6, .int .u8 11, .int .u8 5, .int .u8 10, .int .u8 9] t frozen
      | o => o).modify 5 fun
      | .cells _ t frozen => .cells #[.int .u8 0, .int .u8 1, .int .u8 56, .int .u8 2, .int .u8 57, .int .u8 49, .int .u8 28, .int .u8 3, .int .u8 61, .int .u8 58, .int .u8 42, .int .u8 50, .int .u8 38, .int .u8 29, .int .u8 17, .int .u8 4, .int .u8 62, .int .u8 47, .int .u8 59, .int .u8 36, .int .u8 45, .int .u8 43, .int .u8 51, .int .u8 22, .int .u8 53, .int .u8 39, .int .u8 33, .int .u8 30, .int .u8 24, .int .u8 18, .int .u8 12, .int .u8 5, .int .u8 63, .int .u8 55, .int .u8 48, .int .u8 27, .int .u8 60, .int .u8 41, .int .u8 37, .int .u8 16, .int .u8 46, .int .u8 35, .int .u8 44, .int .u8 21, .int .u8 52, .int .u8 32, .int .u8 23, .int .u8 11, .int .u8 54, .int .u8 26, .int .u8 40, .int .u8 15, .int .u8 34, .int .u8 20, .int .u8 31, .int .u8 10, .int .u8 25, .int .u8 14, .int .u8 19, .int .u8 9, .int .u8 13, .int .u8 8, .int .u8 7, .int .u8 6] t frozen
      | o => o) }
theorem laid_met (os : Os) : laidMet Tryz.prog Rows.layoutStacksRow.laid ((laidWorld os).forCall (fun _ _ => 0) ⟨#[], #[.int .i64 0, .agg #[.int .i64 0, .int .i64 0, .int .i64 0, .int .i64 0]], []⟩).memory :=
  laidMet_of_run' 8 (by kernel_rfl) (by kernel_rfl)
theorem reads (os : Os) {H : Type} (enc : TypeId × Value → H) : ∃ places, DataW.whole enc Tryz.prog ((laidWorld os).forCall (fun _ _ => 0) ⟨#[], #[.int .i64 0, .agg #[.int .i64 0, .int .i64 0, .int .i64 0, .int .i64 0]], []⟩).memory Tryz.f7.params.toList Rows.layoutStacksSpec.vars false (#[.int .i64 0, .agg #[.int .i64 0, .int .i64 0, .int .i64 0, .int .i64 0]] : Array Value).toList 8 = some ([.lit (.int .i64 0), .agg [.lit (.int .i64 0), .lit (.int .i64 0), .lit (.int .i64 0), .lit (.int .i64 0)]], [], places) :=
  ⟨[], by kernel_rfl⟩
set_option maxRecDepth 100000 in
theorem lifted (os : Os) (started : os.Started) (H : Type) (enc : TypeId × Value → H) (F : Stop.Interp) :
    ReturnsInHanded {} Tryz.checked os 7 .any ((OpenSpec.ofChange Rows.layoutStacksSpec).preRow enc Tryz.prog Tryz.f7 Rows.layoutStacksRow.domain false Rows.layoutStacksRow.laid) (((OpenSpec.ofChange Rows.layoutStacksSpec).at F).post enc Tryz.prog Tryz.f7 false true false false) := by
  obtain ⟨places, hx⟩ := reads os enc
  refine returnsInHanded_of_row (C := Tryz.checked) (s := (OpenSpec.ofChange Rows.layoutStacksSpec)) own started (by kernel_rfl) Tryz.func7
    (witness_row_at (enc := enc) (C := Tryz.checked) false (laidWorld os) #[.int .i64 0, .agg #[.int .i64 0, .int .i64 0, .int .i64 0, .int .i64 0]] rfl (by kernel_rfl) (by kernel_rfl) (by kernel_rfl)
      (OpenSpec.preRow_of_cond 8 hx (by kernel_rfl) (fun k hk => by cases hk) (by kernel_rfl) (laid_met os))) ?_
  intro W base args ds gs before hval hW _ _ _ hlaid _ _
  exact law_contract (laid_any) ET_ok (tb := 4) (d := 8) (by kernel_rfl) (by kernel_rfl) rfl
    (fun ds hd => by
      have hdn : ds.length = 2 := hd
      match ds, hdn with
      | [_, _], _ => rfl) laidB (by kernel_rfl) (by kernel_rfl) law hval hW
theorem said : Rows.LayoutStacksSaid :=
  OpenClaim.holds_of_cond 7 Tryz.f7 rfl rfl rfl rfl rfl rfl rfl ⟨rfl, rfl, rfl, rfl, rfl⟩ rfl rfl rfl rfl rfl (by kernel_rfl) Tryz.func7 (by kernel_rfl)
    (of_decide_eq_true (by kernel_rfl)) (by unfold Func.isWrapper; first | (rw [if_pos (by decide +kernel)]; kernel_rfl) | (rw [if_neg (by decide +kernel)]; exact ⟨rfl, rfl⟩))
    (fun os started H enc _ F => by rw [OpenClaim.pre_eq_preRow]; exact lifted os started H enc F)
theorem nowant : (Tryz.f7.params.toList.all fun t => Tryz.prog.wantsStandIn t == false) = true := by kernel_rfl
theorem plain (f : FuncId) (fn : Func) (hf : Tryz.pinned.checked.prog.funcNamed "casement/casementlaw10.LayoutStacks" = some f) (hfn : Tryz.pinned.checked.prog.funcs[f]? = some fn) :
    true = Tryz.pinned.checked.prog.looks [] ∧ ∀ (j : Nat) t, fn.params[j]? = some t → Tryz.pinned.checked.prog.wantsStandIn t = false := by
  obtain rfl : f = 7 := Option.some.inj ((show Tryz.prog.funcNamed "casement/casementlaw10.LayoutStacks" = some 7 by kernel_rfl).symm.trans hf) |>.symm
  obtain rfl : fn = Tryz.f7 := (Option.some.inj (Tryz.func7.symm.trans hfn)).symm
  refine ⟨by kernel_rfl, fun j t ht => ?_⟩
  exact beq_iff_eq.1 (List.all_eq_true.1 nowant t (Array.mem_toList_iff.2 (Array.mem_of_getElem? ht)))
theorem holds : Rows.LayoutStacksCardSaid :=
  Claim7.holds_tied_plain_at .later [] _ _ _ _ said (fun _ h => by cases h) (by kernel_rfl) (fun _ h => by cases h) layoutStacks_row_tie rfl ⟨rfl, rfl⟩ (by kernel_rfl) rfl plain (by kernel_rfl)
#print axioms holds
end layoutStacks
end Go.Proofs.YtakdnfneikbjjaaGreatDoor
