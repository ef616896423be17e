/-
LayoutCovers answers true whatever its input; the input reads as it did.
-/
import Derived.Test.YtakdnfneikbjjaaGreatDoorAmLayoutCoversRow5
import Derived.ChangeReads
import Derived.ChangeArms
import Derived.Carry
import Derived.OpenShut
import Derived.ChangeSame
import Derived.RowKit
import Derived.Test.YtakdnfneikbjjaaGreatDoorCards
import Derived.Test.YtakdnfneikbjjaaGreatDoorTie
import Derived.WalkKit
import Derived.ProofKit
import Derived.Deep.DeepHandedRow
import Derived.Lib.LaidTab
set_option linter.all false
namespace Go.Proofs.YtakdnfneikbjjaaGreatDoor.Am.Lay10
open Go.Proofs.YtakdnfneikbjjaaGreatDoor.Am.T
def sizeOK (s : Size) : Prop := s.Kind = 0 ∨ (s.Kind = 1 ∧ 1 ≤ s.N ∧ s.N ≤ 200) ∨ (s.Kind = 2 ∧ 1 ≤ s.N ∧ s.N ≤ 100)
instance (s : Size) : Decidable (sizeOK s) := by unfold sizeOK; infer_instance
theorem zlv (s : Size) : zcI s = some (if sizeOK s then 0 else 1) := by
  unfold zcI sizeOK
  simp only [letB, Option.bind_some, zpz]
  by_cases h0 : s.Kind = 0
  · simp [h0]
  · by_cases h1 : s.Kind = 1
    · have h2 : ¬ s.Kind = 2 := by omega
      by_cases ha : s.N ≥ 1 <;> by_cases hb : s.N ≤ 200 <;> simp [h1, ha, hb]
    · by_cases h2 : s.Kind = 2
      · by_cases ha : s.N ≥ 1 <;> by_cases hb : s.N ≤ 100 <;> simp [h2, ha, hb]
      · simp [h0, h1, h2]
def zgm (p : Plan) : Prop := p.Kind = 2 ∨ p.Kind = 3 ∨ p.Kind = 4
instance (p : Plan) : Decidable (zgm p) := by unfold zgm; infer_instance
def ziL (f : Plan → Int → Bool × Int) (q : Plan) : List Plan → Int → Bool × Int
  | [], n => (true, n)
  | k :: ks, n => if q.Kind = 4 ∧ k.Kind ≠ 1 then (false, n) else if (f k n).1 = true then ziL f q ks (f k n).2 else (false, (f k n).2)
def mT : Nat → Plan → Int → Bool × Int
  | 0, _, n => (false, n)
  | d + 1, p, n => if ¬ sizeOK p.Size then (false, n) else if p.Kind = 1 then (decide (n + 1 ≤ 24), n + 1) else
    if ¬ zgm p then (false, n) else if p.Kids.length < 1 ∨ 16 < p.Kids.length then (false, n) else ziL (mT d) p p.Kids n
def Rng (n : Int) (r : Bool × Int) : Prop := n ≤ r.2 ∧ r.2 ≤ 25 ∧ (r.1 = true → r.2 ≤ 24)
theorem zht {f : Plan → Int → Bool × Int} {q : Plan} (hf : ∀ k n, 0 ≤ n → n ≤ 24 → Rng n (f k n)) : ∀ (ks : List Plan) (n : Int), 0 ≤ n → n ≤ 24 → Rng n (ziL f q ks n)
  | [], n, h0, h1 => ⟨Int.le_refl _, by show n ≤ 25; omega, fun _ => h1⟩
  | k :: ks, n, h0, h1 => by
    have h2 := hf k n h0 h1
    unfold ziL
    split
    · exact ⟨Int.le_refl _, by show n ≤ 25; omega, fun h => by cases h⟩
    · split
      · rename_i hb
        have h3 := h2.2.2 hb
        have h4 := h2.1
        have := zht (q := q) hf ks (f k n).2 (by omega) h3
        exact ⟨Int.le_trans h4 this.1, this.2.1, this.2.2⟩
      · exact ⟨h2.1, h2.2.1, fun h => by cases h⟩
theorem zgB : ∀ (d : Nat) (p : Plan) (n : Int), 0 ≤ n → n ≤ 24 → Rng n (mT d p n)
  | 0, p, n, h0, h1 => ⟨Int.le_refl _, by show n ≤ 25; omega, fun h => by cases h⟩
  | d + 1, p, n, h0, h1 => by
    have triv : Rng n (false, n) := ⟨Int.le_refl _, by show n ≤ 25; omega, fun h => by cases h⟩
    unfold mT
    split
    · exact triv
    · split
      · exact ⟨by show n ≤ n + 1; omega, by show n + 1 ≤ 25; omega, fun h => of_decide_eq_true h⟩
      · split
        · exact triv
        · split
          · exact triv
          · exact zht (zgB d) _ _ h0 h1
theorem znm {rec : Plan → Int → Int → Option (Bool × Int)} {p : Plan} {deep : Int} {f : Plan → Int → Bool × Int} (hd : 0 ≤ deep ∧ deep ≤ 100) (hl : p.Kids.length ≤ 16) (hr : ∀ k n, 0 ≤ n → n ≤ 24 → rec k (deep + 1) n = some (f k n)) (hf : ∀ k n, 0 ≤ n → n ≤ 24 → Rng n (f k n)) :
    ∀ (ks : List Plan) (i : Nat) (n : Int), 0 ≤ n → n ≤ 24 → i + ks.length = p.Kids.length → p.Kids.drop i = ks →
    ∃ j, iter (fun s => layout_measureF_l1 p deep rec s.1 s.2 : (Int × Int) → Option ((Int × Int) ⊕ ((Plan × Int) ⊕ Int))) ((i : Int), n) = some j ∧ (match j with | .inl z => (false, z.2) | .inr z => (true, z)) = ziL f p ks n
  | [], i, n, h0, h1, hi, hk => by
    refine ⟨.inr n, zbh ?_, rfl⟩
    simp only [layout_measureF_l1, letB]
    rw [decide_eq_false (by simp only [List.length_nil] at hi; omega)]; rfl
  | k :: ks, i, n, h0, h1, hi, hk => by
    simp only [List.length_cons] at hi
    have hlt : i < p.Kids.length := by omega
    have hget : p.Kids[i] = k := by
      have := List.getElem_drop (xs := p.Kids) (i := i) (j := 0) (h := by simp; omega)
      simp only [hk, List.getElem_cons_zero, Nat.add_zero] at this
      exact this.symm
    have hidx : idx p.Kids (i : Int) = some k := by
      rw [zpA (d := p) (by omega) (by omega), Int.toNat_natCast, List.getD_eq_getElem?_getD, List.getElem?_eq_getElem hlt, hget]; rfl
    have hdrop : p.Kids.drop (i + 1) = ks := by rw [← List.drop_drop, hk]; rfl
    have key : layout_measureF_l1 p deep rec (i : Int) n = if p.Kind = 4 ∧ k.Kind ≠ 1 then some (.inr (.inl (k, n))) else if (f k n).1 = true then some (.inl (((i + 1 : Nat) : Int), (f k n).2)) else some (.inr (.inl (k, (f k n).2))) := by
      simp only [layout_measureF_l1, letB]
      rw [decide_eq_true (show (i : Int) < (p.Kids.length : Int) by omega), zaw (by omega) (by omega), zaw (by omega) (by omega)]
      simp only [cond_true, hidx, Option.bind_some, zpz]
      by_cases h4 : p.Kind = 4 ∧ k.Kind ≠ 1
      · rw [decide_eq_true h4.1, decide_eq_true h4.2, if_pos h4]; rfl
      · rw [if_neg h4]
        have : (decide (p.Kind = 4) && decide (k.Kind ≠ 1)) = false := by
          simp only [Bool.and_eq_false_iff, decide_eq_false_iff_not]
          by_cases h : p.Kind = 4
          · exact .inr fun hh => h4 ⟨h, hh⟩
          · exact .inl h
        rw [this, hr k n h0 h1]
        simp only [cond_false, Option.bind_some]
        cases (f k n).1 <;> rfl
    unfold ziL
    by_cases h4 : p.Kind = 4 ∧ k.Kind ≠ 1
    · rw [if_pos h4] at key ⊢
      exact ⟨_, zbh key, rfl⟩
    · rw [if_neg h4] at key ⊢
      by_cases hb : (f k n).1 = true
      · rw [if_pos hb] at key ⊢
        obtain ⟨r1, r2, r3⟩ := hf k n h0 h1
        obtain ⟨j, e1, e2⟩ := znm hd hl hr hf ks (i + 1) (f k n).2 (by omega) (r3 hb) (by omega) hdrop
        exact ⟨j, (zbP key).trans e1, e2⟩
      · rw [if_neg hb] at key ⊢
        exact ⟨_, zbh key, rfl⟩
theorem zo9 {p : Plan} : (Option.bind (bif decide (p.Kind = 2) then some (decide (p.Kind = 2)) else Option.bind (bif decide (p.Kind = 3) then some (decide (p.Kind = 3)) else some (decide (p.Kind = 4))) fun j15 => some j15) fun j => some j) = some (decide (zgm p)) := by
  unfold zgm
  by_cases h2 : p.Kind = 2
  · simp [h2]
  · by_cases h3 : p.Kind = 3
    · simp [h3]
    · simp [h2, h3]
theorem zfZ : ∀ (d k : Nat) (deep : Int) (p : Plan) (n : Int), deep = 13 - (d : Int) → d ≤ 12 → d + 1 ≤ k → 0 ≤ n → n ≤ 24 → zbp k p deep n = some (mT d p n)
  | d, 0, deep, p, n, hd, hd2, hk, h0, h1 => by omega
  | 0, k + 1, deep, p, n, hd, hd2, hk, h0, h1 => by
    show zbo (zbp k) p deep n = _
    unfold zbo
    simp only [letB]
    rw [decide_eq_true (show deep > 12 by omega)]
    rfl
  | d + 1, k + 1, deep, p, n, hd, hd2, hk, h0, h1 => by
    show zbo (zbp k) p deep n = _
    unfold zbo mT
    simp only [letB]
    rw [decide_eq_false (show ¬ deep > 12 by omega), zlv, zaw (n := n + 1) (by omega) (by omega)]
    simp only [cond_false, Option.bind_some]
    by_cases hs : sizeOK p.Size
    · rw [if_pos hs, if_neg (by simpa using hs)]
      simp only [ne_eq, not_true_eq_false, decide_false, cond_false]
      by_cases hk1 : p.Kind = 1
      · rw [if_pos hk1, decide_eq_true hk1]; rfl
      · rw [if_neg hk1, decide_eq_false hk1]
        simp only [cond_false]
        have hkd := zo9 (p := p)
        by_cases hko : zgm p
        · rw [if_neg (by simpa using hko)]
          rw [decide_eq_true hko] at hkd
          have hkd2 : (Option.bind (bif decide (p.Kind = 2) then some (decide (p.Kind = 2)) else Option.bind (bif decide (p.Kind = 3) then some (decide (p.Kind = 3)) else some (decide (p.Kind = 4))) fun j15 => some j15) fun j16 => (bif j16 then some (.inl ()) else some (.inr (false, n)) : Option (Unit ⊕ (Bool × Int)))) = some (.inl ()) := by
            have := congrArg (fun o => Option.bind o fun j => (bif j then some (.inl ()) else some (.inr (false, n)) : Option (Unit ⊕ (Bool × Int)))) hkd
            simpa only [Option.bind_assoc, Option.bind_some, cond_true] using this
          rw [hkd2]
          simp only [Option.bind_some, or_s]
          by_cases hlen : p.Kids.length < 1 ∨ 16 < p.Kids.length
          · rw [if_pos hlen]
            have : (decide ((p.Kids.length : Int) < 1) || decide ((p.Kids.length : Int) > 16)) = true := by
              simp only [Bool.or_eq_true, decide_eq_true_eq]; omega
            rw [this]; rfl
          · rw [if_neg hlen]
            have : (decide ((p.Kids.length : Int) < 1) || decide ((p.Kids.length : Int) > 16)) = false := by
              simp only [Bool.or_eq_false_iff, decide_eq_false_iff_not]; omega
            rw [this]
            simp only [cond_false]
            obtain ⟨j, e1, e2⟩ := znm (f := mT d) (rec := zbp k) (p := p) (deep := deep) ⟨by omega, by omega⟩ (by omega) (fun x m a b => zfZ d k (deep + 1) x m (by omega) (by omega) (by omega) a b) (zgB d) p.Kids 0 n h0 h1 (by omega) rfl
            rw [show (0 : Int) = ((0 : Nat) : Int) from rfl, e1, ← e2]
            simp only [Option.bind_some]
            cases j <;> rfl
        · rw [if_pos (by simpa using hko)]
          rw [decide_eq_false hko] at hkd
          have hkd2 : (Option.bind (bif decide (p.Kind = 2) then some (decide (p.Kind = 2)) else Option.bind (bif decide (p.Kind = 3) then some (decide (p.Kind = 3)) else some (decide (p.Kind = 4))) fun j15 => some j15) fun j16 => (bif j16 then some (.inl ()) else some (.inr (false, n)) : Option (Unit ⊕ (Bool × Int)))) = some (.inr (false, n)) := by
            have := congrArg (fun o => Option.bind o fun j => (bif j then some (.inl ()) else some (.inr (false, n)) : Option (Unit ⊕ (Bool × Int)))) hkd
            simpa only [Option.bind_assoc, Option.bind_some, cond_false] using this
          rw [hkd2]
          rfl
    · rw [if_neg hs, if_pos hs]; rfl
theorem zeN (p : Plan) : zcr p = some (if (mT 12 p 0).1 = true ∧ (p.Float.length : Int) ≤ 24 - (mT 12 p 0).2 then 0 else 100) := by
  have h := zgB 12 p 0 (by omega) (by omega)
  unfold Rng at h
  unfold zcr zb6
  rw [zfZ 12 30 1 p 0 (by omega) (by omega) (by omega) (by omega) (by omega)]
  simp only [Option.bind_some, letB, or_s]
  generalize mT 12 p 0 = r at *
  rw [zaw (by omega) (by omega)]
  cases hb : r.1 with
  | false => rw [if_neg (by simp)]; rfl
  | true =>
    by_cases hf : (p.Float.length : Int) ≤ 24 - r.2
    · rw [if_pos ⟨rfl, hf⟩, decide_eq_false (by omega)]; rfl
    · rw [if_neg (fun h => hf h.2), decide_eq_true (by omega)]; rfl
end Go.Proofs.YtakdnfneikbjjaaGreatDoor.Am.Lay10

set_option linter.all false
namespace Go.Proofs.YtakdnfneikbjjaaGreatDoor.Am.Lay10
open Go.Proofs.YtakdnfneikbjjaaGreatDoor.Am.T
def sumI : List Int → Int
  | [] => 0
  | x :: l => x + sumI l
theorem zfA : ∀ (l : List Int) (i : Nat) (v : Int) (h : i < l.length), sumI (l.set i v) = sumI l - l[i] + v
  | x :: l, 0, v, h => by simp only [List.set_cons_zero, sumI, List.getElem_cons_zero]; omega
  | x :: l, i + 1, v, h => by
    have := zfA l i v (by simpa using h)
    simp only [List.set_cons_succ, sumI, List.getElem_cons_succ, this]; omega
theorem zhu : ∀ (l : List Int), (∀ x ∈ l, 1 ≤ x) → (l.length : Int) ≤ sumI l
  | [], _ => by simp [sumI]
  | x :: l, h => by
    have := zhu l fun y hy => h y (.tail _ hy)
    have := h x (.head _)
    simp only [sumI, List.length_cons]; omega
theorem zlw : ∀ (l : List Int), (∀ x ∈ l, 1 ≤ x) → ∀ x ∈ l, x ≤ sumI l
  | y :: l, h, x, hx => by
    have h1 := zhu l fun y hy => h y (.tail _ hy)
    have h2 := h y (.head _)
    simp only [sumI]
    rcases List.mem_cons.1 hx with rfl | hx
    · omega
    · have := zlw l (fun y hy => h y (.tail _ hy)) x hx; omega
theorem zj0 : ∀ (l : List Int), (∀ x ∈ l, x = 1) → sumI l = l.length
  | [], _ => rfl
  | x :: l, h => by
    have := zj0 l fun y hy => h y (.tail _ hy)
    have := h x (.head _)
    simp only [sumI, List.length_cons]; omega
theorem zcj {α : Type} {l : List α} {i : Nat} (h : i < l.length) : idx l (i : Int) = some l[i] := by
  unfold idx
  rw [if_pos (by omega), Int.toNat_natCast, List.getElem?_eq_getElem h]
theorem zf0 {α : Type} {l : List α} {x : α} (h : l.length < 1000000) : app l [x] = some (l ++ [x]) := by
  unfold app
  rw [if_pos (by rw [znl]; simp; omega)]
theorem zeO {α : Type} {l ks : List α} {k : α} {i : Nat} (hk : l.drop i = k :: ks) : ∃ h : i < l.length, l[i] = k ∧ l.drop (i + 1) = ks := by
  have hlt : i < l.length := by
    have := congrArg List.length hk
    simp at this; omega
  refine ⟨hlt, ?_, by rw [← List.drop_drop, hk]; rfl⟩
  have := List.drop_eq_getElem_cons hlt
  rw [hk] at this
  exact (List.cons.inj this).1.symm
def wT (total : Int) (s : Size) : Int := if s.Kind = 1 then s.N else if s.Kind = 2 then max (Int.tdiv (total * s.N) 100) 1 else 1
theorem zlx {total : Int} {s : Size} (h0 : 0 ≤ total) (h1 : total ≤ 200) (hs : sizeOK s) : 1 ≤ wT total s ∧ wT total s ≤ 200 := by
  unfold wT
  unfold sizeOK at hs
  split
  · omega
  · split
    · have hn : 1 ≤ s.N ∧ s.N ≤ 100 := by omega
      have e1 : total * s.N ≤ total * 100 := Int.mul_le_mul_of_nonneg_left hn.2 h0
      have e2 : 0 ≤ total * s.N := Int.mul_nonneg h0 (by omega)
      rw [Int.tdiv_eq_ediv_of_nonneg e2]
      omega
    · omega
theorem zoh {total : Int} {s : Size} (h0 : 0 ≤ total) (h1 : total ≤ 200) (hs : sizeOK s) : zdm total s = some (wT total s) := by
  unfold zdm wT
  simp only [letB]
  unfold sizeOK at hs
  by_cases k1 : s.Kind = 1
  · rw [decide_eq_true k1, if_pos k1]; rfl
  · rw [decide_eq_false k1, if_neg k1]
    by_cases k2 : s.Kind = 2
    · have hn : 1 ≤ s.N ∧ s.N ≤ 100 := by omega
      have e1 : total * s.N ≤ total * 100 := Int.mul_le_mul_of_nonneg_left hn.2 h0
      have e2 : 0 ≤ total * s.N := Int.mul_nonneg h0 (by omega)
      rw [decide_eq_true k2, if_pos k2, zaw (n := total * s.N) (by omega) (by omega), Int.tdiv_eq_ediv_of_nonneg e2, zaw (by omega) (by omega)]
      rfl
    · rw [decide_eq_false k2, if_neg k2]; rfl
def flx : List Size → Nat → List Int
  | [], _ => []
  | s :: ss, i => if s.Kind = 0 then (i : Int) :: flx ss (i + 1) else flx ss (i + 1)
theorem znn : ∀ (ss : List Size) (i : Nat), (flx ss i).length ≤ ss.length
  | [], _ => Nat.le_refl _
  | s :: ss, i => by
    have := znn ss (i + 1)
    unfold flx
    split <;> simp only [List.length_cons] <;> omega
theorem zk1 : ∀ (ss : List Size) (i : Nat) (x : Int), x ∈ flx ss i → (i : Int) ≤ x ∧ x < i + ss.length
  | s :: ss, i, x, h => by
    unfold flx at h
    simp only [List.length_cons]
    split at h
    · rcases List.mem_cons.1 h with rfl | h
      · omega
      · have := zk1 ss (i + 1) x h; omega
    · have := zk1 ss (i + 1) x h; omega
theorem zj1 {total : Int} {sizes : List Size} (h0 : 0 ≤ total) (h1 : total ≤ 200) (hl : sizes.length ≤ 16) (hs : ∀ s ∈ sizes, sizeOK s) :
    ∀ (ss : List Size) (i : Nat) (out flex : List Int) (left : Int), sizes.drop i = ss → out.length = i → i + ss.length = sizes.length → flex.length ≤ i → -200 * i ≤ left → left ≤ 200 →
    iter (fun s => solve_Share_l1 total sizes s.1 s.2.1 s.2.2.1 s.2.2.2 : (List Int × List Int × Int × Int) → Option ((List Int × List Int × Int × Int) ⊕ (List Int × List Int × Int))) (out, flex, left, (i : Int)) = some (out ++ ss.map (wT total), flex ++ flx ss i, left - sumI (ss.map (wT total)))
  | [], i, out, flex, left, hd, ho, hi, hf, hb, hc => by
    refine zbh ?_
    simp only [solve_Share_l1, letB]
    rw [decide_eq_false (by simp only [List.length_nil] at hi; omega)]
    simp [flx, sumI]
  | s :: ss, i, out, flex, left, hd, ho, hi, hf, hb, hc => by
    obtain ⟨hlt, hget, hdrop⟩ := zeO hd
    simp only [List.length_cons] at hi
    have hso : sizeOK s := hs s (hget ▸ List.getElem_mem hlt)
    have hw := zlx h0 h1 hso
    have hidx : idx sizes (i : Int) = some s := by rw [zcj hlt, hget]
    have hidx2 : idx (out ++ [wT total s]) (i : Int) = some (wT total s) := by
      rw [zcj (by simp; omega)]
      simp [← ho]
    have key : solve_Share_l1 total sizes out flex left (i : Int) = some (.inl (out ++ [wT total s], (if s.Kind = 0 then flex ++ [(i : Int)] else flex), left - wT total s, ((i + 1 : Nat) : Int))) := by
      simp only [solve_Share_l1, letB]
      rw [decide_eq_true (show (i : Int) < (sizes.length : Int) by omega), zaw (n := (i : Int) + 1) (by omega) (by omega)]
      simp only [cond_true, hidx, Option.bind_some, zoh h0 h1 hso, zf0 (show out.length < 1000000 by omega), hidx2, zf0 (show flex.length < 1000000 by omega), zaw (n := left - wT total s) (show _ ≤ _ by omega) (show _ ≤ _ by omega)]
      by_cases h : s.Kind = 0
      · rw [decide_eq_true h, if_pos h]; rfl
      · rw [decide_eq_false h, if_neg h]; rfl
    refine (zbP key).trans ?_
    rw [zj1 h0 h1 hl hs ss (i + 1) _ _ _ hdrop (by simp; omega) (by omega) (by split <;> (try simp) <;> omega) (by omega) (by omega)]
    simp only [List.map_cons, sumI, flx]
    congr 1
    refine Prod.ext ?_ (Prod.ext ?_ ?_)
    · simp
    · simp only; split <;> simp
    · simp only; omega
theorem zno {total : Int} {n : Nat} (hn : n ≤ 16) (hnt : (n : Int) ≤ total) (ht : total ≤ 200) :
    ∀ (m : Nat) (out : List Int) (left : Int), out.length = n → m ≤ n → (∀ x ∈ out, 1 ≤ x ∧ x ≤ 200) → sumI out + left = total → left ≤ 200 → (left < 0 → ∀ j, m ≤ j → ∀ h : j < out.length, out[j] = 1) →
    ∃ out' left', iter (fun s => solve_Share_l2 s.1 s.2.1 s.2.2 : (List Int × Int × Int) → Option ((List Int × Int × Int) ⊕ (List Int × Int))) (out, left, (m : Int) - 1) = some (out', left') ∧ 0 ≤ left' ∧ out'.length = n ∧ (∀ x ∈ out', 1 ≤ x ∧ x ≤ 200) ∧ sumI out' + left' = total := by
  intro m
  induction m with
  | zero =>
    intro out left ho hm hr hs hl2 ht2
    have hl : 0 ≤ left := by
      rcases Int.lt_or_le left 0 with h | h
      · have h1 := zj0 out fun x hx => by
          obtain ⟨j, hj, rfl⟩ := List.mem_iff_getElem.1 hx
          exact ht2 h j (Nat.zero_le _) hj
        omega
      · exact h
    refine ⟨out, left, zbh ?_, hl, ho, hr, hs⟩
    simp only [solve_Share_l2, letB]
    rw [decide_eq_false (by omega)]; rfl
  | succ m ih =>
    intro out left ho hm hr hs hl2 ht2
    have hex : 0 ≤ left → ∃ out' left', iter (fun s => solve_Share_l2 s.1 s.2.1 s.2.2 : (List Int × Int × Int) → Option ((List Int × Int × Int) ⊕ (List Int × Int))) (out, left, ((m + 1 : Nat) : Int) - 1) = some (out', left') ∧ 0 ≤ left' ∧ out'.length = n ∧ (∀ x ∈ out', 1 ≤ x ∧ x ≤ 200) ∧ sumI out' + left' = total := fun hl => by
      refine ⟨out, left, zbh ?_, hl, ho, hr, hs⟩
      simp only [solve_Share_l2, letB]
      rw [decide_eq_false (by omega)]; rfl
    rcases Int.lt_or_le left 0 with h | h
    · have hlt : m < out.length := by omega
      have hx := hr out[m] (List.getElem_mem hlt)
      have hsum : (-3200 : Int) ≤ left := by
        have : ∀ l : List Int, (∀ x ∈ l, 1 ≤ x ∧ x ≤ 200) → sumI l ≤ 200 * l.length := by
          intro l
          induction l with
          | nil => intro _; simp [sumI]
          | cons y l ih =>
            intro hl
            have h1 := ih fun z hz => hl z (.tail _ hz)
            have h2 := hl y (.head _)
            simp only [sumI, List.length_cons]; omega
        have := this out hr
        omega
      have hidx : idx out (m : Int) = some out[m] := zcj hlt
      generalize hless : min (out[m] - 1) (0 - left) = less
      have hl0 : 0 ≤ less ∧ less ≤ out[m] - 1 ∧ less ≤ 0 - left := by omega
      have key : solve_Share_l2 out left (((m + 1 : Nat) : Int) - 1) = some (.inl (out.set m (out[m] - less), left + less, (m : Int) - 1)) := by
        simp only [solve_Share_l2, letB]
        rw [decide_eq_true h, show ((m + 1 : Nat) : Int) - 1 = (m : Int) by omega]
        simp only [cond_true, hidx, Option.bind_some]
        rw [zaw (n := out[m] - 1) (by omega) (by omega), zaw (n := 0 - left) (by omega) (by omega), hless, zaw (n := out[m] - less) (by omega) (by omega), zaw (n := left + less) (by omega) (by omega), zaw (n := (m : Int) - 1) (by omega) (by omega)]
        unfold upI
        rw [Int.toNat_natCast]
      obtain ⟨out', left', e, r⟩ := ih (out.set m (out[m] - less)) (left + less) (by simp; omega) (by omega) (fun x hx => by
          rcases List.mem_or_eq_of_mem_set hx with hx | rfl
          · exact hr x hx
          · omega) (by rw [zfA out m _ hlt]; omega) (by omega) (fun hneg j hj hj2 => by
          by_cases hjm : j = m
          · subst hjm
            rw [List.getElem_set_self]
            omega
          · rw [List.getElem_set_ne (by omega)]
            exact ht2 h j (by omega) (by simpa using hj2))
      exact ⟨out', left', (zbP key).trans e, r⟩
    · exact hex h
def give (left : Int) (k : Nat) (t : Nat) : Int := left / k + if (t : Int) < left % k then 1 else 0
def zdC (left : Int) (k : Nat) : Nat → Int
  | 0 => 0
  | t + 1 => zdC left k t + give left k t
theorem ziM {left : Int} {k : Nat} (hk : 0 < k) (hl : 0 ≤ left) : ∀ t : Nat, t ≤ k → zdC left k t = t * (left / k) + min (t : Int) (left % k)
  | 0, _ => by
    have : 0 ≤ left % k := Int.emod_nonneg _ (by omega)
    simp only [zdC]; simp; omega
  | t + 1, h => by
    have h1 := ziM hk hl t (by omega)
    simp only [zdC, give, h1]
    have e : ((t + 1 : Nat) : Int) * (left / k) = t * (left / k) + left / k := by rw [show ((t + 1 : Nat) : Int) = t + 1 by omega, Int.add_mul]; omega
    rw [e]
    split <;> omega
theorem znp {left : Int} {k : Nat} (hk : 0 < k) (hl : 0 ≤ left) : zdC left k k = left := by
  rw [ziM hk hl k (Nat.le_refl _)]
  have h1 := Int.emod_lt_of_pos left (show (0 : Int) < k by omega)
  have h2 := Int.mul_ediv_add_emod left k
  omega
theorem zj2 {j24 : List Int × List Int × Int} {j30 : List Int × Int} {n : Nat} (hn : n ≤ 16) (hfl : j24.2.1.length ≤ 16) (hfm : ∀ x ∈ j24.2.1, 0 ≤ x ∧ x < n) (hpos : 0 < j24.2.1.length) (hl0 : 0 ≤ j30.2) (hl1 : j30.2 ≤ 200) :
    ∀ (m t : Nat) (out : List Int), t + m = j24.2.1.length → out.length = n → (∀ x ∈ out, 1 ≤ x) → sumI out ≤ 200 + zdC j30.2 j24.2.1.length t → 0 ≤ zdC j30.2 j24.2.1.length t → zdC j30.2 j24.2.1.length t ≤ 400 →
    (∀ t', t ≤ t' → t' ≤ j24.2.1.length → 0 ≤ zdC j30.2 j24.2.1.length t' ∧ zdC j30.2 j24.2.1.length t' ≤ 400) →
    ∃ out', iter (fun s => solve_Share_l3 j24 j30 s.1 s.2 : (List Int × Int) → Option ((List Int × Int) ⊕ List Int)) (out, (t : Int)) = some out' ∧ out'.length = n ∧ (∀ x ∈ out', 1 ≤ x) ∧ sumI out' = sumI out + zdC j30.2 j24.2.1.length j24.2.1.length - zdC j30.2 j24.2.1.length t
  | 0, t, out, hm, ho, hr, hs, hg0, hg1, hg => by
    refine ⟨out, zbh ?_, ho, hr, by rw [show t = j24.2.1.length by omega]; omega⟩
    simp only [solve_Share_l3, letB]
    rw [decide_eq_false (by omega)]; rfl
  | m + 1, t, out, hm, ho, hr, hs, hg0, hg1, hg => by
    have hlt : t < j24.2.1.length := by omega
    have hx := hfm _ (List.getElem_mem hlt)
    obtain ⟨x, hxe⟩ : ∃ x : Nat, (x : Int) = j24.2.1[t] := ⟨j24.2.1[t].toNat, by omega⟩
    have hxn : x < out.length := by omega
    have hidx : idx j24.2.1 (t : Int) = some (x : Int) := by rw [zcj hlt, hxe]
    have hidx2 : idx out (x : Int) = some out[x] := zcj hxn
    have hox := hr _ (List.getElem_mem hxn)
    have hoy := zlw out hr _ (List.getElem_mem hxn)
    have hreq : req (decide ((j24.2.1.length : Int) ≠ 0)) = some () := by rw [decide_eq_true (by omega)]; rfl
    have hk : (0 : Int) < (j24.2.1.length : Int) := by omega
    have hq : 0 ≤ j30.2 / (j24.2.1.length : Int) ∧ j30.2 / (j24.2.1.length : Int) ≤ 200 := ⟨Int.ediv_nonneg hl0 (by omega), Int.le_trans (Int.ediv_le_self _ hl0) hl1⟩
    have hgt := hg (t + 1) (by omega) (by omega)
    have hgive : 0 ≤ give j30.2 j24.2.1.length t ∧ give j30.2 j24.2.1.length t ≤ 201 := by unfold give; split <;> omega
    have key : solve_Share_l3 j24 j30 out (t : Int) = some (.inl (out.set x (out[x] + give j30.2 j24.2.1.length t), ((t + 1 : Nat) : Int))) := by
      simp only [solve_Share_l3, letB]
      rw [decide_eq_true (show (t : Int) < (j24.2.1.length : Int) by omega), zaw (n := (t : Int) + 1) (by omega) (by omega)]
      simp only [cond_true, hidx, Option.bind_some, hidx2, hreq, Int.tdiv_eq_ediv_of_nonneg hl0, Int.tmod_eq_emod_of_nonneg hl0]
      rw [zaw (n := j30.2 / (j24.2.1.length : Int)) (by omega) (by omega), zaw (n := out[x] + j30.2 / (j24.2.1.length : Int)) (by omega) (by omega)]
      have hset : idx (upI out (x : Int) (out[x] + j30.2 / (j24.2.1.length : Int))) (x : Int) = some (out[x] + j30.2 / (j24.2.1.length : Int)) := by
        unfold upI
        rw [Int.toNat_natCast, zcj (by simp; omega), List.getElem_set_self]
      unfold give
      by_cases hb : (t : Int) < j30.2 % (j24.2.1.length : Int)
      · rw [decide_eq_true hb, if_pos hb]
        simp only [cond_true, hset, Option.bind_some]
        rw [zaw (n := out[x] + j30.2 / (j24.2.1.length : Int) + 1) (by omega) (by omega)]
        unfold upI
        rw [Int.toNat_natCast, List.set_set, Int.add_assoc]
        rfl
      · rw [decide_eq_false hb, if_neg hb]
        simp only [cond_false, Option.bind_some]
        unfold upI
        rw [Int.toNat_natCast, Int.add_zero]
        rfl
    obtain ⟨out', e, r1, r2, r3⟩ := zj2 hn hfl hfm hpos hl0 hl1 m (t + 1) (out.set x (out[x] + give j30.2 j24.2.1.length t)) (by omega) (by simp; omega) (fun y hy => by
        rcases List.mem_or_eq_of_mem_set hy with hy | rfl
        · exact hr y hy
        · omega) (by rw [zfA out x _ hxn]; simp only [zdC]; omega) hgt.1 hgt.2 (fun t' h1 h2 => hg t' (by omega) h2)
    refine ⟨out', (zbP key).trans e, r1, r2, ?_⟩
    rw [r3, zfA out x _ hxn]
    simp only [zdC]
    omega
theorem zhv {sizes : List Size} (hl : sizes.length ≤ 16) (hs : ∀ s ∈ sizes, sizeOK s) : zaX sizes 57 = some false := by
  have loop : ∀ (ss : List Size) (i : Nat), sizes.drop i = ss → i + ss.length = sizes.length → iter (fun s => slices_IndexFunc_80_l1 sizes 57 s : Int → Option (Int ⊕ (Int ⊕ Unit))) (i : Int) = some (.inr ()) := by
    intro ss
    induction ss with
    | nil =>
      intro i hd hi
      refine zbh ?_
      simp only [slices_IndexFunc_80_l1, letB]
      rw [decide_eq_false (by simp only [List.length_nil] at hi; omega)]; rfl
    | cons s ss ih =>
      intro i hd hi
      obtain ⟨hlt, hget, hdrop⟩ := zeO hd
      simp only [List.length_cons] at hi
      have hso : sizeOK s := hs s (hget ▸ List.getElem_mem hlt)
      refine (zbP (s' := ((i + 1 : Nat) : Int)) ?_).trans (ih (i + 1) hdrop (by omega))
      simp only [slices_IndexFunc_80_l1, letB]
      rw [decide_eq_true (show (i : Int) < (sizes.length : Int) by omega), zcj hlt, hget, zaw (n := (i : Int) + 1) (by omega) (by omega)]
      simp only [cond_true, Option.bind_some, zcv, zlv, if_pos hso, letB]
      rfl
  unfold zaX zbK
  rw [show (0 : Int) = ((0 : Nat) : Int) from rfl, loop sizes 0 rfl (by omega)]
  rfl
theorem zf1 {total : Int} {sizes : List Size} (hn0 : 1 ≤ sizes.length) (hl : sizes.length ≤ 16) (hs : ∀ s ∈ sizes, sizeOK s) (h1 : total ≤ 200) (hlt : total < sizes.length) : zbL total sizes = some ([], 90) := by
  unfold zbL
  simp only [letB, zhv hl hs, Option.bind_some]
  rw [decide_eq_false (by omega), decide_eq_false (by omega), decide_eq_false (by omega), decide_eq_true hlt]
  rfl
theorem ziN {total : Int} {sizes : List Size} (hn0 : 1 ≤ sizes.length) (hl : sizes.length ≤ 16) (hs : ∀ s ∈ sizes, sizeOK s) (h1 : total ≤ 200) (hge : (sizes.length : Int) ≤ total) :
    ∃ l, zbL total sizes = some (l, 0) ∧ l.length = sizes.length ∧ (∀ x ∈ l, 1 ≤ x) ∧ sumI l = total := by
  have hw : ∀ x ∈ sizes.map (wT total), 1 ≤ x ∧ x ≤ 200 := fun x hx => by
    obtain ⟨s, hm, rfl⟩ := List.mem_map.1 hx
    exact zlx (by omega) h1 (hs s hm)
  have e1 := zj1 (by omega) h1 hl hs sizes 0 [] [] total rfl rfl (by omega) (Nat.le_refl _) (by omega) h1
  simp only [List.nil_append] at e1
  obtain ⟨out, left, e2, hl0, ho, hr, hsum⟩ := zno hl hge h1 sizes.length (sizes.map (wT total)) (total - sumI (sizes.map (wT total))) (by simp) (Nat.le_refl _) hw (by omega) (by have := zhu _ fun x hx => (hw x hx).1; omega) (fun _ j hj h => by simp at h; omega)
  have hr1 : ∀ x ∈ out, 1 ≤ x := fun x hx => (hr x hx).1
  have hoge := zhu out hr1
  have pre : zbL total sizes = (letB (decide (((flx sizes 0).length : Int) = 0)) fun c31 =>
        bif c31 then (
          (idx out (w64 ((out.length : Int) - 1))).bind fun x33 =>
          (idx out (w64 ((out.length : Int) - 1))).bind fun x34 =>
          some (upI out (w64 ((out.length : Int) - 1)) (w64 (x33 + left)), 0))
        else (
          (iter (fun s => solve_Share_l3 (sizes.map (wT total), flx sizes 0, total - sumI (sizes.map (wT total))) (out, left) s.1 s.2 : (List Int × Int) → Option ((List Int × Int) ⊕ List Int)) (out, 0)).bind fun j48 =>
          some (j48, 0))) := by
    unfold zbL
    simp only [letB, zhv hl hs, Option.bind_some]
    rw [decide_eq_false (by omega), decide_eq_false (by omega), decide_eq_false (by omega), decide_eq_false (by omega)]
    simp only [cond_false, Option.bind_some]
    rw [show (0 : Int) = ((0 : Nat) : Int) from rfl, e1]
    simp only [Option.bind_some]
    rw [show w64 (((sizes.map (wT total)).length : Int) - 1) = (sizes.length : Int) - 1 by rw [List.length_map, zaw (by omega) (by omega)], e2]
    rfl
  rw [pre]
  simp only [letB]
  by_cases hf : (flx sizes 0).length = 0
  · rw [decide_eq_true (by omega), zaw (n := (out.length : Int) - 1) (by omega) (by omega), show (out.length : Int) - 1 = ((out.length - 1 : Nat) : Int) by omega, zcj (by omega)]
    simp only [cond_true, Option.bind_some]
    have hlast : out.length - 1 < out.length := by omega
    have hb := hr _ (List.getElem_mem hlast)
    rw [zaw (by omega) (by omega)]
    unfold upI
    rw [Int.toNat_natCast]
    refine ⟨_, rfl, by simp; omega, fun x hx => ?_, ?_⟩
    · rcases List.mem_or_eq_of_mem_set hx with hx | rfl
      · exact hr1 x hx
      · omega
    · rw [zfA out _ _ hlast]; omega
  · rw [decide_eq_false (by omega)]
    simp only [cond_false]
    have hfl := znn sizes 0
    have hfp : 0 < (flx sizes 0).length := by omega
    have hg : ∀ t', 0 ≤ t' → t' ≤ (flx sizes 0).length → 0 ≤ zdC left (flx sizes 0).length t' ∧ zdC left (flx sizes 0).length t' ≤ 400 := fun t' _ ht => by
      rw [ziM hfp hl0 t' ht]
      have a1 : 0 ≤ left % ((flx sizes 0).length : Int) := Int.emod_nonneg _ (by omega)
      have a2 : 0 ≤ left / ((flx sizes 0).length : Int) := Int.ediv_nonneg hl0 (by omega)
      have a3 : 0 ≤ (t' : Int) * (left / ((flx sizes 0).length : Int)) := Int.mul_nonneg (by omega) a2
      have a4 : (t' : Int) * (left / ((flx sizes 0).length : Int)) ≤ ((flx sizes 0).length : Int) * (left / ((flx sizes 0).length : Int)) := Int.mul_le_mul_of_nonneg_right (by omega) a2
      have a5 := Int.mul_ediv_add_emod left ((flx sizes 0).length : Int)
      omega
    have h0 := hg 0 (Nat.le_refl _) (by omega)
    obtain ⟨out', e3, r1, r2, r3⟩ := zj2 (j24 := (sizes.map (wT total), flx sizes 0, total - sumI (sizes.map (wT total)))) (j30 := (out, left)) (n := sizes.length) hl (by show (flx sizes 0).length ≤ 16; omega) (fun x hx => by have := zk1 sizes 0 x hx; omega) hfp hl0 (by show left ≤ 200; omega) (flx sizes 0).length 0 out (by show 0 + (flx sizes 0).length = (flx sizes 0).length; omega) ho hr1 (by show sumI out ≤ 200 + zdC left (flx sizes 0).length 0; simp only [zdC]; omega) h0.1 h0.2 hg
    rw [show (0 : Int) = ((0 : Nat) : Int) from rfl, e3]
    refine ⟨out', rfl, r1, r2, ?_⟩
    rw [r3]
    show sumI out + zdC left (flx sizes 0).length (flx sizes 0).length - zdC left (flx sizes 0).length 0 = total
    rw [znp hfp hl0]
    simp only [zdC]
    omega
end Go.Proofs.YtakdnfneikbjjaaGreatDoor.Am.Lay10

set_option linter.all false
namespace Go.Proofs.YtakdnfneikbjjaaGreatDoor.Am.Lay10
open Go.Proofs.YtakdnfneikbjjaaGreatDoor.Am.T
def Rok (r : Rect) : Prop := -5000 ≤ r.X ∧ 0 ≤ r.W ∧ r.W ≤ 200 ∧ r.X + r.W ≤ 5000 ∧ -5000 ≤ r.Y ∧ 0 ≤ r.H ∧ r.H ≤ 200 ∧ r.Y + r.H ≤ 5000
def Nice (r : Rect) : Prop := Rok r ∧ ((r.W = 0 ∨ r.H = 0) → r = ⟨0, 0, 0, 0⟩)
theorem zdR {r : Rect} (h : Rok r) : cleanT r = if r.W = 0 ∨ r.H = 0 then ⟨0, 0, 0, 0⟩ else r := by
  obtain ⟨h1, h2, h3, h4, h5, h6, h7, h8⟩ := h
  unfold cleanT cl
  simp only
  have e1 : max (-5000) (min r.X 5000) = r.X := by omega
  have e2 : max (-5000) (min r.Y 5000) = r.Y := by omega
  rw [e1, e2]
  have e3 : max 0 (min r.W (min 200 (5000 - r.X))) = r.W := by omega
  have e4 : max 0 (min r.H (min 200 (5000 - r.Y))) = r.H := by omega
  rw [e3, e4]
theorem zar (r : Rect) : Nice (cleanT r) := by
  unfold cleanT
  simp only
  have hx := zba (n := r.X) (show (-5000 : Int) ≤ 5000 by omega)
  have hy := zba (n := r.Y) (show (-5000 : Int) ≤ 5000 by omega)
  generalize cl r.X (-5000) 5000 = x at *
  generalize cl r.Y (-5000) 5000 = y at *
  have hw := zba (n := r.W) (show (0 : Int) ≤ min 200 (5000 - x) by omega)
  have hh := zba (n := r.H) (show (0 : Int) ≤ min 200 (5000 - y) by omega)
  split
  · exact ⟨⟨by decide, by decide, by decide, by decide, by decide, by decide, by decide, by decide⟩, fun _ => rfl⟩
  · rename_i h
    exact ⟨⟨hx.1, hw.1, by simp only; omega, by simp only; omega, hy.1, hh.1, by simp only; omega, by simp only; omega⟩, fun h2 => absurd h2 h⟩
theorem zbG {r : Rect} (h : Nice r) : cleanT r = r := by
  rw [zdR h.1]
  split
  · rename_i h2; exact (h.2 h2).symm
  · rfl
def cutA (across : Bool) (r : Rect) (n : Int) : Rect := if across = true then { r with H := cl n 0 r.H } else { r with W := cl n 0 r.W }
def cutB (across : Bool) (r : Rect) (n : Int) : Rect := if across = true then { r with Y := r.Y + cl n 0 r.H, H := r.H - cl n 0 r.H } else { r with X := r.X + cl n 0 r.W, W := r.W - cl n 0 r.W }
def cutT (across : Bool) : Rect → List Int → List Rect
  | _, [] => []
  | r, n :: ns => cleanT (cutA across r n) :: cutT across (cutB across r n) ns
theorem zly (across : Bool) : ∀ (r : Rect) (ns : List Int), (cutT across r ns).length = ns.length
  | _, [] => rfl
  | r, n :: ns => by simp only [cutT, List.length_cons, zly across _ ns]
theorem ziO {across : Bool} {r : Rect} {n : Int} (h : Rok r) : Rok (cutA across r n) := by
  obtain ⟨h1, h2, h3, h4, h5, h6, h7, h8⟩ := h
  have a := zba (n := n) h2
  have b := zba (n := n) h6
  unfold cutA Rok
  split <;> simp only <;> omega
theorem zgC {across : Bool} {r : Rect} {n : Int} (h : Rok r) : Rok (cutB across r n) := by
  obtain ⟨h1, h2, h3, h4, h5, h6, h7, h8⟩ := h
  have a := zba (n := n) h2
  have b := zba (n := n) h6
  unfold cutB Rok
  split <;> simp only <;> omega
theorem zlz {across : Bool} {ns : List Int} (hl : ns.length ≤ 16) : ∀ (ms : List Int) (i : Nat) (out : List Rect) (r : Rect), ns.drop i = ms → out.length = i → i + ms.length = ns.length → Rok r →
    ∃ r', iter (fun s => rect_Cut_l1 across ns s.1 s.2.1 s.2.2 : (List Rect × Int × Rect) → Option ((List Rect × Int × Rect) ⊕ (List Rect × Rect))) (out, (i : Int), r) = some (out ++ cutT across r ms, r')
  | [], i, out, r, hd, ho, hi, hr => by
    refine ⟨r, zbh ?_⟩
    simp only [rect_Cut_l1, letB]
    rw [decide_eq_false (by simp only [List.length_nil] at hi; omega)]
    simp [cutT]
  | n :: ms, i, out, r, hd, ho, hi, hr => by
    obtain ⟨hlt, hget, hdrop⟩ := zeO hd
    simp only [List.length_cons] at hi
    obtain ⟨r', e⟩ := zlz hl ms (i + 1) (out ++ [cleanT (cutA across r n)]) (cutB across r n) hdrop (by simp; omega) (by omega) (zgC hr)
    refine ⟨r', (zbP ?_).trans (e.trans ?_)⟩
    · obtain ⟨h1, h2, h3, h4, h5, h6, h7, h8⟩ := hr
      have a := zba (n := n) h2
      have b := zba (n := n) h6
      simp only [rect_Cut_l1, letB]
      rw [decide_eq_true (show (i : Int) < (ns.length : Int) by omega), zcj hlt, hget, zaw (n := (i : Int) + 1) (by omega) (by omega)]
      simp only [cond_true, Option.bind_some, zbk, zbM]
      unfold cl at a b
      cases across with
      | true =>
        rw [zaw (n := r.Y + max 0 (min n r.H)) (by omega) (by omega), zaw (n := r.H - max 0 (min n r.H)) (by omega) (by omega)]
        simp only [cond_true, Option.bind_some, zf0 (show out.length < 1000000 by omega)]
        rfl
      | false =>
        rw [zaw (n := r.X + max 0 (min n r.W)) (by omega) (by omega), zaw (n := r.W - max 0 (min n r.W)) (by omega) (by omega)]
        simp only [cond_false, Option.bind_some, zf0 (show out.length < 1000000 by omega)]
        rfl
    · simp [cutT]
theorem zoE {across : Bool} {r : Rect} {ns : List Int} (hl : ns.length ≤ 16) (hr : Nice r) : zeM r ns across = some (cutT across r ns) := by
  unfold zeM subB
  rw [zbM, zbG hr]
  simp only [Option.bind_some]
  rw [if_pos (by omega)]
  simp only [Option.bind_some]
  rw [show (min (ns.length : Int) 16).toNat = ns.length by omega, List.take_length]
  obtain ⟨r', e⟩ := zlz (across := across) hl ns 0 [] r rfl rfl (by omega) hr.1
  rw [show (0 : Int) = ((0 : Nat) : Int) from rfl, e]
  simp
def addC (sp : List Spot) (c : Rect × Bool) : List Spot := sp ++ [⟨sp.length, c.1, 0, c.2⟩]
theorem zoi (cs : List (Rect × Bool)) : ∀ sp : List Spot, (cs.foldl addC sp).length = sp.length + cs.length := by
  induction cs with
  | nil => intro sp; rfl
  | cons c cs ih => intro sp; rw [List.foldl_cons, ih]; simp [addC]; omega
theorem zlA {sp : List Spot} {r : Rect} {z : Int} {t : Bool} (h : sp.length < 1000000) : zaM ⟨sp⟩ r z t = some ⟨sp ++ [⟨sp.length, r, z, t⟩]⟩ := by
  unfold zaM
  rw [zf0 h]; rfl
def stkT : Nat → Rect → List (Rect × Bool)
  | 0, r => [(cleanT r, false)]
  | k + 1, r => (cleanT { r with H := min 1 (max (r.H - 1) 0) }, true) :: stkT k { r with Y := r.Y + min 1 (max (r.H - 1) 0), H := r.H - min 1 (max (r.H - 1) 0) }
theorem ziP : ∀ (k : Nat) (r : Rect), (stkT k r).length = k + 1
  | 0, _ => rfl
  | k + 1, r => by simp only [stkT, List.length_cons, ziP k]
theorem zlB {xs : List Plan} (hl : xs.length ≤ 16) : ∀ (m i : Nat) (r : Rect) (sp : List Spot), i + m = xs.length → Rok r → sp.length + (m + 1) < 1000000 →
    ∃ r' sp', iter (fun s => layout_placer_layF_l8 xs s.1 s.2.1 s.2.2 : (Int × Rect × Placer) → Option ((Int × Rect × Placer) ⊕ (Rect × Placer))) ((i : Int), r, ⟨sp⟩) = some (r', ⟨sp'⟩) ∧ sp' ++ [⟨sp'.length, cleanT r', 0, false⟩] = (stkT m r).foldl addC sp ∧ sp'.length < 1000000
  | 0, i, r, sp, hi, hr, hs => by
    refine ⟨r, sp, zbh ?_, rfl, by omega⟩
    simp only [layout_placer_layF_l8, letB]
    rw [decide_eq_false (by omega)]; rfl
  | m + 1, i, r, sp, hi, hr, hs => by
    obtain ⟨h1, h2, h3, h4, h5, h6, h7, h8⟩ := hr
    obtain ⟨r', sp', e, e2, e3⟩ := zlB hl m (i + 1) { r with Y := r.Y + min 1 (max (r.H - 1) 0), H := r.H - min 1 (max (r.H - 1) 0) } (addC sp (cleanT { r with H := min 1 (max (r.H - 1) 0) }, true)) (by omega) (by unfold Rok; simp only; omega) (by simp [addC]; omega)
    refine ⟨r', sp', (zbP ?_).trans e, e2, e3⟩
    simp only [layout_placer_layF_l8, letB]
    rw [decide_eq_true (show (i : Int) < (xs.length : Int) by omega), zaw (n := r.H - 1) (by omega) (by omega), zaw (n := (i : Int) + 1) (by omega) (by omega), zaw (n := r.Y + min 1 (max (r.H - 1) 0)) (by omega) (by omega), zaw (n := r.H - min 1 (max (r.H - 1) 0)) (by omega) (by omega)]
    simp only [cond_true, zbM, Option.bind_some, zlA (show sp.length < 1000000 by omega)]
    rfl
def Rt : Nat → Plan → Prop
  | 0, _ => False
  | d + 1, p => sizeOK p.Size ∧ (p.Kind = 1 ∨ (p.Kind ≠ 1 ∧ zgm p ∧ 1 ≤ p.Kids.length ∧ p.Kids.length ≤ 16 ∧ ∀ k ∈ p.Kids, Rt d k ∧ (p.Kind = 4 → k.Kind = 1)))
def sumN : List Nat → Nat
  | [] => 0
  | x :: l => x + sumN l
def lv : Nat → Plan → Nat
  | 0, _ => 0
  | d + 1, p => if p.Kind = 1 then 1 else sumN (p.Kids.map (lv d))
theorem zhw {d : Nat} {q : Plan} (hd : ∀ k n n', 0 ≤ n → n ≤ 24 → mT d k n = (true, n') → Rt d k ∧ n' = n + lv d k) : ∀ (ks : List Plan) (n n' : Int), 0 ≤ n → n ≤ 24 → ziL (mT d) q ks n = (true, n') → (∀ k ∈ ks, Rt d k ∧ (q.Kind = 4 → k.Kind = 1)) ∧ n' = n + sumN (ks.map (lv d))
  | [], n, n', h0, h1, h => by
    unfold ziL at h
    cases h
    exact ⟨fun _ h => (by cases h), by simp [sumN]⟩
  | k :: ks, n, n', h0, h1, h => by
    unfold ziL at h
    split at h
    · cases h
    · rename_i h4
      split at h
      · rename_i hb
        have hr := zgB d k n h0 h1
        obtain ⟨a, b⟩ := hd k n (mT d k n).2 h0 h1 (Prod.ext hb rfl)
        have h4' := hr.2.2 hb
        have h5' := hr.1
        obtain ⟨c, e⟩ := zhw hd ks _ n' (by omega) h4' h
        refine ⟨fun x hx => ?_, ?_⟩
        · rcases List.mem_cons.1 hx with rfl | hx
          · exact ⟨a, fun h => Classical.byContradiction fun hh => h4 ⟨h, hh⟩⟩
          · exact c x hx
        · simp only [List.map_cons, sumN]; omega
      · cases h
theorem zlC : ∀ (d : Nat) (p : Plan) (n n' : Int), 0 ≤ n → n ≤ 24 → mT d p n = (true, n') → Rt d p ∧ n' = n + lv d p
  | 0, p, n, n', h0, h1, h => by cases h
  | d + 1, p, n, n', h0, h1, h => by
    unfold mT at h
    unfold Rt lv
    split at h
    · cases h
    · rename_i hs
      have hs : sizeOK p.Size := Classical.not_not.1 hs
      split at h
      · rename_i hk
        obtain ⟨_, rfl⟩ := Prod.mk.inj h
        rw [if_pos hk]
        exact ⟨⟨hs, .inl hk⟩, rfl⟩
      · rename_i hk
        split at h
        · cases h
        · rename_i hko
          have hko : zgm p := Classical.not_not.1 hko
          split at h
          · cases h
          · rename_i hlen
            obtain ⟨a, b⟩ := zhw (zlC d) p.Kids n n' h0 h1 h
            rw [if_neg hk]
            exact ⟨⟨hs, .inr ⟨hk, hko, by omega, by omega, a⟩⟩, b⟩
noncomputable def lenT (total : Int) (sizes : List Size) : List Int := match zbL total sizes with
  | some (l, e) => if e = 0 then l else List.replicate sizes.length 1
  | none => []
def totT (p : Plan) (r : Rect) : Int := if p.Kind = 3 then r.H else r.W
noncomputable def partsT (p : Plan) (r : Rect) : List Rect := cutT (decide (p.Kind = 3)) r (lenT (totT p r) (p.Kids.map Plan.Size))
noncomputable def layT : Nat → Plan → Rect → List (Rect × Bool)
  | 0, _, _ => []
  | d + 1, p, r => if p.Kind = 1 then [(r, false)] else if p.Kind = 4 then stkT (p.Kids.length - 1) r else (p.Kids.zip (partsT p r)).flatMap fun x => layT d x.1 x.2
theorem zoj {total : Int} {sizes : List Size} (hn0 : 1 ≤ sizes.length) (hl : sizes.length ≤ 16) (hs : ∀ s ∈ sizes, sizeOK s) (h1 : total ≤ 200) : (lenT total sizes).length = sizes.length := by
  unfold lenT
  by_cases hlt : total < sizes.length
  · rw [zf1 hn0 hl hs h1 hlt]; simp
  · obtain ⟨l, e, h2, _, _⟩ := ziN hn0 hl hs h1 (by omega)
    rw [e]; exact h2
theorem Rt.sizeOK {d : Nat} {p : Plan} (h : Rt d p) : sizeOK p.Size := by
  cases d with
  | zero => exact h.elim
  | succ d => exact h.1
theorem zj3 {p : Plan} {r : Rect} (hr : Nice r) : totT p r ≤ 200 := by
  obtain ⟨h1, h2, h3, h4, h5, h6, h7, h8⟩ := hr.1
  unfold totT; split <;> assumption
theorem zf2 {d : Nat} {p : Plan} {r : Rect} (hr : Nice r) (hn0 : 1 ≤ p.Kids.length) (hl : p.Kids.length ≤ 16) (hk : ∀ k ∈ p.Kids, Rt d k) : (partsT p r).length = p.Kids.length := by
  unfold partsT
  rw [zly, zoj (by simpa using hn0) (by simpa using hl) (fun s hm => by
    obtain ⟨k, h1, rfl⟩ := List.mem_map.1 hm
    exact (hk k h1).sizeOK) (zj3 hr), List.length_map]
theorem zdz : ∀ (d : Nat) (p : Plan) (r : Rect), Rt d p → Nice r → (layT d p r).length = lv d p
  | 0, p, r, h, hr => h.elim
  | d + 1, p, r, h, hr => by
    unfold layT lv
    obtain ⟨hs, h | ⟨hk, hko, hn0, hl, hks⟩⟩ := h
    · rw [if_pos h, if_pos h]; rfl
    · rw [if_neg hk, if_neg hk]
      by_cases h4 : p.Kind = 4
      · rw [if_pos h4, ziP]
        have key : ∀ ks : List Plan, (∀ k ∈ ks, Rt d k ∧ k.Kind = 1) → sumN (ks.map (lv d)) = ks.length := by
          intro ks
          induction ks with
          | nil => intro _; rfl
          | cons k ks ih =>
            intro hh
            obtain ⟨a, b⟩ := hh k (.head _)
            simp only [List.map_cons, sumN, ih fun x hx => hh x (.tail _ hx), List.length_cons]
            cases d with
            | zero => exact a.elim
            | succ d => rw [lv, if_pos b]; omega
        rw [key _ fun k hm => ⟨(hks k hm).1, (hks k hm).2 h4⟩]; omega
      · rw [if_neg h4]
        have hpl := zf2 hr hn0 hl fun k hm => (hks k hm).1
        have hnice : ∀ x ∈ partsT p r, Nice x := by
          unfold partsT
          generalize lenT _ _ = ns
          have : ∀ (ns : List Int) (r : Rect), ∀ x ∈ cutT (decide (p.Kind = 3)) r ns, Nice x := by
            intro ns
            induction ns with
            | nil => intro r x hx; cases hx
            | cons n ns ih =>
              intro r x hx
              rcases List.mem_cons.1 hx with rfl | hx
              · exact zar _
              · exact ih _ x hx
          exact this ns r
        have key : ∀ (ks : List Plan) (ps : List Rect), ks.length = ps.length → (∀ k ∈ ks, Rt d k) → (∀ x ∈ ps, Nice x) → ((ks.zip ps).flatMap fun x => layT d x.1 x.2).length = sumN (ks.map (lv d)) := by
          intro ks
          induction ks with
          | nil => intro ps _ _ _; rfl
          | cons k ks ih =>
            intro ps hlen hk1 hp1
            cases ps with
            | nil => cases hlen
            | cons x ps =>
              simp only [List.zip_cons_cons, List.flatMap_cons, List.length_append, List.map_cons, sumN]
              rw [zdz d k x (hk1 k (.head _)) (hp1 x (.head _)), ih ps (by simpa using hlen) (fun y hy => hk1 y (.tail _ hy)) (fun y hy => hp1 y (.tail _ hy))]
        exact key _ _ hpl.symm (fun k hm => (hks k hm).1) hnice
theorem zhx (across : Bool) : ∀ (ns : List Int) (r : Rect), ∀ x ∈ cutT across r ns, Nice x
  | [], r, x, hx => by cases hx
  | n :: ns, r, x, hx => by
    rcases List.mem_cons.1 hx with rfl | hx
    · exact zar _
    · exact zhx across ns _ x hx
theorem zic {p : Plan} (hl : p.Kids.length ≤ 16) : ∀ (ks : List Plan) (i : Nat) (out : List Size), p.Kids.drop i = ks → out.length = i → i + ks.length = p.Kids.length →
    iter (fun s => layout_placer_splitF_l1 p s.1 s.2 : (List Size × Int) → Option ((List Size × Int) ⊕ List Size)) (out, (i : Int)) = some (out ++ ks.map Plan.Size)
  | [], i, out, hd, ho, hi => by
    refine zbh ?_
    simp only [layout_placer_splitF_l1, letB]
    rw [decide_eq_false (by simp only [List.length_nil] at hi; omega)]
    simp
  | k :: ks, i, out, hd, ho, hi => by
    obtain ⟨hlt, hget, hdrop⟩ := zeO hd
    simp only [List.length_cons] at hi
    refine (zbP (s' := (out ++ [k.Size], ((i + 1 : Nat) : Int))) ?_).trans ((zic hl ks (i + 1) _ hdrop (by simp; omega) (by omega)).trans (by simp))
    simp only [layout_placer_splitF_l1, letB]
    rw [decide_eq_true (show (i : Int) < (p.Kids.length : Int) by omega), zcj hlt, hget, zaw (n := (i : Int) + 1) (by omega) (by omega)]
    simp only [cond_true, Option.bind_some, zf0 (show out.length < 1000000 by omega)]
    rfl
theorem zj4 {x12 : List Int} (hl : x12.length ≤ 16) : ∀ (m i : Nat) (a : List Int), a.length = i → i + m = x12.length → a = List.replicate i 1 →
    iter (fun s => layout_placer_splitF_l3 x12 s.1 s.2 : (List Int × Int) → Option ((List Int × Int) ⊕ List Int)) (a ++ List.replicate m 0, (i : Int)) = some (List.replicate (i + m) 1)
  | 0, i, a, ha, hi, h => by
    refine zbh ?_
    simp only [layout_placer_splitF_l3, letB]
    rw [decide_eq_false (by omega)]
    simp [h]
  | m + 1, i, a, ha, hi, h => by
    have hlt : i < (a ++ List.replicate (m + 1) (0 : Int)).length := by simp; omega
    refine (zbP (s' := ((a ++ [1]) ++ List.replicate m 0, ((i + 1 : Nat) : Int))) ?_).trans ((zj4 hl m (i + 1) (a ++ [1]) (by simp; omega) (by omega) (by rw [h, List.replicate_succ'])).trans (by rw [show i + 1 + m = i + (m + 1) by omega]))
    simp only [layout_placer_splitF_l3, letB]
    rw [decide_eq_true (show (i : Int) < (x12.length : Int) by omega), zcj hlt, zaw (n := (i : Int) + 1) (by omega) (by omega)]
    simp only [cond_true, Option.bind_some]
    unfold upI
    rw [Int.toNat_natCast]
    have : (a ++ List.replicate (m + 1) (0 : Int)).set i 1 = (a ++ [1]) ++ List.replicate m 0 := by
      rw [List.set_append_right _ _ (by omega), ha, Nat.sub_self, List.replicate_succ, List.set_cons_zero]
      simp
    rw [this]; rfl
theorem zlD {p : Plan} {d : Nat} {rec : Placer → Plan → Rect → Option Placer} {ys : List Rect} (hy : ys.length = p.Kids.length) (hl : p.Kids.length ≤ 16)
    (hrec : ∀ k ∈ p.Kids, ∀ x ∈ ys, ∀ sp : List Spot, sp.length + (layT d k x).length < 1000000 → rec ⟨sp⟩ k x = some ⟨(layT d k x).foldl addC sp⟩) :
    ∀ (zs : List (Plan × Rect)) (i : Nat) (sp : List Spot), (p.Kids.zip ys).drop i = zs → i + zs.length = p.Kids.length → sp.length + (zs.flatMap fun x => layT d x.1 x.2).length < 1000000 →
    iter (fun s => layout_placer_splitF_l4 p rec ys s.1 s.2 : (Int × Placer) → Option ((Int × Placer) ⊕ Placer)) ((i : Int), ⟨sp⟩) = some ⟨(zs.flatMap fun x => layT d x.1 x.2).foldl addC sp⟩
  | [], i, sp, hd, hi, hs => by
    refine zbh ?_
    simp only [layout_placer_splitF_l4, letB]
    rw [decide_eq_false (by simp only [List.length_nil] at hi; omega)]
    rfl
  | z :: zs, i, sp, hd, hi, hs => by
    obtain ⟨hlt, hget, hdrop⟩ := zeO hd
    simp only [List.length_cons] at hi
    have h1 : i < p.Kids.length := by omega
    have h2 : i < ys.length := by omega
    rw [List.getElem_zip] at hget
    subst hget
    simp only [List.flatMap_cons, List.length_append] at hs
    simp only [List.flatMap_cons, List.foldl_append]
    have hr := hrec _ (List.getElem_mem h1) _ (List.getElem_mem h2) sp (by omega)
    refine (zbP (s' := (((i + 1 : Nat) : Int), ⟨(layT d p.Kids[i] ys[i]).foldl addC sp⟩)) ?_).trans (zlD hy hl hrec zs (i + 1) _ hdrop (by omega) (by rw [zoi]; omega))
    simp only [layout_placer_splitF_l4, letB]
    rw [decide_eq_true (show (i : Int) < (ys.length : Int) by omega), zcj h2, zcj h1, zaw (n := (i : Int) + 1) (by omega) (by omega)]
    simp only [cond_true, Option.bind_some, hr]
    rfl
theorem zoF : ∀ (d m : Nat) (p : Plan) (r : Rect) (sp : List Spot), Rt d p → Nice r → 2 * d ≤ m → sp.length + (layT d p r).length < 1000000 →
    (zah m).1 ⟨sp⟩ p r = some ⟨(layT d p r).foldl addC sp⟩
  | 0, m, p, r, sp, h, hr, hm, hs => h.elim
  | d + 1, 0, p, r, sp, h, hr, hm, hs => by omega
  | d + 1, 1, p, r, sp, h, hr, hm, hs => by omega
  | d + 1, m + 2, p, r, sp, h, hr, hm, hs => by
    obtain ⟨hsz, h | ⟨hk, hko, hn0, hl, hks⟩⟩ := h
    · show zaR (zah (m + 1)).1 (zah (m + 1)).2 ⟨sp⟩ p r = _
      unfold zaR
      unfold layT at hs ⊢
      rw [if_pos h] at hs ⊢
      simp only [letB]
      rw [decide_eq_true h]
      simp only [cond_true, zlA (show sp.length < 1000000 by simp at hs; omega), Option.bind_some]
      rfl
    · show zaR (zah (m + 1)).1 (zah (m + 1)).2 ⟨sp⟩ p r = _
      unfold zaR
      simp only [letB]
      rw [decide_eq_false hk]
      by_cases h4 : p.Kind = 4
      · unfold layT at hs ⊢
        rw [if_neg hk, if_pos h4] at hs ⊢
        rw [ziP] at hs
        rw [decide_eq_true h4]
        have hsub : subA p.Kids 1 = some (p.Kids.drop 1) := by
          unfold subA
          rw [if_pos (by omega)]; rfl
        obtain ⟨r', sp', e, e2, e3⟩ := zlB (xs := p.Kids.drop 1) (by simp; omega) (p.Kids.length - 1) 0 r sp (by simp) hr.1 (by omega)
        simp only [cond_true, cond_false, hsub, Option.bind_some]
        rw [show (0 : Int) = ((0 : Nat) : Int) from rfl, e]
        simp only [Option.bind_some, zbM]
        rw [show ((0 : Nat) : Int) = 0 from rfl, zlA e3]
        simp only [Option.bind_some]
        rw [e2]
      · rw [decide_eq_false h4]
        simp only [cond_false]
        have hsizes : ∀ s ∈ p.Kids.map Plan.Size, sizeOK s := fun s hm => by
          obtain ⟨k, h1, rfl⟩ := List.mem_map.1 hm
          exact (hks k h1).1.sizeOK
        have hpl := zf2 hr hn0 hl fun k hm => (hks k hm).1
        unfold layT at hs ⊢
        rw [if_neg hk, if_neg h4] at hs ⊢
        have loop := zlD (p := p) (d := d) (rec := (zah m).1) (ys := partsT p r) hpl hl (fun k hkm x hxm sp' hsp => zoF d m k x sp' (hks k hkm).1 (zhx _ _ _ x hxm) (by omega) hsp) (p.Kids.zip (partsT p r)) 0 sp rfl (by rw [List.length_zip, hpl]; omega) hs
        have hsplit : (zah (m + 1)).2 ⟨sp⟩ p r = some ⟨((p.Kids.zip (partsT p r)).flatMap fun x => layT d x.1 x.2).foldl addC sp⟩ := by
          show zbg (zah m).1 (zah m).2 ⟨sp⟩ p r = _
          unfold zbg
          have htot : (bif decide (p.Kind = 3) then some r.H else some r.W : Option Int) = some (totT p r) := by
            unfold totT
            by_cases h3 : p.Kind = 3
            · rw [decide_eq_true h3, if_pos h3]; rfl
            · rw [decide_eq_false h3, if_neg h3]; rfl
          simp only [letB, htot, Option.bind_some]
          rw [show (0 : Int) = ((0 : Nat) : Int) from rfl, zic hl p.Kids 0 [] rfl rfl (by omega)]
          simp only [Option.bind_some, List.nil_append, List.length_map]
          by_cases hlt : totT p r < (p.Kids.map Plan.Size).length
          · have hsh := zf1 (total := totT p r) (by simpa using hn0) (by simpa using hl) hsizes (zj3 hr) hlt
            have hparts : partsT p r = cutT (decide (p.Kind = 3)) r (List.replicate p.Kids.length 1) := by
              unfold partsT lenT
              rw [hsh]; simp
            rw [hsh]
            simp only [Option.bind_some]
            have hmk : mkL (p.Kids.length : Int) (p.Kids.length : Int) (0 : Int) = some (List.replicate p.Kids.length 0) := by
              unfold mkL
              rw [if_pos (by rw [znl]; omega), Int.toNat_natCast]
            rw [show decide ((90 : Int) ≠ ((0 : Nat) : Int)) = true by decide, show ((0 : Nat) : Int) = 0 from rfl, hmk]
            simp only [cond_true, Option.bind_some]
            have hones := zj4 (x12 := List.replicate p.Kids.length 0) (by simpa using hl) p.Kids.length 0 [] rfl (by simp) rfl
            simp only [List.nil_append] at hones
            rw [show ((0 : Nat) : Int) = 0 from rfl] at hones loop
            rw [hones]
            simp only [Option.bind_some, Nat.zero_add]
            rw [zoE (by simpa using hl) hr]
            simp only [Option.bind_some]
            rw [← hparts, loop]
            rfl
          · obtain ⟨l, hsh, hll, _, _⟩ := ziN (total := totT p r) (by simpa using hn0) (by simpa using hl) hsizes (zj3 hr) (by omega)
            rw [List.length_map] at hll
            have hparts : partsT p r = cutT (decide (p.Kind = 3)) r l := by
              unfold partsT lenT
              rw [hsh]; simp
            rw [hsh]
            simp only [Option.bind_some]
            rw [show decide ((0 : Int) ≠ ((0 : Nat) : Int)) = false by decide]
            simp only [cond_false]
            rw [zoE (by omega) hr]
            simp only [Option.bind_some]
            rw [← hparts, show (fun s : Int × Placer => layout_placer_splitF_l5 p (zah m).1 (partsT p r) s.1 s.2) = (fun s => layout_placer_splitF_l4 p (zah m).1 (partsT p r) s.1 s.2) from rfl, loop]
            rfl
        rw [hsplit]
        rfl
end Go.Proofs.YtakdnfneikbjjaaGreatDoor.Am.Lay10

set_option linter.all false
namespace Go.Proofs.YtakdnfneikbjjaaGreatDoor.Am.Lay10
open Go.Proofs.YtakdnfneikbjjaaGreatDoor.Am.T
def zgp : Nat → List (Rect × Bool) → List Spot
  | _, [] => []
  | b, c :: cs => ⟨b, c.1, 0, c.2⟩ :: zgp (b + 1) cs
theorem zlE : ∀ (cs : List (Rect × Bool)) (sp : List Spot), cs.foldl addC sp = sp ++ zgp sp.length cs
  | [], sp => by simp [zgp]
  | c :: cs, sp => by rw [List.foldl_cons, zlE cs]; simp [addC, zgp]
theorem zdo : ∀ (cs : List (Rect × Bool)) (b : Nat), (zgp b cs).length = cs.length
  | [], b => rfl
  | c :: cs, b => by simp only [zgp, List.length_cons, zdo cs]
theorem zj5 : ∀ (cs : List (Rect × Bool)) (b i : Nat) (h : i < cs.length), (zgp b cs)[i]? = some ⟨(b + i : Nat), cs[i].1, 0, cs[i].2⟩
  | c :: cs, b, 0, h => by simp [zgp]
  | c :: cs, b, i + 1, h => by
    simp only [zgp, List.getElem?_cons_succ, List.getElem_cons_succ]
    rw [zj5 cs (b + 1) i (by simpa using h)]
    rw [show b + 1 + i = b + (i + 1) by omega]
theorem zoG {a b : Int} (h1 : -1000000 ≤ a ∧ a ≤ 1000000) (h2 : -1000000 ≤ b ∧ b ≤ 1000000) : zeL a b = some (a + b) := by
  unfold zeL
  simp only [letB]
  rw [zaw (by omega) (by omega)]
  by_cases ha : a > 0
  · have hn : ¬ a < 0 := by omega
    by_cases hb : b > 0
    · rw [decide_eq_true ha, decide_eq_true hb, decide_eq_false (show ¬ a + b < 0 by omega), decide_eq_false hn]; rfl
    · rw [decide_eq_true ha, decide_eq_false hb, decide_eq_false hn]; rfl
  · by_cases hn : a < 0
    · by_cases hb : b < 0
      · rw [decide_eq_false ha, decide_eq_true hn, decide_eq_true hb, decide_eq_false (show ¬ a + b ≥ 0 by omega)]; rfl
      · rw [decide_eq_false ha, decide_eq_true hn, decide_eq_false hb]; rfl
    · rw [decide_eq_false ha, decide_eq_false hn]; rfl
def zj6 (r : Rect) (dx dy : Int) : Rect := cleanT { cleanT r with X := (cleanT r).X + dx, Y := (cleanT r).Y + dy }
theorem zok {r : Rect} {dx dy : Int} (h1 : -10000 ≤ dx ∧ dx ≤ 10000) (h2 : -10000 ≤ dy ∧ dy ≤ 10000) : zdP r dx dy = some (zj6 r dx dy) := by
  unfold zdP zj6
  rw [zbM]
  obtain ⟨a1, a2, a3, a4, a5, a6, a7, a8⟩ := (zar r).1
  simp only [Option.bind_some]
  rw [zoG (by omega) (by omega)]
  simp only [Option.bind_some]
  rw [zoG (by omega) (by omega)]
  simp only [Option.bind_some, zbM]
def zol (a b : Rect) : Rect := cleanT ⟨cl a.X b.X (b.X + b.W - min a.W b.W), cl a.Y b.Y (b.Y + b.H - min a.H b.H), min a.W b.W, min a.H b.H⟩
theorem zpa {a b : Rect} (ha : Nice a) (hb : Nice b) : zeD a b = some (zol a b) := by
  unfold zeD zol
  rw [zbM, zbM, zbG ha, zbG hb]
  obtain ⟨a1, a2, a3, a4, a5, a6, a7, a8⟩ := ha.1
  obtain ⟨b1, b2, b3, b4, b5, b6, b7, b8⟩ := hb.1
  simp only [Option.bind_some, zbk]
  rw [zaw (n := b.X + b.W) (by omega) (by omega), zaw (n := b.Y + b.H) (by omega) (by omega), zaw (n := b.X + b.W - min a.W b.W) (by omega) (by omega), zaw (n := b.Y + b.H - min a.H b.H) (by omega) (by omega)]
  simp only [zbM, Option.bind_some]
  rfl
def fltT (r f : Rect) : Rect := zol (zj6 f r.X r.Y) r
def fltL (r : Rect) : List Rect → Nat → List Spot → List Spot
  | [], _, sp => sp
  | f :: fs, i, sp => fltL r fs (i + 1) (sp ++ [⟨sp.length, fltT r f, (i + 1 : Nat), false⟩])
theorem zlF {p : Plan} {r : Rect} (hr : Nice r) (hl : p.Float.length ≤ 24) : ∀ (fs : List Rect) (i : Nat) (sp : List Spot), p.Float.drop i = fs → i + fs.length = p.Float.length → sp.length + fs.length < 1000000 →
    iter (fun s => layout_Place_l1 p r s.1 s.2 : (Int × Placer) → Option ((Int × Placer) ⊕ Placer)) ((i : Int), ⟨sp⟩) = some ⟨fltL r fs i sp⟩
  | [], i, sp, hd, hi, hs => by
    refine zbh ?_
    simp only [layout_Place_l1, letB]
    rw [decide_eq_false (by simp only [List.length_nil] at hi; omega)]
    rfl
  | f :: fs, i, sp, hd, hi, hs => by
    obtain ⟨hlt, hget, hdrop⟩ := zeO hd
    simp only [List.length_cons] at hi hs
    obtain ⟨a1, a2, a3, a4, a5, a6, a7, a8⟩ := hr.1
    refine (zbP (s' := (((i + 1 : Nat) : Int), ⟨sp ++ [⟨sp.length, fltT r f, (i + 1 : Nat), false⟩]⟩)) ?_).trans (zlF hr hl fs (i + 1) _ hdrop (by omega) (by simp; omega))
    simp only [layout_Place_l1, letB]
    rw [decide_eq_true (show (i : Int) < (p.Float.length : Int) by omega), zcj hlt, hget, zaw (n := (i : Int) + 1) (by omega) (by omega)]
    simp only [cond_true, Option.bind_some]
    rw [zok (by omega) (by omega)]
    simp only [Option.bind_some]
    rw [zpa (show Nice (zj6 f r.X r.Y) from zar _) hr]
    simp only [Option.bind_some]
    rw [zlA (by omega)]
    rfl
def okP (p : Plan) : Prop := (mT 12 p 0).1 = true ∧ (p.Float.length : Int) ≤ 24 - (mT 12 p 0).2
theorem zc0 {p : Plan} (h : okP p) : Rt 12 p ∧ (mT 12 p 0).2 = lv 12 p ∧ lv 12 p + p.Float.length ≤ 24 := by
  obtain ⟨h1, h2⟩ := h
  obtain ⟨a, b⟩ := zlC 12 p 0 (mT 12 p 0).2 (by omega) (by omega) (Prod.ext h1 rfl)
  exact ⟨a, by omega, by omega⟩
noncomputable def placeT (p : Plan) (r : Rect) : List Spot := fltL (cleanT r) p.Float 0 (zgp 0 (layT 12 p (cleanT r)))
theorem znq {p : Plan} (h : ¬ okP p) (r : Rect) : zbW p r = some [] := by
  unfold zbW
  rw [zeN, if_neg (show ¬ (_ ∧ _) from h)]
  rfl
theorem zom {p : Plan} (h : okP p) (r : Rect) : zbW p r = some (placeT p r) := by
  obtain ⟨h1, h2, h3⟩ := zc0 h
  unfold zbW placeT
  rw [zeN, if_pos (show _ ∧ _ from h)]
  have hl := zdz 12 p (cleanT r) h1 (zar r)
  have hlay := zoF 12 30 p (cleanT r) [] h1 (zar r) (by omega) (by simp; omega)
  simp only [Option.bind_some, letB, zbM, zcJ]
  rw [hlay]
  have hloop := zlF (p := p) (zar r) (by omega) p.Float 0 (zgp 0 (layT 12 p (cleanT r))) rfl (by omega) (by rw [zdo]; omega)
  simp only [Option.bind_some, zlE, List.nil_append, List.length_nil]
  rw [show (0 : Int) = ((0 : Nat) : Int) from rfl, hloop]
  rfl
end Go.Proofs.YtakdnfneikbjjaaGreatDoor.Am.Lay10

set_option linter.all false
namespace Go.Proofs.YtakdnfneikbjjaaGreatDoor.Am.Lay10
open Go.Proofs.YtakdnfneikbjjaaGreatDoor.Am.T
end Go.Proofs.YtakdnfneikbjjaaGreatDoor.Am.Lay10

set_option linter.all false
namespace Go.Proofs.YtakdnfneikbjjaaGreatDoor.Am.Lay10
open Go.Proofs.YtakdnfneikbjjaaGreatDoor.Am.T
def mv (dx dy : Int) (r : Rect) : Rect := { r with X := r.X + dx, Y := r.Y + dy }
def Mid (r : Rect) : Prop := -1000 ≤ r.X ∧ 0 ≤ r.W ∧ r.W ≤ 200 ∧ r.X + r.W ≤ 1200 ∧ -1000 ≤ r.Y ∧ 0 ≤ r.H ∧ r.H ≤ 200 ∧ r.Y + r.H ≤ 1200
section
variable {dx dy : Int}
theorem Mid.mv {r : Rect} (hx : -1000 ≤ dx ∧ dx ≤ 1000) (hy : -1000 ≤ dy ∧ dy ≤ 1000) (h : Mid r) : Rok (mv dx dy r) := by unfold Mid at h; unfold Rok Lay10.mv; simp only; omega
end
end Go.Proofs.YtakdnfneikbjjaaGreatDoor.Am.Lay10

set_option linter.all false
namespace Go.Proofs.YtakdnfneikbjjaaGreatDoor.Am.Lay10
open Go.Proofs.YtakdnfneikbjjaaGreatDoor.Am.T
def Ins (a r : Rect) : Prop := a.W = 0 ∨ (r.X ≤ a.X ∧ a.X + a.W ≤ r.X + r.W ∧ r.Y ≤ a.Y ∧ a.Y + a.H ≤ r.Y + r.H)
def Dis (a b : Rect) : Prop := a.W = 0 ∨ b.W = 0 ∨ a.X + a.W ≤ b.X ∨ b.X + b.W ≤ a.X ∨ a.Y + a.H ≤ b.Y ∨ b.Y + b.H ≤ a.Y
def Sub (a r : Rect) : Prop := r.X ≤ a.X ∧ a.X + a.W ≤ r.X + r.W ∧ r.Y ≤ a.Y ∧ a.Y + a.H ≤ r.Y + r.H
def sumR : List Rect → Int
  | [] => 0
  | x :: l => x.W * x.H + sumR l
def sumA : List (Rect × Bool) → Int
  | [] => 0
  | x :: l => x.1.W * x.1.H + sumA l
theorem ze8 : ∀ a b : List (Rect × Bool), sumA (a ++ b) = sumA a + sumA b
  | [], b => by simp [sumA]
  | x :: a, b => by simp only [List.cons_append, sumA, ze8 a b]; omega
theorem znr {r : Rect} (h : Nice r) (hw : r.W = 0) : r = ⟨0, 0, 0, 0⟩ := h.2 (.inl hw)
theorem Nice.hpos {r : Rect} (h : Nice r) (hw : r.W ≠ 0) : 1 ≤ r.W ∧ 1 ≤ r.H := by
  obtain ⟨a1, a2, a3, a4, a5, a6, a7, a8⟩ := h.1
  refine ⟨by omega, ?_⟩
  by_cases hh : r.H = 0
  · have := h.2 (.inr hh)
    rw [this] at hw
    exact absurd rfl hw
  · omega
theorem zfB {a : Rect} (h : Rok a) : Ins (cleanT a) a := by
  rw [zdR h]
  split
  · exact .inl rfl
  · exact .inr ⟨Int.le_refl _, Int.le_refl _, Int.le_refl _, Int.le_refl _⟩
theorem Ins.trans {a b c : Rect} (h : Ins a b) (hs : Sub b c) : Ins a c := by
  unfold Sub at hs
  rcases h with h | h
  · exact .inl h
  · exact .inr (by omega)
theorem Ins.zero {a b : Rect} (h : Ins a b) (ha : Nice a) (hb : Nice b) (hz : b.W = 0) : a.W = 0 := by
  have hb := znr hb hz
  subst hb
  obtain ⟨a1, a2, a3, a4, a5, a6, a7, a8⟩ := ha.1
  rcases h with h | h
  · exact h
  · simp only at h; omega
theorem Dis.mono {a b x y : Rect} (ha : Nice a) (hb : Nice b) (hx : Nice x) (hy : Nice y) (h1 : Ins a x) (h2 : Ins b y) (h : Dis x y) : Dis a b := by
  by_cases hxz : x.W = 0
  · exact .inl (h1.zero ha hx hxz)
  by_cases hyz : y.W = 0
  · exact .inr (.inl (h2.zero hb hy hyz))
  rcases h1 with h1 | h1
  · exact .inl h1
  rcases h2 with h2 | h2
  · exact .inr (.inl h2)
  unfold Dis at *
  omega
theorem zon {across : Bool} {r : Rect} {n : Int} (h : Rok r) : Sub (cutA across r n) r := by
  obtain ⟨a1, a2, a3, a4, a5, a6, a7, a8⟩ := h
  have h1 := zba (n := n) a2
  have h2 := zba (n := n) a6
  cases across <;> simp only [cutA, if_true, Bool.false_eq_true, if_false, Sub] <;> omega
theorem zoo {across : Bool} {r : Rect} {n : Int} (h : Rok r) : Sub (cutB across r n) r := by
  obtain ⟨a1, a2, a3, a4, a5, a6, a7, a8⟩ := h
  have h1 := zba (n := n) a2
  have h2 := zba (n := n) a6
  cases across <;> simp only [cutB, if_true, Bool.false_eq_true, if_false, Sub] <;> omega
theorem zpL {across : Bool} {r x y : Rect} {n : Int} (h : Rok r) (hx : Ins x (cutA across r n)) (hy : Ins y (cutB across r n)) : Dis x y := by
  rcases hx with hx | hx
  · exact .inl hx
  rcases hy with hy | hy
  · exact .inr (.inl hy)
  unfold Dis
  cases across <;> simp only [cutA, cutB, if_true, Bool.false_eq_true, if_false] at hx hy <;> omega
theorem zns {across : Bool} : ∀ (ns : List Int) (r : Rect), Rok r → (∀ x ∈ cutT across r ns, Ins x r) ∧ (cutT across r ns).Pairwise Dis
  | [], r, h => ⟨fun x hx => (by cases hx), .nil⟩
  | n :: ns, r, h => by
    obtain ⟨h1, h2⟩ := zns (across := across) ns (cutB across r n) (zgC h)
    have hh := zfB (ziO (across := across) (n := n) h)
    refine ⟨fun x hx => ?_, ?_⟩
    · rcases List.mem_cons.1 hx with rfl | hx
      · exact hh.trans (zon h)
      · exact (h1 x hx).trans (zoo h)
    · exact .cons (fun y hy => zpL h hh (h1 y hy)) h2
theorem ziQ {across : Bool} : ∀ (ns : List Int) (r : Rect), Rok r → (∀ n ∈ ns, 1 ≤ n) → sumI ns = (if across = true then r.H else r.W) → 1 ≤ (if across = true then r.W else r.H) → sumR (cutT across r ns) = r.W * r.H
  | [], r, h, h1, hs, ho => by
    cases across
    · simp only [sumI, Bool.false_eq_true, if_false] at hs
      show (0 : Int) = _
      rw [← hs, Int.zero_mul]
    · simp only [sumI, if_true] at hs
      show (0 : Int) = _
      rw [← hs, Int.mul_zero]
  | n :: ns, r, h, h1, hs, ho => by
    have hn := h1 n (.head _)
    have hge := zhu ns fun x hx => h1 x (.tail _ hx)
    simp only [sumI] at hs
    show (cleanT (cutA across r n)).W * (cleanT (cutA across r n)).H + sumR (cutT across (cutB across r n) ns) = _
    have hr' := zgC (across := across) (n := n) h
    rw [zdR (ziO h)]
    cases across with
    | true =>
      simp only [if_true] at hs ho
      have e : cl n 0 r.H = n := by unfold cl; omega
      rw [ziQ ns _ hr' (fun x hx => h1 x (.tail _ hx)) (by simp only [cutB, if_true, e]; omega) (by simpa [cutB] using ho)]
      simp only [cutA, cutB, if_true, e]
      rw [if_neg (by omega)]
      simp only
      rw [← Int.mul_add]
      congr 1; omega
    | false =>
      simp only [Bool.false_eq_true, if_false] at hs ho
      have e : cl n 0 r.W = n := by unfold cl; omega
      rw [ziQ ns _ hr' (fun x hx => h1 x (.tail _ hx)) (by simp only [cutB, Bool.false_eq_true, if_false, e]; omega) (by simpa [cutB] using ho)]
      simp only [cutA, cutB, Bool.false_eq_true, if_false, e]
      rw [if_neg (by omega)]
      simp only
      rw [← Int.add_mul]
      congr 1; omega
theorem zid {across : Bool} : ∀ (n : Nat) (r : Rect), Rok r → (if across = true then r.H else r.W) < n → ∃ x ∈ cutT across r (List.replicate n 1), x.W = 0
  | 0, r, h, hl => by
    obtain ⟨a1, a2, a3, a4, a5, a6, a7, a8⟩ := h
    cases across
    · simp only [Bool.false_eq_true, if_false] at hl; omega
    · simp only [if_true] at hl; omega
  | n + 1, r, h, hl => by
    obtain ⟨a1, a2, a3, a4, a5, a6, a7, a8⟩ := h
    have hr : Rok r := ⟨a1, a2, a3, a4, a5, a6, a7, a8⟩
    by_cases hz : (if across = true then r.H else r.W) = 0
    · refine ⟨_, .head _, ?_⟩
      rw [zdR (ziO hr), if_pos]
      cases across
      · simp only [Bool.false_eq_true, if_false] at hz
        left
        simp only [cutA, Bool.false_eq_true, if_false, hz]; unfold cl; omega
      · simp only [if_true] at hz
        right
        simp only [cutA, if_true, hz]; unfold cl; omega
    · obtain ⟨x, hx, hw⟩ := zid (across := across) n (cutB across r 1) (zgC hr) (by
        cases across
        · simp only [Bool.false_eq_true, if_false] at hl hz
          have e : cl 1 0 r.W = 1 := by unfold cl; omega
          simp only [cutB, Bool.false_eq_true, if_false, e]; omega
        · simp only [if_true] at hl hz
          have e : cl 1 0 r.H = 1 := by unfold cl; omega
          simp only [cutB, if_true, e]; omega)
      exact ⟨x, .tail _ hx, hw⟩
theorem zoH : ∀ (d : Nat) (p : Plan), Rt d p → 1 ≤ lv d p
  | 0, p, h => h.elim
  | d + 1, p, h => by
    unfold lv
    obtain ⟨_, h | ⟨hk, _, hn0, _, hks⟩⟩ := h
    · rw [if_pos h]; exact Nat.le_refl _
    · rw [if_neg hk]
      match hp : p.Kids, hn0, hks with
      | k :: ks, _, hks =>
        have := zoH d k (hks k (.head _)).1
        simp only [List.map_cons, sumN]; omega
theorem znt : ∀ (k : Nat) (r : Rect), Rok r → (∀ c ∈ stkT k r, Nice c.1 ∧ Ins c.1 r) ∧ (stkT k r).Pairwise (fun a b => Dis a.1 b.1) ∧ ((∀ c ∈ stkT k r, c.1.W ≠ 0) → sumA (stkT k r) = r.W * r.H)
  | 0, r, h => by
    refine ⟨fun c hc => ?_, .cons (fun c hc => by cases hc) .nil, fun hne => ?_⟩
    · obtain rfl := List.mem_singleton.1 hc
      exact ⟨zar r, zfB h⟩
    · have := hne _ (.head _)
      show (cleanT r).W * (cleanT r).H + 0 = _
      rw [zdR h] at this ⊢
      split
      · rename_i hz; rw [if_pos hz] at this; exact absurd rfl this
      · omega
  | k + 1, r, h => by
    obtain ⟨a1, a2, a3, a4, a5, a6, a7, a8⟩ := h
    have m1 : Rok { r with H := min 1 (max (r.H - 1) 0) } := ⟨a1, a2, a3, a4, a5, by simp only; omega, by simp only; omega, by simp only; omega⟩
    have m2 : Rok { r with Y := r.Y + min 1 (max (r.H - 1) 0), H := r.H - min 1 (max (r.H - 1) 0) } := ⟨a1, a2, a3, a4, by simp only; omega, by simp only; omega, by simp only; omega, by simp only; omega⟩
    obtain ⟨i1, i2, i3⟩ := znt k _ m2
    have hh := zfB m1
    refine ⟨fun c hc => ?_, .cons (fun c hc => ?_) i2, fun hne => ?_⟩
    · unfold stkT at hc
      rcases List.mem_cons.1 hc with rfl | hc
      · exact ⟨zar _, hh.trans (by unfold Sub; simp only; omega)⟩
      · exact ⟨(i1 c hc).1, (i1 c hc).2.trans (by unfold Sub; simp only; omega)⟩
    · have h2 := (i1 c hc).2
      rcases hh with hh | hh
      · exact .inl hh
      rcases h2 with h2 | h2
      · exact .inr (.inl h2)
      unfold Dis
      simp only at hh h2 ⊢; omega
    · have h0 := hne _ (.head _)
      have ht := i3 fun c hc => hne c (.tail _ hc)
      show (cleanT _).W * (cleanT _).H + sumA (stkT k _) = _
      rw [ht]
      simp only at h0 ⊢
      rw [zdR m1] at h0 ⊢
      split
      · rename_i hz; rw [if_pos hz] at h0; exact absurd rfl h0
      · simp only
        rw [← Int.mul_add]
        congr 1; omega
theorem znu {d : Nat} : ∀ (ks : List Plan) (xs : List Rect), ks.length = xs.length → (∀ k ∈ ks, Rt d k) → (∀ x ∈ xs, Nice x) → xs.Pairwise Dis →
    (∀ k ∈ ks, ∀ x, Nice x → (∀ c ∈ layT d k x, Nice c.1 ∧ Ins c.1 x) ∧ (layT d k x).Pairwise (fun a b => Dis a.1 b.1) ∧ ((∀ c ∈ layT d k x, c.1.W ≠ 0) → sumA (layT d k x) = x.W * x.H)) →
    (∀ c ∈ (ks.zip xs).flatMap (fun x => layT d x.1 x.2), ∃ x ∈ xs, Nice c.1 ∧ Ins c.1 x) ∧ ((ks.zip xs).flatMap fun x => layT d x.1 x.2).Pairwise (fun a b => Dis a.1 b.1) ∧
      ((∀ c ∈ (ks.zip xs).flatMap (fun x => layT d x.1 x.2), c.1.W ≠ 0) → sumA ((ks.zip xs).flatMap fun x => layT d x.1 x.2) = sumR xs ∧ ∀ x ∈ xs, x.W ≠ 0)
  | [], [], _, _, _, _, _ => ⟨fun c hc => (by cases hc), .nil, fun _ => ⟨rfl, fun x hx => by cases hx⟩⟩
  | k :: ks, x :: xs, hl, hr, hn, hp, ih => by
    obtain ⟨p1, p2⟩ := List.pairwise_cons.1 hp
    obtain ⟨i1, i2, i3⟩ := znu ks xs (by simpa using hl) (fun k' h => hr k' (.tail _ h)) (fun x' h => hn x' (.tail _ h)) p2 fun k' h => ih k' (.tail _ h)
    have hnx := hn x (.head _)
    obtain ⟨j1, j2, j3⟩ := ih k (.head _) x hnx
    simp only [List.zip_cons_cons, List.flatMap_cons]
    refine ⟨fun c hc => ?_, List.pairwise_append.2 ⟨j2, i2, fun a ha b hb => ?_⟩, fun hne => ?_⟩
    · rcases List.mem_append.1 hc with hc | hc
      · exact ⟨x, .head _, j1 c hc⟩
      · obtain ⟨y, hy, h⟩ := i1 c hc
        exact ⟨y, .tail _ hy, h⟩
    · obtain ⟨y, hy, h1, h2⟩ := i1 b hb
      exact Dis.mono (j1 a ha).1 h1 hnx (hn y (.tail _ hy)) (j1 a ha).2 h2 (p1 y hy)
    · obtain ⟨q1, q2⟩ := i3 fun c hc => hne c (List.mem_append_right _ hc)
      have hk0 : ∀ c ∈ layT d k x, c.1.W ≠ 0 := fun c hc => hne c (List.mem_append_left _ hc)
      refine ⟨by rw [ze8, j3 hk0, q1]; rfl, fun y hy => ?_⟩
      rcases List.mem_cons.1 hy with rfl | hy
      · intro hz
        have hlen := zdz d k y (hr k (.head _)) hnx
        have hpos := zoH d k (hr k (.head _))
        match hm : layT d k y, hlen with
        | [], hlen => simp only [List.length_nil] at hlen; omega
        | c :: cs, _ =>
          have hc : c ∈ layT d k y := by rw [hm]; exact .head _
          exact hk0 c hc ((j1 c hc).2.zero (j1 c hc).1 hnx hz)
      · exact q2 y hy
theorem zhy : ∀ (d : Nat) (p : Plan) (r : Rect), Rt d p → Nice r → (∀ c ∈ layT d p r, Nice c.1 ∧ Ins c.1 r) ∧ (layT d p r).Pairwise (fun a b => Dis a.1 b.1) ∧ ((∀ c ∈ layT d p r, c.1.W ≠ 0) → sumA (layT d p r) = r.W * r.H)
  | 0, p, r, h, hr => h.elim
  | d + 1, p, r, h, hr => by
    unfold layT
    obtain ⟨hs, h | ⟨hk, hko, hn0, hl, hks⟩⟩ := h
    · rw [if_pos h]
      refine ⟨fun c hc => ?_, .cons (fun c hc => by cases hc) .nil, fun _ => ?_⟩
      · obtain rfl := List.mem_singleton.1 hc
        exact ⟨hr, .inr ⟨Int.le_refl _, Int.le_refl _, Int.le_refl _, Int.le_refl _⟩⟩
      · simp only [sumA]; omega
    · rw [if_neg hk]
      by_cases h4 : p.Kind = 4
      · rw [if_pos h4]
        exact znt _ r hr.1
      · rw [if_neg h4]
        have hpl := zf2 hr hn0 hl fun k hm => (hks k hm).1
        have hnice : ∀ x ∈ partsT p r, Nice x := fun x hx => by unfold partsT at hx; exact zhx _ _ _ x hx
        have hgeo : (∀ x ∈ partsT p r, Ins x r) ∧ (partsT p r).Pairwise Dis := by unfold partsT; exact zns _ r hr.1
        obtain ⟨z1, z2, z3⟩ := znu p.Kids (partsT p r) hpl.symm (fun k hm => (hks k hm).1) hnice hgeo.2 fun k hm x hx => zhy d k x (hks k hm).1 hx
        refine ⟨fun c hc => ?_, z2, fun hne => ?_⟩
        · obtain ⟨x, hx, hcn, hci⟩ := z1 c hc
          refine ⟨hcn, ?_⟩
          by_cases hxz : x.W = 0
          · exact .inl (hci.zero hcn (hnice x hx) hxz)
          · rcases hgeo.1 x hx with h | h
            · exact absurd h hxz
            · exact hci.trans h
        · obtain ⟨q1, q2⟩ := z3 hne
          rw [q1]
          have hso : ∀ s ∈ p.Kids.map Plan.Size, sizeOK s := fun s hs => by
            obtain ⟨k, hk, rfl⟩ := List.mem_map.1 hs
            exact (hks k hk).1.sizeOK
          have htot : totT p r = if decide (p.Kind = 3) = true then r.H else r.W := by
            unfold totT
            by_cases h3 : p.Kind = 3 <;> simp [h3]
          by_cases hlt : totT p r < (p.Kids.map Plan.Size).length
          · have e : lenT (totT p r) (p.Kids.map Plan.Size) = List.replicate (p.Kids.map Plan.Size).length 1 := by
              unfold lenT
              rw [zf1 (by simpa using hn0) (by simpa using hl) hso (zj3 hr) hlt]; rfl
            obtain ⟨x, hx, hw⟩ := zid (across := decide (p.Kind = 3)) (p.Kids.map Plan.Size).length r hr.1 (by rw [← htot]; exact hlt)
            rw [← e] at hx
            exact absurd hw (q2 x hx)
          · obtain ⟨l, e, h2, h3, h4⟩ := ziN (total := totT p r) (by simpa using hn0) (by simpa using hl) hso (zj3 hr) (by omega)
            have hlen : lenT (totT p r) (p.Kids.map Plan.Size) = l := by unfold lenT; rw [e]; rfl
            unfold partsT
            rw [hlen]
            have htpos : 1 ≤ totT p r := by
              have : (1 : Int) ≤ ((p.Kids.map Plan.Size).length : Int) := by simp; omega
              omega
            have hwne : r.W ≠ 0 := fun hw => by
              have := znr hr hw
              rw [this] at htpos
              unfold totT at htpos
              split at htpos <;> simp at htpos
            have hp := hr.hpos hwne
            exact ziQ l r hr.1 h3 (by rw [h4, htot]) (by split <;> omega)
def zj7 (a b : Rect) : Rect := ⟨max a.X b.X, max a.Y b.Y, min (a.X + a.W) (b.X + b.W) - max a.X b.X, min (a.Y + a.H) (b.Y + b.H) - max a.Y b.Y⟩
theorem znv (a b : Rect) : zdQ a b = some (cleanT (zj7 (cleanT a) (cleanT b))) := by
  unfold zdQ zdy zj7
  obtain ⟨a1, a2, a3, a4, a5, a6, a7, a8⟩ := (zar a).1
  obtain ⟨b1, b2, b3, b4, b5, b6, b7, b8⟩ := (zar b).1
  simp only [zbM, Option.bind_some]
  generalize cleanT a = x at *
  generalize cleanT b = y at *
  rw [zaw (n := x.X + x.W) (by omega) (by omega), zaw (n := y.X + y.W) (by omega) (by omega), zaw (n := x.Y + x.H) (by omega) (by omega), zaw (n := y.Y + y.H) (by omega) (by omega)]
  rw [zaw (n := min (x.X + x.W) (y.X + y.W) - max x.X y.X) (by omega) (by omega), zaw (n := min (x.Y + x.H) (y.Y + y.H) - max x.Y y.Y) (by omega) (by omega)]
theorem zie {q : Rect} (h : q.W ≤ 0 ∨ q.H ≤ 0) : cleanT q = ⟨0, 0, 0, 0⟩ := by
  unfold cleanT
  simp only
  rw [if_pos]
  have hx := zba (n := q.X) (show (-5000 : Int) ≤ 5000 by omega)
  have hy := zba (n := q.Y) (show (-5000 : Int) ≤ 5000 by omega)
  rcases h with h | h
  · left
    rw [cl]; omega
  · right
    rw [cl]; omega
theorem zop {a r : Rect} (ha : Nice a) (hr : Nice r) (h : Ins a r) : cleanT (zj7 a r) = a := by
  by_cases hz : a.W = 0
  · have := znr ha hz
    subst this
    refine zie ?_
    left; simp only [zj7]; omega
  · rcases h with h | h
    · exact absurd h hz
    · have e : zj7 a r = a := by
        obtain ⟨x, y, w, hh⟩ := a
        simp only [zj7, Rect.mk.injEq] at h ⊢
        omega
      rw [e, zbG ha]
theorem znw {a r : Rect} (ha : Nice a) (h : Ins a (cleanT r)) : zdn a r = some true := by
  unfold zdn
  rw [znv, zbG ha, zop ha (zar r) h, zbM, zbG ha]
  simp [letB]
theorem zoq {a b : Rect} (ha : Nice a) (hb : Nice b) (h : Dis a b) : cleanT (zj7 a b) = ⟨0, 0, 0, 0⟩ := by
  refine zie ?_
  have za : a.W = 0 → a.X = 0 := fun hz => by rw [znr ha hz]
  have zb : b.W = 0 → b.X = 0 := fun hz => by rw [znr hb hz]
  unfold Dis at h
  simp only [zj7]
  omega
theorem ziR {x : Rect} (h : Nice x) : 0 ≤ x.W * x.H ∧ x.W * x.H ≤ 40000 := by
  obtain ⟨a1, a2, a3, a4, a5, a6, a7, a8⟩ := h.1
  refine ⟨Int.mul_nonneg a2 a6, ?_⟩
  have := Int.mul_le_mul a3 a7 a6 (by omega : (0 : Int) ≤ 200)
  omega
theorem znx {x : Rect} (h : Nice x) : zcZ x = some (x.W * x.H) := by
  have := ziR h
  unfold zcZ
  rw [zbM, zbG h]
  simp only [Option.bind_some]
  rw [zaw (by omega) (by omega)]
theorem zj8 (r : Rect) : zdd r = some (decide ((cleanT r).W = 0)) := by
  unfold zdd
  rw [zbM]; rfl
def flS (r : Rect) : List Rect → Nat → Nat → List Spot
  | [], _, _ => []
  | f :: fs, i, b => ⟨b, fltT r f, (i + 1 : Nat), false⟩ :: flS r fs (i + 1) (b + 1)
theorem zk2 {r : Rect} : ∀ (fs : List Rect) (i : Nat) (sp : List Spot), fltL r fs i sp = sp ++ flS r fs i sp.length
  | [], i, sp => by simp [fltL, flS]
  | f :: fs, i, sp => by
    unfold fltL flS
    rw [zk2 fs (i + 1)]
    simp
theorem zk3 {r : Rect} : ∀ (fs : List Rect) (i b : Nat), (flS r fs i b).length = fs.length
  | [], _, _ => rfl
  | f :: fs, i, b => by simp [flS, zk3 fs]
theorem zny {r : Rect} : ∀ (fs : List Rect) (i b k : Nat), k < fs.length → ∃ f, (flS r fs i b)[k]? = some ⟨(b + k : Nat), fltT r f, (i + k + 1 : Nat), false⟩
  | f :: fs, i, b, 0, h => ⟨f, rfl⟩
  | f :: fs, i, b, k + 1, h => by
    obtain ⟨g, hg⟩ := zny (r := r) fs (i + 1) (b + 1) k (by simpa using h)
    refine ⟨g, ?_⟩
    show (flS r fs (i + 1) (b + 1))[k]? = _
    rw [hg]
    simp only [Option.some.injEq, Spot.mk.injEq, and_true, true_and]
    omega
theorem zpb {r f : Rect} (hr : Nice r) : Nice (fltT r f) ∧ Ins (fltT r f) r := by
  refine ⟨zar _, ?_⟩
  have hs := (zar { cleanT f with X := (cleanT f).X + r.X, Y := (cleanT f).Y + r.Y }).1
  unfold fltT
  have e : zj6 f r.X r.Y = cleanT { cleanT f with X := (cleanT f).X + r.X, Y := (cleanT f).Y + r.Y } := rfl
  rw [e]
  generalize cleanT { cleanT f with X := (cleanT f).X + r.X, Y := (cleanT f).Y + r.Y } = a at *
  obtain ⟨a1, a2, a3, a4, a5, a6, a7, a8⟩ := hs
  obtain ⟨b1, b2, b3, b4, b5, b6, b7, b8⟩ := hr.1
  have hx := zba (n := a.X) (show r.X ≤ r.X + r.W - min a.W r.W by omega)
  have hy := zba (n := a.Y) (show r.Y ≤ r.Y + r.H - min a.H r.H by omega)
  unfold zol
  generalize cl a.X r.X (r.X + r.W - min a.W r.W) = x at *
  generalize cl a.Y r.Y (r.Y + r.H - min a.H r.H) = y at *
  refine (zfB (a := ⟨x, y, min a.W r.W, min a.H r.H⟩) ?_).trans ?_
  · unfold Rok; simp only; omega
  · unfold Sub; simp only; omega
theorem zhz {p : Plan} {r : Rect} (hok : okP p) {k : Nat} (hk : k < (placeT p r).length) : ∃ s, (placeT p r)[k]? = some s ∧ s.Pane = k ∧ Nice s.Rect ∧ Ins s.Rect (cleanT r) ∧ (∀ h : k < (layT 12 p (cleanT r)).length, s.Rect = (layT 12 p (cleanT r))[k].1 ∧ s.Z = 0) ∧ ((layT 12 p (cleanT r)).length ≤ k → 1 ≤ s.Z ∧ s.Title = false) := by
  obtain ⟨hR, _, _⟩ := zc0 hok
  have hgeo := zhy 12 p (cleanT r) hR (zar r)
  unfold placeT at hk ⊢
  rw [zk2] at hk ⊢
  rw [List.length_append, zdo, zk3] at hk
  by_cases h : k < (layT 12 p (cleanT r)).length
  · refine ⟨_, (List.getElem?_append_left (by rw [zdo]; exact h)).trans (zj5 _ 0 k h), by simp, ?_⟩
    have := hgeo.1 _ (List.getElem_mem h)
    exact ⟨this.1, this.2, fun _ => ⟨rfl, rfl⟩, fun hle => by omega⟩
  · obtain ⟨f, hf⟩ := zny (r := cleanT r) p.Float 0 (zgp 0 (layT 12 p (cleanT r))).length (k - (layT 12 p (cleanT r)).length) (by omega)
    refine ⟨_, (List.getElem?_append_right (by rw [zdo]; omega)).trans (by rw [zdo] at hf ⊢; exact hf), ?_⟩
    have := zpb (f := f) (zar r)
    exact ⟨by simp only; omega, this.1, this.2, fun h' => absurd h' h, fun _ => ⟨by simp only; omega, rfl⟩⟩
theorem zfC {p : Plan} {r : Rect} (hok : okP p) : (placeT p r).length = lv 12 p + p.Float.length := by
  obtain ⟨hR, _, _⟩ := zc0 hok
  unfold placeT
  rw [zk2, List.length_append, zdo, zk3, zdz 12 p _ hR (zar r)]
theorem zbe {α : Type} {l : List α} {k : Nat} {s : α} (h : l[k]? = some s) : idx l (k : Int) = some s := by
  unfold idx
  rw [if_pos (by omega), Int.toNat_natCast, h]
theorem znz {L : List (Rect × Bool)} {i : Nat} (h : i < L.length) : sumA (L.take (i + 1)) = sumA (L.take i) + L[i].1.W * L[i].1.H := by
  rw [List.take_succ_eq_append_getElem h, ze8]; simp [sumA]
theorem zif : ∀ L : List (Rect × Bool), (∀ c ∈ L, Nice c.1) → 0 ≤ sumA L ∧ sumA L ≤ 40000 * L.length
  | [], _ => by simp [sumA]
  | c :: L, h => by
    have h1 := zif L fun x hx => h x (.tail _ hx)
    have h2 := ziR (h c (.head _))
    simp only [sumA, List.length_cons]
    omega
theorem zig {p : Plan} {r : Rect} (hok : okP p) {i : Nat} (hi : i < (layT 12 p (cleanT r)).length) (hl : (placeT p r).length ≤ 24) {s : Spot} (hs : s.Rect = (layT 12 p (cleanT r))[i].1) :
    ∀ (m k : Nat), k + m = i → iter (fun k => casementlaw10_LayoutCovers_l6 (placeT p r) i s k : Int → Option (Int ⊕ (Unit ⊕ Unit))) (k : Int) = some (.inr ())
  | 0, k, hk => by
    refine zbh ?_
    simp only [casementlaw10_LayoutCovers_l6, letB]
    rw [decide_eq_false (by omega)]; rfl
  | m + 1, k, hk => by
    refine (zbP (s' := ((k + 1 : Nat) : Int)) ?_).trans (zig hok hi hl hs m (k + 1) (by omega))
    obtain ⟨hR, _, _⟩ := zc0 hok
    have hgeo := zhy 12 p (cleanT r) hR (zar r)
    have hlen := zfC (r := r) hok
    have hll := zdz 12 p (cleanT r) hR (zar r)
    obtain ⟨t, ht, _, htn, _, ht3, _⟩ := zhz (r := r) hok (k := k) (by omega)
    have htr := (ht3 (by omega)).1
    have hdis : Dis s.Rect t.Rect := by
      have := (List.pairwise_iff_getElem.1 hgeo.2.1) k i (by omega) hi (by omega)
      rw [hs, htr]
      unfold Dis at this ⊢; omega
    have hsn : Nice s.Rect := by rw [hs]; exact (hgeo.1 _ (List.getElem_mem hi)).1
    simp only [casementlaw10_LayoutCovers_l6, letB]
    rw [decide_eq_true (show (k : Int) < (i : Int) by omega), zbe ht, zaw (n := (k : Int) + 1) (by omega) (by omega)]
    simp only [cond_true, Option.bind_some, znv, zbG hsn, zbG htn, zoq hsn htn hdis, zj8]
    rfl
theorem zih {p : Plan} {r : Rect} (hok : okP p) (hl : (placeT p r).length ≤ 24) :
    ∀ (m i : Nat), i + m = (placeT p r).length → iter (fun s => casementlaw10_LayoutCovers_l7 r (placeT p r) ((lv 12 p : Nat), (p.Float.length : Nat)) s.1 s.2 : (Int × Int) → Option ((Int × Int) ⊕ (Spot ⊕ Int))) (sumA ((layT 12 p (cleanT r)).take i), (i : Int)) = some (.inr (sumA (layT 12 p (cleanT r))))
  | 0, i, hi => by
    obtain ⟨hR, _, _⟩ := zc0 hok
    have hlen := zfC (r := r) hok
    have hll := zdz 12 p (cleanT r) hR (zar r)
    refine zbh ?_
    simp only [casementlaw10_LayoutCovers_l7, letB]
    rw [decide_eq_false (by omega), List.take_of_length_le (by omega)]; rfl
  | m + 1, i, hi => by
    refine (zbP (s' := (sumA ((layT 12 p (cleanT r)).take (i + 1)), ((i + 1 : Nat) : Int))) ?_).trans (zih hok hl m (i + 1) (by omega))
    obtain ⟨hR, _, _⟩ := zc0 hok
    have hgeo := zhy 12 p (cleanT r) hR (zar r)
    have hlen := zfC (r := r) hok
    have hll := zdz 12 p (cleanT r) hR (zar r)
    obtain ⟨s, hs, s1, s2, s3, s4, s5⟩ := zhz (r := r) hok (k := i) (by omega)
    simp only [casementlaw10_LayoutCovers_l7, letB]
    rw [decide_eq_true (show (i : Int) < ((placeT p r).length : Int) by omega), zbe hs, zaw (n := (i : Int) + 1) (by omega) (by omega)]
    simp only [cond_true, Option.bind_some, znw s2 s3, Bool.not_true]
    rw [decide_eq_false (show ¬ s.Pane ≠ (i : Int) by omega)]
    by_cases h : i < (layT 12 p (cleanT r)).length
    · obtain ⟨q1, q2⟩ := s4 h
      have hin := zig hok h hl q1 i 0 (by omega)
      have har := ziR s2
      have hra := zif ((layT 12 p (cleanT r)).take i) fun c hc => (hgeo.1 c (List.mem_of_mem_take hc)).1
      rw [List.length_take] at hra
      rw [q2, decide_eq_true (show (i : Int) < ((lv 12 p : Nat) : Int) by omega), decide_eq_false (show ¬ (i : Int) ≥ ((lv 12 p : Nat) : Int) by omega)]
      simp only [znx s2, Option.bind_some, cond_false, cond_true]
      simp only [show ((0 : Nat) : Int) = 0 from rfl] at hin
      rw [hin, zaw (n := sumA ((layT 12 p (cleanT r)).take i) + s.Rect.W * s.Rect.H) (by omega) (by omega), znz h, q1]
      simp
    · obtain ⟨q1, q2⟩ := s5 (by omega)
      rw [decide_eq_false (show ¬ s.Z = 0 by omega), decide_eq_false (show ¬ (i : Int) < ((lv 12 p : Nat) : Int) by omega), decide_eq_false (show ¬ s.Z < 0 by omega), decide_eq_true (show s.Z > 0 by omega), decide_eq_true (show (i : Int) ≥ ((lv 12 p : Nat) : Int) by omega), q2]
      rw [List.take_of_length_le (by omega), List.take_of_length_le (by omega)]
      rfl
theorem zj9 {S : List Spot} (hl : S.length ≤ 24) : ∀ (m i : Nat), i + m = S.length → ∃ b, iter (fun s => casementlaw10_room_l1 S s : Int → Option (Int ⊕ (Spot ⊕ Unit))) (i : Int) = some b ∧ (b = .inr () → ∀ k, i ≤ k → ∀ s, S[k]? = some s → s.Z = 0 → (cleanT s.Rect).W ≠ 0)
  | 0, i, hi => by
    refine ⟨.inr (), zbh ?_, fun _ k hk s hs => ?_⟩
    · simp only [casementlaw10_room_l1, letB]
      rw [decide_eq_false (by omega)]; rfl
    · rw [List.getElem?_eq_none (by omega)] at hs; cases hs
  | m + 1, i, hi => by
    obtain ⟨b, hb, hb2⟩ := zj9 hl m (i + 1) (by omega)
    have hlt : i < S.length := by omega
    have hstep : casementlaw10_room_l1 S (i : Int) = if S[i].Z = 0 ∧ (cleanT S[i].Rect).W = 0 then some (.inr (.inl S[i])) else some (.inl ((i + 1 : Nat) : Int)) := by
      simp only [casementlaw10_room_l1, letB]
      rw [decide_eq_true (show (i : Int) < (S.length : Int) by omega), zcj hlt, zaw (n := (i : Int) + 1) (by omega) (by omega)]
      simp only [cond_true, Option.bind_some, zj8]
      by_cases h1 : S[i].Z = 0 <;> by_cases h2 : (cleanT S[i].Rect).W = 0 <;> simp [h1, h2]
    by_cases h : S[i].Z = 0 ∧ (cleanT S[i].Rect).W = 0
    · exact ⟨_, zbh (hstep.trans (if_pos h)), fun e => by cases e⟩
    · refine ⟨b, (zbP (hstep.trans (if_neg h))).trans hb, fun e k hk s hs hz => ?_⟩
      by_cases hki : k = i
      · subst hki
        rw [List.getElem?_eq_getElem hlt, Option.some.injEq] at hs
        subst hs
        exact fun hw => h ⟨hz, hw⟩
      · exact hb2 e k (by omega) s hs hz
theorem zor {p : Plan} (hok : okP p) : zbX p = some (((lv 12 p : Nat) : Int), ((p.Float.length : Nat) : Int)) := by
  obtain ⟨_, h, _⟩ := zc0 hok
  unfold zbX
  rw [zeN, if_pos (show _ ∧ _ from hok)]
  unfold zb6
  rw [zfZ 12 30 1 p 0 (by omega) (by omega) (by omega) (by omega) (by omega)]
  simp [letB, h]
theorem znA {p : Plan} (hok : ¬ okP p) : zbX p = some (0, 0) := by
  unfold zbX
  rw [zeN, if_neg (show ¬ (_ ∧ _) from hok)]
  rfl
theorem zk4 (p : Plan) (r : Rect) : zaS p r = some true := by
  unfold zaS zci
  simp only [Option.bind_some, letB, Bool.not_true, cond_false]
  by_cases hok : okP p
  · obtain ⟨hR, _, hlv⟩ := zc0 hok
    have hlen := zfC (r := r) hok
    have hloop := zih (r := r) hok (by omega) _ 0 (Nat.zero_add _)
    have hgeo := zhy 12 p (cleanT r) hR (zar r)
    have hll := zdz 12 p (cleanT r) hR (zar r)
    obtain ⟨b, hb, hb2⟩ := zj9 (S := placeT p r) (by omega) _ 0 (Nat.zero_add _)
    simp only [List.take_zero, sumA, show ((0 : Nat) : Int) = 0 from rfl] at hloop hb
    simp only [zom hok, zor hok, Option.bind_some]
    rw [zaw (by omega) (by omega), decide_eq_false (by omega)]
    simp only [cond_false, hloop, Option.bind_some, zbQ, hb]
    have har : zcZ r = some ((cleanT r).W * (cleanT r).H) := by
      have := znx (zar r)
      unfold zcZ at this ⊢
      rw [zbM] at this ⊢
      rwa [zbG (zar r)] at this
    cases b with
    | inl s => simp
    | inr u =>
      have hne : ∀ c ∈ layT 12 p (cleanT r), c.1.W ≠ 0 := fun c hc => by
        obtain ⟨k, hk, rfl⟩ := List.mem_iff_getElem.1 hc
        obtain ⟨s, hs, _, s2, _, s4, _⟩ := zhz (r := r) hok (k := k) (by omega)
        have := hb2 rfl k (Nat.zero_le _) s hs (s4 hk).2
        rw [zbG s2, (s4 hk).1] at this
        exact this
      rw [har, hgeo.2.2 hne]
      cases hd : decide (lv 12 p = 0) <;> simp [hd]
  · have h1 : iter (fun s => casementlaw10_LayoutCovers_l7 r [] (0, 0) s.1 s.2 : (Int × Int) → Option ((Int × Int) ⊕ (Spot ⊕ Int))) (0, 0) = some (.inr 0) := zbh rfl
    simp only [znq hok, znA hok, Option.bind_some]
    rw [show w64 (0 + 0) = 0 from zaw (by omega) (by omega)]
    simp only [List.length_nil, show ((0 : Nat) : Int) = 0 from rfl]
    rw [decide_eq_false (by omega)]
    simp only [cond_false, h1, Option.bind_some]
    rfl
end Go.Proofs.YtakdnfneikbjjaaGreatDoor.Am.Lay10

namespace Go.Proofs.YtakdnfneikbjjaaGreatDoor.Am
inductive Fits (P : Program) : TypeId → List V → Prop
 | bool {t : TypeId} (b : Bool) (h : P.underlying t = some .bool) : Fits P t [.bool b]
 | int {t : TypeId} {k : IntKind} (n : Int) (h : P.underlying t = some (.int k)) (hn : (Lit.int k n).wf = true) : Fits P t [.int k n]
 | str {t : TypeId} (s : List UInt8) (h : P.underlying t = some .string) (hs : s.length ≤ maxLen) : Fits P t [.str s]
 | nils {t e : TypeId} (h : P.underlying t = some (.slice e)) : Fits P t [.nils]
 | slice {t e : TypeId} (xs : List (List V)) (h : P.underlying t = some (.slice e)) (hl : xs.length ≤ maxLen) (hx : ∀ i, i < xs.length → Fits P e (xs.getD i [])) : Fits P t [.slice false (P.cellsOf e) xs]
 | struct {t : TypeId} {fs : Array Field} (cs : List V) (h : P.underlying t = some (.struct fs)) (hl : cs.length = P.cellsOf t) (hf : ∀ f ∈ fs.toList, Fits P f.type ((cs.drop f.offset).take (P.cellsOf f.type))) : Fits P t cs
 | array {t e : TypeId} {n : Nat} (cs : List V) (h : P.underlying t = some (.array n e)) (hl : cs.length = P.cellsOf t) (hf : ∀ i, i < n → Fits P e ((cs.drop (i * P.cellsOf e)).take (P.cellsOf e))) : Fits P t cs
def znB (P : Program) : Nat → List Field → Nat → Bool
 | n, [], m => n == m
 | n, f :: fs, m => f.offset == n && znB P (n + P.cellsOf f.type) fs m
section
variable {P : Program} {H : Type} {enc : TypeId × Value → H} {W : World}
def zcR (W : World) : Nat → Prop := fun c => c < W.heap.size
theorem zmh {a : Addr} {v : Value} (h : W.cell? a = some v) : a.block < W.heap.size ∧ a.spot = none := by
 unfold World.cell? at h
 cases hb : W.heap[a.block]? with
 | none => rw [hb] at h; cases h
 | some o =>
  rw [hb] at h
  refine ⟨(Array.getElem?_eq_some_iff.1 hb).1, ?_⟩
  cases o with
  | cells c _ _ =>
   simp only at h
   split at h
   ·cases h
   ·rename_i hs; simpa using hs
  | _ => cases h
def zpc (P : Program) (W : World) (t : TypeId) (cs : List Value) : Prop :=
 ∃ vs : List V, vs.length = cs.length ∧ Fits P t vs ∧ ∀ k, k < cs.length → RB (zcR W) W (vs.getD k .undef) (cs.getD k undef)
def RBs (W : World) (vs : List V) (cs : List Value) : Prop := vs.length = cs.length ∧ ∀ k, k < cs.length → RB (zcR W) W (vs.getD k .undef) (cs.getD k undef)
theorem RBs.append {vs us : List V} {cs ds : List Value} (h : RBs W vs cs) (k : RBs W us ds) : RBs W (vs ++ us) (cs ++ ds) := by
 refine ⟨by simp [h.1, k.1], fun i hi => ?_⟩
 simp only [List.getD_eq_getElem?_getD]
 have h1 := h.1
 by_cases hlt : i < cs.length
 ·have := h.2 i hlt
  simp only [List.getD_eq_getElem?_getD] at this
  rw [List.getElem?_append_left (by omega), List.getElem?_append_left hlt]; exact this
 ·rw [List.length_append] at hi
  have := k.2 (i - cs.length) (by omega)
  simp only [List.getD_eq_getElem?_getD] at this
  rw [List.getElem?_append_right (by omega), List.getElem?_append_right (by omega), h1]; exact this
theorem zfD {t : TypeId} {cs : List Value} : zpc P W t cs ↔ ∃ vs, Fits P t vs ∧ RBs W vs cs :=
 ⟨fun ⟨vs, a, b, c⟩ => ⟨vs, b, a, c⟩, fun ⟨vs, b, a, c⟩ => ⟨vs, a, b, c⟩⟩
theorem zka {cs : List Value} : ∀ {fs : List Field} {n m : Nat}, znB P n fs m = true → m ≤ cs.length → (∀ f ∈ fs, zpc P W f.type ((cs.drop f.offset).take (P.cellsOf f.type))) →
  n ≤ m ∧ ∃ vs, RBs W vs ((cs.drop n).take (m - n)) ∧ ∀ f ∈ fs, n ≤ f.offset ∧ Fits P f.type ((vs.drop (f.offset - n)).take (P.cellsOf f.type))
 | [], n, m, ht, hm, _ => by
  have : n = m := by simpa [znB] using ht
  subst this
  exact ⟨Nat.le_refl _, [], ⟨by simp, fun k hk => absurd hk (by simp)⟩, fun f hf => by cases hf⟩
 | f :: fs, n, m, ht, hm, hr => by
  simp only [znB, Bool.and_eq_true, beq_iff_eq] at ht
  obtain ⟨h0, ht⟩ := ht
  obtain ⟨hle, vs, hvs, hfs⟩ := zka ht hm fun g hg => hr g (.tail _ hg)
  obtain ⟨us, hfit, hus⟩ := zfD.1 (hr f (.head _))
  rw [h0] at hus
  have hul : us.length = P.cellsOf f.type := by rw [hus.1]; simp; omega
  have hsplit : (cs.drop n).take (m - n) = (cs.drop n).take (P.cellsOf f.type) ++ (cs.drop (n + P.cellsOf f.type)).take (m - (n + P.cellsOf f.type)) := by
   rw [← List.drop_drop, ← List.take_add]
   congr 1
   omega
  refine ⟨by omega, us ++ vs, by rw [hsplit]; exact hus.append hvs, fun g hg => ?_⟩
  cases hg with
  | head =>
   refine ⟨by omega, ?_⟩
   rw [h0, Nat.sub_self, List.drop_zero, List.take_append_of_le_length (by omega), List.take_of_length_le (by omega)]
   exact hfit
  | tail _ hg =>
   obtain ⟨h1, h2⟩ := hfs g hg
   refine ⟨by omega, ?_⟩
   rw [List.drop_append, List.drop_eq_nil_of_le (by omega), List.nil_append, hul]
   rw [show g.offset - n - P.cellsOf f.type = g.offset - (n + P.cellsOf f.type) from by omega]
   exact h2
theorem zk5 {α : Type} {n : Nat} {p : Nat → α → Prop} (h : ∀ i, i < n → ∃ x, p i x) : ∃ l : List α, l.length = n ∧ ∀ i x, l[i]? = some x → p i x := by
 induction n with
 | zero => exact ⟨[], rfl, fun i x hx => by simp at hx⟩
 | succ n ih =>
  obtain ⟨l, hl, hp⟩ := ih fun i hi => h i (by omega)
  obtain ⟨x, hx⟩ := h n (by omega)
  refine ⟨l ++ [x], by simp [hl], fun i y hy => ?_⟩
  by_cases hi : i < l.length
  ·rw [List.getElem?_append_left hi] at hy; exact hp i y hy
  ·rw [List.getElem?_append_right (by omega)] at hy
   have : i - l.length = 0 := by
    rcases Nat.eq_zero_or_pos (i - l.length) with h0 | h0
    ·exact h0
    ·rw [List.getElem?_eq_none (by simp; omega)] at hy; cases hy
   rw [this] at hy
   simp only [List.getElem?_cons_zero, Option.some.injEq] at hy
   subst hy
   have : i = n := by omega
   subst this; exact hx
end
end Go.Proofs.YtakdnfneikbjjaaGreatDoor.Am

namespace Go.Proofs.YtakdnfneikbjjaaGreatDoor.Am
section
variable {P : Program} {W : World}
inductive ArgOK (W : World) : V → Value → Prop
 | leaf {x : V} {v : Value} (h : RB (zcR W) W x v) : ArgOK W x v
 | agg (cs : List V) (arr : Array Value) (hs : arr.size = cs.length) (h : ∀ k, k < cs.length → RB (zcR W) W (cs.getD k .undef) (arr.getD k undef)) : ArgOK W (.agg cs) (.agg arr)
def g0 (W : World) : G := ⟨id, id, fun _ => False, zcR W⟩
theorem RB.toR1 {x : V} {v : Value} (h : RB (zcR W) W x v) : R1 (g0 W) W 0 x v := by
 cases h with
 | func f => exact ⟨#[], rfl, rfl, fun k hk => absurd hk (by simp)⟩
 | bool b => exact RB.bool b
 | int k n => exact RB.int k n
 | str b => exact RB.str b
 | nilp => exact RB.nilp
 | nils => exact RB.nils
 | nilf => exact RB.nilf
 | nili => exact RB.nili
 | slice sz xs a cap vs hs hp hc hz hv hr => exact RB.slice sz xs a cap vs hs hp hc hz hv hr
theorem RB.ok0 {x : V} {v : Value} (h : RB (zcR W) W x v) : x.ok0 = true := by
 cases h <;> rfl
theorem RB.cnt {x : V} {v : Value} (h : RB (zcR W) W x v) (c : Nat) : cnt0 c x v = 0 := by
 cases h <;> rfl
theorem ArgOK.r3 {x : V} {v : Value} (h : ArgOK W x v) (τ : Nat → Value) : R3 (g0 W) W 0 τ x v := by
 cases h with
 | leaf h =>
  have h1 := h.toR1
  cases h <;> exact h1
 | agg cs arr hs h => exact ⟨arr, rfl, hs, fun k hk => ⟨.inl (h k hk).ok0, (h k hk).toR1⟩⟩
theorem ArgOK.okArg {x : V} {v : Value} (h : ArgOK W x v) : x.okArg = true := by
 cases h with
 | leaf h => cases h <;> rfl
 | agg cs arr hs h =>
  simp only [V.okArg, List.all_eq_true]
  intro y hy
  obtain ⟨k, hk, rfl⟩ := List.getElem_of_mem hy
  have := (h k hk).ok0
  rwa [List.getD_eq_getElem?_getD, List.getElem?_eq_getElem hk] at this
theorem ArgOK.cnt {x : V} {v : Value} (h : ArgOK W x v) (c : Nat) : cnt2 c x v = 0 := by
 cases h with
 | leaf h =>
  have h1 := h.cnt c
  cases h <;> exact h1
 | agg cs arr hs h => exact zcy fun k hk => (h k hk).cnt c
theorem zpM {args : List V} {vs : Array Value} (hl : args.length = vs.toList.length) (ha : ∀ k, k < args.length → ArgOK W (args.getD k .undef) (vs.toList.getD k undef)) :
  SR (g0 W) W 0 (fun _ => 0) (fun _ => false) ⟨fun _ => .undef, fun _ => [], []⟩ #[] (args.zip vs.toList) := by
 have hmem : ∀ p ∈ args.zip vs.toList, ArgOK W p.1 p.2 := fun p hp => by
  obtain ⟨k, hk, rfl⟩ := List.getElem_of_mem hp
  have hk' : k < args.length := by simp at hk; omega
  have h1 := ha k hk'
  simp only [List.getElem_zip]
  rw [List.getD_eq_getElem?_getD, List.getElem?_eq_getElem hk', List.getD_eq_getElem?_getD, List.getElem?_eq_getElem (by omega)] at h1
  exact h1
 have hcP : ∀ c, cntP c (args.zip vs.toList) = 0 := fun c => by
  rw [zgt hl]; exact zcy fun k hk => (ha k hk).cnt c
 have hT : ∀ c, total (g0 W) W 0 (fun _ => 0) ⟨fun _ => .undef, fun _ => [], []⟩ #[] (args.zip vs.toList) c = za1 (g0 W) c := fun c => by
  have e1 : cntT c (fun _ => V.undef) #[] = 0 := rfl
  have e2 : cntB (g0 W) W c 0 (fun _ => []) = 0 := rfl
  have e3 : cntM (g0 W) W c [] = 0 := rfl
  unfold total
  simp only [e1, e2, e3, hcP]
  omega
 refine ⟨fun s => trivial, fun s _ => rfl, fun s d hd => (by cases hd), fun p hp => (hmem p hp).r3 _, fun p hp d hd => ?_, fun j => by simp [g0], fun j hj => absurd rfl hj, fun b hb => absurd hb (by simp), fun c => ?_, fun c hc => ?_⟩
 ·obtain ⟨b, o, e⟩ := zdI (hmem p hp).okArg hd; cases e
 ·rw [hT]; unfold za1; split <;> omega
 ·rw [hT]; unfold za1
  rw [if_neg]
  show ¬ (c < W.heap.size)
  omega
theorem znC [Lay P] {T : Table} (hLd : Laid P (g0 W) W) (hT : TableOK P T) {f : Nat} {args : List V} {m' : List (List V)} {vs : Array Value} {b : Bool} (hret : RF T f args [] = some (.bool b, m')) (hl : args.length = vs.toList.length)
  (ha : ∀ k, k < args.length → ArgOK W (args.getD k .undef) (vs.toList.getD k undef)) : Calls P f vs W fun e W' => e = .returned (.bool b) ∧ RowKit.Below W.heap.size W W' := by
 obtain ⟨_, hcall⟩ := zje hT (zlm.1 hret)
 have hok : args.all V.okArg = true := List.all_eq_true.2 fun y hy => by
  obtain ⟨k, hk, rfl⟩ := List.getElem_of_mem hy
  have := (ha k hk).okArg
  rwa [List.getD_eq_getElem?_getD, List.getElem?_eq_getElem hk] at this
 refine (hcall (g0 W) W (fun _ => 0) vs (by simpa using hl.symm) hok hLd (zpM hl ha)).mono fun e W' ⟨v, g', he, hS, hE, _⟩ => ?_
 have hv : v = .bool b := R3.bool (hS.pend _ (.head _))
 exact ⟨by rw [he, hv], hE.os, hE.tape, hE.output, hE.size, fun k hk => (hE.pers k hk).2⟩
def zfE (P : Program) (t : TypeId) (x : V) : Prop :=
 match P.underlying t with
 | some (.struct _) | some (.array _ _) => ∃ cs, x = .agg cs ∧ Fits P t cs
 | _ => Fits P t [x]
section
variable {H : Type} {enc : TypeId × Value → H}
theorem zkb (hl : laidOutB P = true) {W' : World} {sp : Nat → Bool} : ∀ {ts : List TypeId} {vs : List Value} {ds : List (DataW H)} {ps : List MemPlace}, (ts.all fun t => P.readableRec t && decide (t < P.types.size)) = true →
  DataW.TrodAll enc P W 0 (fun _ => true) true ts vs ds ps → (∀ p ∈ ps, W.sameAt W' p) → (∀ p ∈ ps, sp p.block = true) → DataW.TrodAll enc P W' 0 sp true ts vs ds ps
 | [], vs, ds, ps, _, h, _, _ => by
  obtain ⟨rfl, rfl, rfl⟩ := ChangeShapes.trodAll_nil h
  exact rfl
 | t :: ts, vs, ds, ps, hr, h, hs, hsp => by
  obtain ⟨v, vs', dd, ds', p, q, rfl, rfl, rfl, h0, r0⟩ := ChangeShapes.trodAll_cons h
  simp only [List.all_cons, Bool.and_eq_true, decide_eq_true_eq] at hr
  exact trodAll_cons_mk (WideElems.Trod_stays hl hr.1.1 hr.1.2 h0 (fun x hx => hs x (List.mem_append_left _ hx)) (fun x hx => hsp x (List.mem_append_left _ hx)))
   (zkb hl hr.2 r0 (fun x hx => hs x (List.mem_append_right _ hx)) (fun x hx => hsp x (List.mem_append_right _ hx)))
theorem ze9 : ∀ {ts : List TypeId} {vs : List Value} {ds : List (DataW H)} {ps : List MemPlace}, DataW.TrodAll enc P W 0 (fun _ => true) true ts vs ds ps → ds.length = ts.length
 | [], vs, ds, ps, h => by obtain ⟨rfl, rfl, rfl⟩ := ChangeShapes.trodAll_nil h; rfl
 | t :: ts, vs, ds, ps, h => by
  obtain ⟨v, vs', dd, ds', p, q, rfl, rfl, rfl, h0, r0⟩ := ChangeShapes.trodAll_cons h
  simp [ze9 r0]
open ChangeShapes in
theorem ziS {f : Func} {s : ChangeSpec} {apart fresh handsOn again : Bool} {W W' : World} {args : Array Value} {v : Value} {ds gs : List (DataW H)} {before pa pv : List MemPlace}
  (hW : DataW.Whole enc P f.params.toList s.vars apart W args.toList ds gs before)
  (hres : ∀ (b : Nat) (sp : Nat → Bool) (hd : Bool), DataW.TrodAll enc P W' b sp hd f.resultTypes.toList (v.resultList f.resultTypes.size) (s.fn H (ds ++ gs)).results [])
  (hargs : ∀ sp : Nat → Bool, (∀ p ∈ before, sp p.block = true) → DataW.TrodAll enc P W' 0 sp true f.params.toList args.toList (s.fn H (ds ++ gs)).args pa)
  (hvars : ∀ sp : Nat → Bool, (∀ p ∈ before, sp p.block = true) → DataW.TrodVars enc P W' sp s.vars (s.fn H (ds ++ gs)).vars pv)
  (hps : before = pa ++ pv) (hb : RowKit.Below W.heap.size W W')
  (hok : ∀ (j : Nat) (t : TypeId) (r : Value), f.resultTypes[j]? = some t → (v.resultList f.resultTypes.size)[j]? = some r → Value.okWide P W' .any 0 t r) :
  s.post enc P f apart fresh handsOn again W args v W' := by
 have hlt : ∀ p ∈ before, p.block < W.heap.size := fun p hp => hW.lt p hp
 have hold : ∀ p ∈ before, (fun b => decide (b < W.heap.size)) p.block = true := fun p hp => by simpa using hlt p hp
 refine ⟨ds, gs, before, [], pa, pv, hW, hres _ _ _, hargs _ hold, hvars _ hold, World.keptBut_mono (fun p hp => ⟨hp, ?_⟩) (hb.frame (· ∈ before)), fun _ => ?_⟩
 ·rw [hps, List.mem_append] at hp
  exact Or.inr hp
 ·obtain ⟨_, _, _, _, _, hz, hn⟩ := hW
  refine ⟨hok, _, _, ([] ++ pa) ++ pv, ⟨[] ++ pa, pv, trodAll_append (hargs _ (fun _ _ => rfl)) (hres _ _ _), hvars _ (fun _ _ => rfl), rfl, ?_, ?_⟩, ?_⟩
  ·intro b off hp
   have hp' : MemPlace.cell b off ∈ before := by rw [hps]; simpa using hp
   rw [hb.frozen (p := ⟨b, off, none⟩) (hlt _ hp')]
   exact hz b off hp'
  ·intro ha
   have := hn ha
   rw [hps] at this
   simpa using this
  ·intro p hp _
   rw [hps]
   simpa using hp
end
end
end Go.Proofs.YtakdnfneikbjjaaGreatDoor.Am

namespace Go.Proofs.YtakdnfneikbjjaaGreatDoor.Am
def ints (xs : List Int) : List (List V) := xs.map fun n => [.int .i64 n]
inductive IV : V → List Int → Prop
 | nil : IV .nils []
 | sl (xs : List Int) : IV (.slice false 1 (ints xs)) xs
def zpN (xs : List Bool) : List (List V) := xs.map fun b => [.bool b]
inductive BV : V → List Bool → Prop
 | nil : BV .nils []
 | sl (xs : List Bool) : BV (.slice false 1 (zpN xs)) xs
section
variable {P : Program}
theorem zos {t : TypeId} {k : IntKind} (ht : P.underlying t = some (.int k)) {vs : List V} (h : Fits P t vs) : ∃ n, vs = [.int k n] ∧ (Lit.int k n).wf = true := by
 cases h <;> simp_all
theorem znD {t : TypeId} (ht : P.underlying t = some .bool) {vs : List V} (h : Fits P t vs) : ∃ b, vs = [.bool b] := by
 cases h <;> simp_all
theorem zot {t : TypeId} (ht : P.underlying t = some .string) {vs : List V} (h : Fits P t vs) : ∃ s, vs = [.str s] ∧ s.length ≤ maxLen := by
 cases h <;> simp_all
theorem fits_slice {t e : TypeId} (ht : P.underlying t = some (.slice e)) {vs : List V} (h : Fits P t vs) : vs = [.nils] ∨ ∃ xs, vs = [.slice false (P.cellsOf e) xs] ∧ xs.length ≤ maxLen ∧ ∀ x ∈ xs, Fits P e x := by
 cases h with
 | nils => exact .inl rfl
 | slice xs h hl hx =>
  rw [ht] at h
  cases h
  refine .inr ⟨xs, rfl, hl, fun x hm => ?_⟩
  obtain ⟨i, hi, rfl⟩ := List.getElem_of_mem hm
  have := hx i hi
  rwa [List.getD_eq_getElem?_getD, List.getElem?_eq_getElem hi] at this
 | _ => simp_all
end
end Go.Proofs.YtakdnfneikbjjaaGreatDoor.Am

namespace Go.Proofs.YtakdnfneikbjjaaGreatDoor.Am
inductive LT where
 | bool
 | int (k : IntKind)
 | str
 | slice (e : TypeId)
 deriving DecidableEq
def zkc (P : Program) (F : TypeId → Option (List LT)) : Nat → List Field → Option (List LT)
 | _, [] => some []
 | n, f :: fs => if f.offset = n ∧ (F f.type).map List.length = some (P.cellsOf f.type) then (F f.type).bind fun l => (zkc P F (n + P.cellsOf f.type) fs).bind fun r => some (l ++ r) else none
def zhK (P : Program) : Nat → TypeId → Option (List LT)
 | 0, _ => none
 | d + 1, t => match P.underlying t with
  | some .bool => some [.bool]
  | some (.int k) => some [.int k]
  | some .string => some [.str]
  | some (.slice e) => some [.slice e]
  | some (.struct fs) => (zkc P (zhK P d) 0 fs.toList).bind fun l => if l.length = P.cellsOf t then some l else none
  | some (.array n e) => (zhK P d e).bind fun l => if l.length = P.cellsOf e ∧ P.cellsOf t = n * P.cellsOf e then some (List.replicate n l).flatten else none
  | _ => none
def LV (P : Program) (l : LT) (v : V) : Prop :=
 match l with
 | .bool => ∃ b, v = .bool b
 | .int k => ∃ n, v = .int k n ∧ (Lit.int k n).wf = true
 | .str => ∃ s, v = .str s ∧ s.length ≤ maxLen
 | .slice e => v = .nils ∨ ∃ xs, v = .slice false (P.cellsOf e) xs ∧ xs.length ≤ maxLen ∧ ∀ x ∈ xs, Fits P e x
def LVs (P : Program) : List LT → List V → Prop
 | [], [] => True
 | l :: ls, v :: vs => LV P l v ∧ LVs P ls vs
 | _, _ => False
section
variable {P : Program}
theorem LVs.append : ∀ {ls ks : List LT} {vs us : List V}, LVs P ls vs → LVs P ks us → LVs P (ls ++ ks) (vs ++ us)
 | [], _, [], _, _, h => h
 | _ :: _, _, _ :: _, _, h, k => ⟨h.1, LVs.append h.2 k⟩
 | [], _, _ :: _, _, h, _ => h.elim
 | _ :: _, _, [], _, h, _ => h.elim
theorem LVs.len : ∀ {ls : List LT} {vs : List V}, LVs P ls vs → vs.length = ls.length
 | [], [], _ => rfl
 | _ :: _, _ :: _, h => by rw [List.length_cons, List.length_cons, LVs.len h.2]
 | [], _ :: _, h => h.elim
 | _ :: _, [], h => h.elim
theorem zkd {F : TypeId → Option (List LT)} (hF : ∀ t ls vs, F t = some ls → Fits P t vs → LVs P ls vs) {vs : List V} : ∀ {fs : List Field} {n : Nat} {ls : List LT}, zkc P F n fs = some ls → (∀ f ∈ fs, Fits P f.type ((vs.drop f.offset).take (P.cellsOf f.type))) →
  LVs P ls ((vs.drop n).take ls.length)
 | [], n, ls, h, _ => by
  simp only [zkc, Option.some.injEq] at h
  subst h
  rw [List.length_nil, List.take_zero]; trivial
 | f :: fs, n, ls, h, hf => by
  simp only [zkc] at h
  split at h
  ·rename_i hc
   simp only [Option.bind_eq_some_iff, Option.some.injEq] at h
   obtain ⟨l, hl, r, hr, rfl⟩ := h
   have h1 := hF _ _ _ hl (hf f (.head _))
   have h2 := zkd hF hr fun g hg => hf g (.tail _ hg)
   have hlen : l.length = P.cellsOf f.type := by
    have := hc.2
    rw [hl] at this
    simpa using this
   rw [hc.1, ← hlen] at h1
   rw [← hlen] at h2
   have hsplit : (vs.drop n).take (l ++ r).length = (vs.drop n).take l.length ++ (vs.drop (n + l.length)).take r.length := by
    rw [List.length_append, List.take_add, List.drop_drop]
   rw [hsplit]
   exact h1.append h2
  ·cases h
theorem zke {l : List LT} {e : TypeId} (hF : ∀ vs, Fits P e vs → LVs P l vs) (hl : l.length = P.cellsOf e) {vs : List V} : ∀ {n i : Nat}, (∀ j, i ≤ j → j < i + n → Fits P e ((vs.drop (j * P.cellsOf e)).take (P.cellsOf e))) →
  LVs P (List.replicate n l).flatten ((vs.drop (i * P.cellsOf e)).take (n * P.cellsOf e))
 | 0, i, _ => by rw [Nat.zero_mul, List.take_zero]; trivial
 | n + 1, i, h => by
  have h1 := hF _ (h i (Nat.le_refl _) (by omega))
  have h2 := zke hF hl (n := n) (i := i + 1) fun j hj hk => h j (by omega) (by omega)
  rw [List.replicate_succ, List.flatten_cons, Nat.succ_mul, Nat.add_comm, List.take_add, List.drop_drop]
  rw [Nat.succ_mul] at h2
  exact h1.append h2
theorem zf3 : ∀ {d : Nat} {t : TypeId} {ls : List LT} {vs : List V}, zhK P d t = some ls → Fits P t vs → LVs P ls vs := by
 intro d
 induction d with
 | zero => intro t ls vs h; cases h
 | succ d ih =>
  intro t ls vs h hf
  unfold zhK at h
  split at h
  ·rename_i ht
   cases h
   obtain ⟨b, rfl⟩ := znD ht hf
   exact ⟨⟨b, rfl⟩, trivial⟩
  ·rename_i ht
   cases h
   obtain ⟨n, rfl, hw⟩ := zos ht hf
   exact ⟨⟨n, rfl, hw⟩, trivial⟩
  ·rename_i ht
   cases h
   obtain ⟨s, rfl, hw⟩ := zot ht hf
   exact ⟨⟨s, rfl, hw⟩, trivial⟩
  ·rename_i ht
   cases h
   rcases fits_slice ht hf with rfl | ⟨xs, rfl, h1, h2⟩
   ·exact ⟨.inl rfl, trivial⟩
   ·exact ⟨.inr ⟨xs, rfl, h1, h2⟩, trivial⟩
  ·rename_i fs ht
   simp only [Option.bind_eq_some_iff] at h
   obtain ⟨l, hl, h⟩ := h
   split at h
   ·rename_i hc
    cases h
    cases hf with
    | struct _ ht2 hlen hff =>
     rw [ht] at ht2
     cases ht2
     have := zkd (vs := vs) (fun _ _ _ a b => ih a b) hl hff
     rwa [List.drop_zero, List.take_of_length_le (by omega)] at this
    | _ => simp_all
   ·cases h
  ·rename_i n e ht
   simp only [Option.bind_eq_some_iff] at h
   obtain ⟨l, hl, h⟩ := h
   split at h
   ·rename_i hc
    cases h
    cases hf with
    | array _ ht2 hlen hff =>
     rw [ht] at ht2
     cases ht2
     have := zke (vs := vs) (fun _ b => ih hl b) hc.1 (n := n) (i := 0) fun j _ hj => hff j (by omega)
     rwa [Nat.zero_mul, List.drop_zero, List.take_of_length_le (by omega)] at this
    | _ => simp_all
   ·cases h
  ·cases h
end
end Go.Proofs.YtakdnfneikbjjaaGreatDoor.Am

namespace Go.Proofs.YtakdnfneikbjjaaGreatDoor.Am
section
variable {P : Program} {W : World} {H : Type} {enc : TypeId × Value → H}
def zoI (x : V) (d : DataW H) : Prop := ∀ o z xs, x = .slice o z xs → ∃ elems spare, d = .slice elems spare ∧ elems.length = xs.length
theorem zpB {x : V} {v : Value} {t : TypeId} {d : DataW H} {ps : List MemPlace} (hf : zfE P t x) (ha : ArgOK W x v) (h : DataW.Trod enc P W 0 (fun _ => true) true t v d ps) : zoI x d := by
 intro o z xs hx
 subst hx
 have hs : ∃ e, P.underlying t = some (.slice e) := by
  unfold zfE at hf
  split at hf
  ·obtain ⟨cs, e, _⟩ := hf; cases e
  ·obtain ⟨cs, e, _⟩ := hf; cases e
  ·cases hf <;> first | exact ⟨_, by assumption⟩ | simp_all
 obtain ⟨e, ht⟩ := hs
 have hv : ∃ a cap, v = .slice (some a) xs.length cap := by
  cases ha with
  | leaf h => cases h with | slice _ _ a cap _ _ _ _ _ _ _ => exact ⟨a, cap, rfl⟩
 obtain ⟨a, cap, rfl⟩ := hv
 obtain ⟨fuel, h⟩ := h
 rcases DataW.trod_slice ht h with ⟨h1, _⟩ | ⟨a', len, cap', elems, rest, n, _, h1, h2, _, _, _, hel, _⟩
 ·simp [Value.cells] at h1
 ·simp only [Prod.mk.injEq] at h2
  refine ⟨_, _, h2.1, ?_⟩
  have e1 : len = xs.length := by
   have : (Value.slice (some a) xs.length cap).cells.toList = [.slice (some a) xs.length cap] := rfl
   rw [this] at h1
   injection h1 with h1 _
   injection h1 with _ h1 _
   exact h1.symm
  rw [List.length_map, hel, e1]
end
end Go.Proofs.YtakdnfneikbjjaaGreatDoor.Am

set_option linter.all false
namespace Go.Proofs.YtakdnfneikbjjaaGreatDoor.Am.Lay10
open Go.Proofs.YtakdnfneikbjjaaGreatDoor.Am.T
theorem zou {W : World} : Laid Go.Proofs.Tryz.prog (g0 W) W := by
  constructor
  · intro t ht; exact absurd ht (List.not_mem_nil)
  · intro t ht; exact absurd ht (List.not_mem_nil)
end Go.Proofs.YtakdnfneikbjjaaGreatDoor.Am.Lay10

set_option linter.all false
namespace Go.Proofs.YtakdnfneikbjjaaGreatDoor.Am.Lay10
open Go.Proofs.YtakdnfneikbjjaaGreatDoor.Am.T
def zov : Option TypeDesc → Bool
  | some (.struct _) => true
  | _ => false
theorem znE {P : Program} {t : TypeId} (hi : zov (P.underlying t) = true) (hl : zhK P 8 t = some [.int .i64, .int .i64, .int .i64, .int .i64]) {x : V} (h : zfE P t x) : ∃ k : Rect, Den [] (.agg k.c) x := by
  obtain ⟨fs, ht⟩ : ∃ fs, P.underlying t = some (.struct fs) := by
    unfold zov at hi
    split at hi
    · exact ⟨_, by assumption⟩
    · cases hi
  unfold zfE at h
  rw [ht] at h
  obtain ⟨cs, rfl, hf⟩ := h
  have h3 := zf3 hl hf
  have h4 : cs.length = 4 := h3.len
  match cs, h4 with
  | [x1, x2, x3, x4], _ =>
    obtain ⟨h1, h2, h3, h4, _⟩ := h3
    obtain ⟨a, rfl, _⟩ := h1
    obtain ⟨b, rfl, _⟩ := h2
    obtain ⟨c, rfl, _⟩ := h3
    obtain ⟨d, rfl, _⟩ := h4
    exact ⟨⟨a, b, c, d⟩, .agg (.cons (.base (.int _ _)) (.cons (.base (.int _ _)) (.cons (.base (.int _ _)) (.cons (.base (.int _ _)) .nil))))⟩
end Go.Proofs.YtakdnfneikbjjaaGreatDoor.Am.Lay10

namespace Go.Proofs.YtakdnfneikbjjaaGreatDoor.Am
section
variable {P : Program} {W : World} {H : Type} {enc : TypeId × Value → H}
def zpd (x : V) (d : DataW H) : Prop := zoI x d ∧ ∀ s, x = .str s → d = .lit (.string s)
theorem zpO {x : V} {v : Value} {t : TypeId} {d : DataW H} {ps : List MemPlace} (hf : zfE P t x) (ha : ArgOK W x v) (h : DataW.Trod enc P W 0 (fun _ => true) true t v d ps) : zpd x d := by
 refine ⟨zpB hf ha h, fun s hx => ?_⟩
 subst hx
 have ht : P.underlying t = some .string := by
  unfold zfE at hf
  split at hf
  ·obtain ⟨cs, e, _⟩ := hf; cases e
  ·obtain ⟨cs, e, _⟩ := hf; cases e
  ·cases hf <;> first | assumption | simp_all
 obtain ⟨fuel, h⟩ := h
 obtain ⟨b, h1, h2⟩ := DataW.trod_string ht h
 have hv : ∃ b : ByteArray, v = .string b ∧ b.data.toList = s := by
  cases ha with
  | leaf h => cases h with | str b => exact ⟨b, rfl, rfl⟩
 obtain ⟨c, rfl, rfl⟩ := hv
 have : (Value.string c).cells.toList = [.string c] := rfl
 rw [this] at h1
 injection h1 with h1 _
 injection h1 with h1
 have h3 := (Prod.mk.inj h2.1).1
 subst h1
 exact h3
theorem zlG : ∀ {ts : List TypeId} {vs : List Value} {ds : List (DataW H)} {ps : List MemPlace} {args : List V}, DataW.TrodAll enc P W 0 (fun _ => true) true ts vs ds ps → args.length = vs.length → (∀ (j : Nat) (t : TypeId), ts[j]? = some t → zfE P t (args.getD j .undef)) → (∀ k, k < args.length → ArgOK W (args.getD k .undef) (vs.getD k undef)) →
  ∀ (j : Nat) (d : DataW H), ds[j]? = some d → zpd (args.getD j .undef) d
 | [], vs, ds, ps, args, h, _, _, _, j, d, hd => by
  obtain ⟨rfl, rfl, rfl⟩ := ChangeShapes.trodAll_nil h
  simp at hd
 | t :: ts, vs, ds, ps, args, h, hl, hf, ha, j, d, hd => by
  obtain ⟨v, vs', dd, ds', p, q, rfl, rfl, rfl, h0, r0⟩ := ChangeShapes.trodAll_cons h
  match args, hl with
  | x :: args, hl =>
   cases j with
   | zero =>
    simp only [List.getElem?_cons_zero, Option.some.injEq] at hd
    subst hd
    exact zpO (hf 0 t rfl) (ha 0 (by simp)) h0
   | succ j =>
    exact zlG r0 (by simpa using hl) (fun i t' hi => hf (i + 1) t' hi) (fun k hk => ha (k + 1) (by simpa using hk)) j d hd
end
end Go.Proofs.YtakdnfneikbjjaaGreatDoor.Am

namespace Go.Proofs.YtakdnfneikbjjaaGreatDoor.Am
def sup1 (P : Program) (S : List TypeId) (t : TypeId) : Bool := match P.underlying t with
 | some .bool | some (.int _) | some .string => P.cellsOf t == 1
 | some (.slice e) => P.cellsOf t == 1 && decide (0 < P.cellsOf e) && S.contains e
 | some (.struct fs) => znB P 0 fs.toList (P.cellsOf t) && fs.toList.all fun f => S.contains f.type
 | _ => false
def supS (P : Program) (S : List TypeId) : Bool := S.all (sup1 P S)
section
variable {P : Program} {H : Type} {enc : TypeId × Value → H} {W : World}
theorem znF {S : List TypeId} (hS : supS P S = true) : ∀ {fuel : Nat} {t : TypeId}, S.contains t = true → ∀ {held : Bool} {cs : List Value} {x : DataW H × List MemPlace}, DataW.trod enc P W 0 (fun _ => true) held fuel t cs = some x → zpc P W t cs := by
 intro fuel
 induction fuel with
 | zero => intro t _ held cs x hx; simp [DataW.trod] at hx
 | succ fuel ih =>
  intro t htS held cs x hx
  have h := List.all_eq_true.1 hS t (List.contains_iff_mem.1 htS)
  simp only [sup1] at h
  split at h
  ·rename_i ht
   obtain ⟨b, rfl, _⟩ := DataW.trod_bool ht hx
   exact ⟨[.bool b], rfl, .bool b ht, fun k hk => by
    have : k = 0 := by simpa using hk
    subst this; exact .bool b⟩
  ·rename_i kk ht
   obtain ⟨n, rfl, _, hwf⟩ := DataW.trod_int ht hx
   exact ⟨[.int kk n], rfl, .int n ht hwf, fun k hk => by
    have : k = 0 := by simpa using hk
    subst this; exact .int kk n⟩
  ·rename_i ht
   obtain ⟨s, rfl, _, hs⟩ := DataW.trod_string ht hx
   exact ⟨[.str s.data.toList], rfl, .str _ ht (by simpa using hs), fun k hk => by
    have : k = 0 := by simpa using hk
    subst this; exact .str s⟩
  ·rename_i e ht
   simp only [Bool.and_eq_true, beq_iff_eq, decide_eq_true_eq] at h
   obtain ⟨⟨_, hpos⟩, hsup⟩ := h
   rcases DataW.trod_slice ht hx with ⟨rfl, _⟩ | ⟨a, len, cap, elems, rest, n, hn, rfl, _, _, hlc, hcap, hel, he, hre, _⟩
   ·exact ⟨[.nils], rfl, .nils ht, fun k hk => by
     have : k = 0 := by simpa using hk
     subst this; exact .nils⟩
   ·cases hn
    have hone : ∀ i, i < len → ∃ vs : List V, Fits P e vs ∧ vs.length = P.cellsOf e ∧ ∀ k, k < P.cellsOf e → ∃ v, W.cell? ((a.add (i * P.cellsOf e)).add k) = some v ∧ RB (zcR W) W (vs.getD k .undef) v := fun i hi => by
     have h1 := he i hi
     rw [List.getElem?_eq_getElem (by omega)] at h1
     simp only [Option.bind_eq_some_iff] at h1
     obtain ⟨cs', hc1, hc2⟩ := h1
     obtain ⟨_, hl, hc⟩ := World.cells?_some hc1
     obtain ⟨vs, hf, hr⟩ := zfD.1 (ih hsup hc2)
     refine ⟨vs, hf, by rw [hr.1, hl], fun k hk => ⟨cs'.getD k undef, ?_, hr.2 k (by omega)⟩⟩
     rw [hc k hk, List.getD_eq_getElem?_getD, List.getElem?_eq_getElem (by omega)]; rfl
    obtain ⟨xs, hxl, hxs⟩ := zk5 hone
    have hxs' : ∀ i, i < xs.length → Fits P e (xs.getD i []) ∧ (xs.getD i []).length = P.cellsOf e ∧ ∀ k, k < P.cellsOf e → ∃ v, W.cell? ((a.add (i * P.cellsOf e)).add k) = some v ∧ RB (zcR W) W ((xs.getD i []).getD k .undef) v := fun i hi => by
     rw [List.getD_eq_getElem?_getD, List.getElem?_eq_getElem hi]
     exact hxs i _ (List.getElem?_eq_getElem hi)
    have hblk : 0 < cap → a.block < W.heap.size ∧ a.spot = none := fun hc0 => by
     have h00 : (a.add (0 * P.cellsOf e)).add 0 = a := by simp [Addr.add]
     have hcell : ∃ v, W.cell? a = some v := by
      by_cases h0 : 0 < len
      ·obtain ⟨v, hv, _⟩ := (hxs' 0 (by omega)).2.2 0 hpos
       rw [h00] at hv
       exact ⟨v, hv⟩
      ·have h1 := (hre rfl).2 0 (by omega)
       have h2 := (hre rfl).1
       have hl0 : len = 0 := by omega
       subst hl0
       rw [List.getElem?_eq_getElem (by omega)] at h1
       simp only [Option.bind_eq_some_iff] at h1
       obtain ⟨cs', hc1, _⟩ := h1
       obtain ⟨_, hl, hc⟩ := World.cells?_some hc1
       have h3 := hc 0 hpos
       rw [Nat.add_zero, h00, List.getElem?_eq_getElem (by omega)] at h3
       exact ⟨_, h3⟩
     obtain ⟨v, hv⟩ := hcell
     exact zmh hv
    refine ⟨[.slice false (P.cellsOf e) xs], rfl, .slice xs ht (by omega) (fun i hi => (hxs' i hi).1), fun k hk => ?_⟩
    have : k = 0 := by simpa using hk
    subst this
    simp only [List.getD_cons_zero]
    refine RB.slice_iff.2 ⟨a, cap, by rw [hxl], fun hc0 => (hblk hc0).2, fun hc0 => (hblk hc0).1, by omega, fun i hi => (hxs' i hi).2.1, fun i k hi hk => ?_⟩
    obtain ⟨v, hv, hr⟩ := (hxs' i hi).2.2 k hk
    refine ⟨v, ?_, hr⟩
    have hsp := (hblk (by omega)).2
    rw [zcL hsp, zcL rfl] at hv
    rw [← hv]
    simp [Nat.add_assoc]
  ·rename_i fs ht
   simp only [Bool.and_eq_true, List.all_eq_true] at h
   obtain ⟨htile, hall⟩ := h
   obtain ⟨xs, n, hn, _, hl, hxl, hf⟩ := DataW.trod_struct ht hx
   cases hn
   obtain ⟨_, vs, hvs, hfs⟩ := zka (P := P) (W := W) (cs := cs) htile (by omega) fun f hfm => by
    obtain ⟨i, hi⟩ := List.getElem?_of_mem hfm
    have hi' : i < fs.size := by have := (List.getElem?_eq_some_iff.1 hi).1; simpa using this
    have h1 := hf i f (by simpa using hi)
    rw [List.getElem?_eq_getElem (by omega)] at h1
    exact ih (hall f hfm) h1
   rw [List.drop_zero, Nat.sub_zero, List.take_of_length_le (by omega)] at hvs
   exact zfD.2 ⟨vs, .struct vs ht (by rw [hvs.1, hl]) (fun f hfm => by simpa using (hfs f hfm).2), hvs⟩
  ·cases h
theorem zpe {S : List TypeId} (hS : supS P S = true) {t : TypeId} (hsup : S.contains t = true) {v : Value} {dd : DataW H} {ps : List MemPlace} {base : Nat} (hval : Value.okWide P W .any base t v) (h : DataW.Trod enc P W 0 (fun _ => true) true t v dd ps) :
  ∃ x, zfE P t x ∧ ArgOK W x v := by
 obtain ⟨fuel, h⟩ := h
 obtain ⟨cs, hfit, hr⟩ := zfD.1 (znF hS hsup h)
 have agg : ∀ arr : Array Value, v = .agg arr → ArgOK W (.agg cs) v := fun arr e => by
  subst e
  have hc : (Value.agg arr).cells = arr := rfl
  rw [hc] at hr
  refine .agg cs arr (by have := hr.1; simpa using this.symm) fun k hk => ?_
  have := hr.2 k (by rw [← hr.1]; exact hk)
  rwa [zaA] at this
 have leaf : (∀ arr, v ≠ .agg arr) → cs.length = 1 → ∃ x, cs = [x] ∧ ArgOK W x v := fun hv h1 => by
  match cs, h1 with
  | [x], _ =>
   refine ⟨x, rfl, .leaf ?_⟩
   rw [zhR hv] at hr
   exact hr.2 0 (by simp)
 unfold zfE
 unfold Value.okWide at hval
 cases hu : P.underlying t with
 | none => cases hfit <;> simp_all
 | some ud =>
  rw [hu] at hval
  cases ud with
  | struct fs => obtain ⟨arr, e, _⟩ := hval; exact ⟨.agg cs, ⟨cs, rfl, hfit⟩, agg arr e⟩
  | array n e => obtain ⟨arr, e, _⟩ := hval; exact ⟨.agg cs, ⟨cs, rfl, hfit⟩, agg arr e⟩
  | _ =>
   simp only at hval ⊢
   have h1 : cs.length = 1 := by cases hfit <;> first | rfl | simp_all
   have h2 : ∀ arr, v ≠ .agg arr := fun arr e => by
    subst e
    simp only [Cell.okWide, Cell.ok, hu] at hval
   obtain ⟨x, rfl, hx⟩ := leaf h2 h1
   exact ⟨x, hfit, hx⟩
theorem zlH {S : List TypeId} (hS : supS P S = true) : ∀ {ts : List TypeId} {vs : List Value} {ds : List (DataW H)} {ps : List MemPlace} {base : Nat}, (ts.all fun t => S.contains t) = true → (∀ (j : Nat) (t : TypeId) (v : Value), ts[j]? = some t → vs[j]? = some v → Value.okWide P W .any base t v) →
  DataW.TrodAll enc P W 0 (fun _ => true) true ts vs ds ps → ∃ args : List V, args.length = vs.length ∧ ts.length = vs.length ∧ (∀ (j : Nat) (t : TypeId), ts[j]? = some t → zfE P t (args.getD j .undef)) ∧ ∀ k, k < args.length → ArgOK W (args.getD k .undef) (vs.getD k undef)
 | [], vs, ds, ps, base, _, _, h => by
  obtain ⟨rfl, rfl, rfl⟩ := ChangeShapes.trodAll_nil h
  exact ⟨[], rfl, rfl, fun j t hj => by simp at hj, fun k hk => absurd hk (by simp)⟩
 | t :: ts, vs, ds, ps, base, hsup, hval, h => by
  obtain ⟨v, vs', dd, ds', p, q, rfl, rfl, rfl, h0, r0⟩ := ChangeShapes.trodAll_cons h
  simp only [List.all_cons, Bool.and_eq_true] at hsup
  obtain ⟨x, hx1, hx2⟩ := zpe hS hsup.1 (hval 0 t v rfl rfl) h0
  obtain ⟨args, h1, h2, h3, h4⟩ := zlH hS hsup.2 (fun j t v hj hv => hval (j + 1) t v hj hv) r0
  refine ⟨x :: args, by simp [h1], by simp [h2], fun j t' hj => ?_, fun k hk => ?_⟩
  ·cases j with
   | zero => simp only [List.getElem?_cons_zero, Option.some.injEq] at hj; subst hj; exact hx1
   | succ j => exact h3 j t' hj
  ·cases k with
   | zero => exact hx2
   | succ k => exact h4 k (by simpa using hk)
theorem ziT [Lay P] {T : Table} (hLd : Laid P (g0 W) W) (hT : TableOK P T) {f : Nat} {fn : Func} {tb : TypeId} {s : ChangeSpec} {apart fresh handsOn again : Bool} {S : List TypeId} (hS : supS P S = true) (hbool : P.underlying tb = some .bool) (hres : fn.resultTypes = #[tb]) (hvars : s.vars = [])
  (hspec : ∀ ds : List (DataW H), ds.length = fn.params.toList.length → s.fn H ds = { results := [.lit (.bool true)], args := ds }) (hl : laidOutB P = true) (hr : (fn.params.toList.all fun t => P.readableRec t && decide (t < P.types.size)) = true)
  (hsup : (fn.params.toList.all fun t => S.contains t) = true) {base : Nat} {args : Array Value} {ds gs : List (DataW H)} {before : List MemPlace}
  (law : ds.length = fn.params.toList.length → ∀ zs9 : List V, zs9.length = fn.params.toList.length → (∀ (j : Nat) (t : TypeId), fn.params.toList[j]? = some t → zfE P t (zs9.getD j .undef)) → (∀ (j : Nat) (d : DataW H), ds[j]? = some d → zpd (zs9.getD j .undef) d) → ∃ m', RF T f zs9 [] = some (.bool true, m'))
  (hval : ∀ (j : Nat) t v, fn.params[j]? = some t → args[j]? = some v → Value.okWide P W .any base t v) (hW : DataW.Whole enc P fn.params.toList s.vars apart W args.toList ds gs before) :
  Calls P f args W fun e W' => ∃ v, e = .returned v ∧ s.post enc P fn apart fresh handsOn again W args v W' := by
 have hW' := hW
 obtain ⟨p, q, hA, hV, rfl, hfz, hnd⟩ := hW
 rw [hvars] at hV
 obtain ⟨rfl, rfl⟩ := ChangeShapes.trodVars_none hV
 obtain ⟨zs9, h1, h2, h3, h4⟩ := zlH (base := base) hS hsup (fun j t v hj hv => hval j t v (by simpa using hj) (by simpa using hv)) hA
 obtain ⟨m', hm⟩ := law (ze9 hA) zs9 (by rw [h1, h2]) h3 (zlG hA h1 h3 h4)
 have hds : ds.length = fn.params.toList.length := ze9 hA
 refine (znC hLd hT hm h1 h4).mono fun e W' ⟨he, hb⟩ => ?_
 subst he
 have hsp : s.fn H (ds ++ []) = { results := [.lit (.bool true)], args := ds } := by rw [List.append_nil]; exact hspec ds hds
 refine ⟨_, rfl, ziS (pa := p) (pv := []) hW' (fun b sp hd => ?_) (fun sp hspb => ?_) (fun sp _ => ?_) rfl hb (RowKit.ok_one hres rfl (RowKit.okWide_bool_mk hbool _))⟩
 ·rw [hsp, hres]
  exact trodAll_cons_mk (RowKit.shut_bool hbool true) rfl
 ·rw [hsp]
  exact zkb hl hr hA (fun x hx => hb.same (hW'.lt x (by simpa using hx))) (fun x hx => hspb x (by simpa using hx))
 ·rw [hsp, hvars]; exact rfl
end
end Go.Proofs.YtakdnfneikbjjaaGreatDoor.Am

set_option linter.all false
namespace Go.Proofs.YtakdnfneikbjjaaGreatDoor.Am.Lay10
open Go.Proofs.YtakdnfneikbjjaaGreatDoor.Am.T
theorem znG {P : Program} {e : TypeId} (hl : zhK P 8 e = some [.int .i64, .int .i64, .int .i64, .int .i64]) {cs : List V} (h : Fits P e cs) : ∃ k : Rect, Pw Den0 k.c cs := by
  have h3 := zf3 hl h
  have h4 : cs.length = 4 := h3.len
  match cs, h4 with
  | [x1, x2, x3, x4], _ =>
    obtain ⟨h1, h2, h3, h4, _⟩ := h3
    obtain ⟨a, rfl, _⟩ := h1
    obtain ⟨b, rfl, _⟩ := h2
    obtain ⟨c, rfl, _⟩ := h3
    obtain ⟨d, rfl, _⟩ := h4
    exact ⟨⟨a, b, c, d⟩, .cons (.int _ _) (.cons (.int _ _) (.cons (.int _ _) (.cons (.int _ _) .nil)))⟩
theorem zhA {P : Program} {e : TypeId} {α : Type} {c : α → List TV} : ∀ xs : List (List V), (∀ y ∈ xs, ∃ k : α, Pw Den0 (c k) y) → ∃ ks : List α, Pw (Pw Den0) (ks.map c) xs
  | [], _ => ⟨[], .nil⟩
  | y :: ys, hh => by
    obtain ⟨ks, h1⟩ := zhA (P := P) (e := e) (c := c) ys fun z hz => hh z (.tail _ hz)
    obtain ⟨k, h2⟩ := hh y (.head _)
    exact ⟨k :: ks, .cons h2 h1⟩
theorem zkf {P : Program} {t e : TypeId} (hl : zhK P 8 t = some [.int .i64, .int .i64, .int .i64, .str, .slice t, .slice e]) (hr : zhK P 8 e = some [.int .i64, .int .i64, .int .i64, .int .i64]) (h6 : P.cellsOf t = 6) (h4 : P.cellsOf e = 4) : ∀ (n : Nat) (cs : List V), SizeOf.sizeOf cs < n → Fits P t cs → ∃ p : Plan, Pw Den0 (Plan.e p) cs
  | 0, cs, hn, _ => absurd hn (Nat.not_lt_zero _)
  | n + 1, cs, hn, h => by
    have h3 := zf3 hl h
    have hlen : cs.length = 6 := h3.len
    match cs, hlen, hn with
    | [x1, x2, x3, x4, x5, x6], _, hn =>
      obtain ⟨h1, h2, h3, h4', h5, h6', _⟩ := h3
      obtain ⟨a, rfl, _⟩ := h1
      obtain ⟨b, rfl, _⟩ := h2
      obtain ⟨c, rfl, _⟩ := h3
      obtain ⟨s, rfl, _⟩ := h4'
      have hk : ∃ ks : List Plan, Den0 (.sl false 6 (Plan.cs ks)) x5 := by
        rcases h5 with rfl | ⟨xs, rfl, _, hx⟩
        · exact ⟨[], .sln false 6⟩
        · obtain ⟨ks, hk⟩ := zhA (P := P) (e := e) (c := Plan.e) xs fun y hy => zkf hl hr h6 h4 n y (by
            have := List.sizeOf_lt_of_mem hy
            simp at hn; omega) (hx y hy)
          rw [h6]
          exact ⟨ks, .sl false 6 (by rw [Plan.cs_is]; exact hk)⟩
      have hf : ∃ fs : List Rect, Den0 (.sl false 4 (fs.map Rect.c)) x6 := by
        rcases h6' with rfl | ⟨xs, rfl, _, hx⟩
        · exact ⟨[], .sln false 4⟩
        · obtain ⟨ks, hk⟩ := zhA (P := P) (e := e) (c := Rect.c) xs fun y hy => znG hr (hx y hy)
          rw [h4]
          exact ⟨ks, .sl false 4 hk⟩
      obtain ⟨ks, hk⟩ := hk
      obtain ⟨fs, hf⟩ := hf
      exact ⟨⟨a, ⟨b, c⟩, s.map zd9, ks, fs⟩, .cons (.int _ _) (.cons (.int _ _) (.cons (.int _ _) (.cons (.str s) (.cons hk (.cons hf .nil)))))⟩
theorem Pw.denB {ρ : List Nat} : ∀ {a : List TV} {b : List V}, Pw Den0 a b → Pw (Den ρ) a b
  | _, _, .nil => .nil
  | _, _, .cons h t => .cons (.base h) (Pw.denB t)
theorem znH {P : Program} {t e : TypeId} (hi : zov (P.underlying t) = true) (hl : zhK P 8 t = some [.int .i64, .int .i64, .int .i64, .str, .slice t, .slice e]) (hr : zhK P 8 e = some [.int .i64, .int .i64, .int .i64, .int .i64]) (h6 : P.cellsOf t = 6) (h4 : P.cellsOf e = 4) {x : V} (h : zfE P t x) : ∃ p : Plan, Den [] (.agg (Plan.e p)) x := by
  obtain ⟨fs, ht⟩ : ∃ fs, P.underlying t = some (.struct fs) := by
    unfold zov at hi
    split at hi
    · exact ⟨_, by assumption⟩
    · cases hi
  unfold zfE at h
  rw [ht] at h
  obtain ⟨cs, rfl, hf⟩ := h
  obtain ⟨p, hp⟩ := zkf hl hr h6 h4 _ cs (Nat.lt_succ_self _) hf
  exact ⟨p, .agg (Pw.denB hp)⟩
theorem zhB {p : Plan} {r : Rect} {x y : V} (hx : Den [] (.agg (Plan.e p)) x) (hy : Den [] (.agg r.c) y) : ∃ m', RF ET 10 [x, y] [] = some (.bool true, m') :=
  zan.law (zc3 (zk4 p r)) (.cons hx (.cons hy .nil))
end Go.Proofs.YtakdnfneikbjjaaGreatDoor.Am.Lay10

/-
LayoutCovers answers true whatever its input; the input reads as it did.
-/
namespace Go.Proofs.YtakdnfneikbjjaaGreatDoor
open Go.Proofs.YtakdnfneikbjjaaGreatDoor.Am Go.Proofs.YtakdnfneikbjjaaGreatDoor.Am.Lay10
open Go.ChangeShapes Go.WideShapes Go.ChangeAt Go.RowKit
namespace layoutCovers
theorem shape (l : List V) (h : l.length = 2) : ∃ x0 x1, l = [x0, x1] := by
  match l, h with
  | [x0, x1], _ => exact ⟨x0, x1, rfl⟩
theorem own : ownKnob Tryz.prog.godebug = none := by kernel_rfl
theorem laidB : laidOutB Tryz.prog = true := by kernel_rfl
set_option maxRecDepth 100000 in
theorem law (l : List V) (hl : l.length = Tryz.f10.params.toList.length) (h : ∀ (j : Nat) (t : TypeId), Tryz.f10.params.toList[j]? = some t → zfE Tryz.prog t (l.getD j .undef)) : ∃ m', RF ET 10 l [] = some (.bool true, m') := by
  have hln : l.length = 2 := hl
  obtain ⟨x0, x1, rfl⟩ := shape l hln
  have h0 := h 0 27 (by kernel_rfl)
  have h1 := h 1 29 (by kernel_rfl)
  obtain ⟨p, hx⟩ := znH (t := 27) (e := 29) (by kernel_rfl) (by kernel_rfl) (by kernel_rfl) (by kernel_rfl) (by kernel_rfl) h0
  obtain ⟨r, hy⟩ := znE (by kernel_rfl) (by kernel_rfl) h1
  exact zhB hx hy
noncomputable def low : Nat := (World.holding Tryz.prog default ⟨#[], #[], []⟩).heap.size
noncomputable def laidWorld (os : Os) : World :=
  { World.holding Tryz.prog os ⟨#[.cells #[.string ⟨#[118, 97, 108, 117, 101, 32, 111, 117, 116, 32, 111, 102, 32, 114, 97, 110, 103, 101]⟩] 182, .cells #[.string ⟨#[105, 110, 118, 97, 108, 105, 100, 32, 115, 121, 110, 116, 97, 120]⟩] 182], #[], []⟩ with heap := ((((((World.holding Tryz.prog os ⟨#[.cells #[.string ⟨#[118, 97, 108, 117, 101, 32, 111, 117, 116, 32, 111, 102, 32, 114, 97, 110, 103, 101]⟩] 182, .cells #[.string ⟨#[105, 110, 118, 97, 108, 105, 100, 32, 115, 121, 110, 116, 97, 120]⟩] 182], #[], []⟩).heap.modify 2 fun
      | .cells _ t frozen => .cells #[.iface 180 (.pointer (some ⟨low + 0, 0, none⟩))] t frozen
      | o => o).modify 1 fun
      | .cells _ t frozen => .cells #[.iface 180 (.pointer (some ⟨low + 1, 0, none⟩))] t frozen
      | o => o).modify 3 fun
      | .cells _ t frozen => .cells #[.int .u64 1, .int .u64 10, .int .u64 100, .int .u64 1000, .int .u64 10000, .int .u64 100000, .int .u64 1000000, .int .u64 10000000, .int .u64 100000000, .int .u64 1000000000, .int .u64 10000000000, .int .u64 100000000000, .int .u64 1000000000000, .int .u64 10000000000000, .int .u64 100000000000000, .int .u64 1000000000000000, .int .u64 10000000000000000, .int .u64 100000000000000000, .int .u64 1000000000000000000, .int .u64 10000000000000000000] t frozen
      | o => o).modify 4 fun
      | .cells _ t frozen => .cells #[.int .u8 0, .int .u8 1, .int .u8 28, .int .u8 2, .int .u8 29, .int .u8 14, .int .u8 24, .int .u8 3, .int .u8 30, .int .u8 22, .int .u8 20, .int .u8 15, .int .u8 25, .int .u8 17, .int .u8 4, .int .u8 8, .int .u8 31, .int .u8 27, .int .u8 13, .int .u8 23, .int .u8 21, .int .u8 19, .int .u8 16, .int .u8 7, .int .u8 26, .int .u8 12, .int .u8 18, .int .u8 6, .int .u8 11, .int .u8 5, .int .u8 10, .int .u8 9] t frozen
      | o => o).modify 5 fun
      | .cells _ t frozen => .cells #[.int .u8 0, .int .u8 1, .int .u8 56, .int .u8 2, .int .u8 57, .int .u8 49, .int .u8 28, .int .u8 3, .int .u8 61, .int .u8 58, .int .u8 42, .int .u8 50, .int .u8 38, .int .u8 29, .int .u8 17, .int .u8 4, .int .u8 62, .int .u8 47, .int .u8 59, .int .u8 36, .int .u8 45, .int .u8 43, .int .u8 51, .int .u8 22, .int .u8 53, .int .u8 39, .int .u8 33, .int .u8 30, .int .u8 24, .int .u8 18, .int .u8 12, .int .u8 5, .int .u8 63, .int .u8 55, .int .u8 48, .int .u8 27, .int .u8 60, .int .u8 41, .int .u8 37, .int .u8 16, .int .u8 46, .int .u8 35, .int .u8 44, .int .u8 21, .int .u8 52, .int .u8 32, .int .u8 23, .int .u8 11, .int .u8 54, .int .u8 26, .int .u8 40, .int .u8 15, .int .u8 34, .int .u8 20, .int .u8 31, .int .u8 10, .int .u8 25, .int .u8 14, .int .u8 19, .int .u8 9, .int .u8 13, .int .u8 8, .int .u8 7, .int .u8 6] t frozen
      | o => o) }
theorem laid_met (os : Os) : laidMet Tryz.prog Rows.layoutCoversRow.laid ((laidWorld os).forCall (fun _ _ => 0) ⟨#[], #[.agg #[.int .i64 0, .int .i64 0, .int .i64 0, .string ⟨#[]⟩, .slice none 0 0, .slice none 0 0], .agg #[.int .i64 0, .int .i64 0, .int .i64 0, .int .i64 0]], []⟩).memory :=
  laidMet_of_run' 8 (by kernel_rfl) (by kernel_rfl)
theorem reads (os : Os) {H : Type} (enc : TypeId × Value → H) : ∃ places, DataW.whole enc Tryz.prog ((laidWorld os).forCall (fun _ _ => 0) ⟨#[], #[.agg #[.int .i64 0, .int .i64 0, .int .i64 0, .string ⟨#[]⟩, .slice none 0 0, .slice none 0 0], .agg #[.int .i64 0, .int .i64 0, .int .i64 0, .int .i64 0]], []⟩).memory Tryz.f10.params.toList Rows.layoutCoversSpec.vars false (#[.agg #[.int .i64 0, .int .i64 0, .int .i64 0, .string ⟨#[]⟩, .slice none 0 0, .slice none 0 0], .agg #[.int .i64 0, .int .i64 0, .int .i64 0, .int .i64 0]] : Array Value).toList 8 = some ([.agg [.lit (.int .i64 0), .agg [.lit (.int .i64 0), .lit (.int .i64 0)], .lit (.string []), .nil, .nil], .agg [.lit (.int .i64 0), .lit (.int .i64 0), .lit (.int .i64 0), .lit (.int .i64 0)]], [], places) :=
  ⟨[], by kernel_rfl⟩
set_option maxRecDepth 100000 in
theorem lifted (os : Os) (started : os.Started) (H : Type) (enc : TypeId × Value → H) (F : Stop.Interp) :
    ReturnsInHanded {} Tryz.checked os 10 .any ((OpenSpec.ofChange Rows.layoutCoversSpec).preRow enc Tryz.prog Tryz.f10 Rows.layoutCoversRow.domain false Rows.layoutCoversRow.laid) (((OpenSpec.ofChange Rows.layoutCoversSpec).at F).post enc Tryz.prog Tryz.f10 false true false false) := by
  obtain ⟨places, hx⟩ := reads os enc
  refine returnsInHanded_of_row (C := Tryz.checked) (s := (OpenSpec.ofChange Rows.layoutCoversSpec)) own started (by kernel_rfl) Tryz.func10
    (witness_row_at (enc := enc) (C := Tryz.checked) false (laidWorld os) #[.agg #[.int .i64 0, .int .i64 0, .int .i64 0, .string ⟨#[]⟩, .slice none 0 0, .slice none 0 0], .agg #[.int .i64 0, .int .i64 0, .int .i64 0, .int .i64 0]] rfl (by kernel_rfl) (by kernel_rfl) (by kernel_rfl)
      (OpenSpec.preRow_of_cond 8 hx (by kernel_rfl) (fun k hk => by cases hk) (by kernel_rfl) (laid_met os))) ?_
  intro W base args ds gs before hval hW _ _ _ hlaid _ _
  exact ziT (S := [27, 3, 23, 9, 24, 25, 29]) (zou) zpI (tb := 4) (by kernel_rfl) (by kernel_rfl) (by kernel_rfl) rfl
    (fun ds hd => by
      have hdn : ds.length = 2 := hd
      match ds, hdn with
      | [_, _], _ => rfl) laidB (by kernel_rfl) (by kernel_rfl) (fun _ l hl h _ => law l hl h) hval hW
theorem said : Rows.LayoutCoversSaid :=
  OpenClaim.holds_of_cond 10 Tryz.f10 rfl rfl rfl rfl rfl rfl rfl ⟨rfl, rfl, rfl, rfl, rfl⟩ rfl rfl rfl rfl rfl (by kernel_rfl) Tryz.func10 (by kernel_rfl)
    (of_decide_eq_true (by kernel_rfl)) (by unfold Func.isWrapper; first | (rw [if_pos (by decide +kernel)]; kernel_rfl) | (rw [if_neg (by decide +kernel)]; exact ⟨rfl, rfl⟩))
    (fun os started H enc _ F => by rw [OpenClaim.pre_eq_preRow]; exact lifted os started H enc F)
theorem nowant : (Tryz.f10.params.toList.all fun t => Tryz.prog.wantsStandIn t == false) = true := by kernel_rfl
theorem plain (f : FuncId) (fn : Func) (hf : Tryz.pinned.checked.prog.funcNamed "casement/casementlaw10.LayoutCovers" = some f) (hfn : Tryz.pinned.checked.prog.funcs[f]? = some fn) :
    true = Tryz.pinned.checked.prog.looks [] ∧ ∀ (j : Nat) t, fn.params[j]? = some t → Tryz.pinned.checked.prog.wantsStandIn t = false := by
  obtain rfl : f = 10 := Option.some.inj ((show Tryz.prog.funcNamed "casement/casementlaw10.LayoutCovers" = some 10 by kernel_rfl).symm.trans hf) |>.symm
  obtain rfl : fn = Tryz.f10 := (Option.some.inj (Tryz.func10.symm.trans hfn)).symm
  refine ⟨by kernel_rfl, fun j t ht => ?_⟩
  exact beq_iff_eq.1 (List.all_eq_true.1 nowant t (Array.mem_toList_iff.2 (Array.mem_of_getElem? ht)))
theorem holds : Rows.LayoutCoversCardSaid :=
  Claim7.holds_tied_plain_at .later [] _ _ _ _ said (fun _ h => by cases h) (by kernel_rfl) (fun _ h => by cases h) layoutCovers_row_tie rfl ⟨rfl, rfl⟩ (by kernel_rfl) rfl plain (by kernel_rfl)
#print axioms holds
end layoutCovers
end Go.Proofs.YtakdnfneikbjjaaGreatDoor
