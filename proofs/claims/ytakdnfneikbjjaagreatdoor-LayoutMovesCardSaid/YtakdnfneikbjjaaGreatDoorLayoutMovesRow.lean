/-
LayoutMoves answers true whatever its input; the input reads as it did.
-/
import Derived.Test.YtakdnfneikbjjaaGreatDoorAmLayoutMovesRow5
import Derived.ChangeReads
import Derived.ChangeArms
import Derived.Carry
import Derived.OpenShut
import Derived.ChangeSame
import Derived.RowKit
import Derived.Test.YtakdnfneikbjjaaGreatDoorCards
import Derived.Test.YtakdnfneikbjjaaGreatDoorTie
import Derived.WalkKit
import Derived.ProofKit
import Derived.Deep.DeepHandedRow
import Derived.Lib.LaidTab
set_option linter.all false
namespace Go.Proofs.YtakdnfneikbjjaaGreatDoor.Am.Lay10
open Go.Proofs.YtakdnfneikbjjaaGreatDoor.Am.T
def sumI : List Int → Int
  | [] => 0
  | x :: l => x + sumI l
theorem zfr : ∀ (l : List Int) (i : Nat) (v : Int) (h : i < l.length), sumI (l.set i v) = sumI l - l[i] + v
  | x :: l, 0, v, h => by simp only [List.set_cons_zero, sumI, List.getElem_cons_zero]; omega
  | x :: l, i + 1, v, h => by
    have := zfr l i v (by simpa using h)
    simp only [List.set_cons_succ, sumI, List.getElem_cons_succ, this]; omega
theorem zir : ∀ (l : List Int), (∀ x ∈ l, 1 ≤ x) → (l.length : Int) ≤ sumI l
  | [], _ => by simp [sumI]
  | x :: l, h => by
    have := zir l fun y hy => h y (.tail _ hy)
    have := h x (.head _)
    simp only [sumI, List.length_cons]; omega
theorem zla : ∀ (l : List Int), (∀ x ∈ l, 1 ≤ x) → ∀ x ∈ l, x ≤ sumI l
  | y :: l, h, x, hx => by
    have h1 := zir l fun y hy => h y (.tail _ hy)
    have h2 := h y (.head _)
    simp only [sumI]
    rcases List.mem_cons.1 hx with rfl | hx
    · omega
    · have := zla l (fun y hy => h y (.tail _ hy)) x hx; omega
theorem zjJ : ∀ (l : List Int), (∀ x ∈ l, x = 1) → sumI l = l.length
  | [], _ => rfl
  | x :: l, h => by
    have := zjJ l fun y hy => h y (.tail _ hy)
    have := h x (.head _)
    simp only [sumI, List.length_cons]; omega
theorem zcp {α : Type} {l : List α} {i : Nat} (h : i < l.length) : idx l (i : Int) = some l[i] := by
  unfold idx
  rw [if_pos (by omega), Int.toNat_natCast, List.getElem?_eq_getElem h]
theorem zfP {α : Type} {l : List α} {x : α} (h : l.length < 1000000) : app l [x] = some (l ++ [x]) := by
  unfold app
  rw [if_pos (by rw [zm2]; simp; omega)]
theorem zeG {α : Type} {l ks : List α} {k : α} {i : Nat} (hk : l.drop i = k :: ks) : ∃ h : i < l.length, l[i] = k ∧ l.drop (i + 1) = ks := by
  have hlt : i < l.length := by
    have := congrArg List.length hk
    simp at this; omega
  refine ⟨hlt, ?_, by rw [← List.drop_drop, hk]; rfl⟩
  have := List.drop_eq_getElem_cons hlt
  rw [hk] at this
  exact (List.cons.inj this).1.symm
def wT (total : Int) (s : Size) : Int := if s.Kind = 1 then s.N else if s.Kind = 2 then max (Int.tdiv (total * s.N) 100) 1 else 1
theorem zlb {total : Int} {s : Size} (h0 : 0 ≤ total) (h1 : total ≤ 200) (hs : sizeOK s) : 1 ≤ wT total s ∧ wT total s ≤ 200 := by
  unfold wT
  unfold sizeOK at hs
  split
  · omega
  · split
    · have hn : 1 ≤ s.N ∧ s.N ≤ 100 := by omega
      have e1 : total * s.N ≤ total * 100 := Int.mul_le_mul_of_nonneg_left hn.2 h0
      have e2 : 0 ≤ total * s.N := Int.mul_nonneg h0 (by omega)
      rw [Int.tdiv_eq_ediv_of_nonneg e2]
      omega
    · omega
theorem znV {total : Int} {s : Size} (h0 : 0 ≤ total) (h1 : total ≤ 200) (hs : sizeOK s) : zdk total s = some (wT total s) := by
  unfold zdk wT
  simp only [letB]
  unfold sizeOK at hs
  by_cases k1 : s.Kind = 1
  · rw [decide_eq_true k1, if_pos k1]; rfl
  · rw [decide_eq_false k1, if_neg k1]
    by_cases k2 : s.Kind = 2
    · have hn : 1 ≤ s.N ∧ s.N ≤ 100 := by omega
      have e1 : total * s.N ≤ total * 100 := Int.mul_le_mul_of_nonneg_left hn.2 h0
      have e2 : 0 ≤ total * s.N := Int.mul_nonneg h0 (by omega)
      rw [decide_eq_true k2, if_pos k2, zaH (n := total * s.N) (by omega) (by omega), Int.tdiv_eq_ediv_of_nonneg e2, zaH (by omega) (by omega)]
      rfl
    · rw [decide_eq_false k2, if_neg k2]; rfl
def flx : List Size → Nat → List Int
  | [], _ => []
  | s :: ss, i => if s.Kind = 0 then (i : Int) :: flx ss (i + 1) else flx ss (i + 1)
theorem zm4 : ∀ (ss : List Size) (i : Nat), (flx ss i).length ≤ ss.length
  | [], _ => Nat.le_refl _
  | s :: ss, i => by
    have := zm4 ss (i + 1)
    unfold flx
    split <;> simp only [List.length_cons] <;> omega
theorem zkI : ∀ (ss : List Size) (i : Nat) (x : Int), x ∈ flx ss i → (i : Int) ≤ x ∧ x < i + ss.length
  | s :: ss, i, x, h => by
    unfold flx at h
    simp only [List.length_cons]
    split at h
    · rcases List.mem_cons.1 h with rfl | h
      · omega
      · have := zkI ss (i + 1) x h; omega
    · have := zkI ss (i + 1) x h; omega
theorem zjK {total : Int} {sizes : List Size} (h0 : 0 ≤ total) (h1 : total ≤ 200) (hl : sizes.length ≤ 16) (hs : ∀ s ∈ sizes, sizeOK s) :
    ∀ (ss : List Size) (i : Nat) (out flex : List Int) (left : Int), sizes.drop i = ss → out.length = i → i + ss.length = sizes.length → flex.length ≤ i → -200 * i ≤ left → left ≤ 200 →
    iter (fun s => solve_Share_l1 total sizes s.1 s.2.1 s.2.2.1 s.2.2.2 : (List Int × List Int × Int × Int) → Option ((List Int × List Int × Int × Int) ⊕ (List Int × List Int × Int))) (out, flex, left, (i : Int)) = some (out ++ ss.map (wT total), flex ++ flx ss i, left - sumI (ss.map (wT total)))
  | [], i, out, flex, left, hd, ho, hi, hf, hb, hc => by
    refine zbH ?_
    simp only [solve_Share_l1, letB]
    rw [decide_eq_false (by simp only [List.length_nil] at hi; omega)]
    simp [flx, sumI]
  | s :: ss, i, out, flex, left, hd, ho, hi, hf, hb, hc => by
    obtain ⟨hlt, hget, hdrop⟩ := zeG hd
    simp only [List.length_cons] at hi
    have hso : sizeOK s := hs s (hget ▸ List.getElem_mem hlt)
    have hw := zlb h0 h1 hso
    have hidx : idx sizes (i : Int) = some s := by rw [zcp hlt, hget]
    have hidx2 : idx (out ++ [wT total s]) (i : Int) = some (wT total s) := by
      rw [zcp (by simp; omega)]
      simp [← ho]
    have key : solve_Share_l1 total sizes out flex left (i : Int) = some (.inl (out ++ [wT total s], (if s.Kind = 0 then flex ++ [(i : Int)] else flex), left - wT total s, ((i + 1 : Nat) : Int))) := by
      simp only [solve_Share_l1, letB]
      rw [decide_eq_true (show (i : Int) < (sizes.length : Int) by omega), zaH (n := (i : Int) + 1) (by omega) (by omega)]
      simp only [cond_true, hidx, Option.bind_some, znV h0 h1 hso, zfP (show out.length < 1000000 by omega), hidx2, zfP (show flex.length < 1000000 by omega), zaH (n := left - wT total s) (show _ ≤ _ by omega) (show _ ≤ _ by omega)]
      by_cases h : s.Kind = 0
      · rw [decide_eq_true h, if_pos h]; rfl
      · rw [decide_eq_false h, if_neg h]; rfl
    refine (zb3 key).trans ?_
    rw [zjK h0 h1 hl hs ss (i + 1) _ _ _ hdrop (by simp; omega) (by omega) (by split <;> (try simp) <;> omega) (by omega) (by omega)]
    simp only [List.map_cons, sumI, flx]
    congr 1
    refine Prod.ext ?_ (Prod.ext ?_ ?_)
    · simp
    · simp only; split <;> simp
    · simp only; omega
theorem zm5 {total : Int} {n : Nat} (hn : n ≤ 16) (hnt : (n : Int) ≤ total) (ht : total ≤ 200) :
    ∀ (m : Nat) (out : List Int) (left : Int), out.length = n → m ≤ n → (∀ x ∈ out, 1 ≤ x ∧ x ≤ 200) → sumI out + left = total → left ≤ 200 → (left < 0 → ∀ j, m ≤ j → ∀ h : j < out.length, out[j] = 1) →
    ∃ out' left', iter (fun s => solve_Share_l2 s.1 s.2.1 s.2.2 : (List Int × Int × Int) → Option ((List Int × Int × Int) ⊕ (List Int × Int))) (out, left, (m : Int) - 1) = some (out', left') ∧ 0 ≤ left' ∧ out'.length = n ∧ (∀ x ∈ out', 1 ≤ x ∧ x ≤ 200) ∧ sumI out' + left' = total := by
  intro m
  induction m with
  | zero =>
    intro out left ho hm hr hs hl2 ht2
    have hl : 0 ≤ left := by
      rcases Int.lt_or_le left 0 with h | h
      · have h1 := zjJ out fun x hx => by
          obtain ⟨j, hj, rfl⟩ := List.mem_iff_getElem.1 hx
          exact ht2 h j (Nat.zero_le _) hj
        omega
      · exact h
    refine ⟨out, left, zbH ?_, hl, ho, hr, hs⟩
    simp only [solve_Share_l2, letB]
    rw [decide_eq_false (by omega)]; rfl
  | succ m ih =>
    intro out left ho hm hr hs hl2 ht2
    have hex : 0 ≤ left → ∃ out' left', iter (fun s => solve_Share_l2 s.1 s.2.1 s.2.2 : (List Int × Int × Int) → Option ((List Int × Int × Int) ⊕ (List Int × Int))) (out, left, ((m + 1 : Nat) : Int) - 1) = some (out', left') ∧ 0 ≤ left' ∧ out'.length = n ∧ (∀ x ∈ out', 1 ≤ x ∧ x ≤ 200) ∧ sumI out' + left' = total := fun hl => by
      refine ⟨out, left, zbH ?_, hl, ho, hr, hs⟩
      simp only [solve_Share_l2, letB]
      rw [decide_eq_false (by omega)]; rfl
    rcases Int.lt_or_le left 0 with h | h
    · have hlt : m < out.length := by omega
      have hx := hr out[m] (List.getElem_mem hlt)
      have hsum : (-3200 : Int) ≤ left := by
        have : ∀ l : List Int, (∀ x ∈ l, 1 ≤ x ∧ x ≤ 200) → sumI l ≤ 200 * l.length := by
          intro l
          induction l with
          | nil => intro _; simp [sumI]
          | cons y l ih =>
            intro hl
            have h1 := ih fun z hz => hl z (.tail _ hz)
            have h2 := hl y (.head _)
            simp only [sumI, List.length_cons]; omega
        have := this out hr
        omega
      have hidx : idx out (m : Int) = some out[m] := zcp hlt
      generalize hless : min (out[m] - 1) (0 - left) = less
      have hl0 : 0 ≤ less ∧ less ≤ out[m] - 1 ∧ less ≤ 0 - left := by omega
      have key : solve_Share_l2 out left (((m + 1 : Nat) : Int) - 1) = some (.inl (out.set m (out[m] - less), left + less, (m : Int) - 1)) := by
        simp only [solve_Share_l2, letB]
        rw [decide_eq_true h, show ((m + 1 : Nat) : Int) - 1 = (m : Int) by omega]
        simp only [cond_true, hidx, Option.bind_some]
        rw [zaH (n := out[m] - 1) (by omega) (by omega), zaH (n := 0 - left) (by omega) (by omega), hless, zaH (n := out[m] - less) (by omega) (by omega), zaH (n := left + less) (by omega) (by omega), zaH (n := (m : Int) - 1) (by omega) (by omega)]
        unfold upI
        rw [Int.toNat_natCast]
      obtain ⟨out', left', e, r⟩ := ih (out.set m (out[m] - less)) (left + less) (by simp; omega) (by omega) (fun x hx => by
          rcases List.mem_or_eq_of_mem_set hx with hx | rfl
          · exact hr x hx
          · omega) (by rw [zfr out m _ hlt]; omega) (by omega) (fun hneg j hj hj2 => by
          by_cases hjm : j = m
          · subst hjm
            rw [List.getElem_set_self]
            omega
          · rw [List.getElem_set_ne (by omega)]
            exact ht2 h j (by omega) (by simpa using hj2))
      exact ⟨out', left', (zb3 key).trans e, r⟩
    · exact hex h
def give (left : Int) (k : Nat) (t : Nat) : Int := left / k + if (t : Int) < left % k then 1 else 0
def zdx (left : Int) (k : Nat) : Nat → Int
  | 0 => 0
  | t + 1 => zdx left k t + give left k t
theorem zis {left : Int} {k : Nat} (hk : 0 < k) (hl : 0 ≤ left) : ∀ t : Nat, t ≤ k → zdx left k t = t * (left / k) + min (t : Int) (left % k)
  | 0, _ => by
    have : 0 ≤ left % k := Int.emod_nonneg _ (by omega)
    simp only [zdx]; simp; omega
  | t + 1, h => by
    have h1 := zis hk hl t (by omega)
    simp only [zdx, give, h1]
    have e : ((t + 1 : Nat) : Int) * (left / k) = t * (left / k) + left / k := by rw [show ((t + 1 : Nat) : Int) = t + 1 by omega, Int.add_mul]; omega
    rw [e]
    split <;> omega
theorem zm6 {left : Int} {k : Nat} (hk : 0 < k) (hl : 0 ≤ left) : zdx left k k = left := by
  rw [zis hk hl k (Nat.le_refl _)]
  have h1 := Int.emod_lt_of_pos left (show (0 : Int) < k by omega)
  have h2 := Int.mul_ediv_add_emod left k
  omega
theorem zjL {j24 : List Int × List Int × Int} {j30 : List Int × Int} {n : Nat} (hn : n ≤ 16) (hfl : j24.2.1.length ≤ 16) (hfm : ∀ x ∈ j24.2.1, 0 ≤ x ∧ x < n) (hpos : 0 < j24.2.1.length) (hl0 : 0 ≤ j30.2) (hl1 : j30.2 ≤ 200) :
    ∀ (m t : Nat) (out : List Int), t + m = j24.2.1.length → out.length = n → (∀ x ∈ out, 1 ≤ x) → sumI out ≤ 200 + zdx j30.2 j24.2.1.length t → 0 ≤ zdx j30.2 j24.2.1.length t → zdx j30.2 j24.2.1.length t ≤ 400 →
    (∀ t', t ≤ t' → t' ≤ j24.2.1.length → 0 ≤ zdx j30.2 j24.2.1.length t' ∧ zdx j30.2 j24.2.1.length t' ≤ 400) →
    ∃ out', iter (fun s => solve_Share_l3 j24 j30 s.1 s.2 : (List Int × Int) → Option ((List Int × Int) ⊕ List Int)) (out, (t : Int)) = some out' ∧ out'.length = n ∧ (∀ x ∈ out', 1 ≤ x) ∧ sumI out' = sumI out + zdx j30.2 j24.2.1.length j24.2.1.length - zdx j30.2 j24.2.1.length t
  | 0, t, out, hm, ho, hr, hs, hg0, hg1, hg => by
    refine ⟨out, zbH ?_, ho, hr, by rw [show t = j24.2.1.length by omega]; omega⟩
    simp only [solve_Share_l3, letB]
    rw [decide_eq_false (by omega)]; rfl
  | m + 1, t, out, hm, ho, hr, hs, hg0, hg1, hg => by
    have hlt : t < j24.2.1.length := by omega
    have hx := hfm _ (List.getElem_mem hlt)
    obtain ⟨x, hxe⟩ : ∃ x : Nat, (x : Int) = j24.2.1[t] := ⟨j24.2.1[t].toNat, by omega⟩
    have hxn : x < out.length := by omega
    have hidx : idx j24.2.1 (t : Int) = some (x : Int) := by rw [zcp hlt, hxe]
    have hidx2 : idx out (x : Int) = some out[x] := zcp hxn
    have hox := hr _ (List.getElem_mem hxn)
    have hoy := zla out hr _ (List.getElem_mem hxn)
    have hreq : req (decide ((j24.2.1.length : Int) ≠ 0)) = some () := by rw [decide_eq_true (by omega)]; rfl
    have hk : (0 : Int) < (j24.2.1.length : Int) := by omega
    have hq : 0 ≤ j30.2 / (j24.2.1.length : Int) ∧ j30.2 / (j24.2.1.length : Int) ≤ 200 := ⟨Int.ediv_nonneg hl0 (by omega), Int.le_trans (Int.ediv_le_self _ hl0) hl1⟩
    have hgt := hg (t + 1) (by omega) (by omega)
    have hgive : 0 ≤ give j30.2 j24.2.1.length t ∧ give j30.2 j24.2.1.length t ≤ 201 := by unfold give; split <;> omega
    have key : solve_Share_l3 j24 j30 out (t : Int) = some (.inl (out.set x (out[x] + give j30.2 j24.2.1.length t), ((t + 1 : Nat) : Int))) := by
      simp only [solve_Share_l3, letB]
      rw [decide_eq_true (show (t : Int) < (j24.2.1.length : Int) by omega), zaH (n := (t : Int) + 1) (by omega) (by omega)]
      simp only [cond_true, hidx, Option.bind_some, hidx2, hreq, Int.tdiv_eq_ediv_of_nonneg hl0, Int.tmod_eq_emod_of_nonneg hl0]
      rw [zaH (n := j30.2 / (j24.2.1.length : Int)) (by omega) (by omega), zaH (n := out[x] + j30.2 / (j24.2.1.length : Int)) (by omega) (by omega)]
      have hset : idx (upI out (x : Int) (out[x] + j30.2 / (j24.2.1.length : Int))) (x : Int) = some (out[x] + j30.2 / (j24.2.1.length : Int)) := by
        unfold upI
        rw [Int.toNat_natCast, zcp (by simp; omega), List.getElem_set_self]
      unfold give
      by_cases hb : (t : Int) < j30.2 % (j24.2.1.length : Int)
      · rw [decide_eq_true hb, if_pos hb]
        simp only [cond_true, hset, Option.bind_some]
        rw [zaH (n := out[x] + j30.2 / (j24.2.1.length : Int) + 1) (by omega) (by omega)]
        unfold upI
        rw [Int.toNat_natCast, List.set_set, Int.add_assoc]
        rfl
      · rw [decide_eq_false hb, if_neg hb]
        simp only [cond_false, Option.bind_some]
        unfold upI
        rw [Int.toNat_natCast, Int.add_zero]
        rfl
    obtain ⟨out', e, r1, r2, r3⟩ := zjL hn hfl hfm hpos hl0 hl1 m (t + 1) (out.set x (out[x] + give j30.2 j24.2.1.length t)) (by omega) (by simp; omega) (fun y hy => by
        rcases List.mem_or_eq_of_mem_set hy with hy | rfl
        · exact hr y hy
        · omega) (by rw [zfr out x _ hxn]; simp only [zdx]; omega) hgt.1 hgt.2 (fun t' h1 h2 => hg t' (by omega) h2)
    refine ⟨out', (zb3 key).trans e, r1, r2, ?_⟩
    rw [r3, zfr out x _ hxn]
    simp only [zdx]
    omega
theorem zhc {sizes : List Size} (hl : sizes.length ≤ 16) (hs : ∀ s ∈ sizes, sizeOK s) : zaV sizes 57 = some false := by
  have loop : ∀ (ss : List Size) (i : Nat), sizes.drop i = ss → i + ss.length = sizes.length → iter (fun s => slices_IndexFunc_80_l1 sizes 57 s : Int → Option (Int ⊕ (Int ⊕ Unit))) (i : Int) = some (.inr ()) := by
    intro ss
    induction ss with
    | nil =>
      intro i hd hi
      refine zbH ?_
      simp only [slices_IndexFunc_80_l1, letB]
      rw [decide_eq_false (by simp only [List.length_nil] at hi; omega)]; rfl
    | cons s ss ih =>
      intro i hd hi
      obtain ⟨hlt, hget, hdrop⟩ := zeG hd
      simp only [List.length_cons] at hi
      have hso : sizeOK s := hs s (hget ▸ List.getElem_mem hlt)
      refine (zb3 (s' := ((i + 1 : Nat) : Int)) ?_).trans (ih (i + 1) hdrop (by omega))
      simp only [slices_IndexFunc_80_l1, letB]
      rw [decide_eq_true (show (i : Int) < (sizes.length : Int) by omega), zcp hlt, hget, zaH (n := (i : Int) + 1) (by omega) (by omega)]
      simp only [cond_true, Option.bind_some, zcn, zk9, if_pos hso, letB]
      rfl
  unfold zaV zbI
  rw [show (0 : Int) = ((0 : Nat) : Int) from rfl, loop sizes 0 rfl (by omega)]
  rfl
theorem zhT {total : Int} {sizes : List Size} (hn0 : 1 ≤ sizes.length) (hl : sizes.length ≤ 16) (hs : ∀ s ∈ sizes, sizeOK s) (h1 : total ≤ 200) (hlt : total < sizes.length) : zbJ total sizes = some ([], 90) := by
  unfold zbJ
  simp only [letB, zhc hl hs, Option.bind_some]
  rw [decide_eq_false (by omega), decide_eq_false (by omega), decide_eq_false (by omega), decide_eq_true hlt]
  rfl
theorem zlc {total : Int} {sizes : List Size} (hn0 : 1 ≤ sizes.length) (hl : sizes.length ≤ 16) (hs : ∀ s ∈ sizes, sizeOK s) (h1 : total ≤ 200) (hge : (sizes.length : Int) ≤ total) :
    ∃ l, zbJ total sizes = some (l, 0) ∧ l.length = sizes.length ∧ (∀ x ∈ l, 1 ≤ x) ∧ sumI l = total := by
  have hw : ∀ x ∈ sizes.map (wT total), 1 ≤ x ∧ x ≤ 200 := fun x hx => by
    obtain ⟨s, hm, rfl⟩ := List.mem_map.1 hx
    exact zlb (by omega) h1 (hs s hm)
  have e1 := zjK (by omega) h1 hl hs sizes 0 [] [] total rfl rfl (by omega) (Nat.le_refl _) (by omega) h1
  simp only [List.nil_append] at e1
  obtain ⟨out, left, e2, hl0, ho, hr, hsum⟩ := zm5 hl hge h1 sizes.length (sizes.map (wT total)) (total - sumI (sizes.map (wT total))) (by simp) (Nat.le_refl _) hw (by omega) (by have := zir _ fun x hx => (hw x hx).1; omega) (fun _ j hj h => by simp at h; omega)
  have hr1 : ∀ x ∈ out, 1 ≤ x := fun x hx => (hr x hx).1
  have hoge := zir out hr1
  have pre : zbJ total sizes = (letB (decide (((flx sizes 0).length : Int) = 0)) fun c31 =>
        bif c31 then (
          (idx out (w64 ((out.length : Int) - 1))).bind fun x33 =>
          (idx out (w64 ((out.length : Int) - 1))).bind fun x34 =>
          some (upI out (w64 ((out.length : Int) - 1)) (w64 (x33 + left)), 0))
        else (
          (iter (fun s => solve_Share_l3 (sizes.map (wT total), flx sizes 0, total - sumI (sizes.map (wT total))) (out, left) s.1 s.2 : (List Int × Int) → Option ((List Int × Int) ⊕ List Int)) (out, 0)).bind fun j48 =>
          some (j48, 0))) := by
    unfold zbJ
    simp only [letB, zhc hl hs, Option.bind_some]
    rw [decide_eq_false (by omega), decide_eq_false (by omega), decide_eq_false (by omega), decide_eq_false (by omega)]
    simp only [cond_false, Option.bind_some]
    rw [show (0 : Int) = ((0 : Nat) : Int) from rfl, e1]
    simp only [Option.bind_some]
    rw [show w64 (((sizes.map (wT total)).length : Int) - 1) = (sizes.length : Int) - 1 by rw [List.length_map, zaH (by omega) (by omega)], e2]
    rfl
  rw [pre]
  simp only [letB]
  by_cases hf : (flx sizes 0).length = 0
  · rw [decide_eq_true (by omega), zaH (n := (out.length : Int) - 1) (by omega) (by omega), show (out.length : Int) - 1 = ((out.length - 1 : Nat) : Int) by omega, zcp (by omega)]
    simp only [cond_true, Option.bind_some]
    have hlast : out.length - 1 < out.length := by omega
    have hb := hr _ (List.getElem_mem hlast)
    rw [zaH (by omega) (by omega)]
    unfold upI
    rw [Int.toNat_natCast]
    refine ⟨_, rfl, by simp; omega, fun x hx => ?_, ?_⟩
    · rcases List.mem_or_eq_of_mem_set hx with hx | rfl
      · exact hr1 x hx
      · omega
    · rw [zfr out _ _ hlast]; omega
  · rw [decide_eq_false (by omega)]
    simp only [cond_false]
    have hfl := zm4 sizes 0
    have hfp : 0 < (flx sizes 0).length := by omega
    have hg : ∀ t', 0 ≤ t' → t' ≤ (flx sizes 0).length → 0 ≤ zdx left (flx sizes 0).length t' ∧ zdx left (flx sizes 0).length t' ≤ 400 := fun t' _ ht => by
      rw [zis hfp hl0 t' ht]
      have a1 : 0 ≤ left % ((flx sizes 0).length : Int) := Int.emod_nonneg _ (by omega)
      have a2 : 0 ≤ left / ((flx sizes 0).length : Int) := Int.ediv_nonneg hl0 (by omega)
      have a3 : 0 ≤ (t' : Int) * (left / ((flx sizes 0).length : Int)) := Int.mul_nonneg (by omega) a2
      have a4 : (t' : Int) * (left / ((flx sizes 0).length : Int)) ≤ ((flx sizes 0).length : Int) * (left / ((flx sizes 0).length : Int)) := Int.mul_le_mul_of_nonneg_right (by omega) a2
      have a5 := Int.mul_ediv_add_emod left ((flx sizes 0).length : Int)
      omega
    have h0 := hg 0 (Nat.le_refl _) (by omega)
    obtain ⟨out', e3, r1, r2, r3⟩ := zjL (j24 := (sizes.map (wT total), flx sizes 0, total - sumI (sizes.map (wT total)))) (j30 := (out, left)) (n := sizes.length) hl (by show (flx sizes 0).length ≤ 16; omega) (fun x hx => by have := zkI sizes 0 x hx; omega) hfp hl0 (by show left ≤ 200; omega) (flx sizes 0).length 0 out (by show 0 + (flx sizes 0).length = (flx sizes 0).length; omega) ho hr1 (by show sumI out ≤ 200 + zdx left (flx sizes 0).length 0; simp only [zdx]; omega) h0.1 h0.2 hg
    rw [show (0 : Int) = ((0 : Nat) : Int) from rfl, e3]
    refine ⟨out', rfl, r1, r2, ?_⟩
    rw [r3]
    show sumI out + zdx left (flx sizes 0).length (flx sizes 0).length - zdx left (flx sizes 0).length 0 = total
    rw [zm6 hfp hl0]
    simp only [zdx]
    omega
end Go.Proofs.YtakdnfneikbjjaaGreatDoor.Am.Lay10

set_option linter.all false
namespace Go.Proofs.YtakdnfneikbjjaaGreatDoor.Am.Lay10
open Go.Proofs.YtakdnfneikbjjaaGreatDoor.Am.T
def Rok (r : Rect) : Prop := -5000 ≤ r.X ∧ 0 ≤ r.W ∧ r.W ≤ 200 ∧ r.X + r.W ≤ 5000 ∧ -5000 ≤ r.Y ∧ 0 ≤ r.H ∧ r.H ≤ 200 ∧ r.Y + r.H ≤ 5000
def Nice (r : Rect) : Prop := Rok r ∧ ((r.W = 0 ∨ r.H = 0) → r = ⟨0, 0, 0, 0⟩)
theorem zew {r : Rect} (h : Rok r) : cleanT r = if r.W = 0 ∨ r.H = 0 then ⟨0, 0, 0, 0⟩ else r := by
  obtain ⟨h1, h2, h3, h4, h5, h6, h7, h8⟩ := h
  unfold cleanT cl
  simp only
  have e1 : max (-5000) (min r.X 5000) = r.X := by omega
  have e2 : max (-5000) (min r.Y 5000) = r.Y := by omega
  rw [e1, e2]
  have e3 : max 0 (min r.W (min 200 (5000 - r.X))) = r.W := by omega
  have e4 : max 0 (min r.H (min 200 (5000 - r.Y))) = r.H := by omega
  rw [e3, e4]
theorem zbU (r : Rect) : Nice (cleanT r) := by
  unfold cleanT
  simp only
  have hx := zco (n := r.X) (show (-5000 : Int) ≤ 5000 by omega)
  have hy := zco (n := r.Y) (show (-5000 : Int) ≤ 5000 by omega)
  generalize cl r.X (-5000) 5000 = x at *
  generalize cl r.Y (-5000) 5000 = y at *
  have hw := zco (n := r.W) (show (0 : Int) ≤ min 200 (5000 - x) by omega)
  have hh := zco (n := r.H) (show (0 : Int) ≤ min 200 (5000 - y) by omega)
  split
  · exact ⟨⟨by decide, by decide, by decide, by decide, by decide, by decide, by decide, by decide⟩, fun _ => rfl⟩
  · rename_i h
    exact ⟨⟨hx.1, hw.1, by simp only; omega, by simp only; omega, hy.1, hh.1, by simp only; omega, by simp only; omega⟩, fun h2 => absurd h2 h⟩
theorem zbV {r : Rect} (h : Nice r) : cleanT r = r := by
  rw [zew h.1]
  split
  · rename_i h2; exact (h.2 h2).symm
  · rfl
def cutA (across : Bool) (r : Rect) (n : Int) : Rect := if across = true then { r with H := cl n 0 r.H } else { r with W := cl n 0 r.W }
def cutB (across : Bool) (r : Rect) (n : Int) : Rect := if across = true then { r with Y := r.Y + cl n 0 r.H, H := r.H - cl n 0 r.H } else { r with X := r.X + cl n 0 r.W, W := r.W - cl n 0 r.W }
def cutT (across : Bool) : Rect → List Int → List Rect
  | _, [] => []
  | r, n :: ns => cleanT (cutA across r n) :: cutT across (cutB across r n) ns
theorem zld (across : Bool) : ∀ (r : Rect) (ns : List Int), (cutT across r ns).length = ns.length
  | _, [] => rfl
  | r, n :: ns => by simp only [cutT, List.length_cons, zld across _ ns]
theorem znW {across : Bool} {r : Rect} {n : Int} (h : Rok r) : Rok (cutB across r n) := by
  obtain ⟨h1, h2, h3, h4, h5, h6, h7, h8⟩ := h
  have a := zco (n := n) h2
  have b := zco (n := n) h6
  unfold cutB Rok
  split <;> simp only <;> omega
theorem zle {across : Bool} {ns : List Int} (hl : ns.length ≤ 16) : ∀ (ms : List Int) (i : Nat) (out : List Rect) (r : Rect), ns.drop i = ms → out.length = i → i + ms.length = ns.length → Rok r →
    ∃ r', iter (fun s => rect_Cut_l1 across ns s.1 s.2.1 s.2.2 : (List Rect × Int × Rect) → Option ((List Rect × Int × Rect) ⊕ (List Rect × Rect))) (out, (i : Int), r) = some (out ++ cutT across r ms, r')
  | [], i, out, r, hd, ho, hi, hr => by
    refine ⟨r, zbH ?_⟩
    simp only [rect_Cut_l1, letB]
    rw [decide_eq_false (by simp only [List.length_nil] at hi; omega)]
    simp [cutT]
  | n :: ms, i, out, r, hd, ho, hi, hr => by
    obtain ⟨hlt, hget, hdrop⟩ := zeG hd
    simp only [List.length_cons] at hi
    obtain ⟨r', e⟩ := zle hl ms (i + 1) (out ++ [cleanT (cutA across r n)]) (cutB across r n) hdrop (by simp; omega) (by omega) (znW hr)
    refine ⟨r', (zb3 ?_).trans (e.trans ?_)⟩
    · obtain ⟨h1, h2, h3, h4, h5, h6, h7, h8⟩ := hr
      have a := zco (n := n) h2
      have b := zco (n := n) h6
      simp only [rect_Cut_l1, letB]
      rw [decide_eq_true (show (i : Int) < (ns.length : Int) by omega), zcp hlt, hget, zaH (n := (i : Int) + 1) (by omega) (by omega)]
      simp only [cond_true, Option.bind_some, zbh, zb4]
      unfold cl at a b
      cases across with
      | true =>
        rw [zaH (n := r.Y + max 0 (min n r.H)) (by omega) (by omega), zaH (n := r.H - max 0 (min n r.H)) (by omega) (by omega)]
        simp only [cond_true, Option.bind_some, zfP (show out.length < 1000000 by omega)]
        rfl
      | false =>
        rw [zaH (n := r.X + max 0 (min n r.W)) (by omega) (by omega), zaH (n := r.W - max 0 (min n r.W)) (by omega) (by omega)]
        simp only [cond_false, Option.bind_some, zfP (show out.length < 1000000 by omega)]
        rfl
    · simp [cutT]
theorem zoe {across : Bool} {r : Rect} {ns : List Int} (hl : ns.length ≤ 16) (hr : Nice r) : zeF r ns across = some (cutT across r ns) := by
  unfold zeF subB
  rw [zb4, zbV hr]
  simp only [Option.bind_some]
  rw [if_pos (by omega)]
  simp only [Option.bind_some]
  rw [show (min (ns.length : Int) 16).toNat = ns.length by omega, List.take_length]
  obtain ⟨r', e⟩ := zle (across := across) hl ns 0 [] r rfl rfl (by omega) hr.1
  rw [show (0 : Int) = ((0 : Nat) : Int) from rfl, e]
  simp
def addC (sp : List Spot) (c : Rect × Bool) : List Spot := sp ++ [⟨sp.length, c.1, 0, c.2⟩]
theorem znX (cs : List (Rect × Bool)) : ∀ sp : List Spot, (cs.foldl addC sp).length = sp.length + cs.length := by
  induction cs with
  | nil => intro sp; rfl
  | cons c cs ih => intro sp; rw [List.foldl_cons, ih]; simp [addC]; omega
theorem zlf {sp : List Spot} {r : Rect} {z : Int} {t : Bool} (h : sp.length < 1000000) : zaK ⟨sp⟩ r z t = some ⟨sp ++ [⟨sp.length, r, z, t⟩]⟩ := by
  unfold zaK
  rw [zfP h]; rfl
def stkT : Nat → Rect → List (Rect × Bool)
  | 0, r => [(cleanT r, false)]
  | k + 1, r => (cleanT { r with H := min 1 (max (r.H - 1) 0) }, true) :: stkT k { r with Y := r.Y + min 1 (max (r.H - 1) 0), H := r.H - min 1 (max (r.H - 1) 0) }
theorem zit : ∀ (k : Nat) (r : Rect), (stkT k r).length = k + 1
  | 0, _ => rfl
  | k + 1, r => by simp only [stkT, List.length_cons, zit k]
theorem zlg {xs : List Plan} (hl : xs.length ≤ 16) : ∀ (m i : Nat) (r : Rect) (sp : List Spot), i + m = xs.length → Rok r → sp.length + (m + 1) < 1000000 →
    ∃ r' sp', iter (fun s => layout_placer_layF_l8 xs s.1 s.2.1 s.2.2 : (Int × Rect × Placer) → Option ((Int × Rect × Placer) ⊕ (Rect × Placer))) ((i : Int), r, ⟨sp⟩) = some (r', ⟨sp'⟩) ∧ sp' ++ [⟨sp'.length, cleanT r', 0, false⟩] = (stkT m r).foldl addC sp ∧ sp'.length < 1000000
  | 0, i, r, sp, hi, hr, hs => by
    refine ⟨r, sp, zbH ?_, rfl, by omega⟩
    simp only [layout_placer_layF_l8, letB]
    rw [decide_eq_false (by omega)]; rfl
  | m + 1, i, r, sp, hi, hr, hs => by
    obtain ⟨h1, h2, h3, h4, h5, h6, h7, h8⟩ := hr
    obtain ⟨r', sp', e, e2, e3⟩ := zlg hl m (i + 1) { r with Y := r.Y + min 1 (max (r.H - 1) 0), H := r.H - min 1 (max (r.H - 1) 0) } (addC sp (cleanT { r with H := min 1 (max (r.H - 1) 0) }, true)) (by omega) (by unfold Rok; simp only; omega) (by simp [addC]; omega)
    refine ⟨r', sp', (zb3 ?_).trans e, e2, e3⟩
    simp only [layout_placer_layF_l8, letB]
    rw [decide_eq_true (show (i : Int) < (xs.length : Int) by omega), zaH (n := r.H - 1) (by omega) (by omega), zaH (n := (i : Int) + 1) (by omega) (by omega), zaH (n := r.Y + min 1 (max (r.H - 1) 0)) (by omega) (by omega), zaH (n := r.H - min 1 (max (r.H - 1) 0)) (by omega) (by omega)]
    simp only [cond_true, zb4, Option.bind_some, zlf (show sp.length < 1000000 by omega)]
    rfl
def Rt : Nat → Plan → Prop
  | 0, _ => False
  | d + 1, p => sizeOK p.Size ∧ (p.Kind = 1 ∨ (p.Kind ≠ 1 ∧ zf8 p ∧ 1 ≤ p.Kids.length ∧ p.Kids.length ≤ 16 ∧ ∀ k ∈ p.Kids, Rt d k ∧ (p.Kind = 4 → k.Kind = 1)))
def sumN : List Nat → Nat
  | [] => 0
  | x :: l => x + sumN l
def lv : Nat → Plan → Nat
  | 0, _ => 0
  | d + 1, p => if p.Kind = 1 then 1 else sumN (p.Kids.map (lv d))
theorem zhd {d : Nat} {q : Plan} (hd : ∀ k n n', 0 ≤ n → n ≤ 24 → mT d k n = (true, n') → Rt d k ∧ n' = n + lv d k) : ∀ (ks : List Plan) (n n' : Int), 0 ≤ n → n ≤ 24 → ziq (mT d) q ks n = (true, n') → (∀ k ∈ ks, Rt d k ∧ (q.Kind = 4 → k.Kind = 1)) ∧ n' = n + sumN (ks.map (lv d))
  | [], n, n', h0, h1, h => by
    unfold ziq at h
    cases h
    exact ⟨fun _ h => (by cases h), by simp [sumN]⟩
  | k :: ks, n, n', h0, h1, h => by
    unfold ziq at h
    split at h
    · cases h
    · rename_i h4
      split at h
      · rename_i hb
        have hr := zgm d k n h0 h1
        obtain ⟨a, b⟩ := hd k n (mT d k n).2 h0 h1 (Prod.ext hb rfl)
        have h4' := hr.2.2 hb
        have h5' := hr.1
        obtain ⟨c, e⟩ := zhd hd ks _ n' (by omega) h4' h
        refine ⟨fun x hx => ?_, ?_⟩
        · rcases List.mem_cons.1 hx with rfl | hx
          · exact ⟨a, fun h => Classical.byContradiction fun hh => h4 ⟨h, hh⟩⟩
          · exact c x hx
        · simp only [List.map_cons, sumN]; omega
      · cases h
theorem zlh : ∀ (d : Nat) (p : Plan) (n n' : Int), 0 ≤ n → n ≤ 24 → mT d p n = (true, n') → Rt d p ∧ n' = n + lv d p
  | 0, p, n, n', h0, h1, h => by cases h
  | d + 1, p, n, n', h0, h1, h => by
    unfold mT at h
    unfold Rt lv
    split at h
    · cases h
    · rename_i hs
      have hs : sizeOK p.Size := Classical.not_not.1 hs
      split at h
      · rename_i hk
        obtain ⟨_, rfl⟩ := Prod.mk.inj h
        rw [if_pos hk]
        exact ⟨⟨hs, .inl hk⟩, rfl⟩
      · rename_i hk
        split at h
        · cases h
        · rename_i hko
          have hko : zf8 p := Classical.not_not.1 hko
          split at h
          · cases h
          · rename_i hlen
            obtain ⟨a, b⟩ := zhd (zlh d) p.Kids n n' h0 h1 h
            rw [if_neg hk]
            exact ⟨⟨hs, .inr ⟨hk, hko, by omega, by omega, a⟩⟩, b⟩
noncomputable def lenT (total : Int) (sizes : List Size) : List Int := match zbJ total sizes with
  | some (l, e) => if e = 0 then l else List.replicate sizes.length 1
  | none => []
def totT (p : Plan) (r : Rect) : Int := if p.Kind = 3 then r.H else r.W
noncomputable def partsT (p : Plan) (r : Rect) : List Rect := cutT (decide (p.Kind = 3)) r (lenT (totT p r) (p.Kids.map Plan.Size))
noncomputable def layT : Nat → Plan → Rect → List (Rect × Bool)
  | 0, _, _ => []
  | d + 1, p, r => if p.Kind = 1 then [(r, false)] else if p.Kind = 4 then stkT (p.Kids.length - 1) r else (p.Kids.zip (partsT p r)).flatMap fun x => layT d x.1 x.2
theorem znY {total : Int} {sizes : List Size} (hn0 : 1 ≤ sizes.length) (hl : sizes.length ≤ 16) (hs : ∀ s ∈ sizes, sizeOK s) (h1 : total ≤ 200) : (lenT total sizes).length = sizes.length := by
  unfold lenT
  by_cases hlt : total < sizes.length
  · rw [zhT hn0 hl hs h1 hlt]; simp
  · obtain ⟨l, e, h2, _, _⟩ := zlc hn0 hl hs h1 (by omega)
    rw [e]; exact h2
theorem Rt.sizeOK {d : Nat} {p : Plan} (h : Rt d p) : sizeOK p.Size := by
  cases d with
  | zero => exact h.elim
  | succ d => exact h.1
theorem zm7 {p : Plan} {r : Rect} (hr : Nice r) : totT p r ≤ 200 := by
  obtain ⟨h1, h2, h3, h4, h5, h6, h7, h8⟩ := hr.1
  unfold totT; split <;> assumption
theorem zhU {d : Nat} {p : Plan} {r : Rect} (hr : Nice r) (hn0 : 1 ≤ p.Kids.length) (hl : p.Kids.length ≤ 16) (hk : ∀ k ∈ p.Kids, Rt d k) : (partsT p r).length = p.Kids.length := by
  unfold partsT
  rw [zld, znY (by simpa using hn0) (by simpa using hl) (fun s hm => by
    obtain ⟨k, h1, rfl⟩ := List.mem_map.1 hm
    exact (hk k h1).sizeOK) (zm7 hr), List.length_map]
theorem ziu : ∀ (d : Nat) (p : Plan) (r : Rect), Rt d p → Nice r → (layT d p r).length = lv d p
  | 0, p, r, h, hr => h.elim
  | d + 1, p, r, h, hr => by
    unfold layT lv
    obtain ⟨hs, h | ⟨hk, hko, hn0, hl, hks⟩⟩ := h
    · rw [if_pos h, if_pos h]; rfl
    · rw [if_neg hk, if_neg hk]
      by_cases h4 : p.Kind = 4
      · rw [if_pos h4, zit]
        have key : ∀ ks : List Plan, (∀ k ∈ ks, Rt d k ∧ k.Kind = 1) → sumN (ks.map (lv d)) = ks.length := by
          intro ks
          induction ks with
          | nil => intro _; rfl
          | cons k ks ih =>
            intro hh
            obtain ⟨a, b⟩ := hh k (.head _)
            simp only [List.map_cons, sumN, ih fun x hx => hh x (.tail _ hx), List.length_cons]
            cases d with
            | zero => exact a.elim
            | succ d => rw [lv, if_pos b]; omega
        rw [key _ fun k hm => ⟨(hks k hm).1, (hks k hm).2 h4⟩]; omega
      · rw [if_neg h4]
        have hpl := zhU hr hn0 hl fun k hm => (hks k hm).1
        have hnice : ∀ x ∈ partsT p r, Nice x := by
          unfold partsT
          generalize lenT _ _ = ns
          have : ∀ (ns : List Int) (r : Rect), ∀ x ∈ cutT (decide (p.Kind = 3)) r ns, Nice x := by
            intro ns
            induction ns with
            | nil => intro r x hx; cases hx
            | cons n ns ih =>
              intro r x hx
              rcases List.mem_cons.1 hx with rfl | hx
              · exact zbU _
              · exact ih _ x hx
          exact this ns r
        have key : ∀ (ks : List Plan) (ps : List Rect), ks.length = ps.length → (∀ k ∈ ks, Rt d k) → (∀ x ∈ ps, Nice x) → ((ks.zip ps).flatMap fun x => layT d x.1 x.2).length = sumN (ks.map (lv d)) := by
          intro ks
          induction ks with
          | nil => intro ps _ _ _; rfl
          | cons k ks ih =>
            intro ps hlen hk1 hp1
            cases ps with
            | nil => cases hlen
            | cons x ps =>
              simp only [List.zip_cons_cons, List.flatMap_cons, List.length_append, List.map_cons, sumN]
              rw [ziu d k x (hk1 k (.head _)) (hp1 x (.head _)), ih ps (by simpa using hlen) (fun y hy => hk1 y (.tail _ hy)) (fun y hy => hp1 y (.tail _ hy))]
        exact key _ _ hpl.symm (fun k hm => (hks k hm).1) hnice
theorem zhe (across : Bool) : ∀ (ns : List Int) (r : Rect), ∀ x ∈ cutT across r ns, Nice x
  | [], r, x, hx => by cases hx
  | n :: ns, r, x, hx => by
    rcases List.mem_cons.1 hx with rfl | hx
    · exact zbU _
    · exact zhe across ns _ x hx
theorem zhV {p : Plan} (hl : p.Kids.length ≤ 16) : ∀ (ks : List Plan) (i : Nat) (out : List Size), p.Kids.drop i = ks → out.length = i → i + ks.length = p.Kids.length →
    iter (fun s => layout_placer_splitF_l1 p s.1 s.2 : (List Size × Int) → Option ((List Size × Int) ⊕ List Size)) (out, (i : Int)) = some (out ++ ks.map Plan.Size)
  | [], i, out, hd, ho, hi => by
    refine zbH ?_
    simp only [layout_placer_splitF_l1, letB]
    rw [decide_eq_false (by simp only [List.length_nil] at hi; omega)]
    simp
  | k :: ks, i, out, hd, ho, hi => by
    obtain ⟨hlt, hget, hdrop⟩ := zeG hd
    simp only [List.length_cons] at hi
    refine (zb3 (s' := (out ++ [k.Size], ((i + 1 : Nat) : Int))) ?_).trans ((zhV hl ks (i + 1) _ hdrop (by simp; omega) (by omega)).trans (by simp))
    simp only [layout_placer_splitF_l1, letB]
    rw [decide_eq_true (show (i : Int) < (p.Kids.length : Int) by omega), zcp hlt, hget, zaH (n := (i : Int) + 1) (by omega) (by omega)]
    simp only [cond_true, Option.bind_some, zfP (show out.length < 1000000 by omega)]
    rfl
theorem zjM {x12 : List Int} (hl : x12.length ≤ 16) : ∀ (m i : Nat) (a : List Int), a.length = i → i + m = x12.length → a = List.replicate i 1 →
    iter (fun s => layout_placer_splitF_l3 x12 s.1 s.2 : (List Int × Int) → Option ((List Int × Int) ⊕ List Int)) (a ++ List.replicate m 0, (i : Int)) = some (List.replicate (i + m) 1)
  | 0, i, a, ha, hi, h => by
    refine zbH ?_
    simp only [layout_placer_splitF_l3, letB]
    rw [decide_eq_false (by omega)]
    simp [h]
  | m + 1, i, a, ha, hi, h => by
    have hlt : i < (a ++ List.replicate (m + 1) (0 : Int)).length := by simp; omega
    refine (zb3 (s' := ((a ++ [1]) ++ List.replicate m 0, ((i + 1 : Nat) : Int))) ?_).trans ((zjM hl m (i + 1) (a ++ [1]) (by simp; omega) (by omega) (by rw [h, List.replicate_succ'])).trans (by rw [show i + 1 + m = i + (m + 1) by omega]))
    simp only [layout_placer_splitF_l3, letB]
    rw [decide_eq_true (show (i : Int) < (x12.length : Int) by omega), zcp hlt, zaH (n := (i : Int) + 1) (by omega) (by omega)]
    simp only [cond_true, Option.bind_some]
    unfold upI
    rw [Int.toNat_natCast]
    have : (a ++ List.replicate (m + 1) (0 : Int)).set i 1 = (a ++ [1]) ++ List.replicate m 0 := by
      rw [List.set_append_right _ _ (by omega), ha, Nat.sub_self, List.replicate_succ, List.set_cons_zero]
      simp
    rw [this]; rfl
theorem zli {p : Plan} {d : Nat} {rec : Placer → Plan → Rect → Option Placer} {ys : List Rect} (hy : ys.length = p.Kids.length) (hl : p.Kids.length ≤ 16)
    (hrec : ∀ k ∈ p.Kids, ∀ x ∈ ys, ∀ sp : List Spot, sp.length + (layT d k x).length < 1000000 → rec ⟨sp⟩ k x = some ⟨(layT d k x).foldl addC sp⟩) :
    ∀ (zs : List (Plan × Rect)) (i : Nat) (sp : List Spot), (p.Kids.zip ys).drop i = zs → i + zs.length = p.Kids.length → sp.length + (zs.flatMap fun x => layT d x.1 x.2).length < 1000000 →
    iter (fun s => layout_placer_splitF_l4 p rec ys s.1 s.2 : (Int × Placer) → Option ((Int × Placer) ⊕ Placer)) ((i : Int), ⟨sp⟩) = some ⟨(zs.flatMap fun x => layT d x.1 x.2).foldl addC sp⟩
  | [], i, sp, hd, hi, hs => by
    refine zbH ?_
    simp only [layout_placer_splitF_l4, letB]
    rw [decide_eq_false (by simp only [List.length_nil] at hi; omega)]
    rfl
  | z :: zs, i, sp, hd, hi, hs => by
    obtain ⟨hlt, hget, hdrop⟩ := zeG hd
    simp only [List.length_cons] at hi
    have h1 : i < p.Kids.length := by omega
    have h2 : i < ys.length := by omega
    rw [List.getElem_zip] at hget
    subst hget
    simp only [List.flatMap_cons, List.length_append] at hs
    simp only [List.flatMap_cons, List.foldl_append]
    have hr := hrec _ (List.getElem_mem h1) _ (List.getElem_mem h2) sp (by omega)
    refine (zb3 (s' := (((i + 1 : Nat) : Int), ⟨(layT d p.Kids[i] ys[i]).foldl addC sp⟩)) ?_).trans (zli hy hl hrec zs (i + 1) _ hdrop (by omega) (by rw [znX]; omega))
    simp only [layout_placer_splitF_l4, letB]
    rw [decide_eq_true (show (i : Int) < (ys.length : Int) by omega), zcp h2, zcp h1, zaH (n := (i : Int) + 1) (by omega) (by omega)]
    simp only [cond_true, Option.bind_some, hr]
    rfl
theorem zof : ∀ (d m : Nat) (p : Plan) (r : Rect) (sp : List Spot), Rt d p → Nice r → 2 * d ≤ m → sp.length + (layT d p r).length < 1000000 →
    (zah m).1 ⟨sp⟩ p r = some ⟨(layT d p r).foldl addC sp⟩
  | 0, m, p, r, sp, h, hr, hm, hs => h.elim
  | d + 1, 0, p, r, sp, h, hr, hm, hs => by omega
  | d + 1, 1, p, r, sp, h, hr, hm, hs => by omega
  | d + 1, m + 2, p, r, sp, h, hr, hm, hs => by
    obtain ⟨hsz, h | ⟨hk, hko, hn0, hl, hks⟩⟩ := h
    · show zaP (zah (m + 1)).1 (zah (m + 1)).2 ⟨sp⟩ p r = _
      unfold zaP
      unfold layT at hs ⊢
      rw [if_pos h] at hs ⊢
      simp only [letB]
      rw [decide_eq_true h]
      simp only [cond_true, zlf (show sp.length < 1000000 by simp at hs; omega), Option.bind_some]
      rfl
    · show zaP (zah (m + 1)).1 (zah (m + 1)).2 ⟨sp⟩ p r = _
      unfold zaP
      simp only [letB]
      rw [decide_eq_false hk]
      by_cases h4 : p.Kind = 4
      · unfold layT at hs ⊢
        rw [if_neg hk, if_pos h4] at hs ⊢
        rw [zit] at hs
        rw [decide_eq_true h4]
        have hsub : subA p.Kids 1 = some (p.Kids.drop 1) := by
          unfold subA
          rw [if_pos (by omega)]; rfl
        obtain ⟨r', sp', e, e2, e3⟩ := zlg (xs := p.Kids.drop 1) (by simp; omega) (p.Kids.length - 1) 0 r sp (by simp) hr.1 (by omega)
        simp only [cond_true, cond_false, hsub, Option.bind_some]
        rw [show (0 : Int) = ((0 : Nat) : Int) from rfl, e]
        simp only [Option.bind_some, zb4]
        rw [show ((0 : Nat) : Int) = 0 from rfl, zlf e3]
        simp only [Option.bind_some]
        rw [e2]
      · rw [decide_eq_false h4]
        simp only [cond_false]
        have hsizes : ∀ s ∈ p.Kids.map Plan.Size, sizeOK s := fun s hm => by
          obtain ⟨k, h1, rfl⟩ := List.mem_map.1 hm
          exact (hks k h1).1.sizeOK
        have hpl := zhU hr hn0 hl fun k hm => (hks k hm).1
        unfold layT at hs ⊢
        rw [if_neg hk, if_neg h4] at hs ⊢
        have loop := zli (p := p) (d := d) (rec := (zah m).1) (ys := partsT p r) hpl hl (fun k hkm x hxm sp' hsp => zof d m k x sp' (hks k hkm).1 (zhe _ _ _ x hxm) (by omega) hsp) (p.Kids.zip (partsT p r)) 0 sp rfl (by rw [List.length_zip, hpl]; omega) hs
        have hsplit : (zah (m + 1)).2 ⟨sp⟩ p r = some ⟨((p.Kids.zip (partsT p r)).flatMap fun x => layT d x.1 x.2).foldl addC sp⟩ := by
          show zbe (zah m).1 (zah m).2 ⟨sp⟩ p r = _
          unfold zbe
          have htot : (bif decide (p.Kind = 3) then some r.H else some r.W : Option Int) = some (totT p r) := by
            unfold totT
            by_cases h3 : p.Kind = 3
            · rw [decide_eq_true h3, if_pos h3]; rfl
            · rw [decide_eq_false h3, if_neg h3]; rfl
          simp only [letB, htot, Option.bind_some]
          rw [show (0 : Int) = ((0 : Nat) : Int) from rfl, zhV hl p.Kids 0 [] rfl rfl (by omega)]
          simp only [Option.bind_some, List.nil_append, List.length_map]
          by_cases hlt : totT p r < (p.Kids.map Plan.Size).length
          · have hsh := zhT (total := totT p r) (by simpa using hn0) (by simpa using hl) hsizes (zm7 hr) hlt
            have hparts : partsT p r = cutT (decide (p.Kind = 3)) r (List.replicate p.Kids.length 1) := by
              unfold partsT lenT
              rw [hsh]; simp
            rw [hsh]
            simp only [Option.bind_some]
            have hmk : mkL (p.Kids.length : Int) (p.Kids.length : Int) (0 : Int) = some (List.replicate p.Kids.length 0) := by
              unfold mkL
              rw [if_pos (by rw [zm2]; omega), Int.toNat_natCast]
            rw [show decide ((90 : Int) ≠ ((0 : Nat) : Int)) = true by decide, show ((0 : Nat) : Int) = 0 from rfl, hmk]
            simp only [cond_true, Option.bind_some]
            have hones := zjM (x12 := List.replicate p.Kids.length 0) (by simpa using hl) p.Kids.length 0 [] rfl (by simp) rfl
            simp only [List.nil_append] at hones
            rw [show ((0 : Nat) : Int) = 0 from rfl] at hones loop
            rw [hones]
            simp only [Option.bind_some, Nat.zero_add]
            rw [zoe (by simpa using hl) hr]
            simp only [Option.bind_some]
            rw [← hparts, loop]
            rfl
          · obtain ⟨l, hsh, hll, _, _⟩ := zlc (total := totT p r) (by simpa using hn0) (by simpa using hl) hsizes (zm7 hr) (by omega)
            rw [List.length_map] at hll
            have hparts : partsT p r = cutT (decide (p.Kind = 3)) r l := by
              unfold partsT lenT
              rw [hsh]; simp
            rw [hsh]
            simp only [Option.bind_some]
            rw [show decide ((0 : Int) ≠ ((0 : Nat) : Int)) = false by decide]
            simp only [cond_false]
            rw [zoe (by omega) hr]
            simp only [Option.bind_some]
            rw [← hparts, show (fun s : Int × Placer => layout_placer_splitF_l5 p (zah m).1 (partsT p r) s.1 s.2) = (fun s => layout_placer_splitF_l4 p (zah m).1 (partsT p r) s.1 s.2) from rfl, loop]
            rfl
        rw [hsplit]
        rfl
end Go.Proofs.YtakdnfneikbjjaaGreatDoor.Am.Lay10

set_option linter.all false
namespace Go.Proofs.YtakdnfneikbjjaaGreatDoor.Am.Lay10
open Go.Proofs.YtakdnfneikbjjaaGreatDoor.Am.T
def zea : Nat → List (Rect × Bool) → List Spot
  | _, [] => []
  | b, c :: cs => ⟨b, c.1, 0, c.2⟩ :: zea (b + 1) cs
theorem zlj : ∀ (cs : List (Rect × Bool)) (sp : List Spot), cs.foldl addC sp = sp ++ zea sp.length cs
  | [], sp => by simp [zea]
  | c :: cs, sp => by rw [List.foldl_cons, zlj cs]; simp [addC, zea]
theorem zex : ∀ (cs : List (Rect × Bool)) (b : Nat), (zea b cs).length = cs.length
  | [], b => rfl
  | c :: cs, b => by simp only [zea, List.length_cons, zex cs]
theorem zhf : ∀ (cs : List (Rect × Bool)) (b i : Nat) (h : i < cs.length), (zea b cs)[i]? = some ⟨(b + i : Nat), cs[i].1, 0, cs[i].2⟩
  | c :: cs, b, 0, h => by simp [zea]
  | c :: cs, b, i + 1, h => by
    simp only [zea, List.getElem?_cons_succ, List.getElem_cons_succ]
    rw [zhf cs (b + 1) i (by simpa using h)]
    rw [show b + 1 + i = b + (i + 1) by omega]
theorem zog {a b : Int} (h1 : -1000000 ≤ a ∧ a ≤ 1000000) (h2 : -1000000 ≤ b ∧ b ≤ 1000000) : zeE a b = some (a + b) := by
  unfold zeE
  simp only [letB]
  rw [zaH (by omega) (by omega)]
  by_cases ha : a > 0
  · have hn : ¬ a < 0 := by omega
    by_cases hb : b > 0
    · rw [decide_eq_true ha, decide_eq_true hb, decide_eq_false (show ¬ a + b < 0 by omega), decide_eq_false hn]; rfl
    · rw [decide_eq_true ha, decide_eq_false hb, decide_eq_false hn]; rfl
  · by_cases hn : a < 0
    · by_cases hb : b < 0
      · rw [decide_eq_false ha, decide_eq_true hn, decide_eq_true hb, decide_eq_false (show ¬ a + b ≥ 0 by omega)]; rfl
      · rw [decide_eq_false ha, decide_eq_true hn, decide_eq_false hb]; rfl
    · rw [decide_eq_false ha, decide_eq_false hn]; rfl
def zhW (r : Rect) (dx dy : Int) : Rect := cleanT { cleanT r with X := (cleanT r).X + dx, Y := (cleanT r).Y + dy }
theorem ziv {r : Rect} {dx dy : Int} (h1 : -10000 ≤ dx ∧ dx ≤ 10000) (h2 : -10000 ≤ dy ∧ dy ≤ 10000) : zcE r dx dy = some (zhW r dx dy) := by
  unfold zcE zhW
  rw [zb4]
  obtain ⟨a1, a2, a3, a4, a5, a6, a7, a8⟩ := (zbU r).1
  simp only [Option.bind_some]
  rw [zog (by omega) (by omega)]
  simp only [Option.bind_some]
  rw [zog (by omega) (by omega)]
  simp only [Option.bind_some, zb4]
def zoK (a b : Rect) : Rect := cleanT ⟨cl a.X b.X (b.X + b.W - min a.W b.W), cl a.Y b.Y (b.Y + b.H - min a.H b.H), min a.W b.W, min a.H b.H⟩
theorem zoL {a b : Rect} (ha : Nice a) (hb : Nice b) : zeu a b = some (zoK a b) := by
  unfold zeu zoK
  rw [zb4, zb4, zbV ha, zbV hb]
  obtain ⟨a1, a2, a3, a4, a5, a6, a7, a8⟩ := ha.1
  obtain ⟨b1, b2, b3, b4, b5, b6, b7, b8⟩ := hb.1
  simp only [Option.bind_some, zbh]
  rw [zaH (n := b.X + b.W) (by omega) (by omega), zaH (n := b.Y + b.H) (by omega) (by omega), zaH (n := b.X + b.W - min a.W b.W) (by omega) (by omega), zaH (n := b.Y + b.H - min a.H b.H) (by omega) (by omega)]
  simp only [zb4, Option.bind_some]
  rfl
def fltT (r f : Rect) : Rect := zoK (zhW f r.X r.Y) r
def fltL (r : Rect) : List Rect → Nat → List Spot → List Spot
  | [], _, sp => sp
  | f :: fs, i, sp => fltL r fs (i + 1) (sp ++ [⟨sp.length, fltT r f, (i + 1 : Nat), false⟩])
theorem zlk {p : Plan} {r : Rect} (hr : Nice r) (hl : p.Float.length ≤ 24) : ∀ (fs : List Rect) (i : Nat) (sp : List Spot), p.Float.drop i = fs → i + fs.length = p.Float.length → sp.length + fs.length < 1000000 →
    iter (fun s => layout_Place_l1 p r s.1 s.2 : (Int × Placer) → Option ((Int × Placer) ⊕ Placer)) ((i : Int), ⟨sp⟩) = some ⟨fltL r fs i sp⟩
  | [], i, sp, hd, hi, hs => by
    refine zbH ?_
    simp only [layout_Place_l1, letB]
    rw [decide_eq_false (by simp only [List.length_nil] at hi; omega)]
    rfl
  | f :: fs, i, sp, hd, hi, hs => by
    obtain ⟨hlt, hget, hdrop⟩ := zeG hd
    simp only [List.length_cons] at hi hs
    obtain ⟨a1, a2, a3, a4, a5, a6, a7, a8⟩ := hr.1
    refine (zb3 (s' := (((i + 1 : Nat) : Int), ⟨sp ++ [⟨sp.length, fltT r f, (i + 1 : Nat), false⟩]⟩)) ?_).trans (zlk hr hl fs (i + 1) _ hdrop (by omega) (by simp; omega))
    simp only [layout_Place_l1, letB]
    rw [decide_eq_true (show (i : Int) < (p.Float.length : Int) by omega), zcp hlt, hget, zaH (n := (i : Int) + 1) (by omega) (by omega)]
    simp only [cond_true, Option.bind_some]
    rw [ziv (by omega) (by omega)]
    simp only [Option.bind_some]
    rw [zoL (show Nice (zhW f r.X r.Y) from zbU _) hr]
    simp only [Option.bind_some]
    rw [zlf (by omega)]
    rfl
def okP (p : Plan) : Prop := (mT 12 p 0).1 = true ∧ (p.Float.length : Int) ≤ 24 - (mT 12 p 0).2
theorem zjN {p : Plan} (h : okP p) : Rt 12 p ∧ (mT 12 p 0).2 = lv 12 p ∧ lv 12 p + p.Float.length ≤ 24 := by
  obtain ⟨h1, h2⟩ := h
  obtain ⟨a, b⟩ := zlh 12 p 0 (mT 12 p 0).2 (by omega) (by omega) (Prod.ext h1 rfl)
  exact ⟨a, by omega, by omega⟩
noncomputable def placeT (p : Plan) (r : Rect) : List Spot := fltL (cleanT r) p.Float 0 (zea 0 (layT 12 p (cleanT r)))
theorem zm8 {p : Plan} (h : ¬ okP p) (r : Rect) : zbE p r = some [] := by
  unfold zbE
  rw [zhS, if_neg (show ¬ (_ ∧ _) from h)]
  rfl
theorem znZ {p : Plan} (h : okP p) (r : Rect) : zbE p r = some (placeT p r) := by
  obtain ⟨h1, h2, h3⟩ := zjN h
  unfold zbE placeT
  rw [zhS, if_pos (show _ ∧ _ from h)]
  have hl := ziu 12 p (cleanT r) h1 (zbU r)
  have hlay := zof 12 30 p (cleanT r) [] h1 (zbU r) (by omega) (by simp; omega)
  simp only [Option.bind_some, letB, zb4, zcF]
  rw [hlay]
  have hloop := zlk (p := p) (zbU r) (by omega) p.Float 0 (zea 0 (layT 12 p (cleanT r))) rfl (by omega) (by rw [zex]; omega)
  simp only [Option.bind_some, zlj, List.nil_append, List.length_nil]
  rw [show (0 : Int) = ((0 : Nat) : Int) from rfl, hloop]
  rfl
end Go.Proofs.YtakdnfneikbjjaaGreatDoor.Am.Lay10

set_option linter.all false
namespace Go.Proofs.YtakdnfneikbjjaaGreatDoor.Am.Lay10
open Go.Proofs.YtakdnfneikbjjaaGreatDoor.Am.T
end Go.Proofs.YtakdnfneikbjjaaGreatDoor.Am.Lay10

set_option linter.all false
namespace Go.Proofs.YtakdnfneikbjjaaGreatDoor.Am.Lay10
open Go.Proofs.YtakdnfneikbjjaaGreatDoor.Am.T
def mv (dx dy : Int) (r : Rect) : Rect := { r with X := r.X + dx, Y := r.Y + dy }
def mvE (dx dy : Int) (r : Rect) : Rect := if r.W = 0 then r else mv dx dy r
def Mid (r : Rect) : Prop := -1000 ≤ r.X ∧ 0 ≤ r.W ∧ r.W ≤ 200 ∧ r.X + r.W ≤ 1200 ∧ -1000 ≤ r.Y ∧ 0 ≤ r.H ∧ r.H ≤ 200 ∧ r.Y + r.H ≤ 1200
theorem zn0 (r : Rect) : zcG r = some (decide ((cleanT r).W = 0)) := by
  unfold zcG
  rw [zb4]; rfl
theorem Mid.rok {r : Rect} (h : Mid r) : Rok r := by unfold Mid at h; unfold Rok; omega
section
variable {dx dy : Int}
theorem Mid.mv {r : Rect} (hx : -1000 ≤ dx ∧ dx ≤ 1000) (hy : -1000 ≤ dy ∧ dy ≤ 1000) (h : Mid r) : Rok (mv dx dy r) := by unfold Mid at h; unfold Rok Lay10.mv; simp only; omega
theorem zoM (r : Rect) : (mvE dx dy r).W = r.W := by unfold mvE; split <;> rfl
theorem zpo (r : Rect) : (mvE dx dy r).H = r.H := by unfold mvE; split <;> rfl
theorem zfs {r : Rect} (hx : -1000 ≤ dx ∧ dx ≤ 1000) (hy : -1000 ≤ dy ∧ dy ≤ 1000) (h : Mid r) : cleanT (mv dx dy r) = mvE dx dy (cleanT r) := by
  rw [zew h.rok, zew (h.mv hx hy)]
  by_cases hz : r.W = 0 ∨ r.H = 0
  · rw [if_pos hz, if_pos (show (mv dx dy r).W = 0 ∨ (mv dx dy r).H = 0 from hz)]; rfl
  · rw [if_neg hz, if_neg (show ¬ ((mv dx dy r).W = 0 ∨ (mv dx dy r).H = 0) from hz)]
    unfold mvE
    rw [if_neg fun h => hz (.inl h)]
theorem zjO {r : Rect} (h : Mid r) : Mid (cleanT r) := by
  rw [zew h.rok]
  split
  · unfold Mid; simp only; omega
  · exact h
theorem zjP {r : Rect} (hx : -1000 ≤ dx ∧ dx ≤ 1000) (hy : -1000 ≤ dy ∧ dy ≤ 1000) (h : Mid r) (hn : Nice r) : cleanT (mvE dx dy r) = mvE dx dy r := by
  by_cases hw : r.W = 0
  · have e : mvE dx dy r = r := by unfold mvE; rw [if_pos hw]
    rw [e, zbV hn]
  · have e : mvE dx dy r = mv dx dy r := by unfold mvE; rw [if_neg hw]
    rw [e, zfs hx hy h, zbV hn, e]
theorem zoN {across : Bool} {r : Rect} {n : Int} : cutA across (mv dx dy r) n = mv dx dy (cutA across r n) := by cases across <;> rfl
theorem zoO {across : Bool} {r : Rect} {n : Int} : cutB across (mv dx dy r) n = mv dx dy (cutB across r n) := by
  cases across <;> simp only [cutB, mv, if_true, Bool.false_eq_true, if_false, Rect.mk.injEq, true_and, and_true] <;> omega
theorem cl0 {n h : Int} (hh : 0 ≤ h) : 0 ≤ cl n 0 h ∧ cl n 0 h ≤ h := zco hh
theorem ziw {across : Bool} {r : Rect} {n : Int} (h : Mid r) : Mid (cutA across r n) := by
  obtain ⟨a1, a2, a3, a4, a5, a6, a7, a8⟩ := h
  have h1 := cl0 (n := n) a2
  have h2 := cl0 (n := n) a6
  cases across <;> simp only [cutA, if_true, Bool.false_eq_true, if_false, Mid] <;> omega
theorem zix {across : Bool} {r : Rect} {n : Int} (h : Mid r) : Mid (cutB across r n) := by
  obtain ⟨a1, a2, a3, a4, a5, a6, a7, a8⟩ := h
  have h1 := cl0 (n := n) a2
  have h2 := cl0 (n := n) a6
  cases across <;> simp only [cutB, if_true, Bool.false_eq_true, if_false, Mid] <;> omega
theorem zm9 {across : Bool} (hx : -1000 ≤ dx ∧ dx ≤ 1000) (hy : -1000 ≤ dy ∧ dy ≤ 1000) : ∀ (ns : List Int) (r : Rect), Mid r → cutT across (mv dx dy r) ns = (cutT across r ns).map (mvE dx dy)
  | [], _, _ => rfl
  | n :: ns, r, h => by
    unfold cutT
    rw [zoN, zoO, zfs hx hy (ziw h), zm9 hx hy ns _ (zix h)]
    rfl
theorem ziy {across : Bool} : ∀ (ns : List Int) (r : Rect), Mid r → ∀ x ∈ cutT across r ns, Mid x
  | [], _, _, x, hx => by cases hx
  | n :: ns, r, h, x, hx => by
    unfold cutT at hx
    rcases List.mem_cons.1 hx with rfl | hx
    · exact zjO (ziw h)
    · exact ziy ns _ (zix h) x hx
theorem zll {r : Rect} (h : r.W = 0) (hr : Rok r) : (cleanT r).W = 0 := by rw [zew hr, if_pos (.inl h)]
theorem zna {across : Bool} : ∀ (ns : List Int) (r : Rect), Mid r → r.W = 0 → ∀ x ∈ cutT across r ns, x.W = 0
  | [], _, _, _, x, hx => by cases hx
  | n :: ns, r, h, hw, x, hx => by
    unfold cutT at hx
    have c0 : cl n 0 0 = 0 := by unfold cl; omega
    rcases List.mem_cons.1 hx with rfl | hx
    · refine zll ?_ (ziw h).rok
      cases across
      · simp only [cutA, Bool.false_eq_true, if_false, hw, c0]
      · exact hw
    · refine zna ns _ (zix h) ?_ x hx
      cases across
      · simp only [cutB, Bool.false_eq_true, if_false, hw, c0]; rfl
      · exact hw
theorem znb {xs : List Rect} (h : ∀ x ∈ xs, x.W = 0) : xs.map (mvE dx dy) = xs := by
  rw [List.map_congr_left (g := id) fun x hx => by unfold mvE; rw [if_pos (h x hx)]; rfl]
  simp
theorem zn1 {across : Bool} (hx : -1000 ≤ dx ∧ dx ≤ 1000) (hy : -1000 ≤ dy ∧ dy ≤ 1000) (ns : List Int) {r : Rect} (h : Mid r) : cutT across (mvE dx dy r) ns = (cutT across r ns).map (mvE dx dy) := by
  by_cases hw : r.W = 0
  · rw [znb (zna ns r h hw)]
    unfold mvE; rw [if_pos hw]
  · rw [← zm9 hx hy ns r h]
    unfold mvE; rw [if_neg hw]
def mvC (dx dy : Int) (c : Rect × Bool) : Rect × Bool := (mvE dx dy c.1, c.2)
theorem znc (hx : -1000 ≤ dx ∧ dx ≤ 1000) (hy : -1000 ≤ dy ∧ dy ≤ 1000) : ∀ (k : Nat) (r : Rect), Mid r → stkT k (mv dx dy r) = (stkT k r).map (mvC dx dy)
  | 0, r, h => by
    show [(cleanT (mv dx dy r), false)] = [(mvE dx dy (cleanT r), false)]
    rw [zfs hx hy h]
  | k + 1, r, h => by
    obtain ⟨a1, a2, a3, a4, a5, a6, a7, a8⟩ := h
    have m1 : Mid { r with H := min 1 (max (r.H - 1) 0) } := ⟨a1, a2, a3, a4, a5, by simp only; omega, by simp only; omega, by simp only; omega⟩
    have m2 : Mid { r with Y := r.Y + min 1 (max (r.H - 1) 0), H := r.H - min 1 (max (r.H - 1) 0) } := ⟨a1, a2, a3, a4, by simp only; omega, by simp only; omega, by simp only; omega, by simp only; omega⟩
    unfold stkT
    simp only [List.map_cons, mvC]
    rw [← zfs hx hy m1, ← znc hx hy k _ m2]
    congr 2
    simp only [mv, Rect.mk.injEq, true_and, and_true]
    omega
theorem ziz {Q : Rect → Prop} : ∀ (k : Nat) (r : Rect), Mid r → (∀ x : Rect, Mid x → x.W = r.W → Q (cleanT x)) → ∀ c ∈ stkT k r, Q c.1
  | 0, r, h, hq, c, hc => by
    obtain rfl := List.mem_singleton.1 hc
    exact hq r h rfl
  | k + 1, r, h, hq, c, hc => by
    obtain ⟨a1, a2, a3, a4, a5, a6, a7, a8⟩ := h
    have m1 : Mid { r with H := min 1 (max (r.H - 1) 0) } := ⟨a1, a2, a3, a4, a5, by simp only; omega, by simp only; omega, by simp only; omega⟩
    have m2 : Mid { r with Y := r.Y + min 1 (max (r.H - 1) 0), H := r.H - min 1 (max (r.H - 1) 0) } := ⟨a1, a2, a3, a4, by simp only; omega, by simp only; omega, by simp only; omega, by simp only; omega⟩
    unfold stkT at hc
    rcases List.mem_cons.1 hc with rfl | hc
    · exact hq _ m1 rfl
    · exact ziz k _ m2 hq c hc
theorem zn2 (hx : -1000 ≤ dx ∧ dx ≤ 1000) (hy : -1000 ≤ dy ∧ dy ≤ 1000) (k : Nat) {r : Rect} (h : Mid r) : stkT k (mvE dx dy r) = (stkT k r).map (mvC dx dy) := by
  by_cases hw : r.W = 0
  · have : (stkT k r).map (mvC dx dy) = stkT k r := by
      have hz := ziz (Q := fun x => x.W = 0) k r h fun x hm e => zll (e.trans hw) hm.rok
      rw [List.map_congr_left (g := id) fun c hc => by unfold mvC mvE; rw [if_pos (hz c hc)]; rfl]
      simp
    rw [this]
    unfold mvE; rw [if_pos hw]
  · rw [← znc hx hy k r h]
    unfold mvE; rw [if_neg hw]
theorem zoh {d : Nat} : ∀ (ks : List Plan) (xs : List Rect), (∀ k ∈ ks, ∀ x ∈ xs, layT d k (mvE dx dy x) = (layT d k x).map (mvC dx dy)) → (ks.zip (xs.map (mvE dx dy))).flatMap (fun x => layT d x.1 x.2) = ((ks.zip xs).flatMap fun x => layT d x.1 x.2).map (mvC dx dy)
  | [], xs, _ => by simp
  | k :: ks, [], _ => rfl
  | k :: ks, x :: xs, h => by
    simp only [List.map_cons, List.zip_cons_cons, List.flatMap_cons, List.map_append]
    rw [h k (.head _) x (.head _), zoh ks xs fun k' hk x' hx => h k' (.tail _ hk) x' (.tail _ hx)]
theorem znd (hx : -1000 ≤ dx ∧ dx ≤ 1000) (hy : -1000 ≤ dy ∧ dy ≤ 1000) : ∀ (d : Nat) (p : Plan) (r : Rect), Mid r → layT d p (mvE dx dy r) = (layT d p r).map (mvC dx dy)
  | 0, _, _, _ => rfl
  | d + 1, p, r, h => by
    unfold layT
    by_cases h1 : p.Kind = 1
    · rw [if_pos h1, if_pos h1]; rfl
    · rw [if_neg h1, if_neg h1]
      by_cases h4 : p.Kind = 4
      · rw [if_pos h4, if_pos h4, zn2 hx hy _ h]
      · rw [if_neg h4, if_neg h4]
        have ht : totT p (mvE dx dy r) = totT p r := by unfold totT; rw [zoM, zpo]
        have hp : partsT p (mvE dx dy r) = (partsT p r).map (mvE dx dy) := by
          unfold partsT
          rw [ht, zn1 hx hy _ h]
        rw [hp]
        refine zoh _ _ fun k _ x hm => znd hx hy d k x ?_
        unfold partsT at hm
        exact ziy _ r h x hm
theorem zne : ∀ (d : Nat) (p : Plan) (r : Rect), Mid r → Nice r → ∀ c ∈ layT d p r, Mid c.1 ∧ Nice c.1
  | 0, _, _, _, _, c, hc => by cases hc
  | d + 1, p, r, h, hn, c, hc => by
    unfold layT at hc
    split at hc
    · obtain rfl := List.mem_singleton.1 hc
      exact ⟨h, hn⟩
    · split at hc
      · exact ziz (Q := fun x => Mid x ∧ Nice x) _ r h (fun x hm _ => ⟨zjO hm, zbU x⟩) c hc
      · obtain ⟨z, hz, hc⟩ := List.mem_flatMap.1 hc
        have hz2 := (List.of_mem_zip hz).2
        unfold partsT at hz2
        exact zne d z.1 z.2 (ziy _ r h _ hz2) (zhe _ _ _ _ hz2) c hc
theorem zjQ {a : Rect} (hx : -1000 ≤ dx ∧ dx ≤ 1000) (hy : -1000 ≤ dy ∧ dy ≤ 1000) (h : Mid a) (hn : Nice a) : zhW a dx dy = mvE dx dy a := by
  unfold zhW
  rw [zbV hn]
  exact (zfs hx hy h).trans (by rw [zbV hn])
theorem zfQ (hx : -1000 ≤ dx ∧ dx ≤ 1000) (hy : -1000 ≤ dy ∧ dy ≤ 1000) {cs : List (Rect × Bool)} (hl : cs.length < 1000000) (hc : ∀ c ∈ cs, Mid c.1 ∧ Nice c.1) :
    ∀ (m i : Nat), i + m = cs.length → iter (fun s => casementlaw10_LayoutMoves_l1 dx dy (zea 0 cs) (zea 0 (cs.map (mvC dx dy))) s : Int → Option (Int ⊕ (Unit ⊕ Unit))) (i : Int) = some (.inr ())
  | 0, i, hi => by
    refine zbH ?_
    simp only [casementlaw10_LayoutMoves_l1, letB]
    rw [decide_eq_false (by rw [zex]; omega)]; rfl
  | m + 1, i, hi => by
    refine (zb3 (s' := ((i + 1 : Nat) : Int)) ?_).trans (zfQ hx hy hl hc m (i + 1) (by omega))
    have hlt : i < cs.length := by omega
    obtain ⟨hm, hn⟩ := hc _ (List.getElem_mem hlt)
    have h1 : idx (zea 0 cs) (i : Int) = some ⟨(i : Int), cs[i].1, 0, cs[i].2⟩ := by
      unfold idx
      rw [if_pos (by omega), Int.toNat_natCast, zhf _ _ _ hlt]
      simp
    have h2 : idx (zea 0 (cs.map (mvC dx dy))) (i : Int) = some ⟨(i : Int), mvE dx dy cs[i].1, 0, cs[i].2⟩ := by
      unfold idx
      rw [if_pos (by omega), Int.toNat_natCast, zhf _ _ _ (by simpa using hlt)]
      simp [mvC]
    simp only [casementlaw10_LayoutMoves_l1, letB]
    rw [decide_eq_true (by rw [zex]; omega), zaH (n := (i : Int) + 1) (by omega) (by omega)]
    simp only [cond_true, h1, h2, Option.bind_some, zn0, zbV hn, zjP hx hy hm hn, zoM]
    rw [ziv (by omega) (by omega), zjQ hx hy hm hn]
    cases hd : decide (cs[i].1.W = 0) <;> simp [zoM]
end
theorem zlX (p : Plan) (r : Rect) (dx dy : Int) : za1 p r dx dy = some true := by
  unfold za1 zcc
  simp only [Option.bind_some, letB, Bool.not_true, cond_false, zb4, or_s]
  generalize hg : or _ _ = g
  cases g with
  | true => rfl
  | false =>
    simp only [Bool.or_eq_false_iff, decide_eq_false_iff_not] at hg
    obtain ⟨⟨⟨⟨⟨⟨⟨⟨⟨g1, g2⟩, g3⟩, g4⟩, g5⟩, g6⟩, g7⟩, g8⟩, g9⟩, g10⟩ := hg
    have hn := zbU r
    generalize cleanT r = q at *
    obtain ⟨a1, a2, a3, a4, a5, a6, a7, a8⟩ := hn.1
    have hx : -1000 ≤ dx ∧ dx ≤ 1000 := by omega
    have hy : -1000 ≤ dy ∧ dy ≤ 1000 := by omega
    have hm : Mid q := by unfold Mid; omega
    simp only [cond_false, ziv (show -10000 ≤ dx ∧ dx ≤ 10000 by omega) (show -10000 ≤ dy ∧ dy ≤ 10000 by omega), zjQ hx hy hm hn]
    by_cases hok : okP p
    · have hf : p.Float = [] := List.length_eq_zero_iff.1 (by omega)
      have e1 : placeT p q = zea 0 (layT 12 p q) := by unfold placeT; rw [hf, zbV hn]; rfl
      have e2 : placeT p (mvE dx dy q) = zea 0 ((layT 12 p q).map (mvC dx dy)) := by unfold placeT; rw [hf, zjP hx hy hm hn, znd hx hy 12 p q hm]; rfl
      obtain ⟨hR, _, hlv⟩ := zjN hok
      have hlen := ziu 12 p q hR hn
      have hloop := zfQ hx hy (cs := layT 12 p q) (by omega) (zne 12 p q hm hn) _ 0 (Nat.zero_add _)
      simp only [znZ hok, Option.bind_some, e1, e2, zex, List.length_map]
      simp only [show ((0 : Nat) : Int) = 0 from rfl] at hloop
      rw [hloop]
      simp
    · have hloop := zfQ hx hy (cs := []) (by simp) (fun c hc => by cases hc) 0 0 rfl
      simp only [zm8 hok, Option.bind_some]
      simp only [show ((0 : Nat) : Int) = 0 from rfl, zea, List.map_nil] at hloop
      rw [hloop]
      simp
end Go.Proofs.YtakdnfneikbjjaaGreatDoor.Am.Lay10

set_option linter.all false
namespace Go.Proofs.YtakdnfneikbjjaaGreatDoor.Am.Lay10
open Go.Proofs.YtakdnfneikbjjaaGreatDoor.Am.T
def Ins (a r : Rect) : Prop := a.W = 0 ∨ (r.X ≤ a.X ∧ a.X + a.W ≤ r.X + r.W ∧ r.Y ≤ a.Y ∧ a.Y + a.H ≤ r.Y + r.H)
def Dis (a b : Rect) : Prop := a.W = 0 ∨ b.W = 0 ∨ a.X + a.W ≤ b.X ∨ b.X + b.W ≤ a.X ∨ a.Y + a.H ≤ b.Y ∨ b.Y + b.H ≤ a.Y
def Sub (a r : Rect) : Prop := r.X ≤ a.X ∧ a.X + a.W ≤ r.X + r.W ∧ r.Y ≤ a.Y ∧ a.Y + a.H ≤ r.Y + r.H
theorem zpp {r : Rect} (h : Nice r) (hw : r.W = 0) : r = ⟨0, 0, 0, 0⟩ := h.2 (.inl hw)
theorem Nice.hpos {r : Rect} (h : Nice r) (hw : r.W ≠ 0) : 1 ≤ r.W ∧ 1 ≤ r.H := by
  obtain ⟨a1, a2, a3, a4, a5, a6, a7, a8⟩ := h.1
  refine ⟨by omega, ?_⟩
  by_cases hh : r.H = 0
  · have := h.2 (.inr hh)
    rw [this] at hw
    exact absurd rfl hw
  · omega
theorem Ins.trans {a b c : Rect} (h : Ins a b) (hs : Sub b c) : Ins a c := by
  unfold Sub at hs
  rcases h with h | h
  · exact .inl h
  · exact .inr (by omega)
theorem Ins.zero {a b : Rect} (h : Ins a b) (ha : Nice a) (hb : Nice b) (hz : b.W = 0) : a.W = 0 := by
  have hb := zpp hb hz
  subst hb
  obtain ⟨a1, a2, a3, a4, a5, a6, a7, a8⟩ := ha.1
  rcases h with h | h
  · exact h
  · simp only at h; omega
theorem Dis.mono {a b x y : Rect} (ha : Nice a) (hb : Nice b) (hx : Nice x) (hy : Nice y) (h1 : Ins a x) (h2 : Ins b y) (h : Dis x y) : Dis a b := by
  by_cases hxz : x.W = 0
  · exact .inl (h1.zero ha hx hxz)
  by_cases hyz : y.W = 0
  · exact .inr (.inl (h2.zero hb hy hyz))
  rcases h1 with h1 | h1
  · exact .inl h1
  rcases h2 with h2 | h2
  · exact .inr (.inl h2)
  unfold Dis at *
  omega
theorem zaY {α : Type} {l : List α} {k : Nat} {s : α} (h : l[k]? = some s) : idx l (k : Int) = some s := by
  unfold idx
  rw [if_pos (by omega), Int.toNat_natCast, h]
end Go.Proofs.YtakdnfneikbjjaaGreatDoor.Am.Lay10

namespace Go.Proofs.YtakdnfneikbjjaaGreatDoor.Am
inductive Fits (P : Program) : TypeId → List V → Prop
 | bool {t : TypeId} (b : Bool) (h : P.underlying t = some .bool) : Fits P t [.bool b]
 | int {t : TypeId} {k : IntKind} (n : Int) (h : P.underlying t = some (.int k)) (hn : (Lit.int k n).wf = true) : Fits P t [.int k n]
 | str {t : TypeId} (s : List UInt8) (h : P.underlying t = some .string) (hs : s.length ≤ maxLen) : Fits P t [.str s]
 | nils {t e : TypeId} (h : P.underlying t = some (.slice e)) : Fits P t [.nils]
 | slice {t e : TypeId} (xs : List (List V)) (h : P.underlying t = some (.slice e)) (hl : xs.length ≤ maxLen) (hx : ∀ i, i < xs.length → Fits P e (xs.getD i [])) : Fits P t [.slice false (P.cellsOf e) xs]
 | struct {t : TypeId} {fs : Array Field} (cs : List V) (h : P.underlying t = some (.struct fs)) (hl : cs.length = P.cellsOf t) (hf : ∀ f ∈ fs.toList, Fits P f.type ((cs.drop f.offset).take (P.cellsOf f.type))) : Fits P t cs
 | array {t e : TypeId} {n : Nat} (cs : List V) (h : P.underlying t = some (.array n e)) (hl : cs.length = P.cellsOf t) (hf : ∀ i, i < n → Fits P e ((cs.drop (i * P.cellsOf e)).take (P.cellsOf e))) : Fits P t cs
def znf (P : Program) : Nat → List Field → Nat → Bool
 | n, [], m => n == m
 | n, f :: fs, m => f.offset == n && znf P (n + P.cellsOf f.type) fs m
section
variable {P : Program} {H : Type} {enc : TypeId × Value → H} {W : World}
def zcO (W : World) : Nat → Prop := fun c => c < W.heap.size
theorem zlY {a : Addr} {v : Value} (h : W.cell? a = some v) : a.block < W.heap.size ∧ a.spot = none := by
 unfold World.cell? at h
 cases hb : W.heap[a.block]? with
 | none => rw [hb] at h; cases h
 | some o =>
  rw [hb] at h
  refine ⟨(Array.getElem?_eq_some_iff.1 hb).1, ?_⟩
  cases o with
  | cells c _ _ =>
   simp only at h
   split at h
   ·cases h
   ·rename_i hs; simpa using hs
  | _ => cases h
def zoP (P : Program) (W : World) (t : TypeId) (cs : List Value) : Prop :=
 ∃ vs : List V, vs.length = cs.length ∧ Fits P t vs ∧ ∀ k, k < cs.length → RB (zcO W) W (vs.getD k .undef) (cs.getD k undef)
def RBs (W : World) (vs : List V) (cs : List Value) : Prop := vs.length = cs.length ∧ ∀ k, k < cs.length → RB (zcO W) W (vs.getD k .undef) (cs.getD k undef)
theorem RBs.append {vs us : List V} {cs ds : List Value} (h : RBs W vs cs) (k : RBs W us ds) : RBs W (vs ++ us) (cs ++ ds) := by
 refine ⟨by simp [h.1, k.1], fun i hi => ?_⟩
 simp only [List.getD_eq_getElem?_getD]
 have h1 := h.1
 by_cases hlt : i < cs.length
 ·have := h.2 i hlt
  simp only [List.getD_eq_getElem?_getD] at this
  rw [List.getElem?_append_left (by omega), List.getElem?_append_left hlt]; exact this
 ·rw [List.length_append] at hi
  have := k.2 (i - cs.length) (by omega)
  simp only [List.getD_eq_getElem?_getD] at this
  rw [List.getElem?_append_right (by omega), List.getElem?_append_right (by omega), h1]; exact this
theorem zft {t : TypeId} {cs : List Value} : zoP P W t cs ↔ ∃ vs, Fits P t vs ∧ RBs W vs cs :=
 ⟨fun ⟨vs, a, b, c⟩ => ⟨vs, b, a, c⟩, fun ⟨vs, b, a, c⟩ => ⟨vs, a, b, c⟩⟩
theorem zjR {cs : List Value} : ∀ {fs : List Field} {n m : Nat}, znf P n fs m = true → m ≤ cs.length → (∀ f ∈ fs, zoP P W f.type ((cs.drop f.offset).take (P.cellsOf f.type))) →
  n ≤ m ∧ ∃ vs, RBs W vs ((cs.drop n).take (m - n)) ∧ ∀ f ∈ fs, n ≤ f.offset ∧ Fits P f.type ((vs.drop (f.offset - n)).take (P.cellsOf f.type))
 | [], n, m, ht, hm, _ => by
  have : n = m := by simpa [znf] using ht
  subst this
  exact ⟨Nat.le_refl _, [], ⟨by simp, fun k hk => absurd hk (by simp)⟩, fun f hf => by cases hf⟩
 | f :: fs, n, m, ht, hm, hr => by
  simp only [znf, Bool.and_eq_true, beq_iff_eq] at ht
  obtain ⟨h0, ht⟩ := ht
  obtain ⟨hle, vs, hvs, hfs⟩ := zjR ht hm fun g hg => hr g (.tail _ hg)
  obtain ⟨us, hfit, hus⟩ := zft.1 (hr f (.head _))
  rw [h0] at hus
  have hul : us.length = P.cellsOf f.type := by rw [hus.1]; simp; omega
  have hsplit : (cs.drop n).take (m - n) = (cs.drop n).take (P.cellsOf f.type) ++ (cs.drop (n + P.cellsOf f.type)).take (m - (n + P.cellsOf f.type)) := by
   rw [← List.drop_drop, ← List.take_add]
   congr 1
   omega
  refine ⟨by omega, us ++ vs, by rw [hsplit]; exact hus.append hvs, fun g hg => ?_⟩
  cases hg with
  | head =>
   refine ⟨by omega, ?_⟩
   rw [h0, Nat.sub_self, List.drop_zero, List.take_append_of_le_length (by omega), List.take_of_length_le (by omega)]
   exact hfit
  | tail _ hg =>
   obtain ⟨h1, h2⟩ := hfs g hg
   refine ⟨by omega, ?_⟩
   rw [List.drop_append, List.drop_eq_nil_of_le (by omega), List.nil_append, hul]
   rw [show g.offset - n - P.cellsOf f.type = g.offset - (n + P.cellsOf f.type) from by omega]
   exact h2
theorem zkJ {α : Type} {n : Nat} {p : Nat → α → Prop} (h : ∀ i, i < n → ∃ x, p i x) : ∃ l : List α, l.length = n ∧ ∀ i x, l[i]? = some x → p i x := by
 induction n with
 | zero => exact ⟨[], rfl, fun i x hx => by simp at hx⟩
 | succ n ih =>
  obtain ⟨l, hl, hp⟩ := ih fun i hi => h i (by omega)
  obtain ⟨x, hx⟩ := h n (by omega)
  refine ⟨l ++ [x], by simp [hl], fun i y hy => ?_⟩
  by_cases hi : i < l.length
  ·rw [List.getElem?_append_left hi] at hy; exact hp i y hy
  ·rw [List.getElem?_append_right (by omega)] at hy
   have : i - l.length = 0 := by
    rcases Nat.eq_zero_or_pos (i - l.length) with h0 | h0
    ·exact h0
    ·rw [List.getElem?_eq_none (by simp; omega)] at hy; cases hy
   rw [this] at hy
   simp only [List.getElem?_cons_zero, Option.some.injEq] at hy
   subst hy
   have : i = n := by omega
   subst this; exact hx
end
end Go.Proofs.YtakdnfneikbjjaaGreatDoor.Am

namespace Go.Proofs.YtakdnfneikbjjaaGreatDoor.Am
section
variable {P : Program} {W : World}
inductive ArgOK (W : World) : V → Value → Prop
 | leaf {x : V} {v : Value} (h : RB (zcO W) W x v) : ArgOK W x v
 | agg (cs : List V) (arr : Array Value) (hs : arr.size = cs.length) (h : ∀ k, k < cs.length → RB (zcO W) W (cs.getD k .undef) (arr.getD k undef)) : ArgOK W (.agg cs) (.agg arr)
def g0 (W : World) : G := ⟨id, id, fun _ => False, zcO W⟩
theorem RB.toR1 {x : V} {v : Value} (h : RB (zcO W) W x v) : R1 (g0 W) W 0 x v := by
 cases h with
 | func f => exact ⟨#[], rfl, rfl, fun k hk => absurd hk (by simp)⟩
 | bool b => exact RB.bool b
 | int k n => exact RB.int k n
 | str b => exact RB.str b
 | nilp => exact RB.nilp
 | nils => exact RB.nils
 | nilf => exact RB.nilf
 | nili => exact RB.nili
 | slice sz xs a cap vs hs hp hc hz hv hr => exact RB.slice sz xs a cap vs hs hp hc hz hv hr
theorem RB.ok0 {x : V} {v : Value} (h : RB (zcO W) W x v) : x.ok0 = true := by
 cases h <;> rfl
theorem RB.cnt {x : V} {v : Value} (h : RB (zcO W) W x v) (c : Nat) : cnt0 c x v = 0 := by
 cases h <;> rfl
theorem ArgOK.r3 {x : V} {v : Value} (h : ArgOK W x v) (τ : Nat → Value) : R3 (g0 W) W 0 τ x v := by
 cases h with
 | leaf h =>
  have h1 := h.toR1
  cases h <;> exact h1
 | agg cs arr hs h => exact ⟨arr, rfl, hs, fun k hk => ⟨.inl (h k hk).ok0, (h k hk).toR1⟩⟩
theorem ArgOK.okArg {x : V} {v : Value} (h : ArgOK W x v) : x.okArg = true := by
 cases h with
 | leaf h => cases h <;> rfl
 | agg cs arr hs h =>
  simp only [V.okArg, List.all_eq_true]
  intro y hy
  obtain ⟨k, hk, rfl⟩ := List.getElem_of_mem hy
  have := (h k hk).ok0
  rwa [List.getD_eq_getElem?_getD, List.getElem?_eq_getElem hk] at this
theorem ArgOK.cnt {x : V} {v : Value} (h : ArgOK W x v) (c : Nat) : cnt2 c x v = 0 := by
 cases h with
 | leaf h =>
  have h1 := h.cnt c
  cases h <;> exact h1
 | agg cs arr hs h => exact zcr fun k hk => (h k hk).cnt c
theorem zpq {args : List V} {vs : Array Value} (hl : args.length = vs.toList.length) (ha : ∀ k, k < args.length → ArgOK W (args.getD k .undef) (vs.toList.getD k undef)) :
  SR (g0 W) W 0 (fun _ => 0) (fun _ => false) ⟨fun _ => .undef, fun _ => [], []⟩ #[] (args.zip vs.toList) := by
 have hmem : ∀ p ∈ args.zip vs.toList, ArgOK W p.1 p.2 := fun p hp => by
  obtain ⟨k, hk, rfl⟩ := List.getElem_of_mem hp
  have hk' : k < args.length := by simp at hk; omega
  have h1 := ha k hk'
  simp only [List.getElem_zip]
  rw [List.getD_eq_getElem?_getD, List.getElem?_eq_getElem hk', List.getD_eq_getElem?_getD, List.getElem?_eq_getElem (by omega)] at h1
  exact h1
 have hcP : ∀ c, cntP c (args.zip vs.toList) = 0 := fun c => by
  rw [zge hl]; exact zcr fun k hk => (ha k hk).cnt c
 have hT : ∀ c, total (g0 W) W 0 (fun _ => 0) ⟨fun _ => .undef, fun _ => [], []⟩ #[] (args.zip vs.toList) c = za2 (g0 W) c := fun c => by
  have e1 : cntT c (fun _ => V.undef) #[] = 0 := rfl
  have e2 : cntB (g0 W) W c 0 (fun _ => []) = 0 := rfl
  have e3 : cntM (g0 W) W c [] = 0 := rfl
  unfold total
  simp only [e1, e2, e3, hcP]
  omega
 refine ⟨fun s => trivial, fun s _ => rfl, fun s d hd => (by cases hd), fun p hp => (hmem p hp).r3 _, fun p hp d hd => ?_, fun j => by simp [g0], fun j hj => absurd rfl hj, fun b hb => absurd hb (by simp), fun c => ?_, fun c hc => ?_⟩
 ·obtain ⟨b, o, e⟩ := zdD (hmem p hp).okArg hd; cases e
 ·rw [hT]; unfold za2; split <;> omega
 ·rw [hT]; unfold za2
  rw [if_neg]
  show ¬ (c < W.heap.size)
  omega
theorem zng [Lay P] {T : Table} (hLd : Laid P (g0 W) W) (hT : TableOK P T) {f : Nat} {args : List V} {m' : List (List V)} {vs : Array Value} {b : Bool} (hret : RF T f args [] = some (.bool b, m')) (hl : args.length = vs.toList.length)
  (ha : ∀ k, k < args.length → ArgOK W (args.getD k .undef) (vs.toList.getD k undef)) : Calls P f vs W fun e W' => e = .returned (.bool b) ∧ RowKit.Below W.heap.size W W' := by
 obtain ⟨_, hcall⟩ := ziX hT (zk0.1 hret)
 have hok : args.all V.okArg = true := List.all_eq_true.2 fun y hy => by
  obtain ⟨k, hk, rfl⟩ := List.getElem_of_mem hy
  have := (ha k hk).okArg
  rwa [List.getD_eq_getElem?_getD, List.getElem?_eq_getElem hk] at this
 refine (hcall (g0 W) W (fun _ => 0) vs (by simpa using hl.symm) hok hLd (zpq hl ha)).mono fun e W' ⟨v, g', he, hS, hE, _⟩ => ?_
 have hv : v = .bool b := R3.bool (hS.pend _ (.head _))
 exact ⟨by rw [he, hv], hE.os, hE.tape, hE.output, hE.size, fun k hk => (hE.pers k hk).2⟩
def zeI (P : Program) (t : TypeId) (x : V) : Prop :=
 match P.underlying t with
 | some (.struct _) | some (.array _ _) => ∃ cs, x = .agg cs ∧ Fits P t cs
 | _ => Fits P t [x]
section
variable {H : Type} {enc : TypeId × Value → H}
theorem zjS (hl : laidOutB P = true) {W' : World} {sp : Nat → Bool} : ∀ {ts : List TypeId} {vs : List Value} {ds : List (DataW H)} {ps : List MemPlace}, (ts.all fun t => P.readableRec t && decide (t < P.types.size)) = true →
  DataW.TrodAll enc P W 0 (fun _ => true) true ts vs ds ps → (∀ p ∈ ps, W.sameAt W' p) → (∀ p ∈ ps, sp p.block = true) → DataW.TrodAll enc P W' 0 sp true ts vs ds ps
 | [], vs, ds, ps, _, h, _, _ => by
  obtain ⟨rfl, rfl, rfl⟩ := ChangeShapes.trodAll_nil h
  exact rfl
 | t :: ts, vs, ds, ps, hr, h, hs, hsp => by
  obtain ⟨v, vs', dd, ds', p, q, rfl, rfl, rfl, h0, r0⟩ := ChangeShapes.trodAll_cons h
  simp only [List.all_cons, Bool.and_eq_true, decide_eq_true_eq] at hr
  exact trodAll_cons_mk (WideElems.Trod_stays hl hr.1.1 hr.1.2 h0 (fun x hx => hs x (List.mem_append_left _ hx)) (fun x hx => hsp x (List.mem_append_left _ hx)))
   (zjS hl hr.2 r0 (fun x hx => hs x (List.mem_append_right _ hx)) (fun x hx => hsp x (List.mem_append_right _ hx)))
theorem ze1 : ∀ {ts : List TypeId} {vs : List Value} {ds : List (DataW H)} {ps : List MemPlace}, DataW.TrodAll enc P W 0 (fun _ => true) true ts vs ds ps → ds.length = ts.length
 | [], vs, ds, ps, h => by obtain ⟨rfl, rfl, rfl⟩ := ChangeShapes.trodAll_nil h; rfl
 | t :: ts, vs, ds, ps, h => by
  obtain ⟨v, vs', dd, ds', p, q, rfl, rfl, rfl, h0, r0⟩ := ChangeShapes.trodAll_cons h
  simp [ze1 r0]
open ChangeShapes in
theorem ziA {f : Func} {s : ChangeSpec} {apart fresh handsOn again : Bool} {W W' : World} {args : Array Value} {v : Value} {ds gs : List (DataW H)} {before pa pv : List MemPlace}
  (hW : DataW.Whole enc P f.params.toList s.vars apart W args.toList ds gs before)
  (hres : ∀ (b : Nat) (sp : Nat → Bool) (hd : Bool), DataW.TrodAll enc P W' b sp hd f.resultTypes.toList (v.resultList f.resultTypes.size) (s.fn H (ds ++ gs)).results [])
  (hargs : ∀ sp : Nat → Bool, (∀ p ∈ before, sp p.block = true) → DataW.TrodAll enc P W' 0 sp true f.params.toList args.toList (s.fn H (ds ++ gs)).args pa)
  (hvars : ∀ sp : Nat → Bool, (∀ p ∈ before, sp p.block = true) → DataW.TrodVars enc P W' sp s.vars (s.fn H (ds ++ gs)).vars pv)
  (hps : before = pa ++ pv) (hb : RowKit.Below W.heap.size W W')
  (hok : ∀ (j : Nat) (t : TypeId) (r : Value), f.resultTypes[j]? = some t → (v.resultList f.resultTypes.size)[j]? = some r → Value.okWide P W' .any 0 t r) :
  s.post enc P f apart fresh handsOn again W args v W' := by
 have hlt : ∀ p ∈ before, p.block < W.heap.size := fun p hp => hW.lt p hp
 have hold : ∀ p ∈ before, (fun b => decide (b < W.heap.size)) p.block = true := fun p hp => by simpa using hlt p hp
 refine ⟨ds, gs, before, [], pa, pv, hW, hres _ _ _, hargs _ hold, hvars _ hold, World.keptBut_mono (fun p hp => ⟨hp, ?_⟩) (hb.frame (· ∈ before)), fun _ => ?_⟩
 ·rw [hps, List.mem_append] at hp
  exact Or.inr hp
 ·obtain ⟨_, _, _, _, _, hz, hn⟩ := hW
  refine ⟨hok, _, _, ([] ++ pa) ++ pv, ⟨[] ++ pa, pv, trodAll_append (hargs _ (fun _ _ => rfl)) (hres _ _ _), hvars _ (fun _ _ => rfl), rfl, ?_, ?_⟩, ?_⟩
  ·intro b off hp
   have hp' : MemPlace.cell b off ∈ before := by rw [hps]; simpa using hp
   rw [hb.frozen (p := ⟨b, off, none⟩) (hlt _ hp')]
   exact hz b off hp'
  ·intro ha
   have := hn ha
   rw [hps] at this
   simpa using this
  ·intro p hp _
   rw [hps]
   simpa using hp
end
end
end Go.Proofs.YtakdnfneikbjjaaGreatDoor.Am

namespace Go.Proofs.YtakdnfneikbjjaaGreatDoor.Am
def ints (xs : List Int) : List (List V) := xs.map fun n => [.int .i64 n]
inductive IV : V → List Int → Prop
 | nil : IV .nils []
 | sl (xs : List Int) : IV (.slice false 1 (ints xs)) xs
def zpr (xs : List Bool) : List (List V) := xs.map fun b => [.bool b]
inductive BV : V → List Bool → Prop
 | nil : BV .nils []
 | sl (xs : List Bool) : BV (.slice false 1 (zpr xs)) xs
section
variable {P : Program}
theorem ziB {t : TypeId} {k : IntKind} (ht : P.underlying t = some (.int k)) {vs : List V} (h : Fits P t vs) : ∃ n, vs = [.int k n] ∧ (Lit.int k n).wf = true := by
 cases h <;> simp_all
theorem znh {t : TypeId} (ht : P.underlying t = some .bool) {vs : List V} (h : Fits P t vs) : ∃ b, vs = [.bool b] := by
 cases h <;> simp_all
theorem zn3 {t : TypeId} (ht : P.underlying t = some .string) {vs : List V} (h : Fits P t vs) : ∃ s, vs = [.str s] ∧ s.length ≤ maxLen := by
 cases h <;> simp_all
theorem fits_slice {t e : TypeId} (ht : P.underlying t = some (.slice e)) {vs : List V} (h : Fits P t vs) : vs = [.nils] ∨ ∃ xs, vs = [.slice false (P.cellsOf e) xs] ∧ xs.length ≤ maxLen ∧ ∀ x ∈ xs, Fits P e x := by
 cases h with
 | nils => exact .inl rfl
 | slice xs h hl hx =>
  rw [ht] at h
  cases h
  refine .inr ⟨xs, rfl, hl, fun x hm => ?_⟩
  obtain ⟨i, hi, rfl⟩ := List.getElem_of_mem hm
  have := hx i hi
  rwa [List.getD_eq_getElem?_getD, List.getElem?_eq_getElem hi] at this
 | _ => simp_all
theorem zhX {t : TypeId} {x : V} {d : TypeDesc} (ht : P.underlying t = some d) (h : zeI P t x) (hs : ∀ fs, d ≠ .struct fs) (ha : ∀ n e, d ≠ .array n e) : Fits P t [x] := by
 unfold zeI at h
 rw [ht] at h
 cases d <;> first | exact h | exact absurd rfl (hs _) | exact absurd rfl (ha _ _)
end
end Go.Proofs.YtakdnfneikbjjaaGreatDoor.Am

namespace Go.Proofs.YtakdnfneikbjjaaGreatDoor.Am
inductive LT where
 | bool
 | int (k : IntKind)
 | str
 | slice (e : TypeId)
 deriving DecidableEq
def zjT (P : Program) (F : TypeId → Option (List LT)) : Nat → List Field → Option (List LT)
 | _, [] => some []
 | n, f :: fs => if f.offset = n ∧ (F f.type).map List.length = some (P.cellsOf f.type) then (F f.type).bind fun l => (zjT P F (n + P.cellsOf f.type) fs).bind fun r => some (l ++ r) else none
def zho (P : Program) : Nat → TypeId → Option (List LT)
 | 0, _ => none
 | d + 1, t => match P.underlying t with
  | some .bool => some [.bool]
  | some (.int k) => some [.int k]
  | some .string => some [.str]
  | some (.slice e) => some [.slice e]
  | some (.struct fs) => (zjT P (zho P d) 0 fs.toList).bind fun l => if l.length = P.cellsOf t then some l else none
  | some (.array n e) => (zho P d e).bind fun l => if l.length = P.cellsOf e ∧ P.cellsOf t = n * P.cellsOf e then some (List.replicate n l).flatten else none
  | _ => none
def LV (P : Program) (l : LT) (v : V) : Prop :=
 match l with
 | .bool => ∃ b, v = .bool b
 | .int k => ∃ n, v = .int k n ∧ (Lit.int k n).wf = true
 | .str => ∃ s, v = .str s ∧ s.length ≤ maxLen
 | .slice e => v = .nils ∨ ∃ xs, v = .slice false (P.cellsOf e) xs ∧ xs.length ≤ maxLen ∧ ∀ x ∈ xs, Fits P e x
def LVs (P : Program) : List LT → List V → Prop
 | [], [] => True
 | l :: ls, v :: vs => LV P l v ∧ LVs P ls vs
 | _, _ => False
section
variable {P : Program}
theorem LVs.append : ∀ {ls ks : List LT} {vs us : List V}, LVs P ls vs → LVs P ks us → LVs P (ls ++ ks) (vs ++ us)
 | [], _, [], _, _, h => h
 | _ :: _, _, _ :: _, _, h, k => ⟨h.1, LVs.append h.2 k⟩
 | [], _, _ :: _, _, h, _ => h.elim
 | _ :: _, _, [], _, h, _ => h.elim
theorem LVs.len : ∀ {ls : List LT} {vs : List V}, LVs P ls vs → vs.length = ls.length
 | [], [], _ => rfl
 | _ :: _, _ :: _, h => by rw [List.length_cons, List.length_cons, LVs.len h.2]
 | [], _ :: _, h => h.elim
 | _ :: _, [], h => h.elim
theorem zjU {F : TypeId → Option (List LT)} (hF : ∀ t ls vs, F t = some ls → Fits P t vs → LVs P ls vs) {vs : List V} : ∀ {fs : List Field} {n : Nat} {ls : List LT}, zjT P F n fs = some ls → (∀ f ∈ fs, Fits P f.type ((vs.drop f.offset).take (P.cellsOf f.type))) →
  LVs P ls ((vs.drop n).take ls.length)
 | [], n, ls, h, _ => by
  simp only [zjT, Option.some.injEq] at h
  subst h
  rw [List.length_nil, List.take_zero]; trivial
 | f :: fs, n, ls, h, hf => by
  simp only [zjT] at h
  split at h
  ·rename_i hc
   simp only [Option.bind_eq_some_iff, Option.some.injEq] at h
   obtain ⟨l, hl, r, hr, rfl⟩ := h
   have h1 := hF _ _ _ hl (hf f (.head _))
   have h2 := zjU hF hr fun g hg => hf g (.tail _ hg)
   have hlen : l.length = P.cellsOf f.type := by
    have := hc.2
    rw [hl] at this
    simpa using this
   rw [hc.1, ← hlen] at h1
   rw [← hlen] at h2
   have hsplit : (vs.drop n).take (l ++ r).length = (vs.drop n).take l.length ++ (vs.drop (n + l.length)).take r.length := by
    rw [List.length_append, List.take_add, List.drop_drop]
   rw [hsplit]
   exact h1.append h2
  ·cases h
theorem zjV {l : List LT} {e : TypeId} (hF : ∀ vs, Fits P e vs → LVs P l vs) (hl : l.length = P.cellsOf e) {vs : List V} : ∀ {n i : Nat}, (∀ j, i ≤ j → j < i + n → Fits P e ((vs.drop (j * P.cellsOf e)).take (P.cellsOf e))) →
  LVs P (List.replicate n l).flatten ((vs.drop (i * P.cellsOf e)).take (n * P.cellsOf e))
 | 0, i, _ => by rw [Nat.zero_mul, List.take_zero]; trivial
 | n + 1, i, h => by
  have h1 := hF _ (h i (Nat.le_refl _) (by omega))
  have h2 := zjV hF hl (n := n) (i := i + 1) fun j hj hk => h j (by omega) (by omega)
  rw [List.replicate_succ, List.flatten_cons, Nat.succ_mul, Nat.add_comm, List.take_add, List.drop_drop]
  rw [Nat.succ_mul] at h2
  exact h1.append h2
theorem zfR : ∀ {d : Nat} {t : TypeId} {ls : List LT} {vs : List V}, zho P d t = some ls → Fits P t vs → LVs P ls vs := by
 intro d
 induction d with
 | zero => intro t ls vs h; cases h
 | succ d ih =>
  intro t ls vs h hf
  unfold zho at h
  split at h
  ·rename_i ht
   cases h
   obtain ⟨b, rfl⟩ := znh ht hf
   exact ⟨⟨b, rfl⟩, trivial⟩
  ·rename_i ht
   cases h
   obtain ⟨n, rfl, hw⟩ := ziB ht hf
   exact ⟨⟨n, rfl, hw⟩, trivial⟩
  ·rename_i ht
   cases h
   obtain ⟨s, rfl, hw⟩ := zn3 ht hf
   exact ⟨⟨s, rfl, hw⟩, trivial⟩
  ·rename_i ht
   cases h
   rcases fits_slice ht hf with rfl | ⟨xs, rfl, h1, h2⟩
   ·exact ⟨.inl rfl, trivial⟩
   ·exact ⟨.inr ⟨xs, rfl, h1, h2⟩, trivial⟩
  ·rename_i fs ht
   simp only [Option.bind_eq_some_iff] at h
   obtain ⟨l, hl, h⟩ := h
   split at h
   ·rename_i hc
    cases h
    cases hf with
    | struct _ ht2 hlen hff =>
     rw [ht] at ht2
     cases ht2
     have := zjU (vs := vs) (fun _ _ _ a b => ih a b) hl hff
     rwa [List.drop_zero, List.take_of_length_le (by omega)] at this
    | _ => simp_all
   ·cases h
  ·rename_i n e ht
   simp only [Option.bind_eq_some_iff] at h
   obtain ⟨l, hl, h⟩ := h
   split at h
   ·rename_i hc
    cases h
    cases hf with
    | array _ ht2 hlen hff =>
     rw [ht] at ht2
     cases ht2
     have := zjV (vs := vs) (fun _ b => ih hl b) hc.1 (n := n) (i := 0) fun j _ hj => hff j (by omega)
     rwa [Nat.zero_mul, List.drop_zero, List.take_of_length_le (by omega)] at this
    | _ => simp_all
   ·cases h
  ·cases h
end
end Go.Proofs.YtakdnfneikbjjaaGreatDoor.Am

namespace Go.Proofs.YtakdnfneikbjjaaGreatDoor.Am
section
variable {P : Program} {W : World} {H : Type} {enc : TypeId × Value → H}
def zoi (x : V) (d : DataW H) : Prop := ∀ o z xs, x = .slice o z xs → ∃ elems spare, d = .slice elems spare ∧ elems.length = xs.length
theorem zpe {x : V} {v : Value} {t : TypeId} {d : DataW H} {ps : List MemPlace} (hf : zeI P t x) (ha : ArgOK W x v) (h : DataW.Trod enc P W 0 (fun _ => true) true t v d ps) : zoi x d := by
 intro o z xs hx
 subst hx
 have hs : ∃ e, P.underlying t = some (.slice e) := by
  unfold zeI at hf
  split at hf
  ·obtain ⟨cs, e, _⟩ := hf; cases e
  ·obtain ⟨cs, e, _⟩ := hf; cases e
  ·cases hf <;> first | exact ⟨_, by assumption⟩ | simp_all
 obtain ⟨e, ht⟩ := hs
 have hv : ∃ a cap, v = .slice (some a) xs.length cap := by
  cases ha with
  | leaf h => cases h with | slice _ _ a cap _ _ _ _ _ _ _ => exact ⟨a, cap, rfl⟩
 obtain ⟨a, cap, rfl⟩ := hv
 obtain ⟨fuel, h⟩ := h
 rcases DataW.trod_slice ht h with ⟨h1, _⟩ | ⟨a', len, cap', elems, rest, n, _, h1, h2, _, _, _, hel, _⟩
 ·simp [Value.cells] at h1
 ·simp only [Prod.mk.injEq] at h2
  refine ⟨_, _, h2.1, ?_⟩
  have e1 : len = xs.length := by
   have : (Value.slice (some a) xs.length cap).cells.toList = [.slice (some a) xs.length cap] := rfl
   rw [this] at h1
   injection h1 with h1 _
   injection h1 with _ h1 _
   exact h1.symm
  rw [List.length_map, hel, e1]
end
end Go.Proofs.YtakdnfneikbjjaaGreatDoor.Am

set_option linter.all false
namespace Go.Proofs.YtakdnfneikbjjaaGreatDoor.Am.Lay10
open Go.Proofs.YtakdnfneikbjjaaGreatDoor.Am.T
theorem zn4 {W : World} : Laid Go.Proofs.Tryz.prog (g0 W) W := by
  constructor
  · intro t ht; exact absurd ht (List.not_mem_nil)
  · intro t ht; exact absurd ht (List.not_mem_nil)
end Go.Proofs.YtakdnfneikbjjaaGreatDoor.Am.Lay10

set_option linter.all false
namespace Go.Proofs.YtakdnfneikbjjaaGreatDoor.Am.Lay10
open Go.Proofs.YtakdnfneikbjjaaGreatDoor.Am.T
def zn5 : Option TypeDesc → Bool
  | some (.struct _) => true
  | _ => false
theorem zni {P : Program} {t : TypeId} (hi : zn5 (P.underlying t) = true) (hl : zho P 8 t = some [.int .i64, .int .i64, .int .i64, .int .i64]) {x : V} (h : zeI P t x) : ∃ k : Rect, Den [] (.agg k.c) x := by
  obtain ⟨fs, ht⟩ : ∃ fs, P.underlying t = some (.struct fs) := by
    unfold zn5 at hi
    split at hi
    · exact ⟨_, by assumption⟩
    · cases hi
  unfold zeI at h
  rw [ht] at h
  obtain ⟨cs, rfl, hf⟩ := h
  have h3 := zfR hl hf
  have h4 : cs.length = 4 := h3.len
  match cs, h4 with
  | [x1, x2, x3, x4], _ =>
    obtain ⟨h1, h2, h3, h4, _⟩ := h3
    obtain ⟨a, rfl, _⟩ := h1
    obtain ⟨b, rfl, _⟩ := h2
    obtain ⟨c, rfl, _⟩ := h3
    obtain ⟨d, rfl, _⟩ := h4
    exact ⟨⟨a, b, c, d⟩, .agg (.cons (.base (.int _ _)) (.cons (.base (.int _ _)) (.cons (.base (.int _ _)) (.cons (.base (.int _ _)) .nil))))⟩
end Go.Proofs.YtakdnfneikbjjaaGreatDoor.Am.Lay10

namespace Go.Proofs.YtakdnfneikbjjaaGreatDoor.Am
section
variable {P : Program} {W : World} {H : Type} {enc : TypeId × Value → H}
def zoQ (x : V) (d : DataW H) : Prop := zoi x d ∧ ∀ s, x = .str s → d = .lit (.string s)
theorem zps {x : V} {v : Value} {t : TypeId} {d : DataW H} {ps : List MemPlace} (hf : zeI P t x) (ha : ArgOK W x v) (h : DataW.Trod enc P W 0 (fun _ => true) true t v d ps) : zoQ x d := by
 refine ⟨zpe hf ha h, fun s hx => ?_⟩
 subst hx
 have ht : P.underlying t = some .string := by
  unfold zeI at hf
  split at hf
  ·obtain ⟨cs, e, _⟩ := hf; cases e
  ·obtain ⟨cs, e, _⟩ := hf; cases e
  ·cases hf <;> first | assumption | simp_all
 obtain ⟨fuel, h⟩ := h
 obtain ⟨b, h1, h2⟩ := DataW.trod_string ht h
 have hv : ∃ b : ByteArray, v = .string b ∧ b.data.toList = s := by
  cases ha with
  | leaf h => cases h with | str b => exact ⟨b, rfl, rfl⟩
 obtain ⟨c, rfl, rfl⟩ := hv
 have : (Value.string c).cells.toList = [.string c] := rfl
 rw [this] at h1
 injection h1 with h1 _
 injection h1 with h1
 have h3 := (Prod.mk.inj h2.1).1
 subst h1
 exact h3
theorem zlm : ∀ {ts : List TypeId} {vs : List Value} {ds : List (DataW H)} {ps : List MemPlace} {args : List V}, DataW.TrodAll enc P W 0 (fun _ => true) true ts vs ds ps → args.length = vs.length → (∀ (j : Nat) (t : TypeId), ts[j]? = some t → zeI P t (args.getD j .undef)) → (∀ k, k < args.length → ArgOK W (args.getD k .undef) (vs.getD k undef)) →
  ∀ (j : Nat) (d : DataW H), ds[j]? = some d → zoQ (args.getD j .undef) d
 | [], vs, ds, ps, args, h, _, _, _, j, d, hd => by
  obtain ⟨rfl, rfl, rfl⟩ := ChangeShapes.trodAll_nil h
  simp at hd
 | t :: ts, vs, ds, ps, args, h, hl, hf, ha, j, d, hd => by
  obtain ⟨v, vs', dd, ds', p, q, rfl, rfl, rfl, h0, r0⟩ := ChangeShapes.trodAll_cons h
  match args, hl with
  | x :: args, hl =>
   cases j with
   | zero =>
    simp only [List.getElem?_cons_zero, Option.some.injEq] at hd
    subst hd
    exact zps (hf 0 t rfl) (ha 0 (by simp)) h0
   | succ j =>
    exact zlm r0 (by simpa using hl) (fun i t' hi => hf (i + 1) t' hi) (fun k hk => ha (k + 1) (by simpa using hk)) j d hd
end
end Go.Proofs.YtakdnfneikbjjaaGreatDoor.Am

namespace Go.Proofs.YtakdnfneikbjjaaGreatDoor.Am
def sup1 (P : Program) (S : List TypeId) (t : TypeId) : Bool := match P.underlying t with
 | some .bool | some (.int _) | some .string => P.cellsOf t == 1
 | some (.slice e) => P.cellsOf t == 1 && decide (0 < P.cellsOf e) && S.contains e
 | some (.struct fs) => znf P 0 fs.toList (P.cellsOf t) && fs.toList.all fun f => S.contains f.type
 | _ => false
def supS (P : Program) (S : List TypeId) : Bool := S.all (sup1 P S)
section
variable {P : Program} {H : Type} {enc : TypeId × Value → H} {W : World}
theorem znj {S : List TypeId} (hS : supS P S = true) : ∀ {fuel : Nat} {t : TypeId}, S.contains t = true → ∀ {held : Bool} {cs : List Value} {x : DataW H × List MemPlace}, DataW.trod enc P W 0 (fun _ => true) held fuel t cs = some x → zoP P W t cs := by
 intro fuel
 induction fuel with
 | zero => intro t _ held cs x hx; simp [DataW.trod] at hx
 | succ fuel ih =>
  intro t htS held cs x hx
  have h := List.all_eq_true.1 hS t (List.contains_iff_mem.1 htS)
  simp only [sup1] at h
  split at h
  ·rename_i ht
   obtain ⟨b, rfl, _⟩ := DataW.trod_bool ht hx
   exact ⟨[.bool b], rfl, .bool b ht, fun k hk => by
    have : k = 0 := by simpa using hk
    subst this; exact .bool b⟩
  ·rename_i kk ht
   obtain ⟨n, rfl, _, hwf⟩ := DataW.trod_int ht hx
   exact ⟨[.int kk n], rfl, .int n ht hwf, fun k hk => by
    have : k = 0 := by simpa using hk
    subst this; exact .int kk n⟩
  ·rename_i ht
   obtain ⟨s, rfl, _, hs⟩ := DataW.trod_string ht hx
   exact ⟨[.str s.data.toList], rfl, .str _ ht (by simpa using hs), fun k hk => by
    have : k = 0 := by simpa using hk
    subst this; exact .str s⟩
  ·rename_i e ht
   simp only [Bool.and_eq_true, beq_iff_eq, decide_eq_true_eq] at h
   obtain ⟨⟨_, hpos⟩, hsup⟩ := h
   rcases DataW.trod_slice ht hx with ⟨rfl, _⟩ | ⟨a, len, cap, elems, rest, n, hn, rfl, _, _, hlc, hcap, hel, he, hre, _⟩
   ·exact ⟨[.nils], rfl, .nils ht, fun k hk => by
     have : k = 0 := by simpa using hk
     subst this; exact .nils⟩
   ·cases hn
    have hone : ∀ i, i < len → ∃ vs : List V, Fits P e vs ∧ vs.length = P.cellsOf e ∧ ∀ k, k < P.cellsOf e → ∃ v, W.cell? ((a.add (i * P.cellsOf e)).add k) = some v ∧ RB (zcO W) W (vs.getD k .undef) v := fun i hi => by
     have h1 := he i hi
     rw [List.getElem?_eq_getElem (by omega)] at h1
     simp only [Option.bind_eq_some_iff] at h1
     obtain ⟨cs', hc1, hc2⟩ := h1
     obtain ⟨_, hl, hc⟩ := World.cells?_some hc1
     obtain ⟨vs, hf, hr⟩ := zft.1 (ih hsup hc2)
     refine ⟨vs, hf, by rw [hr.1, hl], fun k hk => ⟨cs'.getD k undef, ?_, hr.2 k (by omega)⟩⟩
     rw [hc k hk, List.getD_eq_getElem?_getD, List.getElem?_eq_getElem (by omega)]; rfl
    obtain ⟨xs, hxl, hxs⟩ := zkJ hone
    have hxs' : ∀ i, i < xs.length → Fits P e (xs.getD i []) ∧ (xs.getD i []).length = P.cellsOf e ∧ ∀ k, k < P.cellsOf e → ∃ v, W.cell? ((a.add (i * P.cellsOf e)).add k) = some v ∧ RB (zcO W) W ((xs.getD i []).getD k .undef) v := fun i hi => by
     rw [List.getD_eq_getElem?_getD, List.getElem?_eq_getElem hi]
     exact hxs i _ (List.getElem?_eq_getElem hi)
    have hblk : 0 < cap → a.block < W.heap.size ∧ a.spot = none := fun hc0 => by
     have h00 : (a.add (0 * P.cellsOf e)).add 0 = a := by simp [Addr.add]
     have hcell : ∃ v, W.cell? a = some v := by
      by_cases h0 : 0 < len
      ·obtain ⟨v, hv, _⟩ := (hxs' 0 (by omega)).2.2 0 hpos
       rw [h00] at hv
       exact ⟨v, hv⟩
      ·have h1 := (hre rfl).2 0 (by omega)
       have h2 := (hre rfl).1
       have hl0 : len = 0 := by omega
       subst hl0
       rw [List.getElem?_eq_getElem (by omega)] at h1
       simp only [Option.bind_eq_some_iff] at h1
       obtain ⟨cs', hc1, _⟩ := h1
       obtain ⟨_, hl, hc⟩ := World.cells?_some hc1
       have h3 := hc 0 hpos
       rw [Nat.add_zero, h00, List.getElem?_eq_getElem (by omega)] at h3
       exact ⟨_, h3⟩
     obtain ⟨v, hv⟩ := hcell
     exact zlY hv
    refine ⟨[.slice false (P.cellsOf e) xs], rfl, .slice xs ht (by omega) (fun i hi => (hxs' i hi).1), fun k hk => ?_⟩
    have : k = 0 := by simpa using hk
    subst this
    simp only [List.getD_cons_zero]
    refine RB.slice_iff.2 ⟨a, cap, by rw [hxl], fun hc0 => (hblk hc0).2, fun hc0 => (hblk hc0).1, by omega, fun i hi => (hxs' i hi).2.1, fun i k hi hk => ?_⟩
    obtain ⟨v, hv, hr⟩ := (hxs' i hi).2.2 k hk
    refine ⟨v, ?_, hr⟩
    have hsp := (hblk (by omega)).2
    rw [zcI hsp, zcI rfl] at hv
    rw [← hv]
    simp [Nat.add_assoc]
  ·rename_i fs ht
   simp only [Bool.and_eq_true, List.all_eq_true] at h
   obtain ⟨htile, hall⟩ := h
   obtain ⟨xs, n, hn, _, hl, hxl, hf⟩ := DataW.trod_struct ht hx
   cases hn
   obtain ⟨_, vs, hvs, hfs⟩ := zjR (P := P) (W := W) (cs := cs) htile (by omega) fun f hfm => by
    obtain ⟨i, hi⟩ := List.getElem?_of_mem hfm
    have hi' : i < fs.size := by have := (List.getElem?_eq_some_iff.1 hi).1; simpa using this
    have h1 := hf i f (by simpa using hi)
    rw [List.getElem?_eq_getElem (by omega)] at h1
    exact ih (hall f hfm) h1
   rw [List.drop_zero, Nat.sub_zero, List.take_of_length_le (by omega)] at hvs
   exact zft.2 ⟨vs, .struct vs ht (by rw [hvs.1, hl]) (fun f hfm => by simpa using (hfs f hfm).2), hvs⟩
  ·cases h
theorem zoR {S : List TypeId} (hS : supS P S = true) {t : TypeId} (hsup : S.contains t = true) {v : Value} {dd : DataW H} {ps : List MemPlace} {base : Nat} (hval : Value.okWide P W .any base t v) (h : DataW.Trod enc P W 0 (fun _ => true) true t v dd ps) :
  ∃ x, zeI P t x ∧ ArgOK W x v := by
 obtain ⟨fuel, h⟩ := h
 obtain ⟨cs, hfit, hr⟩ := zft.1 (znj hS hsup h)
 have agg : ∀ arr : Array Value, v = .agg arr → ArgOK W (.agg cs) v := fun arr e => by
  subst e
  have hc : (Value.agg arr).cells = arr := rfl
  rw [hc] at hr
  refine .agg cs arr (by have := hr.1; simpa using this.symm) fun k hk => ?_
  have := hr.2 k (by rw [← hr.1]; exact hk)
  rwa [zaw] at this
 have leaf : (∀ arr, v ≠ .agg arr) → cs.length = 1 → ∃ x, cs = [x] ∧ ArgOK W x v := fun hv h1 => by
  match cs, h1 with
  | [x], _ =>
   refine ⟨x, rfl, .leaf ?_⟩
   rw [zhw hv] at hr
   exact hr.2 0 (by simp)
 unfold zeI
 unfold Value.okWide at hval
 cases hu : P.underlying t with
 | none => cases hfit <;> simp_all
 | some ud =>
  rw [hu] at hval
  cases ud with
  | struct fs => obtain ⟨arr, e, _⟩ := hval; exact ⟨.agg cs, ⟨cs, rfl, hfit⟩, agg arr e⟩
  | array n e => obtain ⟨arr, e, _⟩ := hval; exact ⟨.agg cs, ⟨cs, rfl, hfit⟩, agg arr e⟩
  | _ =>
   simp only at hval ⊢
   have h1 : cs.length = 1 := by cases hfit <;> first | rfl | simp_all
   have h2 : ∀ arr, v ≠ .agg arr := fun arr e => by
    subst e
    simp only [Cell.okWide, Cell.ok, hu] at hval
   obtain ⟨x, rfl, hx⟩ := leaf h2 h1
   exact ⟨x, hfit, hx⟩
theorem zln {S : List TypeId} (hS : supS P S = true) : ∀ {ts : List TypeId} {vs : List Value} {ds : List (DataW H)} {ps : List MemPlace} {base : Nat}, (ts.all fun t => S.contains t) = true → (∀ (j : Nat) (t : TypeId) (v : Value), ts[j]? = some t → vs[j]? = some v → Value.okWide P W .any base t v) →
  DataW.TrodAll enc P W 0 (fun _ => true) true ts vs ds ps → ∃ args : List V, args.length = vs.length ∧ ts.length = vs.length ∧ (∀ (j : Nat) (t : TypeId), ts[j]? = some t → zeI P t (args.getD j .undef)) ∧ ∀ k, k < args.length → ArgOK W (args.getD k .undef) (vs.getD k undef)
 | [], vs, ds, ps, base, _, _, h => by
  obtain ⟨rfl, rfl, rfl⟩ := ChangeShapes.trodAll_nil h
  exact ⟨[], rfl, rfl, fun j t hj => by simp at hj, fun k hk => absurd hk (by simp)⟩
 | t :: ts, vs, ds, ps, base, hsup, hval, h => by
  obtain ⟨v, vs', dd, ds', p, q, rfl, rfl, rfl, h0, r0⟩ := ChangeShapes.trodAll_cons h
  simp only [List.all_cons, Bool.and_eq_true] at hsup
  obtain ⟨x, hx1, hx2⟩ := zoR hS hsup.1 (hval 0 t v rfl rfl) h0
  obtain ⟨args, h1, h2, h3, h4⟩ := zln hS hsup.2 (fun j t v hj hv => hval (j + 1) t v hj hv) r0
  refine ⟨x :: args, by simp [h1], by simp [h2], fun j t' hj => ?_, fun k hk => ?_⟩
  ·cases j with
   | zero => simp only [List.getElem?_cons_zero, Option.some.injEq] at hj; subst hj; exact hx1
   | succ j => exact h3 j t' hj
  ·cases k with
   | zero => exact hx2
   | succ k => exact h4 k (by simpa using hk)
theorem ziC [Lay P] {T : Table} (hLd : Laid P (g0 W) W) (hT : TableOK P T) {f : Nat} {fn : Func} {tb : TypeId} {s : ChangeSpec} {apart fresh handsOn again : Bool} {S : List TypeId} (hS : supS P S = true) (hbool : P.underlying tb = some .bool) (hres : fn.resultTypes = #[tb]) (hvars : s.vars = [])
  (hspec : ∀ ds : List (DataW H), ds.length = fn.params.toList.length → s.fn H ds = { results := [.lit (.bool true)], args := ds }) (hl : laidOutB P = true) (hr : (fn.params.toList.all fun t => P.readableRec t && decide (t < P.types.size)) = true)
  (hsup : (fn.params.toList.all fun t => S.contains t) = true) {base : Nat} {args : Array Value} {ds gs : List (DataW H)} {before : List MemPlace}
  (law : ds.length = fn.params.toList.length → ∀ zs9 : List V, zs9.length = fn.params.toList.length → (∀ (j : Nat) (t : TypeId), fn.params.toList[j]? = some t → zeI P t (zs9.getD j .undef)) → (∀ (j : Nat) (d : DataW H), ds[j]? = some d → zoQ (zs9.getD j .undef) d) → ∃ m', RF T f zs9 [] = some (.bool true, m'))
  (hval : ∀ (j : Nat) t v, fn.params[j]? = some t → args[j]? = some v → Value.okWide P W .any base t v) (hW : DataW.Whole enc P fn.params.toList s.vars apart W args.toList ds gs before) :
  Calls P f args W fun e W' => ∃ v, e = .returned v ∧ s.post enc P fn apart fresh handsOn again W args v W' := by
 have hW' := hW
 obtain ⟨p, q, hA, hV, rfl, hfz, hnd⟩ := hW
 rw [hvars] at hV
 obtain ⟨rfl, rfl⟩ := ChangeShapes.trodVars_none hV
 obtain ⟨zs9, h1, h2, h3, h4⟩ := zln (base := base) hS hsup (fun j t v hj hv => hval j t v (by simpa using hj) (by simpa using hv)) hA
 obtain ⟨m', hm⟩ := law (ze1 hA) zs9 (by rw [h1, h2]) h3 (zlm hA h1 h3 h4)
 have hds : ds.length = fn.params.toList.length := ze1 hA
 refine (zng hLd hT hm h1 h4).mono fun e W' ⟨he, hb⟩ => ?_
 subst he
 have hsp : s.fn H (ds ++ []) = { results := [.lit (.bool true)], args := ds } := by rw [List.append_nil]; exact hspec ds hds
 refine ⟨_, rfl, ziA (pa := p) (pv := []) hW' (fun b sp hd => ?_) (fun sp hspb => ?_) (fun sp _ => ?_) rfl hb (RowKit.ok_one hres rfl (RowKit.okWide_bool_mk hbool _))⟩
 ·rw [hsp, hres]
  exact trodAll_cons_mk (RowKit.shut_bool hbool true) rfl
 ·rw [hsp]
  exact zjS hl hr hA (fun x hx => hb.same (hW'.lt x (by simpa using hx))) (fun x hx => hspb x (by simpa using hx))
 ·rw [hsp, hvars]; exact rfl
end
end Go.Proofs.YtakdnfneikbjjaaGreatDoor.Am

set_option linter.all false
namespace Go.Proofs.YtakdnfneikbjjaaGreatDoor.Am.Lay10
open Go.Proofs.YtakdnfneikbjjaaGreatDoor.Am.T
theorem znk {P : Program} {e : TypeId} (hl : zho P 8 e = some [.int .i64, .int .i64, .int .i64, .int .i64]) {cs : List V} (h : Fits P e cs) : ∃ k : Rect, Pw Den0 k.c cs := by
  have h3 := zfR hl h
  have h4 : cs.length = 4 := h3.len
  match cs, h4 with
  | [x1, x2, x3, x4], _ =>
    obtain ⟨h1, h2, h3, h4, _⟩ := h3
    obtain ⟨a, rfl, _⟩ := h1
    obtain ⟨b, rfl, _⟩ := h2
    obtain ⟨c, rfl, _⟩ := h3
    obtain ⟨d, rfl, _⟩ := h4
    exact ⟨⟨a, b, c, d⟩, .cons (.int _ _) (.cons (.int _ _) (.cons (.int _ _) (.cons (.int _ _) .nil)))⟩
theorem zhg {P : Program} {e : TypeId} {α : Type} {c : α → List TV} : ∀ xs : List (List V), (∀ y ∈ xs, ∃ k : α, Pw Den0 (c k) y) → ∃ ks : List α, Pw (Pw Den0) (ks.map c) xs
  | [], _ => ⟨[], .nil⟩
  | y :: ys, hh => by
    obtain ⟨ks, h1⟩ := zhg (P := P) (e := e) (c := c) ys fun z hz => hh z (.tail _ hz)
    obtain ⟨k, h2⟩ := hh y (.head _)
    exact ⟨k :: ks, .cons h2 h1⟩
theorem zjW {P : Program} {t e : TypeId} (hl : zho P 8 t = some [.int .i64, .int .i64, .int .i64, .str, .slice t, .slice e]) (hr : zho P 8 e = some [.int .i64, .int .i64, .int .i64, .int .i64]) (h6 : P.cellsOf t = 6) (h4 : P.cellsOf e = 4) : ∀ (n : Nat) (cs : List V), SizeOf.sizeOf cs < n → Fits P t cs → ∃ p : Plan, Pw Den0 (Plan.e p) cs
  | 0, cs, hn, _ => absurd hn (Nat.not_lt_zero _)
  | n + 1, cs, hn, h => by
    have h3 := zfR hl h
    have hlen : cs.length = 6 := h3.len
    match cs, hlen, hn with
    | [x1, x2, x3, x4, x5, x6], _, hn =>
      obtain ⟨h1, h2, h3, h4', h5, h6', _⟩ := h3
      obtain ⟨a, rfl, _⟩ := h1
      obtain ⟨b, rfl, _⟩ := h2
      obtain ⟨c, rfl, _⟩ := h3
      obtain ⟨s, rfl, _⟩ := h4'
      have hk : ∃ ks : List Plan, Den0 (.sl false 6 (Plan.cs ks)) x5 := by
        rcases h5 with rfl | ⟨xs, rfl, _, hx⟩
        · exact ⟨[], .sln false 6⟩
        · obtain ⟨ks, hk⟩ := zhg (P := P) (e := e) (c := Plan.e) xs fun y hy => zjW hl hr h6 h4 n y (by
            have := List.sizeOf_lt_of_mem hy
            simp at hn; omega) (hx y hy)
          rw [h6]
          exact ⟨ks, .sl false 6 (by rw [Plan.cs_is]; exact hk)⟩
      have hf : ∃ fs : List Rect, Den0 (.sl false 4 (fs.map Rect.c)) x6 := by
        rcases h6' with rfl | ⟨xs, rfl, _, hx⟩
        · exact ⟨[], .sln false 4⟩
        · obtain ⟨ks, hk⟩ := zhg (P := P) (e := e) (c := Rect.c) xs fun y hy => znk hr (hx y hy)
          rw [h4]
          exact ⟨ks, .sl false 4 hk⟩
      obtain ⟨ks, hk⟩ := hk
      obtain ⟨fs, hf⟩ := hf
      exact ⟨⟨a, ⟨b, c⟩, s.map zd0, ks, fs⟩, .cons (.int _ _) (.cons (.int _ _) (.cons (.int _ _) (.cons (.str s) (.cons hk (.cons hf .nil)))))⟩
theorem Pw.denB {ρ : List Nat} : ∀ {a : List TV} {b : List V}, Pw Den0 a b → Pw (Den ρ) a b
  | _, _, .nil => .nil
  | _, _, .cons h t => .cons (.base h) (Pw.denB t)
theorem znl {P : Program} {t e : TypeId} (hi : zn5 (P.underlying t) = true) (hl : zho P 8 t = some [.int .i64, .int .i64, .int .i64, .str, .slice t, .slice e]) (hr : zho P 8 e = some [.int .i64, .int .i64, .int .i64, .int .i64]) (h6 : P.cellsOf t = 6) (h4 : P.cellsOf e = 4) {x : V} (h : zeI P t x) : ∃ p : Plan, Den [] (.agg (Plan.e p)) x := by
  obtain ⟨fs, ht⟩ : ∃ fs, P.underlying t = some (.struct fs) := by
    unfold zn5 at hi
    split at hi
    · exact ⟨_, by assumption⟩
    · cases hi
  unfold zeI at h
  rw [ht] at h
  obtain ⟨cs, rfl, hf⟩ := h
  obtain ⟨p, hp⟩ := zjW hl hr h6 h4 _ cs (Nat.lt_succ_self _) hf
  exact ⟨p, .agg (Pw.denB hp)⟩
theorem zhp {p : Plan} {r : Rect} {dx dy : Int} {x y : V} (hx : Den [] (.agg (Plan.e p)) x) (hy : Den [] (.agg r.c) y) : ∃ m', RF ET 9 [x, y, .int .i64 dx, .int .i64 dy] [] = some (.bool true, m') :=
  zaq.law (zc6 (zlX p r dx dy)) (.cons hx (.cons hy (.cons (.base (.int _ _)) (.cons (.base (.int _ _)) .nil))))
end Go.Proofs.YtakdnfneikbjjaaGreatDoor.Am.Lay10

/-
LayoutMoves answers true whatever its input; the input reads as it did.
-/
namespace Go.Proofs.YtakdnfneikbjjaaGreatDoor
open Go.Proofs.YtakdnfneikbjjaaGreatDoor.Am Go.Proofs.YtakdnfneikbjjaaGreatDoor.Am.Lay10
open Go.ChangeShapes Go.WideShapes Go.ChangeAt Go.RowKit
namespace layoutMoves
theorem shape (l : List V) (h : l.length = 4) : ∃ x0 x1 x2 x3, l = [x0, x1, x2, x3] := by
  match l, h with
  | [x0, x1, x2, x3], _ => exact ⟨x0, x1, x2, x3, rfl⟩
theorem own : ownKnob Tryz.prog.godebug = none := by kernel_rfl
theorem laidB : laidOutB Tryz.prog = true := by kernel_rfl
set_option maxRecDepth 100000 in
theorem law (l : List V) (hl : l.length = Tryz.f9.params.toList.length) (h : ∀ (j : Nat) (t : TypeId), Tryz.f9.params.toList[j]? = some t → zeI Tryz.prog t (l.getD j .undef)) : ∃ m', RF ET 9 l [] = some (.bool true, m') := by
  have hln : l.length = 4 := hl
  obtain ⟨x0, x1, x2, x3, rfl⟩ := shape l hln
  have h0 := h 0 27 (by kernel_rfl)
  have h1 := h 1 29 (by kernel_rfl)
  have h2 := h 2 3 (by kernel_rfl)
  have h3 := h 3 3 (by kernel_rfl)
  obtain ⟨p, hx⟩ := znl (t := 27) (e := 29) (by kernel_rfl) (by kernel_rfl) (by kernel_rfl) (by kernel_rfl) (by kernel_rfl) h0
  obtain ⟨r, hy⟩ := zni (by kernel_rfl) (by kernel_rfl) h1
  have t1 : Tryz.prog.underlying 3 = some (.int .i64) := by kernel_rfl
  obtain ⟨a, e1, _⟩ := ziB t1 (zhX t1 h2 (fun _ e => by cases e) (fun _ _ e => by cases e))
  obtain ⟨b, e2, _⟩ := ziB t1 (zhX t1 h3 (fun _ e => by cases e) (fun _ _ e => by cases e))
  injection e1 with e1 _
  injection e2 with e2 _
  subst e1
  subst e2
  exact zhp hx hy
noncomputable def low : Nat := (World.holding Tryz.prog default ⟨#[], #[], []⟩).heap.size
noncomputable def laidWorld (os : Os) : World :=
  { World.holding Tryz.prog os ⟨#[.cells #[.string ⟨#[118, 97, 108, 117, 101, 32, 111, 117, 116, 32, 111, 102, 32, 114, 97, 110, 103, 101]⟩] 182, .cells #[.string ⟨#[105, 110, 118, 97, 108, 105, 100, 32, 115, 121, 110, 116, 97, 120]⟩] 182], #[], []⟩ with heap := ((((((World.holding Tryz.prog os ⟨#[.cells #[.string ⟨#[118, 97, 108, 117, 101, 32, 111, 117, 116, 32, 111, 102, 32, 114, 97, 110, 103, 101]⟩] 182, .cells #[.string ⟨#[105, 110, 118, 97, 108, 105, 100, 32, 115, 121, 110, 116, 97, 120]⟩] 182], #[], []⟩).heap.modify 2 fun
      | .cells _ t frozen => .cells #[.iface 180 (.pointer (some ⟨low + 0, 0, none⟩))] t frozen
      | o => o).modify 1 fun
      | .cells _ t frozen => .cells #[.iface 180 (.pointer (some ⟨low + 1, 0, none⟩))] t frozen
      | o => o).modify 3 fun
      | .cells _ t frozen => .cells #[.int .u64 1, .int .u64 10, .int .u64 100, .int .u64 1000, .int .u64 10000, .int .u64 100000, .int .u64 1000000, .int .u64 10000000, .int .u64 100000000, .int .u64 1000000000, .int .u64 10000000000, .int .u64 100000000000, .int .u64 1000000000000, .int .u64 10000000000000, .int .u64 100000000000000, .int .u64 1000000000000000, .int .u64 10000000000000000, .int .u64 100000000000000000, .int .u64 1000000000000000000, .int .u64 10000000000000000000] t frozen
      | o => o).modify 4 fun
      | .cells _ t frozen => .cells #[.int .u8 0, .int .u8 1, .int .u8 28, .int .u8 2, .int .u8 29, .int .u8 14, .int .u8 24, .int .u8 3, .int .u8 30, .int .u8 22, .int .u8 20, .int .u8 15, .int .u8 25, .int .u8 17, .int .u8 4, .int .u8 8, .int .u8 31, .int .u8 27, .int .u8 13, .int .u8 23, .int .u8 21, .int .u8 19, .int .u8 16, .int .u8 7, .int .u8 26, .int .u8 12, .int .u8 18, .int .u8 6, .int .u8 11, .int .u8 5, .int .u8 10, .int .u8 9] t frozen
      | o => o).modify 5 fun
      | .cells _ t frozen => .cells #[.int .u8 0, .int .u8 1, .int .u8 56, .int .u8 2, .int .u8 57, .int .u8 49, .int .u8 28, .int .u8 3, .int .u8 61, .int .u8 58, .int .u8 42, .int .u8 50, .int .u8 38, .int .u8 29, .int .u8 17, .int .u8 4, .int .u8 62, .int .u8 47, .int .u8 59, .int .u8 36, .int .u8 45, .int .u8 43, .int .u8 51, .int .u8 22, .int .u8 53, .int .u8 39, .int .u8 33, .int .u8 30, .int .u8 24, .int .u8 18, .int .u8 12, .int .u8 5, .int .u8 63, .int .u8 55, .int .u8 48, .int .u8 27, .int .u8 60, .int .u8 41, .int .u8 37, .int .u8 16, .int .u8 46, .int .u8 35, .int .u8 44, .int .u8 21, .int .u8 52, .int .u8 32, .int .u8 23, .int .u8 11, .int .u8 54, .int .u8 26, .int .u8 40, .int .u8 15, .int .u8 34, .int .u8 20, .int .u8 31, .int .u8 10, .int .u8 25, .int .u8 14, .int .u8 19, .int .u8 9, .int .u8 13, .int .u8 8, .int .u8 7, .int .u8 6] t frozen
      | o => o) }
theorem laid_met (os : Os) : laidMet Tryz.prog Rows.layoutMovesRow.laid ((laidWorld os).forCall (fun _ _ => 0) ⟨#[], #[.agg #[.int .i64 0, .int .i64 0, .int .i64 0, .string ⟨#[]⟩, .slice none 0 0, .slice none 0 0], .agg #[.int .i64 0, .int .i64 0, .int .i64 0, .int .i64 0], .int .i64 0, .int .i64 0], []⟩).memory :=
  laidMet_of_run' 8 (by kernel_rfl) (by kernel_rfl)
theorem reads (os : Os) {H : Type} (enc : TypeId × Value → H) : ∃ places, DataW.whole enc Tryz.prog ((laidWorld os).forCall (fun _ _ => 0) ⟨#[], #[.agg #[.int .i64 0, .int .i64 0, .int .i64 0, .string ⟨#[]⟩, .slice none 0 0, .slice none 0 0], .agg #[.int .i64 0, .int .i64 0, .int .i64 0, .int .i64 0], .int .i64 0, .int .i64 0], []⟩).memory Tryz.f9.params.toList Rows.layoutMovesSpec.vars false (#[.agg #[.int .i64 0, .int .i64 0, .int .i64 0, .string ⟨#[]⟩, .slice none 0 0, .slice none 0 0], .agg #[.int .i64 0, .int .i64 0, .int .i64 0, .int .i64 0], .int .i64 0, .int .i64 0] : Array Value).toList 8 = some ([.agg [.lit (.int .i64 0), .agg [.lit (.int .i64 0), .lit (.int .i64 0)], .lit (.string []), .nil, .nil], .agg [.lit (.int .i64 0), .lit (.int .i64 0), .lit (.int .i64 0), .lit (.int .i64 0)], .lit (.int .i64 0), .lit (.int .i64 0)], [], places) :=
  ⟨[], by kernel_rfl⟩
set_option maxRecDepth 100000 in
theorem lifted (os : Os) (started : os.Started) (H : Type) (enc : TypeId × Value → H) (F : Stop.Interp) :
    ReturnsInHanded {} Tryz.checked os 9 .any ((OpenSpec.ofChange Rows.layoutMovesSpec).preRow enc Tryz.prog Tryz.f9 Rows.layoutMovesRow.domain false Rows.layoutMovesRow.laid) (((OpenSpec.ofChange Rows.layoutMovesSpec).at F).post enc Tryz.prog Tryz.f9 false true false false) := by
  obtain ⟨places, hx⟩ := reads os enc
  refine returnsInHanded_of_row (C := Tryz.checked) (s := (OpenSpec.ofChange Rows.layoutMovesSpec)) own started (by kernel_rfl) Tryz.func9
    (witness_row_at (enc := enc) (C := Tryz.checked) false (laidWorld os) #[.agg #[.int .i64 0, .int .i64 0, .int .i64 0, .string ⟨#[]⟩, .slice none 0 0, .slice none 0 0], .agg #[.int .i64 0, .int .i64 0, .int .i64 0, .int .i64 0], .int .i64 0, .int .i64 0] rfl (by kernel_rfl) (by kernel_rfl) (by kernel_rfl)
      (OpenSpec.preRow_of_cond 8 hx (by kernel_rfl) (fun k hk => by cases hk) (by kernel_rfl) (laid_met os))) ?_
  intro W base args ds gs before hval hW _ _ _ hlaid _ _
  exact ziC (S := [27, 3, 23, 9, 24, 25, 29]) (zn4) zpl (tb := 4) (by kernel_rfl) (by kernel_rfl) (by kernel_rfl) rfl
    (fun ds hd => by
      have hdn : ds.length = 4 := hd
      match ds, hdn with
      | [_, _, _, _], _ => rfl) laidB (by kernel_rfl) (by kernel_rfl) (fun _ l hl h _ => law l hl h) hval hW
theorem said : Rows.LayoutMovesSaid :=
  OpenClaim.holds_of_cond 9 Tryz.f9 rfl rfl rfl rfl rfl rfl rfl ⟨rfl, rfl, rfl, rfl, rfl⟩ rfl rfl rfl rfl rfl (by kernel_rfl) Tryz.func9 (by kernel_rfl)
    (of_decide_eq_true (by kernel_rfl)) (by unfold Func.isWrapper; first | (rw [if_pos (by decide +kernel)]; kernel_rfl) | (rw [if_neg (by decide +kernel)]; exact ⟨rfl, rfl⟩))
    (fun os started H enc _ F => by rw [OpenClaim.pre_eq_preRow]; exact lifted os started H enc F)
theorem nowant : (Tryz.f9.params.toList.all fun t => Tryz.prog.wantsStandIn t == false) = true := by kernel_rfl
theorem plain (f : FuncId) (fn : Func) (hf : Tryz.pinned.checked.prog.funcNamed "casement/casementlaw10.LayoutMoves" = some f) (hfn : Tryz.pinned.checked.prog.funcs[f]? = some fn) :
    true = Tryz.pinned.checked.prog.looks [] ∧ ∀ (j : Nat) t, fn.params[j]? = some t → Tryz.pinned.checked.prog.wantsStandIn t = false := by
  obtain rfl : f = 9 := Option.some.inj ((show Tryz.prog.funcNamed "casement/casementlaw10.LayoutMoves" = some 9 by kernel_rfl).symm.trans hf) |>.symm
  obtain rfl : fn = Tryz.f9 := (Option.some.inj (Tryz.func9.symm.trans hfn)).symm
  refine ⟨by kernel_rfl, fun j t ht => ?_⟩
  exact beq_iff_eq.1 (List.all_eq_true.1 nowant t (Array.mem_toList_iff.2 (Array.mem_of_getElem? ht)))
theorem holds : Rows.LayoutMovesCardSaid :=
  Claim7.holds_tied_plain_at .later [] _ _ _ _ said (fun _ h => by cases h) (by kernel_rfl) (fun _ h => by cases h) layoutMoves_row_tie rfl ⟨rfl, rfl⟩ (by kernel_rfl) rfl plain (by kernel_rfl)
#print axioms holds
end layoutMoves
end Go.Proofs.YtakdnfneikbjjaaGreatDoor
