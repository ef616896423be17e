/-
LayoutReads answers true where the input is of bounded bulk; the input reads as it did.
-/
import Derived.Test.YtakdnfneikbjjaaGreatDoorAmLayoutReadsRow5
import Derived.Test.YtakdnfneikbjjaaGreatDoorCards
import Derived.Test.YtakdnfneikbjjaaGreatDoorTie
import Derived.WalkKit
import Derived.ProofKit
import Derived.OpenShut
import Derived.Deep.DeepHandedRow
import Derived.Lib.LaidTab
set_option linter.all false
namespace Go.Proofs.YtakdnfneikbjjaaGreatDoor.Am.Lay10
open Go.Proofs.YtakdnfneikbjjaaGreatDoor.Am.T
def n12 : Int := 619036127056621
theorem NN12 : NN 12 = n12 := by decide +kernel
def fltN : List Int := [102, 108, 111, 97, 116]
def rectN (k : Node) : Rect := zjZ ⟨numT k [120], numT k [121], numT k [119], numT k [104]⟩
theorem znT {k : Node} (hb : ∀ d, NB d k) {m : Int} (h0 : 0 ≤ m) (hm : m + n12 ≤ cap) : Both 12 m (zee k 1 m) (zb2 k 1 m) := zj6 12 30 30 k 1 m (hb 13) (by omega) (by omega) (by omega) (by omega) h0 (by rw [NN12]; exact hm)
theorem zlJ {n k : Node} (hb : ∀ d, NB d k) {i : Nat} (hlt : i < n.Kids.length) (hget : n.Kids[i] = k) (hl : n.Kids.length ≤ 1048576) (hf : k.Name = fltN) {float : List Rect} (hfl : float.length ≤ i) (all : Plan) (m : Int) :
  layout_Read_l1 n float (i : Int) all m = some (.inl (float ++ [rectN k], ((i + 1 : Nat) : Int), all, m)) := by
 have h1 := (hb 1).1
 simp only [layout_Read_l1, letB]
 rw [yav (show (i : Int) < (n.Kids.length : Int) by omega), zbL hlt, hget, zaI (n := (i : Int) + 1) (by omega) (by omega)]
 simp only [cond_true, Option.bind_some]
 rw [yav (show k.Name = [102, 108, 111, 97, 116] from hf)]
 simp only [cond_true, zoK h1, Option.bind_some, zoI]
 rw [znS (by omega)]
 rfl
theorem zhy {n k : Node} (hb : ∀ d, NB d k) {i : Nat} (hlt : i < n.Kids.length) (hget : n.Kids[i] = k) (hl : n.Kids.length ≤ 1048576) (hf : k.Name = fltN) {float : List Rect} (hfl : float.length ≤ i) (kids : List Plan) (m : Int) :
  casementref10_Read_l1 n kids float m (i : Int) = some (.inl (kids, float ++ [rectN k], m, ((i + 1 : Nat) : Int))) := by
 have h1 := (hb 1).1
 simp only [casementref10_Read_l1, letB]
 rw [yav (show (i : Int) < (n.Kids.length : Int) by omega), zbL hlt, hget, zaI (n := (i : Int) + 1) (by omega) (by omega)]
 simp only [cond_true, Option.bind_some]
 rw [yav (show k.Name = [102, 108, 111, 97, 116] from hf)]
 simp only [cond_true, znL h1, Option.bind_some, znJ]
 rw [znS (by omega)]
 rfl
theorem zhz {n k : Node} {i : Nat} (hlt : i < n.Kids.length) (hget : n.Kids[i] = k) (hl : n.Kids.length ≤ 1048576) (hf : k.Name ≠ fltN) {float : List Rect} {kids : List Plan} (hk : kids.length ≤ 16) {m m2 : Int} {q : Plan} (hq : zb2 k 1 m = some (q, m2)) :
  casementref10_Read_l1 n kids float m (i : Int) = if kids.length + 1 > 16 ∨ float.length > 24 then some (.inr (.inl (k, q))) else some (.inl (kids ++ [q], float, m2, ((i + 1 : Nat) : Int))) := by
 simp only [casementref10_Read_l1, letB]
 rw [yav (show (i : Int) < (n.Kids.length : Int) by omega), zbL hlt, hget, zaI (n := (i : Int) + 1) (by omega) (by omega)]
 simp only [cond_true, Option.bind_some]
 rw [yau (show ¬ k.Name = [102, 108, 111, 97, 116] from hf)]
 simp only [cond_false, hq, Option.bind_some, zhp (show kids.length < 1000000 by omega), or_s]
 have e : (((kids ++ [q]).length : Nat) : Int) = kids.length + 1 := by simp
 by_cases hc : kids.length + 1 > 16 ∨ float.length > 24
 ·rw [if_pos hc, show (decide ((((kids ++ [q]).length : Nat) : Int) > 16) || decide ((float.length : Int) > 24)) = true by simp only [Bool.or_eq_true, yat, e]; omega]
  rfl
 ·rw [if_neg hc, show (decide ((((kids ++ [q]).length : Nat) : Int) > 16) || decide ((float.length : Int) > 24)) = false by simp only [Bool.or_eq_false_iff, decide_eq_false_iff_not, e]; omega]
  rfl
theorem zdE {n : Node} (hl : n.Kids.length ≤ 1048576) (hb : ∀ k ∈ n.Kids, ∀ d, NB d k) : ∀ (ks : List Node) (i : Nat) (kids : List Plan) (float : List Rect) (m : Int), n.Kids.drop i = ks → i + ks.length = n.Kids.length → kids.length ≤ 16 → float.length ≤ i → 0 ≤ m → m + (17 - kids.length) * n12 ≤ cap →
  ∃ j, iter (fun s => casementref10_Read_l1 n s.1 s.2.1 s.2.2.1 s.2.2.2 : (List Plan × List Rect × Int × Int) → Option ((List Plan × List Rect × Int × Int) ⊕ ((Node × Plan) ⊕ (List Plan × List Rect)))) (kids, float, m, (i : Int)) = some j ∧ (match j with | .inl _ => True | .inr w => w.1.length ≤ 16 ∧ w.1.length + w.2.length = kids.length + float.length + ks.length ∧ ∃ qs, w.1 = kids ++ qs)
 | [], i, kids, float, m, hd, hi, hk, hf, h0, hm => by
  simp only [List.length_nil] at hi
  refine ⟨.inr (kids, float), zaB ?_, hk, by simp, [], by simp⟩
  simp only [casementref10_Read_l1, letB]
  rw [yau (by omega)]; rfl
 | k :: ks, i, kids, float, m, hd, hi, hk, hf, h0, hm => by
  obtain ⟨hlt, hget, hdrop⟩ := zdC hd
  simp only [List.length_cons] at hi
  have hbk := hb k (hget ▸ List.getElem_mem hlt)
  by_cases hn : k.Name = fltN
  ·obtain ⟨j, e, r⟩ := zdE hl hb ks (i + 1) kids (float ++ [rectN k]) m hdrop (by omega) hk (by simp; omega) h0 hm
   refine ⟨j, (zaO (zhy hbk hlt hget hl hn hf kids m)).trans e, ?_⟩
   cases j with
   | inl z => trivial
   | inr w =>
    obtain ⟨r1, r2, r3⟩ := r
    refine ⟨r1, ?_, r3⟩
    simp only [yar, List.length_singleton, List.length_cons, List.length_nil] at r2 ⊢; omega
  ·unfold n12 cap at hm
   obtain ⟨q, m2, hq, hm1, hm2, _⟩ := znT hbk h0 (by unfold n12 cap; omega)
   rw [NN12] at hm2
   unfold n12 at hm2
   have hs := zhz hlt hget hl hn (float := float) hk hq
   by_cases hc : kids.length + 1 > 16 ∨ float.length > 24
   ·rw [if_pos hc] at hs
    exact ⟨_, zaB hs, trivial⟩
   ·rw [if_neg hc] at hs
    obtain ⟨j, e, r⟩ := zdE hl hb ks (i + 1) (kids ++ [q]) float m2 hdrop (by omega) (by simp; omega) (by omega) (by omega) (by simp only [yar, List.length_singleton]; unfold n12 cap; omega)
    refine ⟨j, (zaO hs).trans e, ?_⟩
    cases j with
    | inl z => trivial
    | inr w =>
     obtain ⟨r1, r2, qs, r3⟩ := r
     refine ⟨r1, ?_, q :: qs, by rw [r3]; simp⟩
     simp only [yar, List.length_singleton, List.length_cons, List.length_nil] at r2 ⊢; omega
theorem zlK {n k : Node} {i : Nat} (hlt : i < n.Kids.length) (hget : n.Kids[i] = k) (hl : n.Kids.length ≤ 1048576) (hf : k.Name ≠ fltN) {float : List Rect} {all : Plan} (hk : all.Kids.length ≤ i) {m m1 : Int} {p : Plan} {ok : Bool} (hp : zee k 1 m = some (p, ok, m1)) :
  layout_Read_l1 n float (i : Int) all m = if ok = true then some (.inl (float, ((i + 1 : Nat) : Int), { all with Kids := all.Kids ++ [p] }, m1)) else some (.inr (.inl (k, p, all, m1))) := by
 simp only [layout_Read_l1, letB]
 rw [yav (show (i : Int) < (n.Kids.length : Int) by omega), zbL hlt, hget, zaI (n := (i : Int) + 1) (by omega) (by omega)]
 simp only [cond_true, Option.bind_some]
 rw [yau (show ¬ k.Name = [102, 108, 111, 97, 116] from hf)]
 simp only [cond_false, hp, Option.bind_some, znS (show all.Kids.length < 4000000 by omega)]
 cases ok <;> rfl
theorem zhA {n : Node} (hl : n.Kids.length ≤ 40) (hb : ∀ k ∈ n.Kids, ∀ d, NB d k) : ∀ (ks : List Node) (i : Nat) (float : List Rect) (all : Plan) (m : Int), n.Kids.drop i = ks → i + ks.length = n.Kids.length → all.Kids.length ≤ i → float.length ≤ i → 0 ≤ m → m ≤ 288 →
  ∃ j, iter (fun s => layout_Read_l1 n s.1 s.2.1 s.2.2.1 s.2.2.2 : (List Rect × Int × Plan × Int) → Option ((List Rect × Int × Plan × Int) ⊕ ((Node × Plan × Plan × Int) ⊕ (List Rect × Plan × Int)))) (float, (i : Int), all, m) = some j ∧ (match j with | .inl _ => True | .inr w => (∃ fs, w.1 = float ++ fs) ∧ ∃ qs, w.2.1 = { all with Kids := all.Kids ++ qs })
 | [], i, float, all, m, hd, hi, hk, hf, h0, h1 => by
  simp only [List.length_nil] at hi
  refine ⟨.inr (float, all, m), zaB ?_, ⟨[], by simp⟩, [], by cases all; simp⟩
  simp only [layout_Read_l1, letB]
  rw [yau (by omega)]; rfl
 | k :: ks, i, float, all, m, hd, hi, hk, hf, h0, h1 => by
  obtain ⟨hlt, hget, hdrop⟩ := zdC hd
  simp only [List.length_cons] at hi
  have hbk := hb k (hget ▸ List.getElem_mem hlt)
  by_cases hn : k.Name = fltN
  ·obtain ⟨j, e, r⟩ := zhA hl hb ks (i + 1) (float ++ [rectN k]) all m hdrop (by omega) (by omega) (by simp; omega) h0 h1
   refine ⟨j, (zaO (zlJ hbk hlt hget (by omega) hn hf all m)).trans e, ?_⟩
   cases j with
   | inl z => trivial
   | inr w =>
    obtain ⟨⟨fs, r1⟩, r2⟩ := r
    exact ⟨⟨rectN k :: fs, by rw [r1]; simp⟩, r2⟩
  ·obtain ⟨_, _, _, _, _, hprog⟩ := znT hbk h0 (by unfold n12 cap; omega)
   obtain ⟨p, ok, m1, hp, hm1, hm2, hok, _⟩ := hprog h1
   have hs := zlK hlt hget (by omega) hn (float := float) hk hp
   cases ok with
   | true =>
    obtain ⟨_, _, h288, _⟩ := hok rfl
    rw [if_pos rfl] at hs
    obtain ⟨j, e, r⟩ := zhA hl hb ks (i + 1) float { all with Kids := all.Kids ++ [p] } m1 hdrop (by omega) (by simp; omega) (by omega) (by omega) h288
    refine ⟨j, (zaO hs).trans e, ?_⟩
    cases j with
    | inl z => trivial
    | inr w =>
     obtain ⟨r1, qs, r2⟩ := r
     exact ⟨r1, p :: qs, by rw [r2]; simp⟩
   | false =>
    rw [if_neg (by simp)] at hs
    exact ⟨_, zaB hs, trivial⟩
def allP (kids : List Plan) : Plan := ⟨3, ⟨0, 0⟩, [], kids, []⟩
def finP (q : Plan) (r : List Plan) (f : List Rect) : Plan := { (if r = [] then q else allP (q :: r)) with Float := f }
theorem read_both {n : Node} (hl : n.Kids.length ≤ 40) (hb : ∀ k ∈ n.Kids, ∀ d, NB d k) : ∀ (ks : List Node) (i : Nat) (kids : List Plan) (float : List Rect) (m : Int), n.Kids.drop i = ks → i + ks.length = n.Kids.length → kids.length ≤ 16 → kids.length ≤ i → float.length ≤ i → 0 ≤ m → m ≤ 288 →
  (∃ kids' float' m', iter (fun s => layout_Read_l1 n s.1 s.2.1 s.2.2.1 s.2.2.2 : (List Rect × Int × Plan × Int) → Option ((List Rect × Int × Plan × Int) ⊕ ((Node × Plan × Plan × Int) ⊕ (List Rect × Plan × Int)))) (float, (i : Int), allP kids, m) = some (.inr (float', allP kids', m')) ∧
   iter (fun s => casementref10_Read_l1 n s.1 s.2.1 s.2.2.1 s.2.2.2 : (List Plan × List Rect × Int × Int) → Option ((List Plan × List Rect × Int × Int) ⊕ ((Node × Plan) ⊕ (List Plan × List Rect)))) (kids, float, m, (i : Int)) = some (.inr (kids', float'))) ∨
  (∃ j1 j2, iter (fun s => layout_Read_l1 n s.1 s.2.1 s.2.2.1 s.2.2.2 : (List Rect × Int × Plan × Int) → Option ((List Rect × Int × Plan × Int) ⊕ ((Node × Plan × Plan × Int) ⊕ (List Rect × Plan × Int)))) (float, (i : Int), allP kids, m) = some j1 ∧
   iter (fun s => casementref10_Read_l1 n s.1 s.2.1 s.2.2.1 s.2.2.2 : (List Plan × List Rect × Int × Int) → Option ((List Plan × List Rect × Int × Int) ⊕ ((Node × Plan) ⊕ (List Plan × List Rect)))) (kids, float, m, (i : Int)) = some j2 ∧
   (match j1 with | .inl _ => True | .inr w => ∃ ks', w.2.1 = allP ks' ∧ (16 < ks'.length ∨ 24 < w.1.length)) ∧ (match j2 with | .inl _ => True | .inr w => ∃ q ∈ w.1, ¬ Rt 12 q))
 | [], i, kids, float, m, hd, hi, hk, hki, hf, h0, h1 => by
  simp only [List.length_nil] at hi
  refine .inl ⟨kids, float, m, zaB ?_, zaB ?_⟩
  ·simp only [layout_Read_l1, letB]
   rw [yau (by omega)]; rfl
  ·simp only [casementref10_Read_l1, letB]
   rw [yau (by omega)]; rfl
 | k :: ks, i, kids, float, m, hd, hi, hk, hki, hf, h0, h1 => by
  obtain ⟨hlt, hget, hdrop⟩ := zdC hd
  simp only [List.length_cons] at hi
  have hbk := hb k (hget ▸ List.getElem_mem hlt)
  by_cases hn : k.Name = fltN
  ·have s1 := zlJ hbk hlt hget (by omega) hn hf (allP kids) m
   have s2 := zhy hbk hlt hget (by omega) hn hf kids m
   rcases read_both hl hb ks (i + 1) kids (float ++ [rectN k]) m hdrop (by omega) hk (by omega) (by simp; omega) h0 h1 with ⟨k', f', m', a1, a2⟩ | ⟨j1, j2, a1, a2, a3, a4⟩
   ·exact .inl ⟨k', f', m', (zaO s1).trans a1, (zaO s2).trans a2⟩
   ·exact .inr ⟨j1, j2, (zaO s1).trans a1, (zaO s2).trans a2, a3, a4⟩
  ·obtain ⟨q, m2, hq, hm1, hm2, hprog⟩ := znT hbk h0 (by unfold n12 cap; omega)
   rw [NN12] at hm2
   unfold n12 at hm2
   obtain ⟨p, ok, m1, hp, hm3, hm4, hok, hbad⟩ := hprog h1
   have s1 := zlK (all := allP kids) hlt hget (by omega) hn (float := float) hki hp
   have s2 := zhz hlt hget (by omega) hn (float := float) hk hq
   cases ok with
   | true =>
    obtain ⟨rfl, rfl, h288, _⟩ := hok rfl
    rw [if_pos rfl] at s1
    by_cases hc : kids.length + 1 > 16 ∨ float.length > 24
    ·rw [if_pos hc] at s2
     obtain ⟨j, e, r⟩ := zhA hl hb ks (i + 1) float { allP kids with Kids := kids ++ [q] } m2 hdrop (by omega) (by simp; omega) (by omega) (by omega) h288
     refine .inr ⟨j, _, (zaO s1).trans e, zaB s2, ?_, trivial⟩
     cases j with
     | inl z => trivial
     | inr w =>
      obtain ⟨⟨fs, r1⟩, qs, r2⟩ := r
      refine ⟨kids ++ [q] ++ qs, r2, ?_⟩
      rw [r1]
      simp only [yar, List.length_singleton]
      omega
    ·rw [if_neg hc] at s2
     rcases read_both hl hb ks (i + 1) (kids ++ [q]) float m2 hdrop (by omega) (by simp; omega) (by simp; omega) (by omega) (by omega) h288 with ⟨k', f', m', a1, a2⟩ | ⟨j1, j2, a1, a2, a3, a4⟩
     ·exact .inl ⟨k', f', m', (zaO s1).trans a1, (zaO s2).trans a2⟩
     ·exact .inr ⟨j1, j2, (zaO s1).trans a1, (zaO s2).trans a2, a3, a4⟩
   | false =>
    have hb2 := hbad rfl
    rw [if_neg (by simp)] at s1
    by_cases hc : kids.length + 1 > 16 ∨ float.length > 24
    ·rw [if_pos hc] at s2
     exact .inr ⟨_, _, zaB s1, zaB s2, trivial, trivial⟩
    ·rw [if_neg hc] at s2
     obtain ⟨j, e, r⟩ := zdE (by omega) hb ks (i + 1) (kids ++ [q]) float m2 hdrop (by omega) (by simp; omega) (by omega) (by omega) (by simp only [yar, List.length_singleton]; unfold n12 cap; omega)
     refine .inr ⟨_, j, zaB s1, (zaO s2).trans e, trivial, ?_⟩
     cases j with
     | inl z => trivial
     | inr w =>
      obtain ⟨_, _, qs, r3⟩ := r
      exact ⟨q, by rw [r3]; simp, hb2⟩
theorem znU : ∀ (d : Nat) (p : Plan), Rt d p → Rt (d + 1) p
 | 0, p, h => h.elim
 | d + 1, p, h => by
  obtain ⟨hs, h1 | ⟨h1, h2, h3, h4, h5⟩⟩ := h
  ·exact ⟨hs, .inl h1⟩
  ·exact ⟨hs, .inr ⟨h1, h2, h3, h4, fun k hk => ⟨znU d k (h5 k hk).1, (h5 k hk).2⟩⟩⟩
theorem znV {p : Plan} (h : okP p) : Rt 12 p := (zhr h).1
theorem zj7 (p : Plan) : zb6 p = some (if okP p then 0 else 100) := zmo p
theorem zj8 {a : List Rect} (hl : a.length < 1000000) : zbz a a = some true := by
 have loop : ∀ (m i : Nat), i + m = a.length → iter (fun i => casementref02_Same_l1 a a i : Int → Option (Int ⊕ (Unit ⊕ Unit))) (i : Int) = some (.inr ()) := by
  intro m
  induction m with
  | zero =>
   intro i hi
   refine zaB ?_
   simp only [casementref02_Same_l1, letB]
   rw [yau (by omega)]; rfl
  | succ m ih =>
   intro i hi
   refine (zaO (s' := ((i + 1 : Nat) : Int)) ?_).trans (ih (i + 1) (by omega))
   simp only [casementref02_Same_l1, letB]
   rw [yav (show (i : Int) < (a.length : Int) by omega), zbL (show i < a.length by omega), zaI (n := (i : Int) + 1) (by omega) (by omega)]
   simp
 have := loop a.length 0 (by omega)
 unfold zbz
 simp only [show ((0 : Nat) : Int) = 0 from rfl] at this
 simp [letB, this]
theorem zhB : ∀ (d k : Nat) (p : Plan), Rt d p → d ≤ k → zaD k p p = some true
 | 0, k, p, h, hk => h.elim
 | d + 1, 0, p, h, hk => by omega
 | d + 1, k + 1, p, h, hk => by
  show zaZ (zaD k) p p = _
  have loop : iter (fun i => casementref10_sameTreeF_l1 p p (zaD k) i : Int → Option (Int ⊕ (Unit ⊕ Unit))) 0 = some (.inr ()) := by
   obtain ⟨_, h1 | ⟨h1, _, _, hl, hks⟩⟩ := h
   ·refine zaB ?_
    simp only [casementref10_sameTreeF_l1, letB]
    rw [yau (show ¬ p.Kind ≠ 1 by omega)]
    cases decide ((0 : Int) < (p.Kids.length : Int)) <;> rfl
   ·have lp : ∀ (m i : Nat), i + m = p.Kids.length → iter (fun i => casementref10_sameTreeF_l1 p p (zaD k) i : Int → Option (Int ⊕ (Unit ⊕ Unit))) (i : Int) = some (.inr ()) := by
     intro m
     induction m with
     | zero =>
      intro i hi
      refine zaB ?_
      simp only [casementref10_sameTreeF_l1, letB]
      rw [yau (show ¬ (i : Int) < (p.Kids.length : Int) by omega)]; rfl
     | succ m ih =>
      intro i hi
      have hlt : i < p.Kids.length := by omega
      refine (zaO (s' := ((i + 1 : Nat) : Int)) ?_).trans (ih (i + 1) (by omega))
      simp only [casementref10_sameTreeF_l1, letB]
      rw [yav (show (i : Int) < (p.Kids.length : Int) by omega), yav h1, zbL hlt, zaI (n := (i : Int) + 1) (by omega) (by omega)]
      simp only [cond_true, Option.bind_some, zhB d k _ (hks _ (List.getElem_mem hlt)).1 (by omega)]
      rfl
    exact lp _ 0 (Nat.zero_add _)
  unfold zaZ
  simp [letB, loop]
theorem zk6 {p : Plan} (h : okP p) : za4 p p = some true := by
 obtain ⟨h1, _, h3⟩ := zhr h
 unfold za4 zbX
 rw [zj8 (by omega), zhB 12 30 p h1 (by omega)]
 rfl
theorem zms {n : Node} (hl : n.Kids.length ≤ 1048576) (hb : ∀ k ∈ n.Kids, ∀ d, NB d k) : zaE n = some true := by
 have refend : ∀ (kids : List Plan) (float : List Rect), (letB (decide ((kids.length : Int) = 0)) fun c27 =>
   bif c27 then (some ((Plan.mk 0 (Size.mk 0 0) [] [] []), false))
   else (
    (idx kids 0).bind fun x29 =>
    letB (decide ((kids.length : Int) > 1)) fun c30 =>
    Option.bind (bif c30 then (some ((Plan.mk 3 (Size.mk 0 0) [] kids []))) else (some (x29)) : Option Plan) fun j32 =>
    (zaL ({ j32 with Float := float })).bind fun y33 =>
    some ({ j32 with Float := float }, y33))) = (match kids with
    | [] => some (zc5, false)
    | q :: r => some ((finP q r float), decide (okP (finP q r float)))) := by
  intro kids float
  simp only [letB, zj4]
  match kids with
  | [] => rfl
  | [q] => rfl
  | q :: q2 :: r =>
   rw [yau (by simp; omega), yav (by simp; omega)]
   rfl
 have bad : ∀ (o : Option (Plan × Bool)) (p : Plan), o = some (p, false) → zbF n = some (zc5, 100) → zaY n = o → zaE n = some true := by
  rintro o p rfl h1 h2
  unfold zaE zbT
  simp only [Option.bind_some, Bool.not_true, cond_false, h1, h2, Bool.not_false, letB]
  rfl
 by_cases hname : n.Name = [108, 97, 121, 111, 117, 116]
 ·have href : zaY n = ((iter (fun s => casementref10_Read_l1 n s.1 s.2.1 s.2.2.1 s.2.2.2 : (List Plan × List Rect × Int × Int) → Option ((List Plan × List Rect × Int × Int) ⊕ ((Node × Plan) ⊕ (List Plan × List Rect)))) ([], [], 0, 0)).bind fun j24 =>
    match j24 with
    | .inl z25 => (some (zc5, false))
    | .inr z26 => (match z26.1 with
     | [] => some (zc5, false)
     | q :: r => some ((finP q r z26.2), decide (okP (finP q r z26.2))))) := by
   unfold zaY
   simp only [letB]
   rw [yau (by simpa using hname)]
   simp only [cond_false]
   congr 1
   funext j
   cases j with
   | inl z => rfl
   | inr z => exact refend z.1 z.2
  by_cases h40 : n.Kids.length > 40
  ·have hprog : zbF n = some (zc5, 100) := by
    unfold zbF
    simp only [letB, or_s]
    rw [yau (by simpa using hname), yav (by omega)]
    rfl
   obtain ⟨j, e, r⟩ := zdE hl hb n.Kids 0 [] [] 0 rfl (by omega) (by simp) (by simp) (by omega) (by simp [n12, cap])
   simp only [show ((0 : Nat) : Int) = 0 from rfl] at e
   rw [e] at href
   simp only [Option.bind_some] at href
   cases j with
   | inl z => exact bad _ zc5 rfl hprog href
   | inr w =>
    obtain ⟨r1, r2, _⟩ := r
    simp only [List.length_nil] at r2
    cases hw : w.1 with
    | nil => simp only [hw] at href; exact bad _ zc5 rfl hprog href
    | cons q rr =>
     simp only [hw] at href
     refine bad _ (finP q rr w.2) ?_ hprog href
     rw [yau]
     intro hok
     have := ((ziN _).1 hok).1
     have e24 : (finP q rr w.2).Float = w.2 := rfl
     rw [e24] at this
     omega
  ·have hprog : zbF n = ((iter (fun s => layout_Read_l1 n s.1 s.2.1 s.2.2.1 s.2.2.2 : (List Rect × Int × Plan × Int) → Option ((List Rect × Int × Plan × Int) ⊕ ((Node × Plan × Plan × Int) ⊕ (List Rect × Plan × Int)))) ([], 0, allP [], 0)).bind fun j23 =>
     match j23 with
     | .inl z24 => some (zc5, (100 : Int))
     | .inr z25 => (
      Option.bind (bif decide ((z25.2.1.Kids.length : Int) = 1) then ((idx z25.2.1.Kids 0).bind fun x28 => some (x28)) else (some (z25.2.1)) : Option Plan) fun j29 =>
      if okP { j29 with Float := z25.1 } then some ({ j29 with Float := z25.1 }, 0) else some (zc5, (100 : Int)))) := by
    unfold zbF
    simp only [letB, or_s]
    rw [yau (by simpa using hname), yau (show ¬ (n.Kids.length : Int) > 40 by omega)]
    simp only [Bool.or_self, Option.bind_some, cond_false]
    congr 1
    funext j
    cases j with
    | inl z => rfl
    | inr z =>
     simp only
     congr 1
     funext p
     rw [zj7]
     by_cases hok : okP { p with Float := z.1 }
     ·rw [if_pos hok, if_pos hok]; rfl
     ·rw [if_neg hok, if_neg hok]; rfl
   have hboth := read_both (by omega) hb n.Kids 0 [] [] 0 rfl (by omega) (by simp) (by simp) (by simp) (by omega) (by omega)
   simp only [show ((0 : Nat) : Int) = 0 from rfl] at hboth
   rcases hboth with ⟨kids, float, m', a1, a2⟩ | ⟨j1, j2, a1, a2, a3, a4⟩
   ·rw [a1] at hprog
    rw [a2] at href
    simp only [Option.bind_some] at hprog href
    match kids, hprog, href with
    | [], hprog, href =>
     refine bad (some (zc5, false)) zc5 rfl ?_ href
     rw [hprog]
     have : ¬ okP { allP [] with Float := float } := fun h => by
      obtain ⟨_, h1 | ⟨_, _, h2, _⟩⟩ := znV h
      ·cases h1
      ·simp [allP] at h2
     show (if okP { allP [] with Float := float } then some (({ allP [] with Float := float } : Plan), (0 : Int)) else some (zc5, (100 : Int))) = _
     rw [if_neg this]
    | q :: r, hprog, href =>
     have hj : (Option.bind (bif decide (((allP (q :: r)).Kids.length : Int) = 1) then ((idx (allP (q :: r)).Kids 0).bind fun x28 => some (x28)) else (some (allP (q :: r))) : Option Plan) fun j29 => if okP { j29 with Float := float } then some ({ j29 with Float := float }, (0 : Int)) else some (zc5, 100)) = if okP (finP q r float) then some ((finP q r float), (0 : Int)) else some (zc5, 100) := by
      cases r with
      | nil => rfl
      | cons q2 r =>
       rw [yau (by simp [allP]; omega), show finP q (q2 :: r) float = { allP (q :: q2 :: r) with Float := float } by unfold finP; rw [if_neg (by simp)]]; rfl
     rw [hj] at hprog
     simp only at href
     generalize (finP q r float) = P at hprog href
     by_cases hok : okP P
     ·rw [if_pos hok] at hprog
      rw [yav hok] at href
      unfold zaE zbT
      simp only [Option.bind_some, Bool.not_true, cond_false, hprog, href, letB, zk6 hok, zj7, if_pos hok]
      rfl
     ·rw [if_neg hok] at hprog
      rw [yau hok] at href
      exact bad _ P rfl hprog href
   ·rw [a1] at hprog
    rw [a2] at href
    simp only [Option.bind_some] at hprog href
    have hp : zbF n = some (zc5, 100) := by
     rw [hprog]
     cases j1 with
     | inl z => rfl
     | inr w =>
      obtain ⟨ks', hk', hc⟩ := a3
      simp only [hk']
      have key : ∀ P : Plan, (P = allP ks' ∧ 16 < ks'.length) ∨ 24 < w.1.length → ¬ okP { P with Float := w.1 } := by
       rintro P (⟨rfl, h⟩ | h) hok
       ·obtain ⟨_, h1 | ⟨_, _, _, h2, _⟩⟩ := znV hok
        ·cases h1
        ·simp only [allP] at h2; omega
       ·have := ((ziN _).1 hok).1
        simp only at this
        omega
      by_cases h1 : ks'.length = 1
      ·rw [yav (show (((allP ks').Kids.length : Nat) : Int) = 1 by simp only [allP]; omega)]
       match ks', h1 with
       | [q], _ =>
        show (if okP { q with Float := w.1 } then some (({ q with Float := w.1 } : Plan), (0 : Int)) else some (zc5, (100 : Int))) = _
        rw [if_neg (key q (.inr (hc.resolve_left (by simp))))]
      ·rw [yau (show ¬ (((allP ks').Kids.length : Nat) : Int) = 1 by simp only [allP]; omega)]
       show (if okP { allP ks' with Float := w.1 } then some (({ allP ks' with Float := w.1 } : Plan), (0 : Int)) else some (zc5, (100 : Int))) = _
       rw [if_neg (key _ (hc.elim (fun h => .inl ⟨rfl, h⟩) .inr))]
    cases j2 with
    | inl z => exact bad _ zc5 rfl hp href
    | inr w =>
     obtain ⟨x, hx, hnx⟩ := a4
     cases hw : w.1 with
     | nil => rw [hw] at hx; cases hx
     | cons q r =>
      rw [hw] at hx
      simp only [hw] at href
      refine bad _ (finP q r w.2) ?_ hp href
      rw [yau]
      intro hok
      have hR := znV hok
      unfold finP at hR
      cases r with
      | nil =>
       obtain rfl := yao.1 hx
       exact hnx hR
      | cons q2 r =>
       rw [if_neg (by simp)] at hR
       obtain ⟨_, h1 | ⟨_, _, _, _, h2⟩⟩ := hR
       ·cases h1
       ·exact hnx (znU 11 x (h2 x hx).1)
 ·refine bad (some (zc5, false)) zc5 rfl ?_ ?_
  ·unfold zbF
   simp only [letB, or_s]
   rw [yav hname]; rfl
  ·unfold zaY
   simp only [letB]
   rw [yav hname]; rfl
end Go.Proofs.YtakdnfneikbjjaaGreatDoor.Am.Lay10

set_option linter.all false
namespace Go.Proofs.YtakdnfneikbjjaaGreatDoor.Am.Lay10
open Go.Proofs.YtakdnfneikbjjaaGreatDoor.Am.T
section
variable {dx dy : Int}
end
end Go.Proofs.YtakdnfneikbjjaaGreatDoor.Am.Lay10

namespace Go.Proofs.YtakdnfneikbjjaaGreatDoor.Am
section
variable {P : Program}
theorem zoM {t : TypeId} {k : IntKind} (ht : P.underlying t = some (.int k)) {vs : List V} (h : Fits P t vs) : ∃ n, vs = [.int k n] ∧ (Lit.int k n).wf = true := by
 cases h <;> simp_all
theorem znW {t : TypeId} (ht : P.underlying t = some .bool) {vs : List V} (h : Fits P t vs) : ∃ b, vs = [.bool b] := by
 cases h <;> simp_all
theorem zoN {t : TypeId} (ht : P.underlying t = some .string) {vs : List V} (h : Fits P t vs) : ∃ s, vs = [.str s] ∧ s.length ≤ maxLen := by
 cases h <;> simp_all
theorem fits_slice {t e : TypeId} (ht : P.underlying t = some (.slice e)) {vs : List V} (h : Fits P t vs) : vs = [.nils] ∨ ∃ xs, vs = [.slice false (P.cellsOf e) xs] ∧ xs.length ≤ maxLen ∧ ∀ x ∈ xs, Fits P e x := by
 cases h with
 | nils => exact .inl rfl
 | slice xs h hl hx =>
  rw [ht] at h
  cases h
  refine .inr ⟨xs, rfl, hl, fun x hm => ?_⟩
  obtain ⟨i, hi, rfl⟩ := List.getElem_of_mem hm
  have := hx i hi
  rwa [yad, yai hi] at this
 | _ => simp_all
end
end Go.Proofs.YtakdnfneikbjjaaGreatDoor.Am

namespace Go.Proofs.YtakdnfneikbjjaaGreatDoor.Am
inductive LT where
 | bool
 | int (k : IntKind)
 | str
 | slice (e : TypeId)
 deriving DecidableEq
def zj9 (P : Program) (F : TypeId → Option (List LT)) : Nat → List Field → Option (List LT)
 | _, [] => some []
 | n, f :: fs => if f.offset = n ∧ (F f.type).map List.length = some (P.cellsOf f.type) then (F f.type).bind fun l => (zj9 P F (n + P.cellsOf f.type) fs).bind fun r => some (l ++ r) else none
def zgr (P : Program) : Nat → TypeId → Option (List LT)
 | 0, _ => none
 | d + 1, t => match P.underlying t with
  | some .bool => some [.bool]
  | some (.int k) => some [.int k]
  | some .string => some [.str]
  | some (.slice e) => some [.slice e]
  | some (.struct fs) => (zj9 P (zgr P d) 0 fs.toList).bind fun l => if l.length = P.cellsOf t then some l else none
  | some (.array n e) => (zgr P d e).bind fun l => if l.length = P.cellsOf e ∧ P.cellsOf t = n * P.cellsOf e then some (List.replicate n l).flatten else none
  | _ => none
def LV (P : Program) (l : LT) (v : V) : Prop :=
 match l with
 | .bool => ∃ b, v = .bool b
 | .int k => ∃ n, v = .int k n ∧ (Lit.int k n).wf = true
 | .str => ∃ s, v = .str s ∧ s.length ≤ maxLen
 | .slice e => v = .nils ∨ ∃ xs, v = .slice false (P.cellsOf e) xs ∧ xs.length ≤ maxLen ∧ ∀ x ∈ xs, Fits P e x
def LVs (P : Program) : List LT → List V → Prop
 | [], [] => True
 | l :: ls, v :: vs => LV P l v ∧ LVs P ls vs
 | _, _ => False
section
variable {P : Program}
theorem LVs.append : ∀ {ls ks : List LT} {vs us : List V}, LVs P ls vs → LVs P ks us → LVs P (ls ++ ks) (vs ++ us)
 | [], _, [], _, _, h => h
 | _ :: _, _, _ :: _, _, h, k => ⟨h.1, LVs.append h.2 k⟩
 | [], _, _ :: _, _, h, _ => h.elim
 | _ :: _, _, [], _, h, _ => h.elim
theorem LVs.len : ∀ {ls : List LT} {vs : List V}, LVs P ls vs → vs.length = ls.length
 | [], [], _ => rfl
 | _ :: _, _ :: _, h => by rw [List.length_cons, List.length_cons, LVs.len h.2]
 | [], _ :: _, h => h.elim
 | _ :: _, [], h => h.elim
theorem zka {F : TypeId → Option (List LT)} (hF : ∀ t ls vs, F t = some ls → Fits P t vs → LVs P ls vs) {vs : List V} : ∀ {fs : List Field} {n : Nat} {ls : List LT}, zj9 P F n fs = some ls → (∀ f ∈ fs, Fits P f.type ((vs.drop f.offset).take (P.cellsOf f.type))) →
  LVs P ls ((vs.drop n).take ls.length)
 | [], n, ls, h, _ => by
  simp only [zj9, yaa] at h
  subst h
  rw [List.length_nil, List.take_zero]; trivial
 | f :: fs, n, ls, h, hf => by
  simp only [zj9] at h
  split at h
  ·rename_i hc
   simp only [yab, yaa] at h
   obtain ⟨l, hl, r, hr, rfl⟩ := h
   have h1 := hF _ _ _ hl (hf f (.head _))
   have h2 := zka hF hr fun g hg => hf g (.tail _ hg)
   have hlen : l.length = P.cellsOf f.type := by
    have := hc.2
    rw [hl] at this
    simpa using this
   rw [hc.1, ← hlen] at h1
   rw [← hlen] at h2
   have hsplit : (vs.drop n).take (l ++ r).length = (vs.drop n).take l.length ++ (vs.drop (n + l.length)).take r.length := by
    rw [yar, List.take_add, List.drop_drop]
   rw [hsplit]
   exact h1.append h2
  ·cases h
theorem zkb {l : List LT} {e : TypeId} (hF : ∀ vs, Fits P e vs → LVs P l vs) (hl : l.length = P.cellsOf e) {vs : List V} : ∀ {n i : Nat}, (∀ j, i ≤ j → j < i + n → Fits P e ((vs.drop (j * P.cellsOf e)).take (P.cellsOf e))) →
  LVs P (List.replicate n l).flatten ((vs.drop (i * P.cellsOf e)).take (n * P.cellsOf e))
 | 0, i, _ => by rw [Nat.zero_mul, List.take_zero]; trivial
 | n + 1, i, h => by
  have h1 := hF _ (h i (Nat.le_refl _) (by omega))
  have h2 := zkb hF hl (n := n) (i := i + 1) fun j hj hk => h j (by omega) (by omega)
  rw [List.replicate_succ, List.flatten_cons, Nat.succ_mul, Nat.add_comm, List.take_add, List.drop_drop]
  rw [Nat.succ_mul] at h2
  exact h1.append h2
theorem zf6 : ∀ {d : Nat} {t : TypeId} {ls : List LT} {vs : List V}, zgr P d t = some ls → Fits P t vs → LVs P ls vs := by
 intro d
 induction d with
 | zero => intro t ls vs h; cases h
 | succ d ih =>
  intro t ls vs h hf
  unfold zgr at h
  split at h
  ·rename_i ht
   cases h
   obtain ⟨b, rfl⟩ := znW ht hf
   exact ⟨⟨b, rfl⟩, trivial⟩
  ·rename_i ht
   cases h
   obtain ⟨n, rfl, hw⟩ := zoM ht hf
   exact ⟨⟨n, rfl, hw⟩, trivial⟩
  ·rename_i ht
   cases h
   obtain ⟨s, rfl, hw⟩ := zoN ht hf
   exact ⟨⟨s, rfl, hw⟩, trivial⟩
  ·rename_i ht
   cases h
   rcases fits_slice ht hf with rfl | ⟨xs, rfl, h1, h2⟩
   ·exact ⟨.inl rfl, trivial⟩
   ·exact ⟨.inr ⟨xs, rfl, h1, h2⟩, trivial⟩
  ·rename_i fs ht
   simp only [yab] at h
   obtain ⟨l, hl, h⟩ := h
   split at h
   ·rename_i hc
    cases h
    cases hf with
    | struct _ ht2 hlen hff =>
     rw [ht] at ht2
     cases ht2
     have := zka (vs := vs) (fun _ _ _ a b => ih a b) hl hff
     rwa [List.drop_zero, List.take_of_length_le (by omega)] at this
    | _ => simp_all
   ·cases h
  ·rename_i n e ht
   simp only [yab] at h
   obtain ⟨l, hl, h⟩ := h
   split at h
   ·rename_i hc
    cases h
    cases hf with
    | array _ ht2 hlen hff =>
     rw [ht] at ht2
     cases ht2
     have := zkb (vs := vs) (fun _ b => ih hl b) hc.1 (n := n) (i := 0) fun j _ hj => hff j (by omega)
     rwa [Nat.zero_mul, List.drop_zero, List.take_of_length_le (by omega)] at this
    | _ => simp_all
   ·cases h
  ·cases h
end
end Go.Proofs.YtakdnfneikbjjaaGreatDoor.Am

namespace Go.Proofs.YtakdnfneikbjjaaGreatDoor.Am
section
variable {P : Program} {W : World} {H : Type} {enc : TypeId × Value → H}
end
end Go.Proofs.YtakdnfneikbjjaaGreatDoor.Am

set_option linter.all false
namespace Go.Proofs.YtakdnfneikbjjaaGreatDoor.Am.Lay10
open Go.Proofs.YtakdnfneikbjjaaGreatDoor.Am.T
end Go.Proofs.YtakdnfneikbjjaaGreatDoor.Am.Lay10

set_option linter.all false
namespace Go.Proofs.YtakdnfneikbjjaaGreatDoor.Am.Lay10
open Go.Proofs.YtakdnfneikbjjaaGreatDoor.Am.T
def zpK : Option TypeDesc → Bool
 | some (.struct _) => true
 | _ => false
end Go.Proofs.YtakdnfneikbjjaaGreatDoor.Am.Lay10

namespace Go.Proofs.YtakdnfneikbjjaaGreatDoor.Am
section
variable {P : Program} {W : World} {H : Type} {enc : TypeId × Value → H}
end
end Go.Proofs.YtakdnfneikbjjaaGreatDoor.Am

namespace Go.Proofs.YtakdnfneikbjjaaGreatDoor.Am
def sup1 (P : Program) (S : List TypeId) (t : TypeId) : Bool := match P.underlying t with
 | some .bool | some (.int _) | some .string => P.cellsOf t == 1
 | some (.slice e) => P.cellsOf t == 1 && decide (0 < P.cellsOf e) && S.contains e
 | some (.struct fs) => zjH P 0 fs.toList (P.cellsOf t) && fs.toList.all fun f => S.contains f.type
 | _ => false
def supS (P : Program) (S : List TypeId) : Bool := S.all (sup1 P S)
section
variable {P : Program} {H : Type} {enc : TypeId × Value → H} {W : World}
theorem znX {S : List TypeId} (hS : supS P S = true) : ∀ {fuel : Nat} {t : TypeId}, S.contains t = true → ∀ {held : Bool} {cs : List Value} {x : DataW H × List MemPlace}, DataW.trod enc P W 0 (fun _ => true) held fuel t cs = some x → zpj P W t cs := by
 intro fuel
 induction fuel with
 | zero => intro t _ held cs x hx; simp [DataW.trod] at hx
 | succ fuel ih =>
  intro t htS held cs x hx
  have h := yam.1 hS t (List.contains_iff_mem.1 htS)
  simp only [sup1] at h
  split at h
  ·rename_i ht
   obtain ⟨b, rfl, _⟩ := DataW.trod_bool ht hx
   exact ⟨[.bool b], rfl, .bool b ht, fun k hk => by
    have : k = 0 := by simpa using hk
    subst this; exact .bool b⟩
  ·rename_i kk ht
   obtain ⟨n, rfl, _, hwf⟩ := DataW.trod_int ht hx
   exact ⟨[.int kk n], rfl, .int n ht hwf, fun k hk => by
    have : k = 0 := by simpa using hk
    subst this; exact .int kk n⟩
  ·rename_i ht
   obtain ⟨s, rfl, _, hs⟩ := DataW.trod_string ht hx
   exact ⟨[.str s.data.toList], rfl, .str _ ht (by simpa using hs), fun k hk => by
    have : k = 0 := by simpa using hk
    subst this; exact .str s⟩
  ·rename_i e ht
   simp only [yae, beq_iff_eq, yat] at h
   obtain ⟨⟨_, hpos⟩, hsup⟩ := h
   rcases DataW.trod_slice ht hx with ⟨rfl, _⟩ | ⟨a, len, cap, elems, rest, n, hn, rfl, _, _, hlc, hcap, hel, he, hre, _⟩
   ·exact ⟨[.nils], rfl, .nils ht, fun k hk => by
     have : k = 0 := by simpa using hk
     subst this; exact .nils⟩
   ·cases hn
    have hone : ∀ i, i < len → ∃ vs : List V, Fits P e vs ∧ vs.length = P.cellsOf e ∧ ∀ k, k < P.cellsOf e → ∃ v, W.cell? ((a.add (i * P.cellsOf e)).add k) = some v ∧ RB (zcW W) W (vs.getD k .undef) v := fun i hi => by
     have h1 := he i hi
     rw [yai (by omega)] at h1
     simp only [yab] at h1
     obtain ⟨cs', hc1, hc2⟩ := h1
     obtain ⟨_, hl, hc⟩ := World.cells?_some hc1
     obtain ⟨vs, hf, hr⟩ := zfz.1 (ih hsup hc2)
     refine ⟨vs, hf, by rw [hr.1, hl], fun k hk => ⟨cs'.getD k undef, ?_, hr.2 k (by omega)⟩⟩
     rw [hc k hk, yad, yai (by omega)]; rfl
    obtain ⟨xs, hxl, hxs⟩ := zkP hone
    have hxs' : ∀ i, i < xs.length → Fits P e (xs.getD i []) ∧ (xs.getD i []).length = P.cellsOf e ∧ ∀ k, k < P.cellsOf e → ∃ v, W.cell? ((a.add (i * P.cellsOf e)).add k) = some v ∧ RB (zcW W) W ((xs.getD i []).getD k .undef) v := fun i hi => by
     rw [yad, yai hi]
     exact hxs i _ (yai hi)
    have hblk : 0 < cap → a.block < W.heap.size ∧ a.spot = none := fun hc0 => by
     have h00 : (a.add (0 * P.cellsOf e)).add 0 = a := by simp [Addr.add]
     have hcell : ∃ v, W.cell? a = some v := by
      by_cases h0 : 0 < len
      ·obtain ⟨v, hv, _⟩ := (hxs' 0 (by omega)).2.2 0 hpos
       rw [h00] at hv
       exact ⟨v, hv⟩
      ·have h1 := (hre rfl).2 0 (by omega)
       have h2 := (hre rfl).1
       have hl0 : len = 0 := by omega
       subst hl0
       rw [yai (by omega)] at h1
       simp only [yab] at h1
       obtain ⟨cs', hc1, _⟩ := h1
       obtain ⟨_, hl, hc⟩ := World.cells?_some hc1
       have h3 := hc 0 hpos
       rw [Nat.add_zero, h00, yai (by omega)] at h3
       exact ⟨_, h3⟩
     obtain ⟨v, hv⟩ := hcell
     exact zmi hv
    refine ⟨[.slice false (P.cellsOf e) xs], rfl, .slice xs ht (by omega) (fun i hi => (hxs' i hi).1), fun k hk => ?_⟩
    have : k = 0 := by simpa using hk
    subst this
    simp only [List.getD_cons_zero]
    refine RB.slice_iff.2 ⟨a, cap, by rw [hxl], fun hc0 => (hblk hc0).2, fun hc0 => (hblk hc0).1, by omega, fun i hi => (hxs' i hi).2.1, fun i k hi hk => ?_⟩
    obtain ⟨v, hv, hr⟩ := (hxs' i hi).2.2 k hk
    refine ⟨v, ?_, hr⟩
    have hsp := (hblk (by omega)).2
    rw [zch hsp, zch rfl] at hv
    rw [← hv]
    simp [Nat.add_assoc]
  ·rename_i fs ht
   simp only [yae, yam] at h
   obtain ⟨htile, hall⟩ := h
   obtain ⟨xs, n, hn, _, hl, hxl, hf⟩ := DataW.trod_struct ht hx
   cases hn
   obtain ⟨_, vs, hvs, hfs⟩ := zjI (P := P) (W := W) (cs := cs) htile (by omega) fun f hfm => by
    obtain ⟨i, hi⟩ := List.getElem?_of_mem hfm
    have hi' : i < fs.size := by have := (List.getElem?_eq_some_iff.1 hi).1; simpa using this
    have h1 := hf i f (by simpa using hi)
    rw [yai (by omega)] at h1
    exact ih (hall f hfm) h1
   rw [List.drop_zero, Nat.sub_zero, List.take_of_length_le (by omega)] at hvs
   exact zfz.2 ⟨vs, .struct vs ht (by rw [hvs.1, hl]) (fun f hfm => by simpa using (hfs f hfm).2), hvs⟩
  ·cases h
theorem zpr {S : List TypeId} (hS : supS P S = true) {t : TypeId} (hsup : S.contains t = true) {v : Value} {dd : DataW H} {ps : List MemPlace} {base : Nat} (hval : Value.okWide P W .any base t v) (h : DataW.Trod enc P W 0 (fun _ => true) true t v dd ps) :
  ∃ x, zhI P t x ∧ ArgOK W x v := by
 obtain ⟨fuel, h⟩ := h
 obtain ⟨cs, hfit, hr⟩ := zfz.1 (znX hS hsup h)
 have agg : ∀ arr : Array Value, v = .agg arr → ArgOK W (.agg cs) v := fun arr e => by
  subst e
  have hc : (Value.agg arr).cells = arr := rfl
  rw [hc] at hr
  refine .agg cs arr (by have := hr.1; simpa using this.symm) fun k hk => ?_
  have := hr.2 k (by rw [← hr.1]; exact hk)
  rwa [zaA] at this
 have leaf : (∀ arr, v ≠ .agg arr) → cs.length = 1 → ∃ x, cs = [x] ∧ ArgOK W x v := fun hv h1 => by
  match cs, h1 with
  | [x], _ =>
   refine ⟨x, rfl, .leaf ?_⟩
   rw [zfK hv] at hr
   exact hr.2 0 (by simp)
 unfold zhI
 unfold Value.okWide at hval
 cases hu : P.underlying t with
 | none => cases hfit <;> simp_all
 | some ud =>
  rw [hu] at hval
  cases ud with
  | struct fs => obtain ⟨arr, e, _⟩ := hval; exact ⟨.agg cs, ⟨cs, rfl, hfit⟩, agg arr e⟩
  | array n e => obtain ⟨arr, e, _⟩ := hval; exact ⟨.agg cs, ⟨cs, rfl, hfit⟩, agg arr e⟩
  | _ =>
   simp only at hval ⊢
   have h1 : cs.length = 1 := by cases hfit <;> first | rfl | simp_all
   have h2 : ∀ arr, v ≠ .agg arr := fun arr e => by
    subst e
    simp only [Cell.okWide, Cell.ok, hu] at hval
   obtain ⟨x, rfl, hx⟩ := leaf h2 h1
   exact ⟨x, hfit, hx⟩
theorem zlL {S : List TypeId} (hS : supS P S = true) : ∀ {ts : List TypeId} {vs : List Value} {ds : List (DataW H)} {ps : List MemPlace} {base : Nat}, (ts.all fun t => S.contains t) = true → (∀ (j : Nat) (t : TypeId) (v : Value), ts[j]? = some t → vs[j]? = some v → Value.okWide P W .any base t v) →
  DataW.TrodAll enc P W 0 (fun _ => true) true ts vs ds ps → ∃ args : List V, args.length = vs.length ∧ ts.length = vs.length ∧ (∀ (j : Nat) (t : TypeId), ts[j]? = some t → zhI P t (args.getD j .undef)) ∧ ∀ k, k < args.length → ArgOK W (args.getD k .undef) (vs.getD k undef)
 | [], vs, ds, ps, base, _, _, h => by
  obtain ⟨rfl, rfl, rfl⟩ := ChangeShapes.trodAll_nil h
  exact ⟨[], rfl, rfl, fun j t hj => by simp at hj, fun k hk => absurd hk (by simp)⟩
 | t :: ts, vs, ds, ps, base, hsup, hval, h => by
  obtain ⟨v, vs', dd, ds', p, q, rfl, rfl, rfl, h0, r0⟩ := ChangeShapes.trodAll_cons h
  simp only [List.all_cons, yae] at hsup
  obtain ⟨x, hx1, hx2⟩ := zpr hS hsup.1 (hval 0 t v rfl rfl) h0
  obtain ⟨args, h1, h2, h3, h4⟩ := zlL hS hsup.2 (fun j t v hj hv => hval (j + 1) t v hj hv) r0
  refine ⟨x :: args, by simp [h1], by simp [h2], fun j t' hj => ?_, fun k hk => ?_⟩
  ·cases j with
   | zero => simp only [List.getElem?_cons_zero, yaa] at hj; subst hj; exact hx1
   | succ j => exact h3 j t' hj
  ·cases k with
   | zero => exact hx2
   | succ k => exact h4 k (by simpa using hk)
end
end Go.Proofs.YtakdnfneikbjjaaGreatDoor.Am

set_option linter.all false
namespace Go.Proofs.YtakdnfneikbjjaaGreatDoor.Am.Lay10
open Go.Proofs.YtakdnfneikbjjaaGreatDoor.Am.T
theorem Pw.denB {ρ : List Nat} : ∀ {a : List TV} {b : List V}, Pw Den0 a b → Pw (Den ρ) a b
 | _, _, .nil => .nil
 | _, _, .cons h t => .cons (.base h) (Pw.denB t)
end Go.Proofs.YtakdnfneikbjjaaGreatDoor.Am.Lay10

namespace Go.Proofs.YtakdnfneikbjjaaGreatDoor.Am
inductive Sm (N : Nat) : V → Prop
 | bool (b : Bool) : Sm N (.bool b)
 | int (k : IntKind) (n : Int) : Sm N (.int k n)
 | str (s : List UInt8) (h : s.length ≤ N) : Sm N (.str s)
 | nils : Sm N .nils
 | slice (o : Bool) (z : Nat) (xs : List (List V)) (h : xs.length ≤ N) (hx : ∀ ys ∈ xs, ∀ y ∈ ys, Sm N y) : Sm N (.slice o z xs)
 | agg (cs : List V) (h : ∀ c ∈ cs, Sm N c) : Sm N (.agg cs)
structure Bulk {H : Type} (b : DataW H → Nat) : Prop where
 str : ∀ s, s.length ≤ b (.lit (.string s))
 len : ∀ es sp, es.length ≤ b (.slice es sp)
 elem : ∀ es sp e, e ∈ es → b e ≤ b (.slice es sp)
 part : ∀ ps p, p ∈ ps → b p ≤ b (.agg ps)
theorem zhC {P : Program} : ∀ {fs : List Field} {n m : Nat}, zjH P n fs m = true → ∀ k, n ≤ k → k < m → ∃ f ∈ fs, f.offset ≤ k ∧ k < f.offset + P.cellsOf f.type
 | [], n, m, ht, k, h1, h2 => by
  have : n = m := by simpa [zjH] using ht
  omega
 | f :: fs, n, m, ht, k, h1, h2 => by
  simp only [zjH, yae, beq_iff_eq] at ht
  by_cases hk : k < n + P.cellsOf f.type
  ·exact ⟨f, .head _, by omega, by omega⟩
  ·obtain ⟨g, hg, h3⟩ := zhC ht.2 k (by omega) h2
   exact ⟨g, .tail _ hg, h3⟩
section
variable {P : Program} {H : Type} {enc : TypeId × Value → H} {W : World}
theorem zpL {S : List TypeId} (hS : supS P S = true) {b : DataW H → Nat} (hb : Bulk b) {N : Nat} : ∀ {fuel : Nat} {t : TypeId}, S.contains t = true → ∀ {held : Bool} {cs : List Value} {x : DataW H × List MemPlace}, DataW.trod enc P W 0 (fun _ => true) held fuel t cs = some x → b x.1 ≤ N → ∀ {vs : List V}, Fits P t vs → RBs W vs cs → ∀ v ∈ vs, Sm N v := by
 intro fuel
 induction fuel with
 | zero => intro t _ held cs x hx; simp [DataW.trod] at hx
 | succ fuel ih =>
  intro t htS held cs x hx hN vs hf hr
  have h := yam.1 hS t (List.contains_iff_mem.1 htS)
  simp only [sup1] at h
  cases hf with
  | bool b _ => intro v hv; obtain rfl := yao.1 hv; exact .bool b
  | int n _ _ => intro v hv; obtain rfl := yao.1 hv; exact .int _ n
  | nils _ => intro v hv; obtain rfl := yao.1 hv; exact .nils
  | str s ht _ =>
   intro v hv; obtain rfl := yao.1 hv
   obtain ⟨b', rfl, hx1, _⟩ := DataW.trod_string ht hx
   have h1 := hr.2 0 (by simp)
   simp only [List.getD_cons_zero] at h1
   have : b'.data.toList = s := by cases h1; rfl
   rw [hx1] at hN
   have := hb.str b'.data.toList
   refine .str s ?_
   simp only at hN
   rw [← ‹b'.data.toList = s›]; omega
  | slice xs ht _ hfx =>
   intro v hv; obtain rfl := yao.1 hv
   rw [ht] at h
   simp only [yae, beq_iff_eq, yat] at h
   obtain ⟨⟨_, hpos⟩, hsup⟩ := h
   rcases DataW.trod_slice ht hx with ⟨rfl, _⟩ | ⟨a, len, cap, elems, rest, n, hn, rfl, hx1, _, hlc, hcap, hel, he, hre, _⟩
   ·have h1 := hr.2 0 (by simp)
    simp only [List.getD_cons_zero] at h1
    obtain ⟨a, cap, h2, _⟩ := RB.slice_iff.1 h1
    cases h2
   ·cases hn
    have h1 := hr.2 0 (by simp)
    simp only [List.getD_cons_zero] at h1
    obtain ⟨a2, cap2, h2, hsp, _, _, hzl, hc⟩ := RB.slice_iff.1 h1
    injection h2 with h2 h3 _
    injection h2 with h2
    subst h2
    rw [hx1] at hN
    have hlen := hb.len (elems.map (·.1)) (rest.map (·.1))
    rw [yal] at hlen
    simp only at hN
    refine .slice _ _ xs (by omega) fun ys hys => ?_
    obtain ⟨i, hi, rfl⟩ := List.getElem_of_mem hys
    have h4 := he i (by omega)
    rw [yai (by omega)] at h4
    simp only [yab] at h4
    obtain ⟨cs', hc1, hc2⟩ := h4
    obtain ⟨_, hl', hc'⟩ := World.cells?_some hc1
    have h5 := hb.elem (elems.map (·.1)) (rest.map (·.1)) (elems[i]'(by omega)).1 (List.mem_map.2 ⟨_, List.getElem_mem _, rfl⟩)
    have hfi := hfx i hi
    have hz := hzl i hi
    rw [yad, yai hi] at hfi hz
    simp only [Option.getD_some] at hfi hz
    refine ih hsup hc2 (by omega) hfi ⟨by omega, fun k hk => ?_⟩
    obtain ⟨v, hv1, hv2⟩ := hc i k hi (by omega)
    rw [yad (l := xs), yai hi] at hv2
    simp only [Option.getD_some] at hv2
    have h6 := hc' k (by omega)
    rw [zch (hsp (by omega)), zch rfl] at h6
    have h7 : some v = cs'[k]? := by
     rw [← hv1, ← h6]; simp [Nat.add_assoc]
    rw [yai (by omega)] at h7
    injection h7 with h7
    rw [yad (l := cs'), yai (by omega)]
    simp only [Option.getD_some]
    rw [← h7]; exact hv2
  | struct _ ht hl hff =>
   rename_i fs
   rw [ht] at h
   simp only [yae, yam] at h
   obtain ⟨htile, hall⟩ := h
   obtain ⟨xs, n, hn, hx1, hl2, hxl, hf⟩ := DataW.trod_struct ht hx
   cases hn
   intro v hv
   obtain ⟨k, hk, rfl⟩ := List.getElem_of_mem hv
   obtain ⟨f, hfm, h1, h2⟩ := zhC htile k (Nat.zero_le _) (by omega)
   obtain ⟨i, hi⟩ := List.getElem?_of_mem hfm
   have hi' : i < fs.size := by have := (List.getElem?_eq_some_iff.1 hi).1; simpa using this
   have h3 := hf i f (by simpa using hi)
   rw [yai (by omega)] at h3
   have h4 := hb.part (xs.map (·.1)) (xs[i]'(by omega)).1 (List.mem_map.2 ⟨_, List.getElem_mem _, rfl⟩)
   rw [hx1] at hN
   simp only at hN
   have hlen := hr.1
   refine ih (hall f hfm) h3 (by omega) (hff f hfm) ⟨by simp [hlen], fun j hj => ?_⟩ _ ?_
   ·have hj' : j < cs.length - f.offset ∧ j < P.cellsOf f.type := by simp at hj; omega
    have := hr.2 (f.offset + j) (by omega)
    rw [yad, yad] at this ⊢
    rw [List.getElem?_take_of_lt hj'.2, List.getElem?_drop, List.getElem?_take_of_lt hj'.2, List.getElem?_drop]
    exact this
   ·refine List.mem_iff_getElem?.2 ⟨k - f.offset, ?_⟩
    rw [List.getElem?_take_of_lt (by omega), List.getElem?_drop, show f.offset + (k - f.offset) = k by omega]
    exact yai hk
  | array _ ht _ _ => rw [ht] at h; cases h
theorem zpM {S : List TypeId} (hS : supS P S = true) {b : DataW H → Nat} (hb : Bulk b) {N : Nat} {t : TypeId} (hsup : S.contains t = true) {x : V} {v : Value} {d : DataW H} {ps : List MemPlace} (hf : zhI P t x) (ha : ArgOK W x v) (h : DataW.Trod enc P W 0 (fun _ => true) true t v d ps) (hN : b d ≤ N) : Sm N x := by
 obtain ⟨fuel, h⟩ := h
 have agg : ∀ cs, x = .agg cs → Fits P t cs → Sm N x := fun cs e hf9 => by
  subst e
  cases ha with
  | leaf h => cases h
  | agg _ arr hs hr => exact .agg cs (zpL hS hb hsup h hN hf9 ⟨hs.symm, fun k hk => by
    have := hr k (by rw [← hs]; exact hk)
    rwa [← zaA] at this⟩)
 unfold zhI at hf
 split at hf
 ·obtain ⟨cs, e, hf⟩ := hf; exact agg cs e hf
 ·obtain ⟨cs, e, hf⟩ := hf; exact agg cs e hf
 ·cases ha with
  | leaf hr =>
   refine zpL hS hb hsup h hN hf ?_ x (.head _)
   have hv : ∀ arr, v ≠ .agg arr := fun arr e => by subst e; cases hr
   rw [zfK hv]
   exact ⟨rfl, fun k hk => by
    have : k = 0 := by simpa using hk
    subst this; exact hr⟩
  | agg cs arr hs hr =>
   rename_i _ hn1 hn2
   cases hf with
   | struct _ h1 _ _ => exact (hn1 _ h1).elim
   | array _ h1 _ _ => exact (hn2 _ _ h1).elim
theorem znY {S : List TypeId} (hS : supS P S = true) {b : DataW H → Nat} (hb : Bulk b) : ∀ {ts : List TypeId} {vs : List Value} {ds : List (DataW H)} {ps : List MemPlace} {args : List V}, (ts.all fun t => S.contains t) = true → DataW.TrodAll enc P W 0 (fun _ => true) true ts vs ds ps → args.length = vs.length → (∀ (j : Nat) (t : TypeId), ts[j]? = some t → zhI P t (args.getD j .undef)) → (∀ k, k < args.length → ArgOK W (args.getD k .undef) (vs.getD k undef)) →
  ∀ (j : Nat) (d : DataW H), ds[j]? = some d → ∀ N, b d ≤ N → Sm N (args.getD j .undef)
 | [], vs, ds, ps, args, _, h, _, _, _, j, d, hd => by
  obtain ⟨rfl, rfl, rfl⟩ := ChangeShapes.trodAll_nil h
  simp at hd
 | t :: ts, vs, ds, ps, args, hsup, h, hl, hf, ha, j, d, hd => by
  obtain ⟨v, vs', dd, ds', p, q, rfl, rfl, rfl, h0, r0⟩ := ChangeShapes.trodAll_cons h
  simp only [List.all_cons, yae] at hsup
  match args, hl with
  | x :: args, hl =>
   cases j with
   | zero =>
    simp only [List.getElem?_cons_zero, yaa] at hd
    subst hd
    exact fun N hN => zpM hS hb hsup.1 (hf 0 t rfl) (ha 0 (by simp)) h0 hN
   | succ j =>
    exact znY hS hb hsup.2 r0 (by simpa using hl) (fun i t' hi => hf (i + 1) t' hi) (fun k hk => ha (k + 1) (by simpa using hk)) j d hd
theorem ziO [Lay P] {T : Table} (hLd : Laid P (g0 W) W) (hT : TableOK P T) {f : Nat} {fn : Func} {tb : TypeId} {s : ChangeSpec} {apart fresh handsOn again : Bool} {S : List TypeId} (hS : supS P S = true) {b : DataW H → Nat} (hb9 : Bulk b) (hbool : P.underlying tb = some .bool) (hres : fn.resultTypes = #[tb]) (hvars : s.vars = [])
  (hspec : ∀ ds : List (DataW H), ds.length = fn.params.toList.length → s.fn H ds = { results := [.lit (.bool true)], args := ds }) (hl : laidOutB P = true) (hr : (fn.params.toList.all fun t => P.readableRec t && decide (t < P.types.size)) = true)
  (hsup : (fn.params.toList.all fun t => S.contains t) = true) {base : Nat} {args : Array Value} {ds gs : List (DataW H)} {before : List MemPlace}
  (law : ds.length = fn.params.toList.length → ∀ zs9 : List V, zs9.length = fn.params.toList.length → (∀ (j : Nat) (t : TypeId), fn.params.toList[j]? = some t → zhI P t (zs9.getD j .undef)) → (∀ (j : Nat) (d : DataW H), ds[j]? = some d → ∀ N, b d ≤ N → Sm N (zs9.getD j .undef)) → ∃ m', RF T f zs9 [] = some (.bool true, m'))
  (hval : ∀ (j : Nat) t v, fn.params[j]? = some t → args[j]? = some v → Value.okWide P W .any base t v) (hW : DataW.Whole enc P fn.params.toList s.vars apart W args.toList ds gs before) :
  Calls P f args W fun e W' => ∃ v, e = .returned v ∧ s.post enc P fn apart fresh handsOn again W args v W' := by
 have hW' := hW
 obtain ⟨p, q, hA, hV, rfl, hfz, hnd⟩ := hW
 rw [hvars] at hV
 obtain ⟨rfl, rfl⟩ := ChangeShapes.trodVars_none hV
 obtain ⟨zs9, h1, h2, h3, h4⟩ := zlL (base := base) hS hsup (fun j t v hj hv => hval j t v (by simpa using hj) (by simpa using hv)) hA
 obtain ⟨m', hm⟩ := law (zff hA) zs9 (by rw [h1, h2]) h3 (znY hS hb9 hsup hA h1 h3 h4)
 have hds : ds.length = fn.params.toList.length := zff hA
 refine (znh hLd hT hm h1 h4).mono fun e W' ⟨he, hb⟩ => ?_
 subst he
 have hsp : s.fn H (ds ++ []) = { results := [.lit (.bool true)], args := ds } := by rw [List.append_nil]; exact hspec ds hds
 refine ⟨_, rfl, ziD (pa := p) (pv := []) hW' (fun b sp hd => ?_) (fun sp hspb => ?_) (fun sp _ => ?_) rfl hb (RowKit.ok_one hres rfl (RowKit.okWide_bool_mk hbool _))⟩
 ·rw [hsp, hres]
  exact trodAll_cons_mk (RowKit.shut_bool hbool true) rfl
 ·rw [hsp]
  exact zjJ hl hr hA (fun x hx => hb.same (hW'.lt x (by simpa using hx))) (fun x hx => hspb x (by simpa using hx))
 ·rw [hsp, hvars]; exact rfl
end
end Go.Proofs.YtakdnfneikbjjaaGreatDoor.Am

set_option linter.all false
namespace Go.Proofs.YtakdnfneikbjjaaGreatDoor.Am.Lay10
open Go.Proofs.YtakdnfneikbjjaaGreatDoor.Am.T
theorem zoO {P : Program} {e : TypeId} (hl : zgr P 8 e = some [.int .i64, .str, .int .i64, .bool]) {cs : List V} (h : Fits P e cs) : ∃ k : Val, Pw Den0 k.c cs := by
 have h3 := zf6 hl h
 have h4 : cs.length = 4 := h3.len
 match cs, h4 with
 | [x1, x2, x3, x4], _ =>
  obtain ⟨h1, h2, h3, h4, _⟩ := h3
  obtain ⟨a, rfl, _⟩ := h1
  obtain ⟨b, rfl, _⟩ := h2
  obtain ⟨c, rfl, _⟩ := h3
  obtain ⟨d, rfl⟩ := h4
  exact ⟨⟨a, b.map zc0, c, d⟩, .cons (.int _ _) (.cons (.str b) (.cons (.int _ _) (.cons (.bool d) .nil)))⟩
theorem znZ {P : Program} {e : TypeId} (hl : zgr P 8 e = some [.str, .int .i64, .str, .int .i64, .bool]) {N : Nat} {cs : List V} (h : Fits P e cs) (hs : ∀ c ∈ cs, Sm N c) : ∃ k : Prop_, Pw Den0 k.c cs ∧ k.Val.Text.length ≤ N := by
 have h3 := zf6 hl h
 have h4 : cs.length = 5 := h3.len
 match cs, h4 with
 | [x0, x1, x2, x3, x4], _ =>
  obtain ⟨h0, h1, h2, h3, h4, _⟩ := h3
  obtain ⟨z, rfl, _⟩ := h0
  obtain ⟨a, rfl, _⟩ := h1
  obtain ⟨b, rfl, _⟩ := h2
  obtain ⟨c, rfl, _⟩ := h3
  obtain ⟨d, rfl⟩ := h4
  have hb := hs (.str b) (by simp)
  have hb : b.length ≤ N := by cases hb; assumption
  exact ⟨⟨z.map zc0, a, b.map zc0, c, d⟩, .cons (.str z) (.cons (.int _ _) (.cons (.str b) (.cons (.int _ _) (.cons (.bool d) .nil)))), by simpa using hb⟩
theorem zfH {α : Type} {c : α → List TV} {Q : α → Prop} : ∀ xs : List (List V), (∀ y ∈ xs, ∃ k : α, Pw Den0 (c k) y ∧ Q k) → ∃ ks : List α, Pw (Pw Den0) (ks.map c) xs ∧ (∀ k ∈ ks, Q k) ∧ ks.length = xs.length
 | [], _ => ⟨[], .nil, (fun k hk => by cases hk), rfl⟩
 | y :: ys, hh => by
  obtain ⟨ks, h1, h3, h4⟩ := zfH ys fun z hz => hh z (.tail _ hz)
  obtain ⟨k, h2, h5⟩ := hh y (.head _)
  exact ⟨k :: ks, .cons h2 h1, fun x hx => by
   rcases List.mem_cons.1 hx with rfl | hx
   ·exact h5
   ·exact h3 x hx, by simp [h4]⟩
theorem zkc {P : Program} {t v q : TypeId} (hl : zgr P 8 t = some [.str, .slice v, .slice q, .slice t]) (hv : zgr P 8 v = some [.int .i64, .str, .int .i64, .bool]) (hq : zgr P 8 q = some [.str, .int .i64, .str, .int .i64, .bool]) (c4 : P.cellsOf t = 4) (v4 : P.cellsOf v = 4) (q5 : P.cellsOf q = 5) : ∀ (n : Nat) (cs : List V), SizeOf.sizeOf cs < n → Fits P t cs → (∀ c ∈ cs, Sm 1048576 c) → ∃ p : Node, Pw Den0 (Node.e p) cs ∧ (∀ d, NB d p) ∧ p.Kids.length ≤ 1048576
 | 0, cs, hn, _, _ => absurd hn (Nat.not_lt_zero _)
 | n + 1, cs, hn, h, hs => by
  have h3 := zf6 hl h
  have hlen : cs.length = 4 := h3.len
  match cs, hlen, hn, hs with
  | [x1, x2, x3, x4], _, hn, hs =>
   obtain ⟨h1, h2, h3, h4, _⟩ := h3
   obtain ⟨s, rfl, _⟩ := h1
   have s2 := hs x2 (by simp)
   have s3 := hs x3 (by simp)
   have s4 := hs x4 (by simp)
   have ha : ∃ ks : List Val, Den0 (.sl false 4 (ks.map Val.c)) x2 ∧ ks.length ≤ 1048576 := by
    rcases h2 with rfl | ⟨xs, rfl, _, hx⟩
    ·exact ⟨[], .sln false 4, by simp⟩
    ·obtain ⟨ks, hk, _, hkl⟩ := zfH (c := Val.c) (Q := fun _ => True) xs fun y hy => by
      obtain ⟨k, hk⟩ := zoO hv (hx y hy)
      exact ⟨k, hk, trivial⟩
     rw [v4]
     refine ⟨ks, .sl false 4 hk, ?_⟩
     cases s2; omega
   have hp : ∃ ks : List Prop_, Den0 (.sl false 5 (ks.map Prop_.c)) x3 ∧ ks.length ≤ 1048576 ∧ ∀ k ∈ ks, k.Val.Text.length ≤ 1048576 := by
    rcases h3 with rfl | ⟨xs, rfl, _, hx⟩
    ·exact ⟨[], .sln false 5, by simp, fun k hk => by cases hk⟩
    ·have hl3 : xs.length ≤ 1048576 ∧ ∀ ys ∈ xs, ∀ y ∈ ys, Sm 1048576 y := by cases s3; exact ⟨by assumption, by assumption⟩
     obtain ⟨ks, hk, hQ, hkl⟩ := zfH (c := Prop_.c) (Q := fun k => k.Val.Text.length ≤ 1048576) xs fun y hy => znZ hq (hx y hy) (hl3.2 y hy)
     rw [q5]
     exact ⟨ks, .sl false 5 hk, by omega, hQ⟩
   have hk : ∃ ks : List Node, Den0 (.sl false 4 (Node.cs ks)) x4 ∧ ks.length ≤ 1048576 ∧ ∀ k ∈ ks, ∀ d, NB d k := by
    rcases h4 with rfl | ⟨xs, rfl, _, hx⟩
    ·exact ⟨[], .sln false 4, by simp, fun k hk => by cases hk⟩
    ·have hl4 : xs.length ≤ 1048576 ∧ ∀ ys ∈ xs, ∀ y ∈ ys, Sm 1048576 y := by cases s4; exact ⟨by assumption, by assumption⟩
     obtain ⟨ks, hk, hQ, hkl⟩ := zfH (c := Node.e) (Q := fun k => (∀ d, NB d k)) xs fun y hy => by
      obtain ⟨k, h1, h2, _⟩ := zkc hl hv hq c4 v4 q5 n y (by
       have := List.sizeOf_lt_of_mem hy
       simp at hn; omega) (hx y hy) (hl4.2 y hy)
      exact ⟨k, h1, h2⟩
     rw [c4]
     exact ⟨ks, .sl false 4 (by rw [Node.cs_is]; exact hk), by omega, hQ⟩
   obtain ⟨vs, ha, ha2⟩ := ha
   obtain ⟨ps, hp, hp2, hp3⟩ := hp
   obtain ⟨ks, hk, hk2, hk3⟩ := hk
   refine ⟨⟨s.map zc0, vs, ps, ks⟩, .cons (.str s) (.cons ha (.cons hp (.cons hk .nil))), fun d => ?_, hk2⟩
   cases d with
   | zero => trivial
   | succ d => exact ⟨by unfold big; simp only; omega, by unfold big; simp only; omega, by unfold big; simp only; omega, fun p hp => by have := hp3 p hp; unfold big; omega, fun k hk => hk3 k hk d⟩
theorem zn0 {P : Program} {t v q : TypeId} (hi : zpK (P.underlying t) = true) (hl : zgr P 8 t = some [.str, .slice v, .slice q, .slice t]) (hv : zgr P 8 v = some [.int .i64, .str, .int .i64, .bool]) (hq : zgr P 8 q = some [.str, .int .i64, .str, .int .i64, .bool]) (c4 : P.cellsOf t = 4) (v4 : P.cellsOf v = 4) (q5 : P.cellsOf q = 5) {x : V} (h : zhI P t x) (hs : Sm 1048576 x) : ∃ p : Node, Den [] (.agg (Node.e p)) x ∧ (∀ d, NB d p) ∧ p.Kids.length ≤ 1048576 := by
 obtain ⟨fs, ht⟩ : ∃ fs, P.underlying t = some (.struct fs) := by
  unfold zpK at hi
  split at hi
  ·exact ⟨_, by assumption⟩
  ·cases hi
 unfold zhI at h
 rw [ht] at h
 obtain ⟨cs, rfl, hf⟩ := h
 have hs : ∀ c ∈ cs, Sm 1048576 c := by cases hs; assumption
 obtain ⟨p, hp, h1, h2⟩ := zkc hl hv hq c4 v4 q5 _ cs (Nat.lt_succ_self _) hf hs
 exact ⟨p, .agg (Pw.denB hp), h1, h2⟩
theorem zhM {n : Node} {x : V} (h1 : ∀ d, NB d n) (h2 : n.Kids.length ≤ 1048576) (hx : Den [] (.agg (Node.e n)) x) : ∃ m', RF ET 4 [x] [] = some (.bool true, m') :=
 zam.law (zdg (zms h2 fun k hk d => (h1 (d + 1)).2.2.2.2 k hk)) (.cons hx .nil)
end Go.Proofs.YtakdnfneikbjjaaGreatDoor.Am.Lay10

/-
LayoutReads answers true where the input is of bounded bulk; the input reads as it did.
-/
namespace Go.Proofs.YtakdnfneikbjjaaGreatDoor
open Go.Proofs.YtakdnfneikbjjaaGreatDoor.Am Go.Proofs.YtakdnfneikbjjaaGreatDoor.Am.Lay10
open Go.ChangeShapes Go.WideShapes Go.ChangeAt Go.RowKit
namespace layoutReadsUpto
theorem shape (l : List V) (h : l.length = 1) : ∃ x0, l = [x0] := by
  match l, h with
  | [x0], _ => exact ⟨x0, rfl⟩
theorem own : ownKnob Tryz.prog.godebug = none := by kernel_rfl
theorem laidB : laidOutB Tryz.prog = true := by kernel_rfl
theorem one_le {H : Type} (d : DataW H) : 1 ≤ Rows.uptoBulk d := by
  cases d with
  | lit l => cases l <;> simp [Rows.uptoBulk]
  | _ => simp [Rows.uptoBulk]
theorem part_le {H : Type} {d : DataW H} {l : List (DataW H)} (h : d ∈ l) : Rows.uptoBulk d ≤ Rows.uptoBulkAll l := by
  induction l with
  | nil => cases h
  | cons x r ih =>
    simp only [Rows.uptoBulkAll]
    cases List.mem_cons.1 h with
    | inl e => subst e; omega
    | inr e => have := ih e; omega
theorem append_le {H : Type} (l r : List (DataW H)) : Rows.uptoBulkAll l ≤ Rows.uptoBulkAll (l ++ r) := by
  induction l with
  | nil => exact Nat.zero_le _
  | cons x l ih => rw [List.cons_append]; simp only [Rows.uptoBulkAll]; omega
theorem len_le {H : Type} (l : List (DataW H)) : l.length ≤ Rows.uptoBulkAll l := by
  induction l with
  | nil => exact Nat.zero_le _
  | cons x l ih => simp only [Rows.uptoBulkAll, List.length_cons]; have := one_le x; omega
theorem bulk (H : Type) : Bulk (Rows.uptoBulk : DataW H → Nat) where
  str s := by simp only [Rows.uptoBulk]; omega
  len es sp := by have := len_le es; simp only [Rows.uptoBulk]; omega
  elem es sp e he := by have := part_le he; simp only [Rows.uptoBulk]; omega
  part ps p hp := by have := part_le hp; simp only [Rows.uptoBulk]; omega
set_option maxRecDepth 100000 in
theorem law {H : Type} (ds : List (DataW H)) (hk : Rows.uptoBulkAll ds ≤ 1048576) (hds : ds.length = Tryz.f4.params.toList.length) (l : List V) (hl : l.length = Tryz.f4.params.toList.length) (h : ∀ (j : Nat) (t : TypeId), Tryz.f4.params.toList[j]? = some t → zhI Tryz.prog t (l.getD j .undef)) (hs : ∀ (j : Nat) (d : DataW H), ds[j]? = some d → ∀ N, Rows.uptoBulk d ≤ N → Sm N (l.getD j .undef)) : ∃ m', RF ET 4 l [] = some (.bool true, m') := by
  have hln : l.length = 1 := hl
  have hdn : ds.length = 1 := hds
  obtain ⟨x0, rfl⟩ := shape l hln
  match ds, hdn with
  | [d0], _ =>
    have h0 := h 0 47 (by kernel_rfl)
    have s0 := hs 0 _ rfl 1048576 (Nat.le_trans (part_le (by simp)) hk)
    obtain ⟨p, hx, h1, h2⟩ := zn0 (t := 47) (v := 109) (q := 131) (by kernel_rfl) (by kernel_rfl) (by kernel_rfl) (by kernel_rfl) (by kernel_rfl) (by kernel_rfl) (by kernel_rfl) h0 s0
    exact zhM h1 h2 hx
noncomputable def low : Nat := (World.holding Tryz.prog default ⟨#[], #[], []⟩).heap.size
noncomputable def laidWorld (os : Os) : World :=
  { World.holding Tryz.prog os ⟨#[.cells #[.string ⟨#[118, 97, 108, 117, 101, 32, 111, 117, 116, 32, 111, 102, 32, 114, 97, 110, 103, 101]⟩] 182, .cells #[.string ⟨#[105, 110, 118, 97, 108, 105, 100, 32, 115, 121, 110, 116, 97, 120]⟩] 182], #[], []⟩ with heap := ((((((World.holding Tryz.prog os ⟨#[.cells #[.string ⟨#[118, 97, 108, 117, 101, 32, 111, 117, 116, 32, 111, 102, 32, 114, 97, 110, 103, 101]⟩] 182, .cells #[.string ⟨#[105, 110, 118, 97, 108, 105, 100, 32, 115, 121, 110, 116, 97, 120]⟩] 182], #[], []⟩).heap.modify 2 fun
      | .cells _ t frozen => .cells #[.iface 180 (.pointer (some ⟨low + 0, 0, none⟩))] t frozen
      | o => o).modify 1 fun
      | .cells _ t frozen => .cells #[.iface 180 (.pointer (some ⟨low + 1, 0, none⟩))] t frozen
      | o => o).modify 3 fun
      | .cells _ t frozen => .cells #[.int .u64 1, .int .u64 10, .int .u64 100, .int .u64 1000, .int .u64 10000, .int .u64 100000, .int .u64 1000000, .int .u64 10000000, .int .u64 100000000, .int .u64 1000000000, .int .u64 10000000000, .int .u64 100000000000, .int .u64 1000000000000, .int .u64 10000000000000, .int .u64 100000000000000, .int .u64 1000000000000000, .int .u64 10000000000000000, .int .u64 100000000000000000, .int .u64 1000000000000000000, .int .u64 10000000000000000000] t frozen
      | o => o).modify 4 fun
      | .cells _ t frozen => .cells #[.int .u8 0, .int .u8 1, .int .u8 28, .int .u8 2, .int .u8 29, .int .u8 14, .int .u8 24, .int .u8 3, .int .u8 30, .int .u8 22, .int .u8 20, .int .u8 15, .int .u8 25, .int .u8 17, .int .u8 4, .int .u8 8, .int .u8 31, .int .u8 27, .int .u8 13, .int .u8 23, .int .u8 21, .int .u8 19, .int .u8 16, .int .u8 7, .int .u8 26, .int .u8 12, .int .u8 18, .int .u8 6, .int .u8 11, .int .u8 5, .int .u8 10, .int .u8 9] t frozen
      | o => o).modify 5 fun
      | .cells _ t frozen => .cells #[.int .u8 0, .int .u8 1, .int .u8 56, .int .u8 2, .int .u8 57, .int .u8 49, .int .u8 28, .int .u8 3, .int .u8 61, .int .u8 58, .int .u8 42, .int .u8 50, .int .u8 38, .int .u8 29, .int .u8 17, .int .u8 4, .int .u8 62, .int .u8 47, .int .u8 59, .int .u8 36, .int .u8 45, .int .u8 43, .int .u8 51, .int .u8 22, .int .u8 53, .int .u8 39, .int .u8 33, .int .u8 30, .int .u8 24, .int .u8 18, .int .u8 12, .int .u8 5, .int .u8 63, .int .u8 55, .int .u8 48, .int .u8 27, .int .u8 60, .int .u8 41, .int .u8 37, .int .u8 16, .int .u8 46, .int .u8 35, .int .u8 44, .int .u8 21, .int .u8 52, .int .u8 32, .int .u8 23, .int .u8 11, .int .u8 54, .int .u8 26, .int .u8 40, .int .u8 15, .int .u8 34, .int .u8 20, .int .u8 31, .int .u8 10, .int .u8 25, .int .u8 14, .int .u8 19, .int .u8 9, .int .u8 13, .int .u8 8, .int .u8 7, .int .u8 6] t frozen
      | o => o) }
theorem laid_met (os : Os) : laidMet Tryz.prog Rows.layoutReadsUptoRow.laid ((laidWorld os).forCall (fun _ _ => 0) ⟨#[], #[.agg #[.string ⟨#[]⟩, .slice none 0 0, .slice none 0 0, .slice none 0 0]], []⟩).memory :=
  laidMet_of_run' 8 (by kernel_rfl) (by kernel_rfl)
theorem reads (os : Os) {H : Type} (enc : TypeId × Value → H) : ∃ places, DataW.whole enc Tryz.prog ((laidWorld os).forCall (fun _ _ => 0) ⟨#[], #[.agg #[.string ⟨#[]⟩, .slice none 0 0, .slice none 0 0, .slice none 0 0]], []⟩).memory Tryz.f4.params.toList Rows.layoutReadsSpec.vars false (#[.agg #[.string ⟨#[]⟩, .slice none 0 0, .slice none 0 0, .slice none 0 0]] : Array Value).toList 8 = some ([.agg [.lit (.string []), .nil, .nil, .nil]], [], places) :=
  ⟨[], by kernel_rfl⟩
set_option maxRecDepth 100000 in
theorem lifted (os : Os) (started : os.Started) (H : Type) (enc : TypeId × Value → H) (F : Stop.Interp) :
    ReturnsInHanded {} Tryz.checked os 4 .any ((Rows.OpenSpec.upto Rows.layoutReadsSpec).preRow enc Tryz.prog Tryz.f4 Rows.layoutReadsUptoRow.domain false Rows.layoutReadsUptoRow.laid) (((Rows.OpenSpec.upto Rows.layoutReadsSpec).at F).post enc Tryz.prog Tryz.f4 false true false false) := by
  obtain ⟨places, hx⟩ := reads os enc
  refine returnsInHanded_of_row (C := Tryz.checked) (s := (Rows.OpenSpec.upto Rows.layoutReadsSpec)) own started (by kernel_rfl) Tryz.func4
    (witness_row_at (enc := enc) (C := Tryz.checked) false (laidWorld os) #[.agg #[.string ⟨#[]⟩, .slice none 0 0, .slice none 0 0, .slice none 0 0]] rfl (by kernel_rfl) (by kernel_rfl) (by kernel_rfl)
      (OpenSpec.preRow_of_cond 8 hx (by kernel_rfl) (fun k hk => by cases hk; kernel_rfl) (by kernel_rfl) (laid_met os))) ?_
  intro W base args ds gs before hval hW _ hk _ hlaid _ _
  have hk2 : Rows.uptoBulkAll ds ≤ 1048576 := Nat.le_trans (append_le ds gs) (of_decide_eq_true (hk Rows.uptoSmall rfl))
  exact ziO (S := [47, 9, 43, 44, 45, 109, 131, 3, 2, 4]) (zni hlaid (by kernel_rfl) (by kernel_rfl)) zpT (tb := 4) (by kernel_rfl) (bulk H) (by kernel_rfl) (by kernel_rfl) rfl
    (fun ds hd => by
      have hdn : ds.length = 1 := hd
      match ds, hdn with
      | [_], _ => rfl) laidB (by kernel_rfl) (by kernel_rfl) (law ds hk2) hval hW
theorem said : Rows.LayoutReadsUptoSaid :=
  OpenClaim.holds_of_cond 4 Tryz.f4 rfl rfl rfl rfl rfl rfl rfl ⟨rfl, rfl, rfl, rfl, rfl⟩ rfl rfl rfl rfl rfl (by kernel_rfl) Tryz.func4 (by kernel_rfl)
    (of_decide_eq_true (by kernel_rfl)) (by unfold Func.isWrapper; first | (rw [if_pos (by decide +kernel)]; kernel_rfl) | (rw [if_neg (by decide +kernel)]; exact ⟨rfl, rfl⟩))
    (fun os started H enc _ F => by rw [OpenClaim.pre_eq_preRow]; exact lifted os started H enc F)
theorem nowant : (Tryz.f4.params.toList.all fun t => Tryz.prog.wantsStandIn t == false) = true := by kernel_rfl
theorem plain (f : FuncId) (fn : Func) (hf : Tryz.pinned.checked.prog.funcNamed "casement/casementlaw10.LayoutReads" = some f) (hfn : Tryz.pinned.checked.prog.funcs[f]? = some fn) :
    true = Tryz.pinned.checked.prog.looks [] ∧ ∀ (j : Nat) t, fn.params[j]? = some t → Tryz.pinned.checked.prog.wantsStandIn t = false := by
  obtain rfl : f = 4 := Option.some.inj ((show Tryz.prog.funcNamed "casement/casementlaw10.LayoutReads" = some 4 by kernel_rfl).symm.trans hf) |>.symm
  obtain rfl : fn = Tryz.f4 := (Option.some.inj (Tryz.func4.symm.trans hfn)).symm
  refine ⟨by kernel_rfl, fun j t ht => ?_⟩
  exact beq_iff_eq.1 (yam.1 nowant t (Array.mem_toList_iff.2 (Array.mem_of_getElem? ht)))
theorem holds : Rows.LayoutReadsUptoCardSaid :=
  Claim7.holds_tied_plain_at .later [] _ _ _ _ said (fun _ h => by cases h) (by kernel_rfl) (fun _ h => by cases h) layoutReadsUpto_row_tie rfl ⟨rfl, rfl⟩ (by kernel_rfl) rfl plain (by kernel_rfl)
#print axioms holds
end layoutReadsUpto
end Go.Proofs.YtakdnfneikbjjaaGreatDoor
