/-
SgrBetween answers true whatever its input; the input reads as it did.
-/
import Derived.Test.YtdlijnfdkeimlaaDoorAmSgrBetweenRow5
import Derived.Lib.ItoaLen
import Derived.Carry
import Derived.OpenShut
import Derived.ChangeSame
import Derived.RowKit
import Derived.Test.YtdlijnfdkeimlaaDoorRows
import Derived.LaidSub
import Derived.Lib.LaidTab
import Derived.Test.YtdlijnfdkeimlaaDoorCards
import Derived.Test.YtdlijnfdkeimlaaDoorTie
import Derived.WalkKit
import Derived.ProofKit
import Derived.Deep.DeepHandedRow
set_option linter.all false
namespace Go.Proofs.YtdlijnfdkeimlaaDoor.Am.Esc
open Go.Proofs.YtdlijnfdkeimlaaDoor.Am.T
structure St (n m : Nat) (p : ParserM) : Prop where
 ok : Ok n p
 len : p.out.length ≤ m
 par : ∀ a ∈ p.out, a.Params.length ≤ 16
theorem Ok.mono {n n' : Nat} {p : ParserM} (h : Ok n p) (hn : n ≤ n') : Ok n' p :=
 ⟨h.inn, h.wts, h.pay, h.int, fun e => let ⟨ps, a, b, c, d⟩ := h.num e; ⟨ps, a, b, by omega, d⟩⟩
theorem St.mono {n n' m m' : Nat} {p : ParserM} (h : St n m p) (hn : n ≤ n') (hm : m ≤ m') : St n' m' p :=
 ⟨h.ok.mono hn, Nat.le_trans h.len hm, h.par⟩
theorem St.put {n m k : Nat} {p : ParserM} {zs : List Act} (h : St n m p) (hz : zs.length ≤ k) (hp : ∀ a ∈ zs, a.Params.length ≤ 16) : St n (m + k) (putE p zs) :=
 ⟨⟨h.ok.inn, h.ok.wts, h.ok.pay, h.ok.int, h.ok.num⟩, by have := h.len; simp [putE]; omega, fun a ha => by
  rcases List.mem_append.1 ha with ha | ha
  ·exact h.par a ha
  ·exact hp a ha⟩
theorem pr_par {rs : List Int} : ∀ a ∈ rs.map pr, a.Params.length ≤ 16 := by
 intro a ha
 obtain ⟨r, _, e⟩ := List.mem_map.1 ha
 subst e; exact Nat.zero_le _
theorem St.flush {n m : Nat} {p : ParserM} {c : Int} (h : St n m p) : St n (m + 3) (flushE p c) := by
 unfold flushE restE
 split
 ·refine St.put (p := { p with text := ⟨[]⟩ }) ⟨⟨h.ok.inn, ⟨fun _ hx => (by cases hx), Nat.zero_le _⟩, h.ok.pay, h.ok.int, h.ok.num⟩, h.len, h.par⟩ ?_ pr_par
  simp; exact h.ok.wts.2
 ·exact h.mono (Nat.le_refl _) (by omega)
theorem St.begin {n m : Nat} {p : ParserM} {s : Int} (h : St n m p) (hs : 0 ≤ s ∧ s ≤ 4) : St n m (beginE p s) :=
 ⟨⟨hs, h.ok.wts, ⟨fun _ hx => (by cases hx), Nat.zero_le _⟩, Nat.zero_le _, fun _ => ⟨[], rfl, Int.le_refl _, by show (0 : Int) ≤ _; omega, rfl⟩⟩, h.len, h.par⟩
theorem St.ground {n m : Nat} {p : ParserM} (h : St n m p) : St n m { p with in_ := 0 } :=
 ⟨⟨⟨Int.le_refl _, by show (0 : Int) ≤ 4; omega⟩, h.ok.wts, h.ok.pay, h.ok.int, fun e => by exact absurd e (show ¬((0 : Int) = 2) by omega)⟩, h.len, h.par⟩
theorem St.inter {n m : Nat} {p : ParserM} {c : Int} (h : St n m p) : St n m (interE p c) := by
 unfold interE
 split
 ·exact ⟨⟨h.ok.inn, h.ok.wts, h.ok.pay, h.ok.int, h.ok.num⟩, h.len, h.par⟩
 ·refine ⟨⟨h.ok.inn, h.ok.wts, h.ok.pay, ?_, h.ok.num⟩, h.len, h.par⟩
  have := h.ok.int
  simp; omega
theorem one_par {a : Act} (h : a.Params.length ≤ 16) : ∀ b ∈ [a], b.Params.length ≤ 16 := by
 intro b hb; simp at hb; subst hb; exact h
theorem St.behind {n m : Nat} {p : ParserM} {c : Int} (h : St n m p) : St n (m + 1) (behindE p c) := by
 unfold behindE
 split
 ·exact h.inter.mono (Nat.le_refl _) (by omega)
 split
 ·exact (h.begin ⟨by omega, by omega⟩).mono (Nat.le_refl _) (by omega)
 split
 ·have := h.begin (s := 3) ⟨by omega, by omega⟩
  exact ⟨⟨this.ok.inn, this.ok.wts, this.ok.pay, this.ok.int, this.ok.num⟩, Nat.le_succ_of_le this.len, this.par⟩
 refine St.ground ?_
 split
 ·exact h.put (by simp) (one_par (Nat.zero_le _))
 ·exact h.mono (Nat.le_refl _) (by omega)
theorem St.end_ {n m : Nat} {p : ParserM} {c : Int} (h : St n m p) (h2 : p.in_ = 2) : St n (m + 1) (endE p c) := by
 unfold endE
 obtain ⟨ps, hp, _, _, hl⟩ := h.ok.num h2
 split
 ·refine St.put (p := { p with in_ := 0, act := { p.act with Kind := 4, Final := c, Params := none } }) ⟨⟨h.ground.ok.inn, h.ok.wts, h.ok.pay, h.ok.int, fun e => by exact absurd e (show ¬((0 : Int) = 2) by omega)⟩, h.len, h.par⟩ (by simp) (one_par ?_)
  rw [hp]; simp; omega
 ·exact h.ground.mono (Nat.le_refl _) (by omega)
theorem St.sequence {n m : Nat} {p : ParserM} {c : Int} (h : St n m p) (h2 : p.in_ = 2) (hN : n ≤ 4611686018427387904) : St (n + 2) (m + 1) (sequenceE p c) := by
 have h' : St n m { p with first := false } := ⟨⟨h.ok.inn, h.ok.wts, h.ok.pay, h.ok.int, h.ok.num⟩, h.len, h.par⟩
 unfold sequenceE
 split
 ·exact h'.ground.mono (by omega) (by omega)
 split
 ·exact h'.inter.mono (by omega) (by omega)
 split
 ·exact (h'.end_ h2).mono (by omega) (by omega)
 split
 ·exact ⟨⟨h.ok.inn, h.ok.wts, h.ok.pay, h.ok.int, (h'.ok.mono (by omega : n ≤ n + 2)).num⟩, Nat.le_succ_of_le h.len, h.par⟩
 split
 ·exact ⟨⟨h.ok.inn, h.ok.wts, h.ok.pay, h.ok.int, (h'.ok.mono (by omega : n ≤ n + 2)).num⟩, Nat.le_succ_of_le h.len, h.par⟩
 ·obtain ⟨ps, hp, k0, k1, k2⟩ := h'.ok.num h2
  obtain ⟨_, e1, e2, e3, e4, e5, qs, q1, q2, q3, q4⟩ := number_is (p := { p with first := false }) (c := c) hp k0 k1 hN k2
  refine ⟨⟨by rw [e4]; exact h.ok.inn, by rw [e2]; exact h.ok.wts, by rw [e3]; exact h.ok.pay, by rw [e5]; exact h.ok.int, fun _ => ⟨qs, q1, q2, q3, q4⟩⟩, by rw [e1]; exact Nat.le_succ_of_le h.len, by rw [e1]; exact h.par⟩
theorem St.endString {n m : Nat} {p : ParserM} (h : St n m p) : St n (m + 1) (endStringE p) := by
 unfold endStringE
 exact St.put h.ground (by simp) (one_par (Nat.zero_le _))
theorem St.collect {n m : Nat} {p : ParserM} {c : Int} (h : St n m p) (h3 : p.in_ = 3) (hc : 0 ≤ c ∧ c < 256) : St n (m + 1) (collectE p c) := by
 unfold collectE
 split
 ·exact h.endString
 split
 ·exact ⟨⟨⟨by show (0 : Int) ≤ 4; omega, by show (4 : Int) ≤ 4; omega⟩, h.ok.wts, h.ok.pay, h.ok.int, fun e => by exact absurd e (show ¬((4 : Int) = 2) by omega)⟩, Nat.le_succ_of_le h.len, h.par⟩
 split
 ·exact h.ground.mono (Nat.le_refl _) (by omega)
 split
 ·rename_i hh
  refine ⟨⟨h.ok.inn, h.ok.wts, ⟨h.ok.pay.1.append (fun x hx => by simp at hx; subst hx; exact hc), ?_⟩, h.ok.int, h.ok.num⟩, Nat.le_succ_of_le h.len, h.par⟩
  simp; omega
 ·exact h.mono (Nat.le_refl _) (by omega)
theorem St.plain {n m : Nat} {p : ParserM} {c : Int} (h : St n m p) (hc : 0 ≤ c ∧ c < 256) : St n (m + 4) (plainE p c) := by
 unfold plainE
 have hm := most_is
 have hw := h.ok.wts
 have hb : Byts (p.text.waits ++ [c]) := hw.1.append (fun x hx => by simp at hx; subst hx; exact hc)
 obtain ⟨e, e1, e2, e3⟩ := gF_is hb (by simp; omega)
 refine St.put (p := { p with text := ⟨(gF (p.text.waits ++ [c])).2⟩ }) ⟨⟨h.ok.inn, ⟨e3, e1⟩, h.ok.pay, h.ok.int, h.ok.num⟩, h.len, h.par⟩ ?_ pr_par
 simp at e2 ⊢; omega
theorem St.on {n m : Nat} {p : ParserM} {c : Int} (h : St n m p) (hc : 0 ≤ c ∧ c < 256) (hN : n ≤ 4611686018427387904) : St (n + 2) (m + 4) (onE p c) := by
 unfold onE
 split
 ·exact h.behind.mono (by omega) (by omega)
 split
 ·rename_i h2; exact (h.sequence h2 hN).mono (by omega) (by omega)
 ·exact (h.plain hc).mono (by omega) (by omega)
theorem St.outer {n m : Nat} {p : ParserM} {c : Int} (h : St n m p) (hc : 0 ≤ c ∧ c < 256) (hN : n ≤ 4611686018427387904) : St (n + 2) (m + 4) (outE p c) := by
 unfold outE
 split
 ·exact h.ground.mono (by omega) (by omega)
 split
 ·exact (h.begin ⟨by omega, by omega⟩).mono (by omega) (by omega)
 split
 ·exact (h.put (k := 1) (by simp) (one_par (Nat.zero_le _))).mono (by omega) (by omega)
 split
 ·exact h.on hc hN
 ·exact h.mono (by omega) (by omega)
theorem St.ends {n m : Nat} {p : ParserM} {c : Int} (h : St n m p) (hc : 0 ≤ c ∧ c < 256) (hN : n ≤ 4611686018427387904) : St (n + 2) (m + 7) (endsE p c) := by
 unfold endsE
 split
 ·exact h.endString.mono (by omega) (by omega)
 ·exact ((h.begin (s := 1) ⟨by omega, by omega⟩).flush (c := c)).outer hc hN
theorem St.byte {n m : Nat} {p : ParserM} {c : Int} (h : St n m p) (hc : 0 ≤ c ∧ c < 256) (hN : n ≤ 4611686018427387904) : St (n + 2) (m + 10) (byteE p c) := by
 have hf := h.flush (c := c)
 unfold byteE
 split
 ·rename_i h3; exact (hf.collect h3 hc).mono (by omega) (by omega)
 split
 ·exact hf.ends hc hN
 ·exact (hf.outer hc hN).mono (by omega) (by omega)
theorem byte_is {n m : Nat} {p : ParserM} {c : Int} (h : St n m p) (hc : 0 ≤ c ∧ c < 256) (hN : n ≤ 4611686018427387904) (hm : m + 20 ≤ most) : esc_Parser_byte p c = some (byteE p c) := by
 have base : ∀ (k : Nat) (q : ParserM) (m' : Nat), St n m' q → m' + 8 ≤ most → q.in_ ≠ 4 → (esc_Parser_byteG (k + 1)).1 q c = some (byteE q c) := by
  intro k q m' hq hm' h4
  have hlen := hq.len
  have := byteF_is (rec18 := (esc_Parser_byteG k).1) (rec35 := (esc_Parser_byteG k).2) (r := q) hq.ok hN hc (by omega) (fun e => absurd e h4)
  rw [if_neg h4] at this
  exact this
 have hlen := h.len
 by_cases h4 : p.in_ = 4
 ·have hf := h.flush (c := c)
  have hflen := hf.len
  have e1 : (esc_Parser_byteG 2).2 (flushE p c) c = some (endsE (flushE p c) c) := by
   show esc_Parser_endsF ((esc_Parser_byteG 1).1) ((esc_Parser_byteG 1).2) (flushE p c) c = _
   unfold esc_Parser_endsF endsE
   simp only [letB]
   by_cases h92 : c = 92
   ·rw [decide_eq_true h92, if_pos h92, endString_is hf.ok.pay.1 (by omega)]; rfl
   ·rw [decide_eq_false h92, if_neg h92]
    simp only [cond_false, begin_is, Option.bind_some]
    rw [base 0 (beginE (flushE p c) 1) (m + 3) (hf.begin ⟨by omega, by omega⟩) (by omega) (by show ¬((1 : Int) = 4); omega)]
    simp only [Option.bind_some]
    congr 1
    unfold byteE
    have hi : (flushE (beginE (flushE p c) 1) c).in_ = 1 := flush_in
    rw [if_neg (by rw [hi]; omega), if_neg (by rw [hi]; omega)]
  have := byteF_is (rec18 := (esc_Parser_byteG 2).1) (rec35 := (esc_Parser_byteG 2).2) (r := endsE (flushE p c) c) h.ok hN hc (by omega) (fun _ => e1)
  rw [if_pos h4] at this
  have e2 : byteE p c = endsE (flushE p c) c := by
   unfold byteE
   rw [if_neg (by rw [flush_in, h4]; omega), if_pos (by rw [flush_in, h4])]
  rw [e2]; exact this
 ·exact base 2 p m h (by omega) h4
def S (x : List Act) (p : ParserM) : ParserM := { p with out := x ++ p.out }
end Go.Proofs.YtdlijnfdkeimlaaDoor.Am.Esc

set_option linter.all false
namespace Go.Proofs.YtdlijnfdkeimlaaDoor.Am.Esc
open Go.Proofs.YtdlijnfdkeimlaaDoor.Am.T
noncomputable def runE (p : ParserM) (b : List Int) : ParserM := b.foldl byteE p
def Z (p : ParserM) : ParserM := { p with out := [] }
theorem St.Z {n m : Nat} {p : ParserM} (h : St n m p) : St n 0 (Z p) :=
  ⟨⟨h.ok.inn, h.ok.wts, h.ok.pay, h.ok.int, h.ok.num⟩, Nat.le_refl _, fun a ha => by cases ha⟩
theorem feed_loop (b : List Int) (hb : Byts b) (hl : b.length ≤ 100000000) : ∀ (k i : Nat) (p : ParserM) (n m : Nat), i + k = b.length → St n m p → n + 2 * k ≤ 4611686018427387904 → m + 10 * k + 20 ≤ most →
    iter (fun s => esc_Parser_Feed_l1 b s.1 s.2 : (Int × ParserM) → Option ((Int × ParserM) ⊕ ParserM)) ((i : Int), p) = some (runE p (b.drop i)) ∧ St (n + 2 * k) (m + 10 * k) (runE p (b.drop i))
  | 0, i, p, n, m, hi, h, hN, hm => by
    rw [List.drop_of_length_le (by omega)]
    refine ⟨iter_inr ?_, h⟩
    simp only [esc_Parser_Feed_l1, letB]
    rw [decide_eq_false (by omega)]; rfl
  | k + 1, i, p, n, m, hi, h, hN, hm => by
    have hd : b.drop i = b.getD i 0 :: b.drop (i + 1) := by
      rw [List.getD_eq_getElem?_getD, List.getElem?_eq_getElem (by omega)]; exact List.drop_eq_getElem_cons (by omega)
    obtain ⟨e, s⟩ := feed_loop b hb hl k (i + 1) (byteE p (b.getD i 0)) (n + 2) (m + 10) (by omega) (h.byte (hb.get i) (by omega)) (by omega) (by omega)
    rw [hd]
    refine ⟨?_, s.mono (by omega) (by omega)⟩
    rw [iter_inl (s' := (((i + 1 : Nat) : Int), byteE p (b.getD i 0))) (by
      simp only [esc_Parser_Feed_l1, letB]
      rw [decide_eq_true (by omega), idx_is (d := 0) (by omega) (by omega)]
      simp only [cond_true, Option.bind_some, Int.toNat_natCast]
      rw [byte_is h (hb.get i) (by omega) (by omega), w64_id (by omega) (by omega)]; rfl), e]
    rfl
theorem Feed_is {n m : Nat} {p : ParserM} {b : List Int} (h : St n m p) (hb : Byts b) (hl : b.length ≤ 100000000) (hN : n + 2 * b.length ≤ 4611686018427387904) :
    esc_Parser_Feed p b = some ((runE (Z p) b).out, Z (runE (Z p) b)) ∧ St (n + 2 * b.length) (10 * b.length) (runE (Z p) b) := by
  have hmost := most_is
  obtain ⟨e, s⟩ := feed_loop b hb hl b.length 0 (Z p) n 0 (by omega) h.Z (by omega) (by omega)
  rw [List.drop_zero] at e s
  refine ⟨?_, s.mono (by omega) (by omega)⟩
  unfold esc_Parser_Feed
  have e' : iter (fun s => esc_Parser_Feed_l1 b s.1 s.2 : (Int × ParserM) → Option ((Int × ParserM) ⊕ ParserM)) (0, { p with out := [] }) = some (runE (Z p) b) := e
  rw [e']; rfl
def p0 : ParserM := ParserM.mk (Reader.mk []) 0 false false (ActM.mk 0 0 0 0 [] (some []) []) 0 [] []
theorem St.zero : St 0 0 p0 :=
  ⟨⟨⟨Int.le_refl _, by decide⟩, ⟨fun _ hx => (by cases hx), Nat.zero_le _⟩, ⟨fun _ hx => (by cases hx), Nat.zero_le _⟩, Nat.zero_le _, fun e => by exact absurd e (show ¬((0 : Int) = 2) by omega)⟩, Nat.le_refl _, fun _ ha => by cases ha⟩
theorem byts_of {l : List Int} (h : (l.all fun x => decide (0 ≤ x ∧ x < 256)) = true) : Byts l := fun x hx => of_decide_eq_true (List.all_eq_true.1 h x hx)
end Go.Proofs.YtdlijnfdkeimlaaDoor.Am.Esc

set_option linter.all false
namespace Go.Proofs.YtdlijnfdkeimlaaDoor.Am.Esc
open Go.Proofs.YtdlijnfdkeimlaaDoor.Am.T
theorem run_cons {p : ParserM} {c : Int} {l : List Int} : runE p (c :: l) = runE (byteE p c) l := rfl
theorem run_app {p : ParserM} {a b : List Int} : runE p (a ++ b) = runE (runE p a) b := List.foldl_append
theorem St.run {b : List Int} : ∀ {p : ParserM} {n m : Nat}, St n m p → Byts b → n + 2 * b.length ≤ 4611686018427387904 → St (n + 2 * b.length) (m + 10 * b.length) (runE p b) := by
 induction b with
 | nil => intro p n m h _ _; exact h
 | cons c b ih =>
  intro p n m h hb hN
  rw [List.length_cons] at hN ⊢
  rw [run_cons]
  exact (ih (h.byte (hb c List.mem_cons_self) (by omega)) (fun x hx => hb x (.tail _ hx)) (by omega)).mono (by omega) (by omega)
theorem Byts.take {l : List Int} (h : Byts l) (n : Nat) : Byts (l.take n) := fun x hx => h x (List.mem_of_mem_take hx)
def Sim (p q : ParserM) : Prop := p.text = q.text ∧ p.in_ = q.in_ ∧ p.out = q.out ∧ (p.in_ ≠ 0 → p = q)
theorem Sim.refl {p : ParserM} : Sim p p := ⟨rfl, rfl, rfl, fun _ => rfl⟩
theorem Sim.byte {p q : ParserM} {c : Int} (h : Sim p q) : Sim (byteE p c) (byteE q c) := by
 by_cases h0 : p.in_ = 0
 case neg => rw [h.2.2.2 h0]; exact .refl
 have hf : Sim (flushE p c) (flushE q c) ∧ (flushE p c).in_ = 0 := by
  unfold flushE restE putE
  split
  ·exact ⟨⟨rfl, h.2.1, by show _ ++ _ = _ ++ _; rw [h.1, h.2.2.1], fun hn => absurd h0 hn⟩, h0⟩
  ·exact ⟨h, h0⟩
 obtain ⟨hf, h0⟩ := hf
 have h0' : (flushE q c).in_ = 0 := by rw [← hf.2.1]; exact h0
 unfold byteE
 rw [if_neg (by omega), if_neg (by omega), if_neg (by omega), if_neg (by omega)]
 revert hf h0 h0'
 generalize flushE p c = p
 generalize flushE q c = q
 intro h h0 h0'
 unfold outE
 split
 ·exact ⟨h.1, rfl, h.2.2.1, fun hn => absurd rfl hn⟩
 split
 ·have : beginE p 1 = beginE q 1 := by unfold beginE; rw [h.1, h.2.2.1]
  rw [this]; exact .refl
 split
 ·exact ⟨h.1, h.2.1, by show _ ++ _ = _ ++ _; rw [h.2.2.1], fun hn => absurd h0 hn⟩
 split
 ·unfold onE
  rw [if_neg (by omega), if_neg (by omega), if_neg (by omega), if_neg (by omega)]
  unfold plainE putE
  exact ⟨by show Reader.mk _ = Reader.mk _; rw [h.1], h.2.1, by show _ ++ _ = _ ++ _; rw [h.1, h.2.2.1], fun hn => absurd h0 hn⟩
 ·exact h
theorem Sim.run {b : List Int} : ∀ {p q : ParserM}, Sim p q → Sim (runE p b) (runE q b) := by
 induction b with
 | nil => intro p q h; exact h
 | cons c b ih => intro p q h; rw [run_cons, run_cons]; exact ih h.byte
end Go.Proofs.YtdlijnfdkeimlaaDoor.Am.Esc

set_option linter.all false
namespace Go.Proofs.YtdlijnfdkeimlaaDoor.Am.Esc
open Go.Proofs.YtdlijnfdkeimlaaDoor.Am.T
open Go
theorem digL_small {u : Nat} (h : u < 10) : digL (u : Int) = [48 + (u : Int)] := by
 unfold digL
 rw [Int.toNat_natCast, Lib.decDigits, dif_pos h]
 have : (UInt8.ofNat (48 + u)).toNat = 48 + u := by
  rw [UInt8.toNat_ofNat']; omega
 simp only [List.map_cons, List.map_nil, this]
 rw [show ((48 + u : Nat) : Int) = 48 + (u : Int) by omega]
theorem digL_big {u : Nat} (h : ¬ u < 10) : digL (u : Int) = digL ((u / 10 : Nat) : Int) ++ [48 + ((u % 10 : Nat) : Int)] := by
 unfold digL
 rw [Int.toNat_natCast, Int.toNat_natCast, Lib.decDigits, dif_neg h]
 have : (UInt8.ofNat (48 + u % 10)).toNat = 48 + u % 10 := by
  rw [UInt8.toNat_ofNat']; omega
 simp only [List.map_cons, List.map_nil, List.map_append, this]
 rw [show ((48 + u % 10 : Nat) : Int) = 48 + ((u % 10 : Nat) : Int) by omega]
theorem digL_len {n : Int} (h : 0 ≤ n ∧ n ≤ 9999) : 0 < (digL n).length ∧ (digL n).length ≤ 20 := by
 unfold digL
 rw [List.length_map, Lib.decDigits_length]
 exact ⟨Lib.nDigits_pos _, Lib.nDigits_le20 _ (by omega)⟩
theorem digL_digs : ∀ (k u : Nat), u < k → ∀ x ∈ digL (u : Int), 48 ≤ x ∧ x ≤ 57
 | 0, u, h => by omega
 | k + 1, u, h => by
  by_cases h10 : u < 10
  ·rw [digL_small h10]; intro x hx; rw [List.mem_singleton] at hx; omega
  ·rw [digL_big h10]
   intro x hx
   rcases List.mem_append.1 hx with hx | hx
   ·exact digL_digs k (u / 10) (by omega) x hx
   ·rw [List.mem_singleton] at hx; omega
def val (n : Int) : Int := max (-1) (min n 9999)
def num1L (n : Int) : List Int := if 0 ≤ n then digL (min n 9999) else []
theorem num1L_len (n : Int) : (num1L n).length ≤ 20 := by
 unfold num1L; split
 ·exact (digL_len ⟨by omega, by omega⟩).2
 ·exact Nat.zero_le _
def sepL : Nat → List Int → List Int
 | _, [] => []
 | i, n :: ns => (if i = 0 then [] else [59]) ++ num1L n ++ sepL (i + 1) ns
theorem sepL_len : ∀ (ps : List Int) (i : Nat), (sepL i ps).length ≤ 21 * ps.length
 | [], _ => Nat.zero_le _
 | n :: ns, i => by
  have h1 := sepL_len ns (i + 1)
  have h2 := num1L_len n
  unfold sepL
  rw [List.length_append, List.length_append, List.length_cons]
  split <;> simp <;> omega
theorem appendInt_is {dst : List Int} {n : Int} (h : 0 ≤ n ∧ n ≤ 9999) (hl : dst.length ≤ 10000) : strconv_AppendInt dst n 10 = some (dst ++ digL n) := by
 have hm := most_is
 unfold strconv_AppendInt internal_strconv_AppendInt strconv_AppendUint
 simp only [letB]
 rw [decide_eq_false (by omega)]
 simp only [cond_false, Option.bind_some]
 have hw : wu64 n = n := by
  show IntKind.wrap .u64 n = n
  simp [IntKind.wrap, IntKind.signed, IntKind.bits]
  omega
 rw [hw, if_pos ⟨trivial, ⟨by omega, by omega⟩, by omega⟩]
 rfl
theorem drop_cons {l : List Int} {i : Nat} (h : i < l.length) : l.drop i = l.getD i 0 :: l.drop (i + 1) := by
 rw [List.getD_eq_getElem?_getD, List.getElem?_eq_getElem h]; exact List.drop_eq_getElem_cons h
theorem csi_loop (x5 : List Int) (h16 : x5.length ≤ 16) : ∀ (k i : Nat) (out : List Int), i + k = x5.length → out.length + 21 * k ≤ 1000 →
  iter (fun s => esc_Csi_l1 x5 s.1 s.2 : (List Int × Int) → Option ((List Int × Int) ⊕ List Int)) (out, (i : Int)) = some (out ++ sepL i (x5.drop i))
 | 0, i, out, hi, ho => by
  rw [iter_inr (r := out) (by
   simp only [esc_Csi_l1, letB]
   rw [decide_eq_false (by omega)]; rfl)]
  rw [List.drop_of_length_le (by omega)]
  simp [sepL]
 | k + 1, i, out, hi, ho => by
  have hm := most_is
  have hd := drop_cons (l := x5) (i := i) (by omega)
  have hnl := num1L_len (x5.getD i 0)
  rw [iter_inl (s' := (out ++ (if i = 0 then [] else [59]) ++ num1L (x5.getD i 0), ((i + 1 : Nat) : Int))) (by
   simp only [esc_Csi_l1, letB]
   rw [decide_eq_true (by omega), idx_is (d := 0) (by omega) (by omega)]
   simp only [cond_true, Option.bind_some, Int.toNat_natCast]
   rw [w64_id (n := (i : Int) + 1) (by omega) (by omega)]
   have hj : (Option.bind (bif decide ((i : Int) > 0) then (app out [59]).bind fun x11 => some x11 else some out) fun j12 => some j12) = some (out ++ (if i = 0 then [] else [59])) := by
    by_cases h0 : i = 0
    ·rw [if_pos h0, decide_eq_false (by omega)]; simp
    ·rw [if_neg h0, decide_eq_true (by omega), app_some (by simp; omega)]; rfl
   rw [Option.bind_fun_some] at hj
   rw [hj]
   simp only [Option.bind_some]
   generalize hoo : out ++ (if i = 0 then [] else [59]) = oo
   have hol : oo.length ≤ out.length + 1 := by rw [← hoo]; split <;> simp
   unfold num1L
   by_cases hn : 0 ≤ x5.getD i 0
   ·rw [decide_eq_true (by omega), if_pos hn]
    simp only [cond_true]
    rw [appendInt_is ⟨by omega, by omega⟩ (by omega)]
    rfl
   ·rw [decide_eq_false (by omega), if_neg hn, List.append_nil]
    rfl)]
  rw [csi_loop x5 h16 k (i + 1) _ (by omega) (by
   rw [List.length_append, List.length_append]
   have : (if i = 0 then [] else [59] : List Int).length ≤ 1 := by split <;> simp
   omega), hd]
  simp only [sepL, List.append_assoc]
def csiL (priv : Int) (ps : List Int) (final : Int) : List Int := (if priv = 0 then [27, 91] else [27, 91, priv]) ++ sepL 0 (ps.take 16) ++ [final]
theorem csi_is {priv : Int} {ps : List Int} {final : Int} : esc_Csi priv ps final = some (csiL priv ps final) := by
 have hm := most_is
 have hs : subB ps (min (ps.length : Int) 16) = some (ps.take 16) := by
  unfold subB
  rw [if_pos ⟨by omega, by omega⟩]
  congr 1
  by_cases h : ps.length ≤ 16
  ·rw [List.take_of_length_le (l := ps) (i := 16) h, List.take_of_length_le (by omega)]
  ·rw [show (min (ps.length : Int) 16).toNat = 16 by omega]
 have h16 : (ps.take 16).length ≤ 16 := by rw [List.length_take]; omega
 have hj : (Option.bind (bif decide (priv ≠ 0) then (app [27, 91] [priv]).bind fun x3 => some x3 else some [27, 91]) fun j => some j) = some (if priv = 0 then [27, 91] else [27, 91, priv]) := by
  by_cases h : priv = 0
  ·rw [if_pos h, decide_eq_false (by simp [h])]; rfl
  ·rw [if_neg h, decide_eq_true h, app_some (by simp [hm])]; rfl
 rw [Option.bind_fun_some] at hj
 unfold esc_Csi
 simp only [letB]
 rw [hj]
 simp only [Option.bind_some, hs]
 have hl2 : (if priv = 0 then [27, 91] else [27, 91, priv] : List Int).length ≤ 3 := by split <;> simp
 have e := csi_loop (ps.take 16) h16 (ps.take 16).length 0 (if priv = 0 then [27, 91] else [27, 91, priv]) (by omega) (by omega)
 rw [List.drop_zero] at e
 have e' : iter (fun s => esc_Csi_l1 (ps.take 16) s.1 s.2 : (List Int × Int) → Option ((List Int × Int) ⊕ List Int)) ((if priv = 0 then [27, 91] else [27, 91, priv]), 0) = _ := e
 rw [e']
 simp only [Option.bind_some]
 have := sepL_len (ps.take 16) 0
 rw [app_some (by rw [List.length_append]; simp only [List.length_cons, List.length_nil]; omega)]
 rfl
theorem bstr_one {x : Int} (h : 0 ≤ x ∧ x < 256) : bstr [x] = some [x] := by
 unfold bstr
 rw [show ([x].all fun b => decide (0 ≤ b ∧ b < 256)) = true from List.all_eq_true.2 fun y hy => decide_eq_true (by rw [List.mem_singleton] at hy; omega)]
 rfl
theorem w8_id {n : Int} (h : 0 ≤ n ∧ n < 256) : w8 n = n := by
 show IntKind.wrap .u8 n = n
 simp [IntKind.wrap, IntKind.signed, IntKind.bits]
 omega
theorem dec_loop : ∀ (k u : Nat) (out : List Int), u < k → u ≤ 1000000000000000000 → out.length + k ≤ 4000000000000000000 →
  iter (fun s => casementref01_Decimal_l1 s.1 s.2 : (Int × List Int) → Option ((Int × List Int) ⊕ List Int)) ((u : Int), out) = some ((if u = 0 then [] else digL (u : Int)) ++ out)
 | 0, u, out, h, _, _ => by omega
 | k + 1, u, out, h, hu, ho => by
  by_cases h0 : u = 0
  ·subst h0
   rw [if_pos rfl, List.nil_append]
   exact iter_inr (by
    simp only [casementref01_Decimal_l1, letB]
    rw [decide_eq_false (by simp)]; rfl)
  ·rw [if_neg h0]
   have ht : Int.tmod (u : Int) 10 = ((u % 10 : Nat) : Int) := by
    rw [Int.tmod_eq_emod_of_nonneg (by omega)]; omega
   have hd : Int.tdiv (u : Int) 10 = ((u / 10 : Nat) : Int) := by
    rw [Int.tdiv_eq_ediv_of_nonneg (by omega)]; omega
   rw [iter_inl (s' := (((u / 10 : Nat) : Int), (48 + ((u % 10 : Nat) : Int)) :: out)) (by
    simp only [casementref01_Decimal_l1, letB]
    rw [decide_eq_true (by omega), ht, hd, decide_eq_false (by omega)]
    simp only [cond_true, cond_false, Option.bind_some]
    rw [w64_id (n := 48 + ((u % 10 : Nat) : Int)) (by omega) (by omega), w8_id ⟨by omega, by omega⟩, bstr_one ⟨by omega, by omega⟩]
    simp only [Option.bind_some, sadd]
    rw [if_pos (by simp; omega)]
    simp only [Option.bind_some]
    rw [w64_id (by omega) (by omega)]; rfl)]
   rw [dec_loop k (u / 10) _ (by omega) (by omega) (by simp; omega)]
   by_cases h10 : u < 10
   ·rw [if_pos (by omega), digL_small h10, show u % 10 = u by omega]; rfl
   ·rw [if_neg (by omega), digL_big h10, List.append_assoc]; rfl
theorem decimal_is {n : Int} (h : 0 ≤ n ∧ n ≤ 9999) : casementref01_Decimal n = some (digL n) := by
 unfold casementref01_Decimal
 simp only [letB]
 by_cases h0 : n = 0
 ·subst h0
  rw [decide_eq_true rfl]
  simp only [cond_true]
  exact congrArg some (digL_small (u := 0) (by omega)).symm
 ·rw [decide_eq_false h0, decide_eq_false (by omega)]
  simp only [cond_false]
  obtain ⟨u, rfl⟩ : ∃ u : Nat, n = u := ⟨n.toNat, by omega⟩
  rw [dec_loop (u + 1) u [] (by omega) (by omega) (by simp; omega)]
  rw [if_neg (by omega), List.append_nil]; rfl
theorem between_is {n : Int} (h : 0 ≤ n) : casementref01_Between n 0 9999 = some (min n 9999) := by
 unfold casementref01_Between
 simp only [letB]
 rw [decide_eq_false (by omega)]
 simp only [cond_false]
 by_cases h9 : n > 9999
 ·rw [decide_eq_true h9]; simp only [cond_true]; rw [show min n 9999 = 9999 by omega]
 ·rw [decide_eq_false h9]; simp only [cond_false]; rw [show min n 9999 = n by omega]
theorem rcsi_loop (ps : List Int) (h63 : ps.length ≤ 9223372036854775807) : ∀ (k i : Nat) (out : List Int), i + k = min ps.length 16 → out.length + 21 * k ≤ 1000 →
  iter (fun s => casementref04_Csi_l1 ps s.1 s.2 : (List Int × Int) → Option ((List Int × Int) ⊕ List Int)) (out, (i : Int)) = some (out ++ sepL i ((ps.take 16).drop i))
 | 0, i, out, hi, ho => by
  rw [iter_inr (r := out) (by
   simp only [casementref04_Csi_l1, letB]
   by_cases hh : ps.length ≤ 16
   ·rw [decide_eq_false (by omega)]; rfl
   ·rw [decide_eq_true (by omega), decide_eq_false (by omega)]; rfl)]
  rw [List.drop_of_length_le (by rw [List.length_take]; omega)]
  simp [sepL]
 | k + 1, i, out, hi, ho => by
  have hm := most_is
  have hd := drop_cons (l := ps.take 16) (i := i) (by rw [List.length_take]; omega)
  have hg : (ps.take 16).getD i 0 = ps.getD i 0 := by
   rw [List.getD_eq_getElem?_getD, List.getD_eq_getElem?_getD, List.getElem?_take, if_pos (by omega)]
  rw [hg] at hd
  have hnl := num1L_len (ps.getD i 0)
  rw [iter_inl (s' := (out ++ (if i = 0 then [] else [59]) ++ num1L (ps.getD i 0), ((i + 1 : Nat) : Int))) (by
   simp only [casementref04_Csi_l1, letB]
   rw [decide_eq_true (by omega : (i : Int) < ps.length), decide_eq_true (by omega), idx_is (d := 0) (by omega) (by omega)]
   simp only [cond_true, Option.bind_some, Int.toNat_natCast]
   rw [w64_id (n := (i : Int) + 1) (by omega) (by omega)]
   have hj : (Option.bind (bif decide ((i : Int) > 0) then (sadd out [59]).bind fun x11 => some x11 else some out) fun j12 => some j12) = some (out ++ (if i = 0 then [] else [59])) := by
    by_cases h0 : i = 0
    ·rw [if_pos h0, decide_eq_false (by omega)]; simp
    ·rw [if_neg h0, decide_eq_true (by omega)]
     simp only [sadd, cond_true]
     rw [if_pos (by simp; omega)]; rfl
   rw [Option.bind_fun_some] at hj
   rw [hj]
   simp only [Option.bind_some]
   generalize hoo : out ++ (if i = 0 then [] else [59]) = oo
   have hol : oo.length ≤ out.length + 1 := by rw [← hoo]; split <;> simp
   by_cases hn : 0 ≤ ps.getD i 0
   ·have hx : num1L (ps.getD i 0) = digL (min (ps.getD i 0) 9999) := by unfold num1L; rw [if_pos hn]
    rw [decide_eq_true (by omega), between_is hn, hx]
    simp only [cond_true, Option.bind_some]
    rw [decimal_is ⟨by omega, by omega⟩]
    simp only [Option.bind_some, sadd]
    have := (digL_len (n := min (ps.getD i 0) 9999) ⟨by omega, by omega⟩).2
    rw [if_pos (by omega)]
    rfl
   ·have hx : num1L (ps.getD i 0) = [] := by unfold num1L; rw [if_neg hn]
    rw [decide_eq_false (by omega), hx, List.append_nil]
    rfl)]
  rw [rcsi_loop ps h63 k (i + 1) _ (by omega) (by
   rw [List.length_append, List.length_append]
   have : (if i = 0 then [] else [59] : List Int).length ≤ 1 := by split <;> simp
   omega), hd]
  simp only [sepL, List.append_assoc]
theorem rcsi_is {priv : Int} {ps : List Int} {final : Int} (hp : 0 ≤ priv ∧ priv < 256) (h63 : ps.length ≤ 9223372036854775807) : casementref04_Csi priv ps final = some (csiL priv ps final) := by
 have hm := most_is
 have hj : (Option.bind (bif decide (priv ≠ 0) then (bstr [priv]).bind fun x3 => (sadd [27, 91] x3).bind fun x4 => some x4 else some [27, 91]) fun j => some j) = some (if priv = 0 then [27, 91] else [27, 91, priv]) := by
  by_cases h : priv = 0
  ·rw [if_pos h, decide_eq_false (by simp [h])]; rfl
  ·rw [if_neg h, decide_eq_true h, bstr_one hp]; rfl
 rw [Option.bind_fun_some] at hj
 unfold casementref04_Csi
 simp only [letB]
 rw [hj]
 simp only [Option.bind_some]
 have hl2 : (if priv = 0 then [27, 91] else [27, 91, priv] : List Int).length ≤ 3 := by split <;> simp
 have e := rcsi_loop ps h63 (min ps.length 16) 0 (if priv = 0 then [27, 91] else [27, 91, priv]) (by omega) (by omega)
 rw [List.drop_zero] at e
 have e' : iter (fun s => casementref04_Csi_l1 ps s.1 s.2 : (List Int × Int) → Option ((List Int × Int) ⊕ List Int)) ((if priv = 0 then [27, 91] else [27, 91, priv]), 0) = _ := e
 rw [e']
 simp only [Option.bind_some]
 have := sepL_len (ps.take 16) 0
 have h16 : (ps.take 16).length ≤ 16 := by rw [List.length_take]; omega
 rw [app_some (by rw [List.length_append]; simp only [List.length_cons, List.length_nil]; omega)]
 rfl
theorem csiL_len {priv : Int} {ps : List Int} {final : Int} : (csiL priv ps final).length ≤ 1000 := by
 have := sepL_len (ps.take 16) 0
 have h16 : (ps.take 16).length ≤ 16 := by rw [List.length_take]; omega
 have hl2 : (if priv = 0 then [27, 91] else [27, 91, priv] : List Int).length ≤ 3 := by split <;> simp
 unfold csiL
 rw [List.length_append, List.length_append]
 simp only [List.length_cons, List.length_nil]
 omega
theorem sameBytes_loop (a : List Int) (hl : a.length ≤ most) : ∀ (k i : Nat), i + k = a.length →
  iter (fun s => casementref01_SameBytes_l1 a a s : Int → Option (Int ⊕ (Unit ⊕ Unit))) (i : Int) = some (.inr ())
 | 0, i, hi => iter_inr (by
   simp only [casementref01_SameBytes_l1, letB]
   rw [decide_eq_false (by omega)]; rfl)
 | k + 1, i, hi => by
  have hm := most_is
  rw [iter_inl (s' := ((i + 1 : Nat) : Int)) (by
   simp only [casementref01_SameBytes_l1, letB]
   rw [decide_eq_true (by omega), idx_is (d := 0) (by omega) (by omega)]
   simp only [cond_true, Option.bind_some, Int.toNat_natCast]
   rw [decide_eq_false (by simp), w64_id (by omega) (by omega)]; rfl)]
  exact sameBytes_loop a hl k (i + 1) (by omega)
theorem sameBytes_self {a : List Int} (hl : a.length ≤ most) : casementref01_SameBytes a a = some true := by
 unfold casementref01_SameBytes
 simp only [letB]
 rw [decide_eq_false (by simp)]
 have := sameBytes_loop a hl a.length 0 (by omega)
 simp only [cond_false]
 have e : iter (fun s => casementref01_SameBytes_l1 a a s : Int → Option (Int ⊕ (Unit ⊕ Unit))) 0 = some (.inr ()) := this
 rw [e]; rfl
end Go.Proofs.YtdlijnfdkeimlaaDoor.Am.Esc

set_option linter.all false
namespace Go.Proofs.YtdlijnfdkeimlaaDoor.Am.Esc
open Go.Proofs.YtdlijnfdkeimlaaDoor.Am.T
open Go
def cs (f : Bool) (pv : Int) (ps : List Int) (n : Int) : ParserM := ⟨⟨[]⟩, 2, false, f, ⟨0, 0, 0, pv, [], some ps, []⟩, n, [], []⟩
theorem flush_no {p : ParserM} {c : Int} (h1 : 32 ≤ c) (h2 : c ≠ 127) : flushE p c = p := by unfold flushE; rw [if_neg (by omega)]
theorem byte_seq {p : ParserM} {c : Int} (h1 : 32 ≤ c) (h2 : c ≠ 127) (hp : p.in_ = 2) : byteE p c = sequenceE p c := by
 unfold byteE
 rw [flush_no h1 h2, if_neg (by omega), if_neg (by omega)]
 unfold outE
 rw [if_neg (by omega), if_neg (by omega), if_neg (by omega), if_pos h2]
 unfold onE
 rw [if_neg (by omega), if_pos hp]
theorem byte_num {f : Bool} {pv : Int} {ps : List Int} {n c : Int} (h : 48 ≤ c ∧ c ≤ 57 ∨ c = 59) : byteE (cs f pv ps n) c = numberE (cs false pv ps n) c := by
 rw [byte_seq (by omega) (by omega) rfl]
 unfold sequenceE
 rw [if_neg (by omega), if_neg (by omega), if_neg (by omega), if_neg (by omega), if_neg (by
  intro hh
  rcases hh with hh | hh | hh
  ·omega
  ·omega
  ·exact hh rfl)]
 rfl
theorem lazy_num {f : Bool} {pv : Int} {c : Int} (h : 48 ≤ c ∧ c ≤ 57 ∨ c = 59) : byteE (cs f pv [] 0) c = byteE (cs false pv [-1] 1) c := by
 rw [byte_num h, byte_num h]; rfl
def fd (v c : Int) : Int := min (max v 0 * 10 + (c - 48)) 9999
theorem dig_step {pv : Int} {pre : List Int} {v c : Int} {n : Nat} (h : 48 ≤ c ∧ c ≤ 57) (hv : v ≤ 9999) (hn : pre.length + 1 = n) (h16 : n ≤ 16) : byteE (cs false pv (pre ++ [v]) n) c = cs false pv (pre ++ [fd v c]) n := by
 rw [byte_num (.inl h)]
 have hq : num1 (cs false pv (pre ++ [v]) n) = cs false pv (pre ++ [v]) n := by
  unfold num1
  rw [if_neg (show ¬ (cs false pv (pre ++ [v]) n).count = 0 from by show ¬ (n : Int) = 0; omega)]
 unfold numberE
 rw [hq]
 simp only
 rw [if_neg (by omega)]
 have hc : (cs false pv (pre ++ [v]) n).count = (n : Int) := rfl
 have hp : (cs false pv (pre ++ [v]) n).act.Params.getD [] = pre ++ [v] := rfl
 rw [hc, hp, if_pos (by omega)]
 have hi : ((n : Int) - 1).toNat = pre.length := by omega
 have hg : (pre ++ [v]).getD pre.length 0 = v := by simp [List.getD_eq_getElem?_getD]
 have hu : ∀ x, upI (pre ++ [v]) ((n : Int) - 1) x = pre ++ [x] := fun x => by
  unfold upI; rw [hi]; simp
 rw [hi, hg, hu, w8_id (n := c - 48) ⟨by omega, by omega⟩, w64_id (n := c - 48) (by omega) (by omega), w64_id (n := max v 0 * 10) (by omega) (by omega), w64_id (by omega) (by omega)]
 rfl
theorem fd_le (v c : Int) : fd v c ≤ 9999 := by unfold fd; omega
theorem run_digs {pv : Int} {pre : List Int} {n : Nat} (hn : pre.length + 1 = n) (h16 : n ≤ 16) : ∀ (ds : List Int) (v : Int), (∀ x ∈ ds, 48 ≤ x ∧ x ≤ 57) → v ≤ 9999 →
  runE (cs false pv (pre ++ [v]) n) ds = cs false pv (pre ++ [ds.foldl fd v]) n
 | [], v, _, _ => rfl
 | d :: ds, v, hd, hv => by
  rw [run_cons, dig_step (hd d (.head _)) hv hn h16, run_digs hn h16 ds (fd v d) (fun x hx => hd x (.tail _ hx)) (fd_le _ _)]
  rfl
theorem fold_dig : ∀ (k u : Nat), u < k → u ≤ 9999 → (digL (u : Int)).foldl fd (-1) = (u : Int)
 | 0, u, h, _ => by omega
 | k + 1, u, h, h9 => by
  by_cases h10 : u < 10
  ·rw [digL_small h10]
   show fd (-1) (48 + (u : Int)) = u
   unfold fd; omega
  ·rw [digL_big h10, List.foldl_append, fold_dig k (u / 10) (by omega) (by omega)]
   show fd ((u / 10 : Nat) : Int) (48 + ((u % 10 : Nat) : Int)) = u
   unfold fd; omega
theorem run_one {pv : Int} {pre : List Int} {n : Nat} {x : Int} (hn : pre.length + 1 = n) (h16 : n ≤ 16) : runE (cs false pv (pre ++ [-1]) n) (num1L x) = cs false pv (pre ++ [val x]) n := by
 unfold num1L
 by_cases h : 0 ≤ x
 ·rw [if_pos h]
  obtain ⟨u, hu, hu9⟩ : ∃ u : Nat, min x 9999 = u ∧ u ≤ 9999 := ⟨(min x 9999).toNat, by omega, by omega⟩
  rw [hu, run_digs hn h16 _ _ (digL_digs (u + 1) u (by omega)) (by omega), fold_dig (u + 1) u (by omega) hu9]
  have : val x = u := by unfold val; omega
  rw [this]
 ·rw [if_neg h]
  have : val x = -1 := by unfold val; omega
  rw [this]; rfl
theorem semi_step {pv : Int} {vs : List Int} {n : Nat} (h1 : 1 ≤ n) (h16 : n + 1 ≤ 16) : byteE (cs false pv vs n) 59 = cs false pv (vs ++ [-1]) ((n + 1 : Nat) : Int) := by
 rw [byte_num (.inr rfl)]
 have hq : num1 (cs false pv vs n) = cs false pv vs n := by
  unfold num1
  rw [if_neg (show ¬ (cs false pv vs n).count = 0 from by show ¬ (n : Int) = 0; omega)]
 unfold numberE
 rw [hq]
 simp only
 rw [if_pos trivial]
 have hc : (cs false pv vs n).count = (n : Int) := rfl
 have hp : (cs false pv vs n).act.Params.getD [] = vs := rfl
 rw [hc, hp, if_pos (by omega)]
 rfl
theorem run_sep {pv : Int} : ∀ (ns : List Int) (vs : List Int) (i : Nat), 1 ≤ i → vs.length = i → i + ns.length ≤ 16 →
  runE (cs false pv vs i) (sepL i ns) = cs false pv (vs ++ ns.map val) ((i + ns.length : Nat) : Int)
 | [], vs, i, _, _, _ => by
  unfold sepL
  rw [List.map_nil, List.append_nil]; rfl
 | n :: ns, vs, i, h1, hv, h16 => by
  rw [List.length_cons] at h16
  unfold sepL
  rw [if_neg (by omega), run_app, run_app]
  show runE (runE (byteE (cs false pv vs i) 59) (num1L n)) (sepL (i + 1) ns) = _
  rw [semi_step h1 (by omega), run_one (by omega) (by omega), run_sep ns _ (i + 1) (by omega) (by simp; omega) (by omega)]
  rw [List.map_cons, List.length_cons, List.append_assoc, show i + 1 + ns.length = i + (ns.length + 1) by omega]
  rfl
theorem run_lazy {f : Bool} {pv c : Int} {l : List Int} (h : 48 ≤ c ∧ c ≤ 57 ∨ c = 59) : runE (cs f pv [] 0) (c :: l) = runE (cs false pv [-1] 1) (c :: l) := by
 rw [run_cons, run_cons, lazy_num h]
theorem run_all {f : Bool} {pv : Int} {n : Int} {ns : List Int} (h : 0 ≤ n ∨ ns ≠ []) (h16 : ns.length + 1 ≤ 16) : runE (cs f pv [] 0) (sepL 0 (n :: ns)) = cs false pv ((n :: ns).map val) ((ns.length + 1 : Nat) : Int) := by
 have e : sepL 0 (n :: ns) = num1L n ++ sepL 1 ns := rfl
 rw [e]
 have h1 : runE (cs f pv [] 0) (num1L n ++ sepL 1 ns) = runE (cs false pv [-1] 1) (num1L n ++ sepL 1 ns) := by
  by_cases hn : 0 ≤ n
  ·have hx : num1L n = digL (min n 9999) := by unfold num1L; rw [if_pos hn]
   have hl := (digL_len (n := min n 9999) ⟨by omega, by omega⟩).1
   obtain ⟨u, hu⟩ : ∃ u : Nat, min n 9999 = u := ⟨(min n 9999).toNat, by omega⟩
   have hd := digL_digs (u + 1) u (by omega)
   rw [← hu, ← hx] at hd
   rw [← hx] at hl
   revert hl hd
   cases num1L n with
   | nil => intro hl; exact absurd hl (by simp)
   | cons c l => intro _ hd; exact run_lazy (.inl (hd c (.head _)))
  ·have hx : num1L n = [] := by unfold num1L; rw [if_neg hn]
   rw [hx, List.nil_append]
   match ns, h with
   | [], h => rcases h with h | h; exact absurd h hn; exact absurd rfl h
   | m :: ms, _ =>
    show runE _ (([59] ++ num1L m) ++ sepL 2 ms) = runE _ (([59] ++ num1L m) ++ sepL 2 ms)
    exact run_lazy (.inr rfl)
 rw [h1, run_app]
 have h2 : runE (cs false pv ([] ++ [-1]) ((1 : Nat) : Int)) (num1L n) = cs false pv ([] ++ [val n]) ((1 : Nat) : Int) := run_one (n := 1) rfl (by omega)
 have h2' : runE (cs false pv [-1] 1) (num1L n) = cs false pv [val n] ((1 : Nat) : Int) := h2
 rw [h2', run_sep ns [val n] 1 (by omega) rfl (by omega)]
 rw [show 1 + ns.length = ns.length + 1 by omega]; rfl
theorem fin_seq {f : Bool} {pv c : Int} {ps : List Int} {n : Int} (h : 64 ≤ c ∧ c ≤ 126) : (byteE (cs f pv ps n) c).out = [⟨4, 0, c, pv, [], ps, []⟩] ∧ (byteE (cs f pv ps n) c).in_ = 0 ∧ (byteE (cs f pv ps n) c).text = ⟨[]⟩ := by
 rw [byte_seq (by omega) (by omega) rfl]
 unfold sequenceE
 rw [if_neg (by omega), if_neg (by omega), if_pos (by omega)]
 exact ⟨rfl, rfl, rfl⟩
theorem pre_seq {r : ParserM} (h0 : r.in_ = 0) (ht : r.text = ⟨[]⟩) : runE (Z r) [27, 91] = cs true 0 [] 0 := by
 obtain ⟨t, i, s, f, a, n, pl, o⟩ := r
 simp only at h0 ht
 subst h0 ht
 rfl
theorem priv_seq {pv : Int} (h : 60 ≤ pv ∧ pv ≤ 63) : byteE (cs true 0 [] 0) pv = cs false pv [] 0 := by
 rw [byte_seq (by omega) (by omega) rfl]
 unfold sequenceE
 rw [if_neg (by omega), if_neg (by omega), if_neg (by omega), if_pos ⟨by omega, rfl⟩]
 rfl
theorem run_csi {r : ParserM} {pv c : Int} {ps : List Int} (h0 : r.in_ = 0) (ht : r.text = ⟨[]⟩) (hp : pv = 0 ∨ 60 ≤ pv ∧ pv ≤ 63) (hc : 64 ≤ c ∧ c ≤ 126) (hs : ps.length = 1 → 0 ≤ ps.getD 0 0) :
  (runE (Z r) (csiL pv ps c)).out = [⟨4, 0, c, pv, [], (ps.take 16).map val, []⟩] ∧ (runE (Z r) (csiL pv ps c)).in_ = 0 ∧ (runE (Z r) (csiL pv ps c)).text = ⟨[]⟩ := by
 have hpre : ∃ f, runE (Z r) (if pv = 0 then [27, 91] else [27, 91, pv]) = cs f pv [] 0 := by
  rcases hp with rfl | hp
  ·rw [if_pos rfl]; exact ⟨true, pre_seq h0 ht⟩
  ·rw [if_neg (by omega)]
   refine ⟨false, ?_⟩
   show runE (Z r) ([27, 91] ++ [pv]) = _
   rw [run_app, pre_seq h0 ht]
   exact priv_seq hp
 obtain ⟨f, hf⟩ := hpre
 have hmid : ∃ f' n', runE (cs f pv [] 0) (sepL 0 (ps.take 16)) = cs f' pv ((ps.take 16).map val) n' := by
  match ps, hs with
  | [], _ => exact ⟨f, 0, rfl⟩
  | n :: ns, hs =>
   rw [show (n :: ns).take 16 = n :: ns.take 15 from rfl]
   refine ⟨_, _, run_all ?_ (by rw [List.length_take]; omega)⟩
   match ns, hs with
   | [], hs => exact .inl (hs rfl)
   | m :: ms, _ => exact .inr (by simp)
 obtain ⟨f', n', hm⟩ := hmid
 unfold csiL
 rw [run_app, run_app, hf, hm]
 exact fin_seq hc
theorem digL_byts {n : Int} (h : 0 ≤ n ∧ n ≤ 9999) : Byts (digL n) := fun x hx => by
 obtain ⟨u, hu⟩ : ∃ u : Nat, n = u := ⟨n.toNat, by omega⟩
 have := digL_digs (u + 1) u (by omega) x (by rw [← hu]; exact hx)
 omega
theorem sepL_byts : ∀ (ps : List Int) (i : Nat), Byts (sepL i ps)
 | [], _ => fun _ h => by cases h
 | n :: ns, i => by
  unfold sepL
  refine Byts.append (Byts.append ?_ ?_) (sepL_byts ns (i + 1))
  ·split
   ·exact fun _ h => by cases h
   ·exact byts_of rfl
  ·unfold num1L; split
   ·exact digL_byts ⟨by omega, by omega⟩
   ·exact fun _ h => by cases h
theorem csiL_byts {pv c : Int} {ps : List Int} (hp : 0 ≤ pv ∧ pv < 256) (hc : 0 ≤ c ∧ c < 256) : Byts (csiL pv ps c) := by
 unfold csiL
 refine Byts.append (Byts.append ?_ (sepL_byts _ _)) ?_
 ·intro x hx
  split at hx
  ·simp at hx; omega
  ·simp at hx; omega
 ·intro x hx
  rw [List.mem_singleton] at hx; omega
structure Spoiled (p : ParserM) : Prop where
 inn : p.in_ = 2
 sp : p.spoiled = true
 txt : p.text = ⟨[]⟩
 out : p.out = []
end Go.Proofs.YtdlijnfdkeimlaaDoor.Am.Esc

set_option linter.all false
namespace Go.Proofs.YtdlijnfdkeimlaaDoor.Am.Esc
open Go.Proofs.YtdlijnfdkeimlaaDoor.Am.T Go.Proofs.YtdlijnfdkeimlaaDoor.Am.Sgr
theorem long1_0 {s : Style} {v : Int} {t : List Int} (hb : byteB v = true) (hl : t.length ≤ 100) : sgr_long_in23_0 s (5 :: v :: t) = some (2, { s with Fg := v + 1 }) := by
 obtain ⟨b0, b1⟩ := byte_of hb
 unfold sgr_long_in23_0
 simp only [letB]
 rw [decide_eq_true (by simp; omega)]
 simp only [cond_true]
 rw [show idx (5 :: v :: t) 0 = some 5 from rfl]
 simp only [Option.bind_some]
 rw [show sgr_kind 5 = some 2 from rfl]
 simp only [Option.bind_some]
 rw [show idx ([0, 3, 1] : List Int) 2 = some 1 from rfl]
 simp only [Option.bind_some]
 rw [decide_eq_false (by omega), decide_eq_false (by simp; omega)]
 simp only [cond_false, Option.bind_some]
 rw [show subL (5 :: v :: t) 1 (w64 (1 + 1)) = some [v] from by
  unfold subL
  rw [w64i (by omega) (by omega), if_pos ⟨by omega, by omega, by simp; omega⟩]; rfl]
 simp only [Option.bind_some]
 have h1 : sgr_long_in23_0_l1 [v] 0 0 = some (.inl (v, 1)) := by
  simp only [sgr_long_in23_0_l1, letB]
  rw [show decide ((0 : Int) < (([v] : List Int).length : Int)) = true from rfl, show idx [v] 0 = some v from rfl]
  simp only [cond_true, Option.bind_some]
  rw [decide_eq_false (by omega), decide_eq_false (by omega)]
  simp only [cond_false, Option.bind_some]
  rw [show iOr .i64 (iShl .i64 0 8) v = 0 * 256 + v from shl_or (by omega) (by omega) b0 b1, show 0 * 256 + v = v by omega]
  rfl
 have h2 : sgr_long_in23_0_l1 [v] v 1 = some (.inr (.inr v)) := by
  simp only [sgr_long_in23_0_l1, letB]
  rfl
 have hi : iter (fun s => sgr_long_in23_0_l1 [v] s.1 s.2 : (Int × Int) → Option ((Int × Int) ⊕ (Unit ⊕ Int))) (0, 0) = some (.inr v) := by
  rw [iter_inl (s' := (v, 1)) h1, iter_inr (r := .inr v) h2]
 rw [hi]
 simp only [Option.bind_some]
 rw [decide_eq_false (by omega)]
 simp only [cond_false, Option.bind_some]
 rw [w64i (n := v + 1) (by omega) (by omega), w64i (by omega) (by omega)]
 rfl
theorem long3_0 {s : Style} {a b c : Int} {t : List Int} (ha : byteB a = true) (hb : byteB b = true) (hc : byteB c = true) (hl : t.length ≤ 100) : sgr_long_in23_0 s (2 :: a :: b :: c :: t) = some (4, { s with Fg := acc [a, b, c] 3 + 16777216 }) := by
 obtain ⟨a0, a1⟩ := byte_of ha
 obtain ⟨b0, b1⟩ := byte_of hb
 obtain ⟨c0, c1⟩ := byte_of hc
 unfold sgr_long_in23_0
 simp only [letB]
 rw [decide_eq_true (by simp; omega)]
 simp only [cond_true]
 rw [show idx (2 :: a :: b :: c :: t) 0 = some 2 from rfl]
 simp only [Option.bind_some]
 rw [show sgr_kind 2 = some 1 from rfl]
 simp only [Option.bind_some]
 rw [show idx ([0, 3, 1] : List Int) 1 = some 3 from rfl]
 simp only [Option.bind_some]
 rw [decide_eq_false (by omega), decide_eq_false (by simp; omega)]
 simp only [cond_false, Option.bind_some]
 rw [show subL (2 :: a :: b :: c :: t) 1 (w64 (3 + 1)) = some [a, b, c] from by
  unfold subL
  rw [w64i (by omega) (by omega), if_pos ⟨by omega, by omega, by simp; omega⟩]; rfl]
 simp only [Option.bind_some]
 have st : ∀ (i n x : Int), idx [a, b, c] i = some x → 0 ≤ i → i < 3 → 0 ≤ n → n < 65536 → 0 ≤ x → x ≤ 255 → sgr_long_in23_0_l1 [a, b, c] n i = some (.inl (n * 256 + x, i + 1)) := by
  intro i n x hx hi0 hi hn0 hn x0 x1
  simp only [sgr_long_in23_0_l1, letB]
  rw [decide_eq_true (show i < (([a, b, c] : List Int).length : Int) by simp; omega), hx]
  simp only [cond_true, Option.bind_some]
  rw [decide_eq_false (by omega), decide_eq_false (by omega)]
  simp only [cond_false, Option.bind_some]
  rw [show iOr .i64 (iShl .i64 n 8) x = n * 256 + x from shl_or hn0 hn x0 x1, w64i (n := i + 1) (by omega) (by omega)]
 have h1 := st 0 0 a rfl (by omega) (by omega) (by omega) (by omega) a0 a1
 have h2 := st 1 (0 * 256 + a) b rfl (by omega) (by omega) (by omega) (by omega) b0 b1
 have h3 := st 2 ((0 * 256 + a) * 256 + b) c rfl (by omega) (by omega) (by omega) (by omega) c0 c1
 have h4 : sgr_long_in23_0_l1 [a, b, c] (acc [a, b, c] 3) 3 = some (.inr (.inr (acc [a, b, c] 3))) := by
  simp only [sgr_long_in23_0_l1, letB]
  rfl
 have hi : iter (fun s => sgr_long_in23_0_l1 [a, b, c] s.1 s.2 : (Int × Int) → Option ((Int × Int) ⊕ (Unit ⊕ Int))) (0, 0) = some (.inr (acc [a, b, c] 3)) := by
  rw [iter_inl (s' := (0 * 256 + a, 1)) h1, iter_inl (s' := ((0 * 256 + a) * 256 + b, 2)) h2, iter_inl (s' := (((0 * 256 + a) * 256 + b) * 256 + c, 3)) h3]
  exact iter_inr (r := (Sum.inr (acc [a, b, c] 3) : Unit ⊕ Int)) h4
 rw [hi]
 simp only [Option.bind_some]
 simp only [decide_true, cond_true, Option.bind_some]
 have hacc : acc [a, b, c] 3 = ((0 * 256 + a) * 256 + b) * 256 + c := rfl
 rw [show iOr .i64 (acc [a, b, c] 3) 16777216 = acc [a, b, c] 3 + 16777216 from or_rgb (by omega) (by omega), w64i (by omega) (by omega)]
 rfl
theorem long1_1 {s : Style} {v : Int} {t : List Int} (hb : byteB v = true) (hl : t.length ≤ 100) : sgr_long_in23_1 s (5 :: v :: t) = some (2, { s with Bg := v + 1 }) := by
 obtain ⟨b0, b1⟩ := byte_of hb
 unfold sgr_long_in23_1
 simp only [letB]
 rw [decide_eq_true (by simp; omega)]
 simp only [cond_true]
 rw [show idx (5 :: v :: t) 0 = some 5 from rfl]
 simp only [Option.bind_some]
 rw [show sgr_kind 5 = some 2 from rfl]
 simp only [Option.bind_some]
 rw [show idx ([0, 3, 1] : List Int) 2 = some 1 from rfl]
 simp only [Option.bind_some]
 rw [decide_eq_false (by omega), decide_eq_false (by simp; omega)]
 simp only [cond_false, Option.bind_some]
 rw [show subL (5 :: v :: t) 1 (w64 (1 + 1)) = some [v] from by
  unfold subL
  rw [w64i (by omega) (by omega), if_pos ⟨by omega, by omega, by simp; omega⟩]; rfl]
 simp only [Option.bind_some]
 have h1 : sgr_long_in23_1_l1 [v] 0 0 = some (.inl (v, 1)) := by
  simp only [sgr_long_in23_1_l1, letB]
  rw [show decide ((0 : Int) < (([v] : List Int).length : Int)) = true from rfl, show idx [v] 0 = some v from rfl]
  simp only [cond_true, Option.bind_some]
  rw [decide_eq_false (by omega), decide_eq_false (by omega)]
  simp only [cond_false, Option.bind_some]
  rw [show iOr .i64 (iShl .i64 0 8) v = 0 * 256 + v from shl_or (by omega) (by omega) b0 b1, show 0 * 256 + v = v by omega]
  rfl
 have h2 : sgr_long_in23_1_l1 [v] v 1 = some (.inr (.inr v)) := by
  simp only [sgr_long_in23_1_l1, letB]
  rfl
 have hi : iter (fun s => sgr_long_in23_1_l1 [v] s.1 s.2 : (Int × Int) → Option ((Int × Int) ⊕ (Unit ⊕ Int))) (0, 0) = some (.inr v) := by
  rw [iter_inl (s' := (v, 1)) h1, iter_inr (r := .inr v) h2]
 rw [hi]
 simp only [Option.bind_some]
 rw [decide_eq_false (by omega)]
 simp only [cond_false, Option.bind_some]
 rw [w64i (n := v + 1) (by omega) (by omega), w64i (by omega) (by omega)]
 rfl
theorem long3_1 {s : Style} {a b c : Int} {t : List Int} (ha : byteB a = true) (hb : byteB b = true) (hc : byteB c = true) (hl : t.length ≤ 100) : sgr_long_in23_1 s (2 :: a :: b :: c :: t) = some (4, { s with Bg := acc [a, b, c] 3 + 16777216 }) := by
 obtain ⟨a0, a1⟩ := byte_of ha
 obtain ⟨b0, b1⟩ := byte_of hb
 obtain ⟨c0, c1⟩ := byte_of hc
 unfold sgr_long_in23_1
 simp only [letB]
 rw [decide_eq_true (by simp; omega)]
 simp only [cond_true]
 rw [show idx (2 :: a :: b :: c :: t) 0 = some 2 from rfl]
 simp only [Option.bind_some]
 rw [show sgr_kind 2 = some 1 from rfl]
 simp only [Option.bind_some]
 rw [show idx ([0, 3, 1] : List Int) 1 = some 3 from rfl]
 simp only [Option.bind_some]
 rw [decide_eq_false (by omega), decide_eq_false (by simp; omega)]
 simp only [cond_false, Option.bind_some]
 rw [show subL (2 :: a :: b :: c :: t) 1 (w64 (3 + 1)) = some [a, b, c] from by
  unfold subL
  rw [w64i (by omega) (by omega), if_pos ⟨by omega, by omega, by simp; omega⟩]; rfl]
 simp only [Option.bind_some]
 have st : ∀ (i n x : Int), idx [a, b, c] i = some x → 0 ≤ i → i < 3 → 0 ≤ n → n < 65536 → 0 ≤ x → x ≤ 255 → sgr_long_in23_1_l1 [a, b, c] n i = some (.inl (n * 256 + x, i + 1)) := by
  intro i n x hx hi0 hi hn0 hn x0 x1
  simp only [sgr_long_in23_1_l1, letB]
  rw [decide_eq_true (show i < (([a, b, c] : List Int).length : Int) by simp; omega), hx]
  simp only [cond_true, Option.bind_some]
  rw [decide_eq_false (by omega), decide_eq_false (by omega)]
  simp only [cond_false, Option.bind_some]
  rw [show iOr .i64 (iShl .i64 n 8) x = n * 256 + x from shl_or hn0 hn x0 x1, w64i (n := i + 1) (by omega) (by omega)]
 have h1 := st 0 0 a rfl (by omega) (by omega) (by omega) (by omega) a0 a1
 have h2 := st 1 (0 * 256 + a) b rfl (by omega) (by omega) (by omega) (by omega) b0 b1
 have h3 := st 2 ((0 * 256 + a) * 256 + b) c rfl (by omega) (by omega) (by omega) (by omega) c0 c1
 have h4 : sgr_long_in23_1_l1 [a, b, c] (acc [a, b, c] 3) 3 = some (.inr (.inr (acc [a, b, c] 3))) := by
  simp only [sgr_long_in23_1_l1, letB]
  rfl
 have hi : iter (fun s => sgr_long_in23_1_l1 [a, b, c] s.1 s.2 : (Int × Int) → Option ((Int × Int) ⊕ (Unit ⊕ Int))) (0, 0) = some (.inr (acc [a, b, c] 3)) := by
  rw [iter_inl (s' := (0 * 256 + a, 1)) h1, iter_inl (s' := ((0 * 256 + a) * 256 + b, 2)) h2, iter_inl (s' := (((0 * 256 + a) * 256 + b) * 256 + c, 3)) h3]
  exact iter_inr (r := (Sum.inr (acc [a, b, c] 3) : Unit ⊕ Int)) h4
 rw [hi]
 simp only [Option.bind_some]
 simp only [decide_true, cond_true, Option.bind_some]
 have hacc : acc [a, b, c] 3 = ((0 * 256 + a) * 256 + b) * 256 + c := rfl
 rw [show iOr .i64 (acc [a, b, c] 3) 16777216 = acc [a, b, c] 3 + 16777216 from or_rgb (by omega) (by omega), w64i (by omega) (by omega)]
 rfl
inductive OKL : List Int → Prop
 | nil : OKL []
 | one {n : Int} {r : List Int} (h1 : n ≠ 38) (h2 : n ≠ 48) (h : OKL r) : OKL (n :: r)
 | c1 {k v : Int} {r : List Int} (hk : k = 38 ∨ k = 48) (hv : byteB v = true) (h : OKL r) : OKL (k :: 5 :: v :: r)
 | c3 {k a b c : Int} {r : List Int} (hk : k = 38 ∨ k = 48) (ha : byteB a = true) (hb : byteB b = true) (hc : byteB c = true) (h : OKL r) : OKL (k :: 2 :: a :: b :: c :: r)
theorem OKL.append {l m : List Int} (h : OKL l) (g : OKL m) : OKL (l ++ m) := by
 induction h with
 | nil => exact g
 | one h1 h2 _ ih => exact .one h1 h2 ih
 | c1 hk hv _ ih => exact .c1 hk hv ih
 | c3 hk ha hb hc _ ih => exact .c3 hk ha hb hc ih
theorem drop_tail {l : List Int} {i : Nat} {x : Int} {r : List Int} (h : l.drop i = x :: r) : i < l.length ∧ l.getD i 0 = x ∧ l.drop (i + 1) = r := by
 have hl : i < l.length := by
  have := congrArg List.length h
  rw [List.length_drop, List.length_cons] at this
  omega
 have e := gdrop_cons hl
 rw [h] at e
 injection e with e1 e2
 exact ⟨hl, e1.symm, e2.symm⟩
theorem drop_more {l : List Int} {i : Nat} {x : Int} {r : List Int} (h : l.drop i = x :: r) (j : Nat) : l.drop (i + 1 + j) = r.drop j := by
 rw [← (drop_tail h).2.2, List.drop_drop]
theorem app_loop {x4 r : List Int} (hl : x4.length ≤ 100) (h : OKL r) : ∀ (i : Nat) (s : Sty), x4.drop i = r → rightB s = true →
  iter (fun s => sgr_Apply_l1 x4 s.1 s.2 : (Int × Style) → Option ((Int × Style) ⊕ Style)) ((i : Int), P s) = some (P (Sgr.app s r)) := by
 induction h with
 | nil =>
  intro i s hd hr
  have hge : x4.length ≤ i := List.drop_eq_nil_iff.1 hd
  refine iter_inr ?_
  simp only [sgr_Apply_l1, letB]
  rw [decide_eq_false (by omega)]; rfl
 | @one n r h1 h2 _ ih =>
  intro i s hd hr
  obtain ⟨hlt, hx, hd2⟩ := drop_tail hd
  have hA := (rightB_of.1 hr).2.2
  rw [iter_inl (s' := (((i + 1 : Nat) : Int), P (Sgr.one s n))) (by
   simp only [sgr_Apply_l1, letB]
   rw [decide_eq_true (by omega), gidx hlt, hx]
   simp only [cond_true, Option.bind_some]
   rw [decide_eq_false h1, decide_eq_false h2]
   simp only [cond_false, Option.bind_some]
   rw [one_is hA]
   simp only [Option.bind_some]
   rw [w64i (by omega) (by omega)]; rfl)]
  rw [ih (i + 1) (Sgr.one s n) hd2 (right_one hr), app_one h1 h2]
 | @c1 k v r hk hv _ ih =>
  intro i s hd hr
  obtain ⟨hlt, hx, hd2⟩ := drop_tail hd
  have hlen : r.length ≤ 100 := by
   have := congrArg List.length hd2
   rw [List.length_drop] at this
   simp only [List.length_cons] at this
   omega
  have hd3 : x4.drop (i + 3) = r := by
   have := drop_more hd 2
   rw [show i + 1 + 2 = i + 3 by omega] at this
   rw [this]; rfl
  have hsub : subA x4 (w64 ((i : Int) + 1)) = some (5 :: v :: r) := by
   unfold subA
   rw [w64i (by omega) (by omega), if_pos ⟨by omega, by omega⟩, show ((i : Int) + 1).toNat = i + 1 by omega, hd2]
  obtain ⟨b0, b1⟩ := byte_of hv
  have e1 : acc [v] 1 = v := by show 0 * 256 + v = v; omega
  have hlo : long (5 :: v :: r) = (2, some (v + 1)) := by
   rw [long1, if_pos (by simp [hv]), e1]
  rcases hk with rfl | rfl
  ·rw [iter_inl (s' := (((i + 3 : Nat) : Int), P (setFg s (some (v + 1))))) (by
    simp only [sgr_Apply_l1, letB]
    rw [decide_eq_true (by omega), gidx hlt, hx]
    simp only [cond_true, Option.bind_some]
    simp only [decide_true, cond_true, Option.bind_some]
    rw [hsub]
    simp only [Option.bind_some]
    rw [long1_0 hv hlen]
    simp only [Option.bind_some]
    rw [w64i (n := (i : Int) + 2) (by omega) (by omega), w64i (by omega) (by omega), show (i : Int) + 2 + 1 = ((i + 3 : Nat) : Int) by omega]; rfl)]
   have hrf : rightB (setFg s (some (v + 1))) = true := by
    have := right_fg (s := s) (r := 5 :: v :: r) hr
    rw [hlo] at this
    exact this
   rw [ih (i + 3) _ hd3 hrf, app_38 rfl, hlo]
   rfl
  ·rw [iter_inl (s' := (((i + 3 : Nat) : Int), P (setBg s (some (v + 1))))) (by
    simp only [sgr_Apply_l1, letB]
    rw [decide_eq_true (by omega), gidx hlt, hx]
    simp only [cond_true, Option.bind_some]
    rw [decide_eq_false (by omega)]
    simp only [decide_true, cond_true, cond_false, Option.bind_some]
    rw [hsub]
    simp only [Option.bind_some]
    rw [long1_1 hv hlen]
    simp only [Option.bind_some]
    rw [w64i (n := (i : Int) + 2) (by omega) (by omega), w64i (by omega) (by omega), show (i : Int) + 2 + 1 = ((i + 3 : Nat) : Int) by omega]; rfl)]
   have hrf : rightB (setBg s (some (v + 1))) = true := by
    have := right_bg (s := s) (r := 5 :: v :: r) hr
    rw [hlo] at this
    exact this
   rw [ih (i + 3) _ hd3 hrf, app_48 rfl, hlo]
   rfl
 | @c3 k a b c r hk ha hb hc _ ih =>
  intro i s hd hr
  obtain ⟨hlt, hx, hd2⟩ := drop_tail hd
  have hlen : r.length ≤ 100 := by
   have := congrArg List.length hd2
   rw [List.length_drop] at this
   simp only [List.length_cons] at this
   omega
  have hd3 : x4.drop (i + 5) = r := by
   have := drop_more hd 4
   rw [show i + 1 + 4 = i + 5 by omega] at this
   rw [this]; rfl
  have hsub : subA x4 (w64 ((i : Int) + 1)) = some (2 :: a :: b :: c :: r) := by
   unfold subA
   rw [w64i (by omega) (by omega), if_pos ⟨by omega, by omega⟩, show ((i : Int) + 1).toNat = i + 1 by omega, hd2]
  have hlo : long (2 :: a :: b :: c :: r) = (4, some (acc [a, b, c] 3 + 16777216)) := by
   rw [long3, if_pos (by simp [ha, hb, hc])]
  rcases hk with rfl | rfl
  ·rw [iter_inl (s' := (((i + 5 : Nat) : Int), P (setFg s (some (acc [a, b, c] 3 + 16777216))))) (by
    simp only [sgr_Apply_l1, letB]
    rw [decide_eq_true (by omega), gidx hlt, hx]
    simp only [cond_true, Option.bind_some]
    simp only [decide_true, cond_true, Option.bind_some]
    rw [hsub]
    simp only [Option.bind_some]
    rw [long3_0 ha hb hc hlen]
    simp only [Option.bind_some]
    rw [w64i (n := (i : Int) + 4) (by omega) (by omega), w64i (by omega) (by omega), show (i : Int) + 4 + 1 = ((i + 5 : Nat) : Int) by omega]; rfl)]
   have hrf : rightB (setFg s (some (acc [a, b, c] 3 + 16777216))) = true := by
    have := right_fg (s := s) (r := 2 :: a :: b :: c :: r) hr
    rw [hlo] at this
    exact this
   rw [ih (i + 5) _ hd3 hrf, app_38 rfl, hlo]
   rfl
  ·rw [iter_inl (s' := (((i + 5 : Nat) : Int), P (setBg s (some (acc [a, b, c] 3 + 16777216))))) (by
    simp only [sgr_Apply_l1, letB]
    rw [decide_eq_true (by omega), gidx hlt, hx]
    simp only [cond_true, Option.bind_some]
    rw [decide_eq_false (by omega)]
    simp only [decide_true, cond_true, cond_false, Option.bind_some]
    rw [hsub]
    simp only [Option.bind_some]
    rw [long3_1 ha hb hc hlen]
    simp only [Option.bind_some]
    rw [w64i (n := (i : Int) + 4) (by omega) (by omega), w64i (by omega) (by omega), show (i : Int) + 4 + 1 = ((i + 5 : Nat) : Int) by omega]; rfl)]
   have hrf : rightB (setBg s (some (acc [a, b, c] 3 + 16777216))) = true := by
    have := right_bg (s := s) (r := 2 :: a :: b :: c :: r) hr
    rw [hlo] at this
    exact this
   rw [ih (i + 5) _ hd3 hrf, app_48 rfl, hlo]
   rfl
theorem okl_mk : ∀ q < 32, (mk (q : Nat) 5).all (fun x => decide (x ≠ 38 ∧ x ≠ 48 ∧ 0 ≤ x ∧ x ≤ 9999)) = true := by decide +kernel
theorem okl_of {l : List Int} (h : ∀ x ∈ l, x ≠ 38 ∧ x ≠ 48) : OKL l := by
 induction l with
 | nil => exact .nil
 | cons x l ih => exact .one (h x (.head _)).1 (h x (.head _)).2 (ih fun y hy => h y (.tail _ hy))
theorem okl_nums {n base : Int} (hc : colB n = true) (hb : base = 30 ∨ base = 40) : OKL (nums n base) ∧ ∀ x ∈ nums n base, 0 ≤ x ∧ x ≤ 9999 := by
 have hcc := col_of hc
 unfold nums
 split
 ·exact ⟨.nil, fun x h => by cases h⟩
 split
 ·exact ⟨.one (by omega) (by omega) .nil, fun x h => by rw [List.mem_singleton] at h; omega⟩
 split
 ·refine ⟨.c1 (by omega) (by simp [byteB]; omega) .nil, fun x h => ?_⟩
  simp only [List.mem_cons, List.not_mem_nil, or_false] at h
  omega
 ·refine ⟨.c3 (by omega) (by simp [byteB]; omega) (by simp [byteB]; omega) (by simp [byteB]; omega) .nil, fun x h => ?_⟩
  simp only [List.mem_cons, List.not_mem_nil, or_false] at h
  omega
theorem okl_params (s : Sty) : OKL (params s) ∧ ∀ x ∈ params s, 0 ≤ x ∧ x ≤ 9999 := by
 have hr := right_clean s
 unfold params
 generalize clean s = c at *
 obtain ⟨hf, hb, hA⟩ := rightB_of.1 hr
 obtain ⟨q, hq, hq2⟩ := attr_of hA
 have hm := okl_mk q hq2
 rw [← hq] at hm
 rw [List.all_eq_true] at hm
 have hm2 : ∀ x ∈ mk c.attr 5, x ≠ 38 ∧ x ≠ 48 ∧ 0 ≤ x ∧ x ≤ 9999 := fun x hx => of_decide_eq_true (hm x hx)
 obtain ⟨f1, f2⟩ := okl_nums (base := 30) hf (.inl rfl)
 obtain ⟨g1, g2⟩ := okl_nums (base := 40) hb (.inr rfl)
 refine ⟨.one (by decide) (by decide) (((okl_of fun x hx => ⟨(hm2 x hx).1, (hm2 x hx).2.1⟩).append f1).append g1), fun x hx => ?_⟩
 rcases List.mem_cons.1 hx with rfl | hx
 ·exact ⟨by decide, by decide⟩
 rcases List.mem_append.1 hx with hx | hx
 ·rcases List.mem_append.1 hx with hx | hx
  ·exact (hm2 x hx).2.2
  ·exact f2 x hx
 ·exact g2 x hx
theorem papply_params {s : Sty} {b : Sty} (hs : rightB s = true) : sgr_Apply (P s) (params b) = some (P (clean b)) := by
 have hl := params_len b
 have hA := attr64 hs
 unfold sgr_Apply
 rw [pclean_is (s := P s) hA, sty_P, clean_right hs]
 simp only [Option.bind_some, letB]
 rw [decide_eq_false (by unfold params; simp; omega)]
 simp only [cond_false]
 rw [show subB (params b) (min ((params b).length : Int) 16) = some (params b) from by
  unfold subB
  rw [if_pos ⟨by omega, by omega⟩, List.take_of_length_le (by omega)]]
 simp only [Option.bind_some]
 have h0 := app_loop (x4 := params b) (r := params b) (by omega) (okl_params b).1 0 s rfl hs
 have h0' : iter (fun s => sgr_Apply_l1 (params b) s.1 s.2 : (Int × Style) → Option ((Int × Style) ⊕ Style)) (0, P s) = some (P (Sgr.app s (params b))) := h0
 rw [h0']
 simp only [Option.bind_some]
 have ha := apply_params s b
 unfold apply at ha
 rw [if_neg (by simp [params]), List.take_of_length_le hl, clean_right hs] at ha
 rw [ha]
theorem vals_id {l : List Int} (h : ∀ x ∈ l, 0 ≤ x ∧ x ≤ 9999) : l.map val = l := by
 induction l with
 | nil => rfl
 | cons x l ih =>
  rw [List.map_cons, ih fun y hy => h y (.tail _ hy)]
  have := h x (.head _)
  rw [show val x = x from by unfold val; omega]
theorem same3 {x y : Sty} : ((decide ((P x).Fg = (P y).Fg) && (decide ((P x).Bg = (P y).Bg) && (decide ((P x).Attr = (P y).Attr) && true)))) = decide (x = y) := by
 obtain ⟨a, b, c⟩ := x
 obtain ⟨d, e, f⟩ := y
 show (decide (a = d) && (decide (b = e) && (decide (c = f) && true))) = _
 rw [Bool.eq_iff_iff]
 simp
theorem between_pure {a b : Style} (ha : in64 a.Attr) (hb : in64 b.Attr) : casementlaw05_SgrBetween a b = some true := by
 have hm := most_is
 have hz0 : Z p0 = p0 := rfl
 unfold casementlaw05_SgrBetween
 rw [show casementlaw05_alive = some true from rfl]
 simp only [Option.bind_some, Bool.not_true, cond_false]
 unfold sgr_Between casementref05_Between
 rw [pclean_is ha, pclean_is hb, rclean_is, rclean_is, pparams_is hb, rparams_is]
 simp only [Option.bind_some, letB, same3]
 rw [csi_is, rcsi_is ⟨by omega, by omega⟩ (by have := params_len b.sty; omega)]
 simp only [Option.bind_some]
 by_cases he : clean a.sty = clean b.sty
 ·rw [decide_eq_true he]
  simp only [cond_true, Option.bind_some]
  rw [sameBytes_self (a := []) (by decide)]
  simp only [Option.bind_some, Bool.not_true, cond_false]
  obtain ⟨f1, s1⟩ := Feed_is (b := []) St.zero (fun x hx => by cases hx) (by decide) (by decide)
  rw [hz0] at f1
  rw [show (ParserM.mk (Reader.mk []) 0 false false (ActM.mk 0 0 0 0 [] (some []) []) 0 [] []) = p0 from rfl, f1]
  simp only [Option.bind_some]
  have ho : (runE p0 []).out = [] := rfl
  rw [ho]
  have hi : iter (fun s => casementlaw05_SgrBetween_l1 (([] : List Act), Z (runE p0 [])) s.1 s.2 : (Int × Style) → Option ((Int × Style) ⊕ ((Style × Act) ⊕ Style))) (0, P (clean a.sty)) = some (.inr (P (clean a.sty))) := iter_inr (by
   simp only [casementlaw05_SgrBetween_l1, letB]; rfl)
  rw [hi]
  simp only [Option.bind_some]
  rw [he, same3, decide_eq_true rfl]
  rfl
 ·rw [decide_eq_false he]
  simp only [cond_false, Option.bind_some]
  rw [sameBytes_self (by have := csiL_len (priv := 0) (ps := params b.sty) (final := 109); omega)]
  simp only [Option.bind_some, Bool.not_true, cond_false]
  have hlen := csiL_len (priv := 0) (ps := params b.sty) (final := 109)
  obtain ⟨f1, s1⟩ := Feed_is St.zero (csiL_byts (pv := 0) (c := 109) (ps := params b.sty) ⟨by omega, by omega⟩ ⟨by omega, by omega⟩) (by omega) (by omega)
  rw [hz0] at f1
  obtain ⟨o1, o2, o3⟩ := run_csi (r := p0) (pv := 0) (c := 109) (ps := params b.sty) rfl rfl (.inl rfl) ⟨by omega, by omega⟩ (fun _ => by show (0 : Int) ≤ (params b.sty).getD 0 0; unfold params; simp)
  rw [hz0] at o1 o2 o3
  rw [show (ParserM.mk (Reader.mk []) 0 false false (ActM.mk 0 0 0 0 [] (some []) []) 0 [] []) = p0 from rfl, f1]
  simp only [Option.bind_some]
  rw [o1]
  have hp : (((params b.sty).take 16).map val) = params b.sty := by
   rw [List.take_of_length_le (params_len b.sty), vals_id (okl_params b.sty).2]
  rw [hp]
  generalize Z (runE p0 (csiL 0 (params b.sty) 109)) = q
  have hi : iter (fun s => casementlaw05_SgrBetween_l1 ([Act.mk 4 0 109 0 [] (params b.sty) []], q) s.1 s.2 : (Int × Style) → Option ((Int × Style) ⊕ ((Style × Act) ⊕ Style))) (0, P (clean a.sty)) = some (.inr (P (clean b.sty))) := by
   rw [iter_inl (s' := (1, P (clean b.sty))) (by
    simp only [casementlaw05_SgrBetween_l1, letB]
    rw [show idx [Act.mk 4 0 109 0 [] (params b.sty) []] 0 = some ⟨4, 0, 109, 0, [], params b.sty, []⟩ from rfl]
    simp only [Option.bind_some]
    rw [papply_params (right_clean a.sty)]
    rfl)]
   exact iter_inr (by
    simp only [casementlaw05_SgrBetween_l1, letB]; rfl)
  rw [hi]
  simp only [Option.bind_some]
  simp
end Go.Proofs.YtdlijnfdkeimlaaDoor.Am.Esc

namespace Go.Proofs.YtdlijnfdkeimlaaDoor.Am
section
variable {P : Program} {W : World}
inductive ArgOK (W : World) : V → Value → Prop
 | leaf {x : V} {v : Value} (h : RB (blocksOf W) W x v) : ArgOK W x v
 | agg (cs : List V) (arr : Array Value) (hs : arr.size = cs.length) (h : ∀ k, k < cs.length → RB (blocksOf W) W (cs.getD k .undef) (arr.getD k undef)) : ArgOK W (.agg cs) (.agg arr)
def g0 (W : World) : G := ⟨id, id, fun _ => False, blocksOf W⟩
theorem RB.toR1 {x : V} {v : Value} (h : RB (blocksOf W) W x v) : R1 (g0 W) W 0 x v := by
 cases h with
 | func f => exact ⟨#[], rfl, rfl, fun k hk => absurd hk (by simp)⟩
 | bool b => exact RB.bool b
 | int k n => exact RB.int k n
 | str b => exact RB.str b
 | nilp => exact RB.nilp
 | nils => exact RB.nils
 | nilf => exact RB.nilf
 | nili => exact RB.nili
 | slice sz xs a cap vs hs hp hc hz hv hr => exact RB.slice sz xs a cap vs hs hp hc hz hv hr
theorem RB.ok0 {x : V} {v : Value} (h : RB (blocksOf W) W x v) : x.ok0 = true := by
 cases h <;> rfl
theorem RB.cnt {x : V} {v : Value} (h : RB (blocksOf W) W x v) (c : Nat) : cnt0 c x v = 0 := by
 cases h <;> rfl
theorem ArgOK.r3 {x : V} {v : Value} (h : ArgOK W x v) (τ : Nat → Value) : R3 (g0 W) W 0 τ x v := by
 cases h with
 | leaf h =>
  have h1 := h.toR1
  cases h <;> exact h1
 | agg cs arr hs h => exact ⟨arr, rfl, hs, fun k hk => ⟨.inl (h k hk).ok0, (h k hk).toR1⟩⟩
theorem ArgOK.okArg {x : V} {v : Value} (h : ArgOK W x v) : x.okArg = true := by
 cases h with
 | leaf h => cases h <;> rfl
 | agg cs arr hs h =>
  simp only [V.okArg, List.all_eq_true]
  intro y hy
  obtain ⟨k, hk, rfl⟩ := List.getElem_of_mem hy
  have := (h k hk).ok0
  rwa [List.getD_eq_getElem?_getD, List.getElem?_eq_getElem hk] at this
theorem ArgOK.cnt {x : V} {v : Value} (h : ArgOK W x v) (c : Nat) : cnt2 c x v = 0 := by
 cases h with
 | leaf h =>
  have h1 := h.cnt c
  cases h <;> exact h1
 | agg cs arr hs h => exact sumTo_zero fun k hk => (h k hk).cnt c
theorem start {args : List V} {vs : Array Value} (hl : args.length = vs.toList.length) (ha : ∀ k, k < args.length → ArgOK W (args.getD k .undef) (vs.toList.getD k undef)) :
  SR (g0 W) W 0 (fun _ => 0) (fun _ => false) ⟨fun _ => .undef, fun _ => [], []⟩ #[] (args.zip vs.toList) := by
 have hmem : ∀ p ∈ args.zip vs.toList, ArgOK W p.1 p.2 := fun p hp => by
  obtain ⟨k, hk, rfl⟩ := List.getElem_of_mem hp
  have hk' : k < args.length := by simp at hk; omega
  have h1 := ha k hk'
  simp only [List.getElem_zip]
  rw [List.getD_eq_getElem?_getD, List.getElem?_eq_getElem hk', List.getD_eq_getElem?_getD, List.getElem?_eq_getElem (by omega)] at h1
  exact h1
 have hcP : ∀ c, cntP c (args.zip vs.toList) = 0 := fun c => by
  rw [cntP_zip hl]; exact sumTo_zero fun k hk => (ha k hk).cnt c
 have hT : ∀ c, total (g0 W) W 0 (fun _ => 0) ⟨fun _ => .undef, fun _ => [], []⟩ #[] (args.zip vs.toList) c = persOf (g0 W) c := fun c => by
  have e1 : cntT c (fun _ => V.undef) #[] = 0 := rfl
  have e2 : cntB (g0 W) W c 0 (fun _ => []) = 0 := rfl
  have e3 : cntM (g0 W) W c [] = 0 := rfl
  unfold total
  simp only [e1, e2, e3, hcP]
  omega
 refine ⟨fun s => trivial, fun s _ => rfl, fun s d hd => (by cases hd), fun p hp => (hmem p hp).r3 _, fun p hp d hd => ?_, fun j => by simp [g0], fun j hj => absurd rfl hj, fun b hb => absurd hb (by simp), fun c => ?_, fun c hc => ?_⟩
 ·obtain ⟨b, o, e⟩ := okArg_root (hmem p hp).okArg hd; cases e
 ·rw [hT]; unfold persOf; split <;> omega
 ·rw [hT]; unfold persOf
  rw [if_neg]
  show ¬ (c < W.heap.size)
  omega
theorem law_calls [Lay P] {T : Table} (hLd : Laid P (g0 W) W) (hT : TableOK P T) {f : Nat} {args : List V} {m' : List (List V)} {vs : Array Value} {b : Bool} (hret : RF T f args [] = some (.bool b, m')) (hl : args.length = vs.toList.length)
  (ha : ∀ k, k < args.length → ArgOK W (args.getD k .undef) (vs.toList.getD k undef)) : Calls P f vs W fun e W' => e = .returned (.bool b) ∧ RowKit.Below W.heap.size W W' := by
 obtain ⟨_, hcall⟩ := ret_sound hT (RF_ret.1 hret)
 have hok : args.all V.okArg = true := List.all_eq_true.2 fun y hy => by
  obtain ⟨k, hk, rfl⟩ := List.getElem_of_mem hy
  have := (ha k hk).okArg
  rwa [List.getD_eq_getElem?_getD, List.getElem?_eq_getElem hk] at this
 refine (hcall (g0 W) W (fun _ => 0) vs (by simpa using hl.symm) hok hLd (start hl ha)).mono fun e W' ⟨v, g', he, hS, hE, _⟩ => ?_
 have hv : v = .bool b := R3.bool (hS.pend _ (.head _))
 exact ⟨by rw [he, hv], hE.os, hE.tape, hE.output, hE.size, fun k hk => (hE.pers k hk).2⟩
def FitsV (P : Program) (t : TypeId) (x : V) : Prop :=
 match P.underlying t with
 | some (.struct _) | some (.array _ _) => ∃ cs, x = .agg cs ∧ Fits P t cs
 | _ => Fits P t [x]
section
variable {H : Type} {enc : TypeId × Value → H}
theorem arg_of {d : Nat} {t : TypeId} (hsup : supT P d t = true) {v : Value} {dd : DataW H} {ps : List MemPlace} {base : Nat} (hval : Value.okWide P W .any base t v) (h : DataW.Trod enc P W 0 (fun _ => true) true t v dd ps) :
  ∃ x, FitsV P t x ∧ ArgOK W x v := by
 obtain ⟨fuel, h⟩ := h
 obtain ⟨cs, hfit, hr⟩ := reads_iff.1 (reads_of hsup h)
 have agg : ∀ arr : Array Value, v = .agg arr → ArgOK W (.agg cs) v := fun arr e => by
  subst e
  have hc : (Value.agg arr).cells = arr := rfl
  rw [hc] at hr
  refine .agg cs arr (by have := hr.1; simpa using this.symm) fun k hk => ?_
  have := hr.2 k (by rw [← hr.1]; exact hk)
  rwa [array_toList_getD] at this
 have leaf : (∀ arr, v ≠ .agg arr) → cs.length = 1 → ∃ x, cs = [x] ∧ ArgOK W x v := fun hv h1 => by
  match cs, h1 with
  | [x], _ =>
   refine ⟨x, rfl, .leaf ?_⟩
   rw [cells_leaf hv] at hr
   exact hr.2 0 (by simp)
 unfold FitsV
 unfold Value.okWide at hval
 cases hu : P.underlying t with
 | none => cases hfit <;> simp_all
 | some ud =>
  rw [hu] at hval
  cases ud with
  | struct fs => obtain ⟨arr, e, _⟩ := hval; exact ⟨.agg cs, ⟨cs, rfl, hfit⟩, agg arr e⟩
  | array n e => obtain ⟨arr, e, _⟩ := hval; exact ⟨.agg cs, ⟨cs, rfl, hfit⟩, agg arr e⟩
  | _ =>
   simp only at hval ⊢
   have h1 : cs.length = 1 := by cases hfit <;> first | rfl | simp_all
   have h2 : ∀ arr, v ≠ .agg arr := fun arr e => by
    subst e
    simp only [Cell.okWide, Cell.ok, hu] at hval
   obtain ⟨x, rfl, hx⟩ := leaf h2 h1
   exact ⟨x, hfit, hx⟩
theorem args_of {d : Nat} : ∀ {ts : List TypeId} {vs : List Value} {ds : List (DataW H)} {ps : List MemPlace} {base : Nat}, ts.all (supT P d) = true → (∀ (j : Nat) (t : TypeId) (v : Value), ts[j]? = some t → vs[j]? = some v → Value.okWide P W .any base t v) →
  DataW.TrodAll enc P W 0 (fun _ => true) true ts vs ds ps → ∃ args : List V, args.length = vs.length ∧ ts.length = vs.length ∧ (∀ (j : Nat) (t : TypeId), ts[j]? = some t → FitsV P t (args.getD j .undef)) ∧ ∀ k, k < args.length → ArgOK W (args.getD k .undef) (vs.getD k undef)
 | [], vs, ds, ps, base, _, _, h => by
  obtain ⟨rfl, rfl, rfl⟩ := ChangeShapes.trodAll_nil h
  exact ⟨[], rfl, rfl, fun j t hj => by simp at hj, fun k hk => absurd hk (by simp)⟩
 | t :: ts, vs, ds, ps, base, hsup, hval, h => by
  obtain ⟨v, vs', dd, ds', p, q, rfl, rfl, rfl, h0, r0⟩ := ChangeShapes.trodAll_cons h
  simp only [List.all_cons, Bool.and_eq_true] at hsup
  obtain ⟨x, hx1, hx2⟩ := arg_of hsup.1 (hval 0 t v rfl rfl) h0
  obtain ⟨args, h1, h2, h3, h4⟩ := args_of hsup.2 (fun j t v hj hv => hval (j + 1) t v hj hv) r0
  refine ⟨x :: args, by simp [h1], by simp [h2], fun j t' hj => ?_, fun k hk => ?_⟩
  ·cases j with
   | zero => simp only [List.getElem?_cons_zero, Option.some.injEq] at hj; subst hj; exact hx1
   | succ j => exact h3 j t' hj
  ·cases k with
   | zero => exact hx2
   | succ k => exact h4 k (by simpa using hk)
theorem args_stay (hl : laidOutB P = true) {W' : World} {sp : Nat → Bool} : ∀ {ts : List TypeId} {vs : List Value} {ds : List (DataW H)} {ps : List MemPlace}, (ts.all fun t => P.readableRec t && decide (t < P.types.size)) = true →
  DataW.TrodAll enc P W 0 (fun _ => true) true ts vs ds ps → (∀ p ∈ ps, W.sameAt W' p) → (∀ p ∈ ps, sp p.block = true) → DataW.TrodAll enc P W' 0 sp true ts vs ds ps
 | [], vs, ds, ps, _, h, _, _ => by
  obtain ⟨rfl, rfl, rfl⟩ := ChangeShapes.trodAll_nil h
  exact rfl
 | t :: ts, vs, ds, ps, hr, h, hs, hsp => by
  obtain ⟨v, vs', dd, ds', p, q, rfl, rfl, rfl, h0, r0⟩ := ChangeShapes.trodAll_cons h
  simp only [List.all_cons, Bool.and_eq_true, decide_eq_true_eq] at hr
  exact trodAll_cons_mk (WideElems.Trod_stays hl hr.1.1 hr.1.2 h0 (fun x hx => hs x (List.mem_append_left _ hx)) (fun x hx => hsp x (List.mem_append_left _ hx)))
   (args_stay hl hr.2 r0 (fun x hx => hs x (List.mem_append_right _ hx)) (fun x hx => hsp x (List.mem_append_right _ hx)))
theorem trodAll_len : ∀ {ts : List TypeId} {vs : List Value} {ds : List (DataW H)} {ps : List MemPlace}, DataW.TrodAll enc P W 0 (fun _ => true) true ts vs ds ps → ds.length = ts.length
 | [], vs, ds, ps, h => by obtain ⟨rfl, rfl, rfl⟩ := ChangeShapes.trodAll_nil h; rfl
 | t :: ts, vs, ds, ps, h => by
  obtain ⟨v, vs', dd, ds', p, q, rfl, rfl, rfl, h0, r0⟩ := ChangeShapes.trodAll_cons h
  simp [trodAll_len r0]
open ChangeShapes in
theorem post_of_below {f : Func} {s : ChangeSpec} {apart fresh handsOn again : Bool} {W W' : World} {args : Array Value} {v : Value} {ds gs : List (DataW H)} {before pa pv : List MemPlace}
  (hW : DataW.Whole enc P f.params.toList s.vars apart W args.toList ds gs before)
  (hres : ∀ (b : Nat) (sp : Nat → Bool) (hd : Bool), DataW.TrodAll enc P W' b sp hd f.resultTypes.toList (v.resultList f.resultTypes.size) (s.fn H (ds ++ gs)).results [])
  (hargs : ∀ sp : Nat → Bool, (∀ p ∈ before, sp p.block = true) → DataW.TrodAll enc P W' 0 sp true f.params.toList args.toList (s.fn H (ds ++ gs)).args pa)
  (hvars : ∀ sp : Nat → Bool, (∀ p ∈ before, sp p.block = true) → DataW.TrodVars enc P W' sp s.vars (s.fn H (ds ++ gs)).vars pv)
  (hps : before = pa ++ pv) (hb : RowKit.Below W.heap.size W W')
  (hok : ∀ (j : Nat) (t : TypeId) (r : Value), f.resultTypes[j]? = some t → (v.resultList f.resultTypes.size)[j]? = some r → Value.okWide P W' .any 0 t r) :
  s.post enc P f apart fresh handsOn again W args v W' := by
 have hlt : ∀ p ∈ before, p.block < W.heap.size := fun p hp => hW.lt p hp
 have hold : ∀ p ∈ before, (fun b => decide (b < W.heap.size)) p.block = true := fun p hp => by simpa using hlt p hp
 refine ⟨ds, gs, before, [], pa, pv, hW, hres _ _ _, hargs _ hold, hvars _ hold, World.keptBut_mono (fun p hp => ⟨hp, ?_⟩) (hb.frame (· ∈ before)), fun _ => ?_⟩
 ·rw [hps, List.mem_append] at hp
  exact Or.inr hp
 ·obtain ⟨_, _, _, _, _, hz, hn⟩ := hW
  refine ⟨hok, _, _, ([] ++ pa) ++ pv, ⟨[] ++ pa, pv, trodAll_append (hargs _ (fun _ _ => rfl)) (hres _ _ _), hvars _ (fun _ _ => rfl), rfl, ?_, ?_⟩, ?_⟩
  ·intro b off hp
   have hp' : MemPlace.cell b off ∈ before := by rw [hps]; simpa using hp
   rw [hb.frozen (p := ⟨b, off, none⟩) (hlt _ hp')]
   exact hz b off hp'
  ·intro ha
   have := hn ha
   rw [hps] at this
   simpa using this
  ·intro p hp _
   rw [hps]
   simpa using hp
theorem law_contract [Lay P] {T : Table} (hLd : Laid P (g0 W) W) (hT : TableOK P T) {f : Nat} {fn : Func} {tb : TypeId} {s : ChangeSpec} {apart fresh handsOn again : Bool} {d : Nat} (hbool : P.underlying tb = some .bool) (hres : fn.resultTypes = #[tb]) (hvars : s.vars = [])
  (hspec : ∀ ds : List (DataW H), ds.length = fn.params.toList.length → s.fn H ds = { results := [.lit (.bool true)], args := ds }) (hl : laidOutB P = true) (hr : (fn.params.toList.all fun t => P.readableRec t && decide (t < P.types.size)) = true)
  (hsup : fn.params.toList.all (supT P d) = true) {base : Nat} {args : Array Value} {ds gs : List (DataW H)} {before : List MemPlace}
  (law : ∀ zs9 : List V, zs9.length = fn.params.toList.length → (∀ (j : Nat) (t : TypeId), fn.params.toList[j]? = some t → FitsV P t (zs9.getD j .undef)) → ∃ m', RF T f zs9 [] = some (.bool true, m'))
  (hval : ∀ (j : Nat) t v, fn.params[j]? = some t → args[j]? = some v → Value.okWide P W .any base t v) (hW : DataW.Whole enc P fn.params.toList s.vars apart W args.toList ds gs before) :
  Calls P f args W fun e W' => ∃ v, e = .returned v ∧ s.post enc P fn apart fresh handsOn again W args v W' := by
 have hW' := hW
 obtain ⟨p, q, hA, hV, rfl, hfz, hnd⟩ := hW
 rw [hvars] at hV
 obtain ⟨rfl, rfl⟩ := ChangeShapes.trodVars_none hV
 obtain ⟨zs9, h1, h2, h3, h4⟩ := args_of (base := base) hsup (fun j t v hj hv => hval j t v (by simpa using hj) (by simpa using hv)) hA
 obtain ⟨m', hm⟩ := law zs9 (by rw [h1, h2]) h3
 have hds : ds.length = fn.params.toList.length := trodAll_len hA
 refine (law_calls hLd hT hm h1 h4).mono fun e W' ⟨he, hb⟩ => ?_
 subst he
 have hsp : s.fn H (ds ++ []) = { results := [.lit (.bool true)], args := ds } := by rw [List.append_nil]; exact hspec ds hds
 refine ⟨_, rfl, post_of_below (pa := p) (pv := []) hW' (fun b sp hd => ?_) (fun sp hspb => ?_) (fun sp _ => ?_) rfl hb (RowKit.ok_one hres rfl (RowKit.okWide_bool_mk hbool _))⟩
 ·rw [hsp, hres]
  exact trodAll_cons_mk (RowKit.shut_bool hbool true) rfl
 ·rw [hsp]
  exact args_stay hl hr hA (fun x hx => hb.same (hW'.lt x (by simpa using hx))) (fun x hx => hspb x (by simpa using hx))
 ·rw [hsp, hvars]; exact rfl
end
end
end Go.Proofs.YtdlijnfdkeimlaaDoor.Am

set_option linter.all false
namespace Go.Proofs.YtdlijnfdkeimlaaDoor.Am.Esc
open Go.Proofs
theorem gl2 : Tryd.prog.globalNamed "unicode/utf8.acceptRanges" = some 1 := by kernel_rfl
theorem gl1 : Tryd.prog.globalNamed "unicode/utf8.first" = some 0 := by kernel_rfl
theorem gt2 : (Tryd.prog.globals[1]?).map (·.type) = some 161 := by kernel_rfl
theorem gt1 : (Tryd.prog.globals[0]?).map (·.type) = some 158 := by kernel_rfl
noncomputable def eT (t : TypeId) : TypeId := match Tryd.prog.underlying t with | some (.array _ e) => e | _ => 0
noncomputable def fsT (t : TypeId) : Array Field := match Tryd.prog.underlying t with | some (.struct fs) => fs | _ => #[]
theorem ut1 : Tryd.prog.underlying 158 = some (.array 256 (eT 158)) := by kernel_rfl
theorem ut2 : Tryd.prog.underlying 161 = some (.array 16 (eT 161)) := by kernel_rfl
theorem ue1 : Tryd.prog.underlying (eT 158) = some (.int .u8) := by kernel_rfl
theorem ue2 : Tryd.prog.underlying (eT 161) = some (.struct (fsT (eT 161))) := by kernel_rfl
theorem uf0 : ((fsT (eT 161))[0]?.map fun f => (f.type, f.offset)) = some (5, 0) := by kernel_rfl
theorem uf1 : ((fsT (eT 161))[1]?.map fun f => (f.type, f.offset)) = some (5, 1) := by kernel_rfl
theorem u5 : Tryd.prog.underlying 5 = some (.int .u8) := by kernel_rfl
theorem kc1 : Tryd.prog.cellsOf (eT 158) = 1 := by kernel_rfl
theorem kc2 : Tryd.prog.cellsOf (eT 161) = 2 := by kernel_rfl
theorem kc5 : Tryd.prog.cellsOf 5 = 1 := by kernel_rfl
theorem gl0 : Tryd.prog.globalNamed "internal/strconv.uint64pow10" = some 3 := by kernel_rfl
noncomputable def gT (g : Nat) : TypeId := ((Tryd.prog.globals[g]?).map (·.type)).getD 0
theorem gt0 : (Tryd.prog.globals[3]?).map (·.type) = some (gT 3) := by kernel_rfl
theorem ut0 : Tryd.prog.underlying (gT 3) = some (.array 20 (eT (gT 3))) := by kernel_rfl
theorem ue0 : Tryd.prog.underlying (eT (gT 3)) = some (.int .u64) := by kernel_rfl
theorem kc0 : Tryd.prog.cellsOf (eT (gT 3)) = 1 := by kernel_rfl
theorem kc0' : Tryd.prog.cellsOf (gT 3) = 20 := by kernel_rfl
theorem laid_one {l : List (String × DataW Unit)} {W : World} {n : String} {d : DataW Unit} {g : Nat} {t : TypeId} (h : laidMetH Tryd.prog l W)
  (hf : (l.filter fun x => x.2.handleName?.isNone).filter (fun x => x.1 == n) = [(n, d)]) (hg : Tryd.prog.globalNamed n = some g) (hty : (Tryd.prog.globals[g]?).map (·.type) = some t) :
  ∃ (cs : Array Value) (fuel : Nat) (p : List MemPlace), (∀ i, W.cell? ⟨g, i, none⟩ = cs[i]?) ∧ g < W.heap.size ∧ DataW.trod (fun _ => ()) Tryd.prog W 0 (fun _ => true) false fuel t cs.toList = some (d, p) ∧ W.var? Tryd.prog n = some cs := by
 have h2 := (laidMetH_iff.1 h).1.filter (fun x => x.1 == n)
 rw [hf] at h2
 obtain ⟨ps, ⟨g', t', cs, fuel, p, q, hg', ht', hvar, hd, _, _⟩, _⟩ := h2
 obtain rfl := Option.some.inj (hg.symm.trans hg')
 obtain rfl := Option.some.inj (hty.symm.trans ht')
 have hv := hvar
 refine ⟨cs, fuel, p, fun i => World.var?_cell hg hvar i, ?_, hd, hv⟩
 clear hv
 unfold World.var? at hvar
 rw [hg] at hvar
 simp only [Option.bind_some] at hvar
 cases hh : W.heap[g]? with
 | none => rw [hh] at hvar; cases hvar
 | some o => exact (Array.getElem?_eq_some_iff.1 hh).1
noncomputable def lst (x : List V) : DataW Unit := match x with
 | [.int k n] => .lit (.int k n)
 | [.int k n, .int k' n'] => .agg [.lit (.int k n), .lit (.int k' n')]
 | _ => .nil
theorem first_rows {W : World} {cs : Array Value} {fuel : Nat} {p : List MemPlace} (h : DataW.trod (fun _ => ()) Tryd.prog W 0 (fun _ => true) false fuel 158 cs.toList = some (.agg (tab1.map lst), p)) (i : Nat) (hi : i < 256) :
  ∃ n, tab1[i]? = some [.int .u8 n] ∧ cs[i]? = some (.int .u8 n) := by
 obtain ⟨xs, m, _, hx, hl, hlen, hr⟩ := DataW.trod_array ut1 h
 have hxs : tab1.map lst = xs.map (·.1) := by
  have := congrArg Prod.fst hx
  simpa using this
 have h1 := hr i hi
 rw [kc1, List.getElem?_eq_getElem (by omega)] at h1
 obtain ⟨n, hc, hy, _⟩ := DataW.trod_int ue1 h1
 have h2 : (tab1.map lst)[i]? = some (.lit (.int .u8 n)) := by
  rw [hxs, List.getElem?_map, List.getElem?_eq_getElem (by omega), hy]; rfl
 refine ⟨n, ?_, ?_⟩
 ·rw [List.getElem?_map] at h2
  obtain ⟨x, hx1, hx2⟩ := Option.map_eq_some_iff.1 h2
  rw [hx1]
  have hk : ∀ y ∈ tab1, ∃ z, y = [.int .u8 z] := by
   have : tab1.all (fun y => match y with | [.int .u8 _] => true | _ => false) = true := by decide +kernel
   intro y hy
   have := List.all_eq_true.1 this y hy
   split at this
   ·exact ⟨_, rfl⟩
   ·cases this
  obtain ⟨z, rfl⟩ := hk x (List.mem_of_getElem? hx1)
  simp only [lst, DataW.lit.injEq, Lit.int.injEq, true_and] at hx2
  rw [hx2]
 ·have := congrArg (·[0]?) hc
  simpa [List.getElem?_take, List.getElem?_drop] using this
theorem second_rows {W : World} {cs : Array Value} {fuel : Nat} {p : List MemPlace} (h : DataW.trod (fun _ => ()) Tryd.prog W 0 (fun _ => true) false fuel 161 cs.toList = some (.agg (tab2.map lst), p)) (i : Nat) (hi : i < 16) :
  ∃ a b, tab2[i]? = some [.int .u8 a, .int .u8 b] ∧ cs[i * 2]? = some (.int .u8 a) ∧ cs[i * 2 + 1]? = some (.int .u8 b) := by
 obtain ⟨xs, m, _, hx, hl, hlen, hr⟩ := DataW.trod_array ut2 h
 have hxs : tab2.map lst = xs.map (·.1) := by
  have := congrArg Prod.fst hx
  simpa using this
 have h1 := hr i hi
 rw [kc2, List.getElem?_eq_getElem (by omega)] at h1
 obtain ⟨ys, m2, _, hy, hl2, hlen2, hr2⟩ := DataW.trod_struct ue2 h1
 have hsz : (fsT (eT 161)).size = 2 := by kernel_rfl
 obtain ⟨g0, hg0, hq0⟩ := Option.map_eq_some_iff.1 uf0
 obtain ⟨g1, hg1, hq1⟩ := Option.map_eq_some_iff.1 uf1
 have f0 := hr2 0 _ hg0
 have f1 := hr2 1 _ hg1
 rw [show g0.type = 5 from congrArg Prod.fst hq0, show g0.offset = 0 from congrArg Prod.snd hq0, kc5] at f0
 rw [show g1.type = 5 from congrArg Prod.fst hq1, show g1.offset = 1 from congrArg Prod.snd hq1, kc5] at f1
 rw [List.getElem?_eq_getElem (by omega)] at f0 f1
 obtain ⟨a, ha, hya, _⟩ := DataW.trod_int u5 f0
 obtain ⟨b, hb, hyb, _⟩ := DataW.trod_int u5 f1
 have hys : ys.map (·.1) = [.lit (.int .u8 a), .lit (.int .u8 b)] := by
  match ys, hlen2.trans hsz with
  | [y0, y1], _ =>
   simp only [List.getElem_cons_zero, List.getElem_cons_succ] at hya hyb
   rw [hya, hyb]; rfl
 have h2 : (tab2.map lst)[i]? = some (.agg [.lit (.int .u8 a), .lit (.int .u8 b)]) := by
  rw [hxs, List.getElem?_map, List.getElem?_eq_getElem (by omega), hy, ← hys]; rfl
 refine ⟨a, b, ?_, ?_, ?_⟩
 ·rw [List.getElem?_map] at h2
  obtain ⟨x, hx1, hx2⟩ := Option.map_eq_some_iff.1 h2
  rw [hx1]
  have hk : ∀ y ∈ tab2, ∃ z z', y = [.int .u8 z, .int .u8 z'] := by
   have : tab2.all (fun y => match y with | [.int .u8 _, .int .u8 _] => true | _ => false) = true := by decide +kernel
   intro y hy
   have := List.all_eq_true.1 this y hy
   split at this
   ·exact ⟨_, _, rfl⟩
   ·cases this
  obtain ⟨z, z', rfl⟩ := hk x (List.mem_of_getElem? hx1)
  simp only [lst, DataW.agg.injEq, List.cons.injEq, DataW.lit.injEq, Lit.int.injEq, true_and, and_true] at hx2
  rw [hx2.1, hx2.2]
 ·have := congrArg (·[0]?) ha
  simpa [List.getElem?_take, List.getElem?_drop] using this
 ·have := congrArg (·[0]?) hb
  simpa [List.getElem?_take, List.getElem?_drop] using this
theorem laid_of {l : List (String × DataW Unit)} {W : World} (h : laidMetH Tryd.prog l W)
  (h0 : (l.filter fun x => x.2.handleName?.isNone).filter (fun x => x.1 == "internal/strconv.uint64pow10") = [("internal/strconv.uint64pow10", Lib.tabData .u64 Lib.pow10Tab)])
  (h1 : (l.filter fun x => x.2.handleName?.isNone).filter (fun x => x.1 == "unicode/utf8.first") = [("unicode/utf8.first", .agg (tab1.map lst))])
  (h2 : (l.filter fun x => x.2.handleName?.isNone).filter (fun x => x.1 == "unicode/utf8.acceptRanges") = [("unicode/utf8.acceptRanges", .agg (tab2.map lst))]) : Laid Tryd.prog (g0 W) W := by
 obtain ⟨cs0, f0, p0, _, s0, t0, v0⟩ := laid_one h h0 gl0 gt0
 obtain ⟨cs1, f1, p1, e1, s1, t1, _⟩ := laid_one h h1 gl1 gt1
 obtain ⟨cs2, f2, p2, e2, s2, t2, _⟩ := laid_one h h2 gl2 gt2
 have len1 : tab1.length = 256 := by decide +kernel
 have len2 : tab2.length = 16 := by decide +kernel
 refine ⟨fun t ht => ?_, fun t ht => ?_⟩
 case refine_2 =>
  have ht : t ∈ [(3, "internal/strconv.uint64pow10", IntKind.u64, Lib.pow10Tab)] := ht
  obtain rfl := List.mem_singleton.1 ht
  refine ⟨s0, gl0, ?_⟩
  have e0 := Lib.cells_of_tab ut0 ue0 kc0 kc0' t0
  show W.var? Tryd.prog "internal/strconv.uint64pow10" = some (Lib.pow10Tab.map fun z => Value.int .u64 z).toArray
  rw [v0, ← e0]
 have ht : t ∈ [(0, 1, tab1), (1, 2, tab2)] := ht
 rcases List.mem_cons.1 ht with rfl | ht
 ·refine ⟨s1, fun i hi => ?_, fun i k hi hk => ?_⟩
  ·have hi : i < tab1.length := hi
   obtain ⟨n, a, _⟩ := first_rows t1 i (by omega)
   show (tab1.getD i []).length = 1
   rw [List.getD_eq_getElem?_getD, a]; rfl
  ·have hi : i < tab1.length := hi
   have hk : k < 1 := hk
   obtain ⟨n, a, b⟩ := first_rows t1 i (by omega)
   obtain rfl : k = 0 := by omega
   refine ⟨.int .u8 n, ?_, ?_⟩
   ·show W.cell? ⟨0, 0 + (i * 1 + 0), none⟩ = _
    rw [show 0 + (i * 1 + 0) = i by omega, e1, b]
   ·show RB _ W ((tab1.getD i []).getD 0 .undef) _
    rw [show tab1.getD i [] = _ from List.getD_eq_getElem?_getD, a]; exact RB.int _ _
 ·obtain rfl := List.mem_singleton.1 ht
  refine ⟨s2, fun i hi => ?_, fun i k hi hk => ?_⟩
  ·have hi : i < tab2.length := hi
   obtain ⟨n, n', a, _⟩ := second_rows t2 i (by omega)
   show (tab2.getD i []).length = 2
   rw [List.getD_eq_getElem?_getD, a]; rfl
  ·have hi : i < tab2.length := hi
   have hk : k < 2 := hk
   obtain ⟨n, n', a, b, c⟩ := second_rows t2 i (by omega)
   match k, hk with
   | 0, _ =>
    refine ⟨.int .u8 n, ?_, ?_⟩
    ·show W.cell? ⟨1, 0 + (i * 2 + 0), none⟩ = _
     rw [show 0 + (i * 2 + 0) = i * 2 by omega, e2, b]
    ·show RB _ W ((tab2.getD i []).getD 0 .undef) _
     rw [show tab2.getD i [] = _ from List.getD_eq_getElem?_getD, a]; exact RB.int _ _
   | 1, _ =>
    refine ⟨.int .u8 n', ?_, ?_⟩
    ·show W.cell? ⟨1, 0 + (i * 2 + 1), none⟩ = _
     rw [show 0 + (i * 2 + 1) = i * 2 + 1 by omega, e2, c]
    ·show RB _ W ((tab2.getD i []).getD 1 .undef) _
     rw [show tab2.getD i [] = _ from List.getD_eq_getElem?_getD, a]; exact RB.int _ _
end Go.Proofs.YtdlijnfdkeimlaaDoor.Am.Esc

namespace Go.Proofs.YtdlijnfdkeimlaaDoor.Am
def ints (xs : List Int) : List (List V) := xs.map fun n => [.int .i64 n]
inductive IV : V → List Int → Prop
 | nil : IV .nils []
 | sl (xs : List Int) : IV (.slice false 1 (ints xs)) xs
def boolL (xs : List Bool) : List (List V) := xs.map fun b => [.bool b]
inductive BV : V → List Bool → Prop
 | nil : BV .nils []
 | sl (xs : List Bool) : BV (.slice false 1 (boolL xs)) xs
section
variable {P : Program}
theorem fits_int {t : TypeId} {k : IntKind} (ht : P.underlying t = some (.int k)) {vs : List V} (h : Fits P t vs) : ∃ n, vs = [.int k n] ∧ (Lit.int k n).wf = true := by
 cases h <;> simp_all
theorem fits_bool {t : TypeId} (ht : P.underlying t = some .bool) {vs : List V} (h : Fits P t vs) : ∃ b, vs = [.bool b] := by
 cases h <;> simp_all
theorem fits_str {t : TypeId} (ht : P.underlying t = some .string) {vs : List V} (h : Fits P t vs) : ∃ s, vs = [.str s] ∧ s.length ≤ maxLen := by
 cases h <;> simp_all
theorem fits_slice {t e : TypeId} (ht : P.underlying t = some (.slice e)) {vs : List V} (h : Fits P t vs) : vs = [.nils] ∨ ∃ xs, vs = [.slice false (P.cellsOf e) xs] ∧ xs.length ≤ maxLen ∧ ∀ x ∈ xs, Fits P e x := by
 cases h with
 | nils => exact .inl rfl
 | slice xs h hl hx =>
  rw [ht] at h
  cases h
  refine .inr ⟨xs, rfl, hl, fun x hm => ?_⟩
  obtain ⟨i, hi, rfl⟩ := List.getElem_of_mem hm
  have := hx i hi
  rwa [List.getD_eq_getElem?_getD, List.getElem?_eq_getElem hi] at this
 | _ => simp_all
end
end Go.Proofs.YtdlijnfdkeimlaaDoor.Am

namespace Go.Proofs.YtdlijnfdkeimlaaDoor.Am
inductive LT where
 | bool
 | int (k : IntKind)
 | str
 | slice (e : TypeId)
 deriving DecidableEq
def leafsF (P : Program) (F : TypeId → Option (List LT)) : Nat → List Field → Option (List LT)
 | _, [] => some []
 | n, f :: fs => if f.offset = n ∧ (F f.type).map List.length = some (P.cellsOf f.type) then (F f.type).bind fun l => (leafsF P F (n + P.cellsOf f.type) fs).bind fun r => some (l ++ r) else none
def leafs (P : Program) : Nat → TypeId → Option (List LT)
 | 0, _ => none
 | d + 1, t => match P.underlying t with
  | some .bool => some [.bool]
  | some (.int k) => some [.int k]
  | some .string => some [.str]
  | some (.slice e) => some [.slice e]
  | some (.struct fs) => (leafsF P (leafs P d) 0 fs.toList).bind fun l => if l.length = P.cellsOf t then some l else none
  | some (.array n e) => (leafs P d e).bind fun l => if l.length = P.cellsOf e ∧ P.cellsOf t = n * P.cellsOf e then some (List.replicate n l).flatten else none
  | _ => none
def LV (P : Program) (l : LT) (v : V) : Prop :=
 match l with
 | .bool => ∃ b, v = .bool b
 | .int k => ∃ n, v = .int k n ∧ (Lit.int k n).wf = true
 | .str => ∃ s, v = .str s ∧ s.length ≤ maxLen
 | .slice e => v = .nils ∨ ∃ xs, v = .slice false (P.cellsOf e) xs ∧ xs.length ≤ maxLen ∧ ∀ x ∈ xs, Fits P e x
def LVs (P : Program) : List LT → List V → Prop
 | [], [] => True
 | l :: ls, v :: vs => LV P l v ∧ LVs P ls vs
 | _, _ => False
section
variable {P : Program}
theorem LVs.append : ∀ {ls ks : List LT} {vs us : List V}, LVs P ls vs → LVs P ks us → LVs P (ls ++ ks) (vs ++ us)
 | [], _, [], _, _, h => h
 | _ :: _, _, _ :: _, _, h, k => ⟨h.1, LVs.append h.2 k⟩
 | [], _, _ :: _, _, h, _ => h.elim
 | _ :: _, _, [], _, h, _ => h.elim
theorem LVs.len : ∀ {ls : List LT} {vs : List V}, LVs P ls vs → vs.length = ls.length
 | [], [], _ => rfl
 | _ :: _, _ :: _, h => by rw [List.length_cons, List.length_cons, LVs.len h.2]
 | [], _ :: _, h => h.elim
 | _ :: _, [], h => h.elim
theorem leafsF_ok {F : TypeId → Option (List LT)} (hF : ∀ t ls vs, F t = some ls → Fits P t vs → LVs P ls vs) {vs : List V} : ∀ {fs : List Field} {n : Nat} {ls : List LT}, leafsF P F n fs = some ls → (∀ f ∈ fs, Fits P f.type ((vs.drop f.offset).take (P.cellsOf f.type))) →
  LVs P ls ((vs.drop n).take ls.length)
 | [], n, ls, h, _ => by
  simp only [leafsF, Option.some.injEq] at h
  subst h
  rw [List.length_nil, List.take_zero]; trivial
 | f :: fs, n, ls, h, hf => by
  simp only [leafsF] at h
  split at h
  ·rename_i hc
   simp only [Option.bind_eq_some_iff, Option.some.injEq] at h
   obtain ⟨l, hl, r, hr, rfl⟩ := h
   have h1 := hF _ _ _ hl (hf f (.head _))
   have h2 := leafsF_ok hF hr fun g hg => hf g (.tail _ hg)
   have hlen : l.length = P.cellsOf f.type := by
    have := hc.2
    rw [hl] at this
    simpa using this
   rw [hc.1, ← hlen] at h1
   rw [← hlen] at h2
   have hsplit : (vs.drop n).take (l ++ r).length = (vs.drop n).take l.length ++ (vs.drop (n + l.length)).take r.length := by
    rw [List.length_append, List.take_add, List.drop_drop]
   rw [hsplit]
   exact h1.append h2
  ·cases h
theorem leafs_rep {l : List LT} {e : TypeId} (hF : ∀ vs, Fits P e vs → LVs P l vs) (hl : l.length = P.cellsOf e) {vs : List V} : ∀ {n i : Nat}, (∀ j, i ≤ j → j < i + n → Fits P e ((vs.drop (j * P.cellsOf e)).take (P.cellsOf e))) →
  LVs P (List.replicate n l).flatten ((vs.drop (i * P.cellsOf e)).take (n * P.cellsOf e))
 | 0, i, _ => by rw [Nat.zero_mul, List.take_zero]; trivial
 | n + 1, i, h => by
  have h1 := hF _ (h i (Nat.le_refl _) (by omega))
  have h2 := leafs_rep hF hl (n := n) (i := i + 1) fun j hj hk => h j (by omega) (by omega)
  rw [List.replicate_succ, List.flatten_cons, Nat.succ_mul, Nat.add_comm, List.take_add, List.drop_drop]
  rw [Nat.succ_mul] at h2
  exact h1.append h2
theorem fits_leafs : ∀ {d : Nat} {t : TypeId} {ls : List LT} {vs : List V}, leafs P d t = some ls → Fits P t vs → LVs P ls vs := by
 intro d
 induction d with
 | zero => intro t ls vs h; cases h
 | succ d ih =>
  intro t ls vs h hf
  unfold leafs at h
  split at h
  ·rename_i ht
   cases h
   obtain ⟨b, rfl⟩ := fits_bool ht hf
   exact ⟨⟨b, rfl⟩, trivial⟩
  ·rename_i ht
   cases h
   obtain ⟨n, rfl, hw⟩ := fits_int ht hf
   exact ⟨⟨n, rfl, hw⟩, trivial⟩
  ·rename_i ht
   cases h
   obtain ⟨s, rfl, hw⟩ := fits_str ht hf
   exact ⟨⟨s, rfl, hw⟩, trivial⟩
  ·rename_i ht
   cases h
   rcases fits_slice ht hf with rfl | ⟨xs, rfl, h1, h2⟩
   ·exact ⟨.inl rfl, trivial⟩
   ·exact ⟨.inr ⟨xs, rfl, h1, h2⟩, trivial⟩
  ·rename_i fs ht
   simp only [Option.bind_eq_some_iff] at h
   obtain ⟨l, hl, h⟩ := h
   split at h
   ·rename_i hc
    cases h
    cases hf with
    | struct _ ht2 hlen hff =>
     rw [ht] at ht2
     cases ht2
     have := leafsF_ok (vs := vs) (fun _ _ _ a b => ih a b) hl hff
     rwa [List.drop_zero, List.take_of_length_le (by omega)] at this
    | _ => simp_all
   ·cases h
  ·rename_i n e ht
   simp only [Option.bind_eq_some_iff] at h
   obtain ⟨l, hl, h⟩ := h
   split at h
   ·rename_i hc
    cases h
    cases hf with
    | array _ ht2 hlen hff =>
     rw [ht] at ht2
     cases ht2
     have := leafs_rep (vs := vs) (fun _ b => ih hl b) hc.1 (n := n) (i := 0) fun j _ hj => hff j (by omega)
     rwa [Nat.zero_mul, List.drop_zero, List.take_of_length_le (by omega)] at this
    | _ => simp_all
   ·cases h
  ·cases h
end
end Go.Proofs.YtdlijnfdkeimlaaDoor.Am

set_option linter.all false
namespace Go.Proofs.YtdlijnfdkeimlaaDoor.Am.Esc
open Go.Proofs.YtdlijnfdkeimlaaDoor.Am.T Go.Proofs.YtdlijnfdkeimlaaDoor.Am.Sgr
theorem wf64 {n : Int} (h : (Lit.int .i64 n).wf = true) : in64 n := by
  simp [Lit.wf, IntKind.min, IntKind.max, IntKind.signed, IntKind.bits] at h
  exact ⟨by omega, by omega⟩
def isStr : Option TypeDesc → Bool
  | some (.struct _) => true
  | _ => false
theorem fits_sty {P : Program} {t : TypeId} (hi : isStr (P.underlying t) = true) (hl : leafs P 8 t = some [.int .i64, .int .i64, .int .i64]) {x : V} (h : FitsV P t x) : ∃ s : Style, Den [] (.agg s.c) x ∧ in64 s.Attr := by
  obtain ⟨fs, ht⟩ : ∃ fs, P.underlying t = some (.struct fs) := by
    unfold isStr at hi
    split at hi
    · exact ⟨_, by assumption⟩
    · cases hi
  unfold FitsV at h
  rw [ht] at h
  obtain ⟨cs, rfl, hf⟩ := h
  have h3 := fits_leafs hl hf
  have h4 : cs.length = 3 := h3.len
  match cs, h4 with
  | [x1, x2, x3], _ =>
    obtain ⟨h1, h2, h3, _⟩ := h3
    obtain ⟨a, rfl, _⟩ := h1
    obtain ⟨b, rfl, _⟩ := h2
    obtain ⟨c, rfl, hc⟩ := h3
    exact ⟨⟨a, b, c⟩, .agg (.cons (.base (.int _ _)) (.cons (.base (.int _ _)) (.cons (.base (.int _ _)) .nil))), wf64 hc⟩
theorem sgrBetween_ok {a b : Style} {x y : V} (hx : Den [] (.agg a.c) x) (hy : Den [] (.agg b.c) y) (ha : in64 a.Attr) (hb : in64 b.Attr) : ∃ m', RF ET 3 [x, y] [] = some (.bool true, m') :=
  CallT.law (casementlaw05_SgrBetween_ok (between_pure ha hb)) (.cons hx (.cons hy .nil))
end Go.Proofs.YtdlijnfdkeimlaaDoor.Am.Esc

/-
SgrBetween answers true whatever its input; the input reads as it did.
-/
namespace Go.Proofs.YtdlijnfdkeimlaaDoor
open Go.Proofs.YtdlijnfdkeimlaaDoor.Am Go.Proofs.YtdlijnfdkeimlaaDoor.Am.Esc
open Go.ChangeShapes Go.WideShapes Go.ChangeAt Go.RowKit
namespace sgrBetween
theorem shape (l : List V) (h : l.length = 2) : ∃ x0 x1, l = [x0, x1] := by
  match l, h with
  | [x0, x1], _ => exact ⟨x0, x1, rfl⟩
theorem own : ownKnob Tryd.prog.godebug = none := by kernel_rfl
theorem laidB : laidOutB Tryd.prog = true := by kernel_rfl
set_option maxRecDepth 100000 in
theorem law (l : List V) (hl : l.length = Tryd.f3.params.toList.length) (h : ∀ (j : Nat) (t : TypeId), Tryd.f3.params.toList[j]? = some t → FitsV Tryd.prog t (l.getD j .undef)) : ∃ m', RF ET 3 l [] = some (.bool true, m') := by
  have hln : l.length = 2 := hl
  obtain ⟨x0, x1, rfl⟩ := shape l hln
  have h0 := h 0 23 (by kernel_rfl)
  have h1 := h 1 23 (by kernel_rfl)
  obtain ⟨s, hx, hs⟩ := fits_sty (by kernel_rfl) (by kernel_rfl) h0
  obtain ⟨t, hy, ht⟩ := fits_sty (by kernel_rfl) (by kernel_rfl) h1
  exact sgrBetween_ok hx hy hs ht
noncomputable def laidWorld (os : Os) : World :=
  { World.holding Tryd.prog os ⟨#[], #[], []⟩ with heap := ((((((World.holding Tryd.prog os ⟨#[], #[], []⟩).heap.modify 0 fun
      | .cells _ t frozen => .cells ((Go.Pinned.utf8FirstZ.map fun (n : Nat) => Value.int .u8 n).toArray) t frozen
      | o => o).modify 1 fun
      | .cells _ t frozen => .cells #[.int .u8 128, .int .u8 191, .int .u8 160, .int .u8 191, .int .u8 128, .int .u8 159, .int .u8 144, .int .u8 191, .int .u8 128, .int .u8 143, .int .u8 0, .int .u8 0, .int .u8 0, .int .u8 0, .int .u8 0, .int .u8 0, .int .u8 0, .int .u8 0, .int .u8 0, .int .u8 0, .int .u8 0, .int .u8 0, .int .u8 0, .int .u8 0, .int .u8 0, .int .u8 0, .int .u8 0, .int .u8 0, .int .u8 0, .int .u8 0, .int .u8 0, .int .u8 0] t frozen
      | o => o).modify 3 fun
      | .cells _ t frozen => .cells #[.int .u64 1, .int .u64 10, .int .u64 100, .int .u64 1000, .int .u64 10000, .int .u64 100000, .int .u64 1000000, .int .u64 10000000, .int .u64 100000000, .int .u64 1000000000, .int .u64 10000000000, .int .u64 100000000000, .int .u64 1000000000000, .int .u64 10000000000000, .int .u64 100000000000000, .int .u64 1000000000000000, .int .u64 10000000000000000, .int .u64 100000000000000000, .int .u64 1000000000000000000, .int .u64 10000000000000000000] t frozen
      | o => o).modify 4 fun
      | .cells _ t frozen => .cells #[.int .u8 0, .int .u8 1, .int .u8 28, .int .u8 2, .int .u8 29, .int .u8 14, .int .u8 24, .int .u8 3, .int .u8 30, .int .u8 22, .int .u8 20, .int .u8 15, .int .u8 25, .int .u8 17, .int .u8 4, .int .u8 8, .int .u8 31, .int .u8 27, .int .u8 13, .int .u8 23, .int .u8 21, .int .u8 19, .int .u8 16, .int .u8 7, .int .u8 26, .int .u8 12, .int .u8 18, .int .u8 6, .int .u8 11, .int .u8 5, .int .u8 10, .int .u8 9] t frozen
      | o => o).modify 5 fun
      | .cells _ t frozen => .cells #[.int .u8 0, .int .u8 1, .int .u8 56, .int .u8 2, .int .u8 57, .int .u8 49, .int .u8 28, .int .u8 3, .int .u8 61, .int .u8 58, .int .u8 42, .int .u8 50, .int .u8 38, .int .u8 29, .int .u8 17, .int .u8 4, .int .u8 62, .int .u8 47, .int .u8 59, .int .u8 36, .int .u8 45, .int .u8 43, .int .u8 51, .int .u8 22, .int .u8 53, .int .u8 39, .int .u8 33, .int .u8 30, .int .u8 24, .int .u8 18, .int .u8 12, .int .u8 5, .int .u8 63, .int .u8 55, .int .u8 48, .int .u8 27, .int .u8 60, .int .u8 41, .int .u8 37, .int .u8 16, .int .u8 46, .int .u8 35, .int .u8 44, .int .u8 21, .int .u8 52, .int .u8 32, .int .u8 23, .int .u8 11, .int .u8 54, .int .u8 26, .int .u8 40, .int .u8 15, .int .u8 34, .int .u8 20, .int .u8 31, .int .u8 10, .int .u8 25, .int .u8 14, .int .u8 19, .int .u8 9, .int .u8 13, .int .u8 8, .int .u8 7, .int .u8 6] t frozen
      | o => o) }
theorem laid_met (os : Os) : laidMet Tryd.prog Rows.sgrBetweenRow.laid ((laidWorld os).forCall (fun _ _ => 0) ⟨#[], #[.agg #[.int .i64 0, .int .i64 0, .int .i64 0], .agg #[.int .i64 0, .int .i64 0, .int .i64 0]], []⟩).memory :=
  laidMet_of_run' 8 (by kernel_rfl) (by kernel_rfl)
theorem reads (os : Os) {H : Type} (enc : TypeId × Value → H) : ∃ places, DataW.whole enc Tryd.prog ((laidWorld os).forCall (fun _ _ => 0) ⟨#[], #[.agg #[.int .i64 0, .int .i64 0, .int .i64 0], .agg #[.int .i64 0, .int .i64 0, .int .i64 0]], []⟩).memory Tryd.f3.params.toList Rows.sgrBetweenSpec.vars false (#[.agg #[.int .i64 0, .int .i64 0, .int .i64 0], .agg #[.int .i64 0, .int .i64 0, .int .i64 0]] : Array Value).toList 8 = some ([.agg [.lit (.int .i64 0), .lit (.int .i64 0), .lit (.int .i64 0)], .agg [.lit (.int .i64 0), .lit (.int .i64 0), .lit (.int .i64 0)]], [], places) :=
  ⟨[], by kernel_rfl⟩
set_option maxRecDepth 100000 in
theorem lifted (os : Os) (started : os.Started) (H : Type) (enc : TypeId × Value → H) (F : Stop.Interp) :
    ReturnsInHanded {} Tryd.checked os 3 .any ((OpenSpec.ofChange Rows.sgrBetweenSpec).preRow enc Tryd.prog Tryd.f3 Rows.sgrBetweenRow.domain false Rows.sgrBetweenRow.laid) (((OpenSpec.ofChange Rows.sgrBetweenSpec).at F).post enc Tryd.prog Tryd.f3 false true false false) := by
  obtain ⟨places, hx⟩ := reads os enc
  refine returnsInHanded_of_row (C := Tryd.checked) (s := (OpenSpec.ofChange Rows.sgrBetweenSpec)) own started (by kernel_rfl) Tryd.func3
    (witness_row_at (enc := enc) (C := Tryd.checked) false (laidWorld os) #[.agg #[.int .i64 0, .int .i64 0, .int .i64 0], .agg #[.int .i64 0, .int .i64 0, .int .i64 0]] rfl (by kernel_rfl) (by kernel_rfl) (by kernel_rfl)
      (OpenSpec.preRow_of_cond 8 hx (by kernel_rfl) (fun k hk => by cases hk) (by kernel_rfl) (laid_met os))) ?_
  intro W base args ds gs before hval hW _ _ _ hlaid _ _
  exact law_contract (laid_of hlaid (by kernel_rfl) (by kernel_rfl) (by kernel_rfl)) ET_ok (tb := 4) (d := 8) (by kernel_rfl) (by kernel_rfl) rfl
    (fun ds hd => by
      have hdn : ds.length = 2 := hd
      match ds, hdn with
      | [_, _], _ => rfl) laidB (by kernel_rfl) (by kernel_rfl) law hval hW
theorem said : Rows.SgrBetweenSaid :=
  OpenClaim.holds_of_cond 3 Tryd.f3 rfl rfl rfl rfl rfl rfl rfl ⟨rfl, rfl, rfl, rfl, rfl⟩ rfl rfl rfl rfl rfl (by kernel_rfl) Tryd.func3 (by kernel_rfl)
    (of_decide_eq_true (by kernel_rfl)) (by unfold Func.isWrapper; first | (rw [if_pos (by decide +kernel)]; kernel_rfl) | (rw [if_neg (by decide +kernel)]; exact ⟨rfl, rfl⟩))
    (fun os started H enc _ F => by rw [OpenClaim.pre_eq_preRow]; exact lifted os started H enc F)
theorem nowant : (Tryd.f3.params.toList.all fun t => Tryd.prog.wantsStandIn t == false) = true := by kernel_rfl
theorem plain (f : FuncId) (fn : Func) (hf : Tryd.pinned.checked.prog.funcNamed "casement/casementlaw05.SgrBetween" = some f) (hfn : Tryd.pinned.checked.prog.funcs[f]? = some fn) :
    false = Tryd.pinned.checked.prog.looks [] ∧ ∀ (j : Nat) t, fn.params[j]? = some t → Tryd.pinned.checked.prog.wantsStandIn t = false := by
  obtain rfl : f = 3 := Option.some.inj ((show Tryd.prog.funcNamed "casement/casementlaw05.SgrBetween" = some 3 by kernel_rfl).symm.trans hf) |>.symm
  obtain rfl : fn = Tryd.f3 := (Option.some.inj (Tryd.func3.symm.trans hfn)).symm
  refine ⟨by kernel_rfl, fun j t ht => ?_⟩
  exact beq_iff_eq.1 (List.all_eq_true.1 nowant t (Array.mem_toList_iff.2 (Array.mem_of_getElem? ht)))
theorem holds : Rows.SgrBetweenCardSaid :=
  Claim7.holds_tied_plain_at .later [] _ _ _ _ said (fun _ h => by cases h) (by kernel_rfl) (fun _ h => by cases h) sgrBetween_row_tie rfl ⟨rfl, rfl⟩ (by kernel_rfl) rfl plain (by kernel_rfl)
#print axioms holds
end sgrBetween
end Go.Proofs.YtdlijnfdkeimlaaDoor
