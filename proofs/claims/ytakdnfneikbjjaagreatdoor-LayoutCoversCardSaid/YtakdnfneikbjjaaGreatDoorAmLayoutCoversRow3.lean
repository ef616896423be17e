/-
A part of the proof of a law: am swap t, am draw, am ops k, am ops l, am ok, am eq, am wp, am wp s, am wp c, am tab, ly ext, ly ext a, am eval.
-/
import Derived.Test.YtakdnfneikbjjaaGreatDoorAmLayoutCoversRow2
import Derived.Laws.StructEq
import Derived.ChangeKeysEq
import Derived.Test.YtakdnfneikbjjaaGreatDoorProg
import Derived.Lib.ParseIntB
set_option linter.all false
namespace Go.Proofs.YtakdnfneikbjjaaGreatDoor.Am
def TOp.sees (s : Nat) : TOp → List Nat
 | .place => []
 | .index _ x i => s :: x :: slots [i]
 | .load _ _ p => [s, p]
 | .len x => [s, x]
 | .store _ _ _ => []
def TOp.reads : TOp → Bool
 | .store _ _ _ => false
 | .index _ _ i => (taken [i]).isEmpty
 | _ => true
def AOper.tlook? (o : AOper) : Option (Nat × Nat × TOp) := match o with
 | ⟨some d, none, false, .tOp s k, .none⟩ => if k.reads then some (d, s, k) else none
 | _ => none
def AOper.plain? (o : AOper) : Option Nat := match o.dst with
 | some d => if o.guard.isNone && o.fit && o.op.pure && (taken o.op.opds).isEmpty then some d else none
 | none => none
section
variable {cf : CF} {st st' : St}
def zju (cf : CF) (o : AOper) (d : Nat) (R : List Nat) : Prop :=
 ∃ V : St → Option V, (∀ st st', zaq cf o st = some st' ↔ ∃ y, V st = some y ∧ st' = { st with σ := upd st.σ d y }) ∧ ∀ s1 s2 : St, (∀ t ∈ R, s1.σ t = s2.σ t) → s1.m = s2.m → s1.l = s2.l → V s1 = V s2
theorem zjv {o : AOper} {d s : Nat} {k : TOp} (h : o.tlook? = some (d, s, k)) : o.guard = none ∧ zju cf o d (k.sees s) := by
 unfold AOper.tlook? at h
 split at h
 ·split at h
  ·rename_i d' s' k' hr
   simp only [Option.some.injEq, Prod.mk.injEq] at h
   obtain ⟨rfl, rfl, rfl⟩ := h
   refine ⟨rfl, fun st => (zdA st s' k').map Prod.fst, fun st st' => ?_, fun s1 s2 hs hm hl => ?_⟩
   ·have hst : ∀ {y : V × St}, zdA st s' k' = some y → y.2 = st := fun {y} hy => by
     cases k' with
     | place => simp only [zdA, Option.some.injEq] at hy; subst hy; rfl
     | index sz x i =>
      simp only [zdA] at hy
      split at hy
      ·simp only [Option.bind_eq_some_iff] at hy
       obtain ⟨n, _, hy⟩ := hy
       cases n with
       | int kk j =>
        simp only at hy
        split at hy
        ·split at hy
         ·simp only [Option.some.injEq] at hy; subst hy; rfl
         ·cases hy
        ·split at hy
         ·simp only [Option.some.injEq] at hy; subst hy; rfl
         ·cases hy
        ·cases hy
       | _ => cases hy
      ·cases hy
     | load agg n p =>
      simp only [zdA, Option.bind_eq_some_iff, Option.some.injEq] at hy
      obtain ⟨_, _, _, _, rfl⟩ := hy; rfl
     | len x =>
      simp only [zdA] at hy
      split at hy
      ·simp only [Option.bind_eq_some_iff, Option.some.injEq] at hy
       obtain ⟨_, _, rfl⟩ := hy; rfl
      ·cases hy
     | store n p x => cases hr
    show (if true = true then (zdA st s' k').bind (zcS _) else _) = some st' ↔ _
    rw [if_pos rfl]
    constructor
    ·intro h1
     simp only [Option.bind_eq_some_iff] at h1
     obtain ⟨⟨y, sy⟩, hy, h1⟩ := h1
     have e := hst hy
     simp only at e
     subst e
     simp only [zcS, Bool.false_eq_true, if_false, Option.some.injEq] at h1
     exact ⟨y, by show (zdA _ s' k').map Prod.fst = some y; rw [hy]; rfl, h1.symm⟩
    ·rintro ⟨y, hy, rfl⟩
     simp only [Option.map_eq_some_iff] at hy
     obtain ⟨⟨y', sy⟩, hy, rfl⟩ := hy
     have e := hst hy
     simp only at e
     subst e
     rw [hy]; rfl
   ·cases k' with
    | place => rfl
    | index sz x i =>
     have e1 : s1.σ s' = s2.σ s' := hs s' (by simp [TOp.sees])
     have e2 : s1.σ x = s2.σ x := hs x (by simp [TOp.sees])
     have e3 : getC s1 i = getC s2 i := zaj fun t ht => hs t (by simp only [TOp.sees, slots, List.flatMap_cons, List.flatMap_nil, List.append_nil, List.mem_cons]; exact .inr (.inr ht))
     simp only [zdA, e1, e2, e3]
     split
     ·cases getC s2 i with
      | none => rfl
      | some n =>
       cases n with
       | int kk j =>
        simp only [Option.bind_some]
        split
        ·split <;> rfl
        ·split <;> rfl
        ·rfl
       | _ => rfl
     ·rfl
    | load agg n p =>
     have e1 : s1.σ s' = s2.σ s' := hs s' (by simp [TOp.sees])
     have e2 : s1.σ p = s2.σ p := hs p (by simp [TOp.sees])
     have e3 : zkg s1 s' n (s1.σ p) = zkg s2 s' n (s2.σ p) := by
      rw [e2]
      unfold zkg
      rw [e1]
     simp only [zdA, e3]
     cases zkg s2 s' n (s2.σ p) with
     | none => rfl
     | some cs => simp only [Option.bind_some]; cases agg? agg cs <;> rfl
    | len x =>
     have e1 : s1.σ s' = s2.σ s' := hs s' (by simp [TOp.sees])
     have e2 : s1.σ x = s2.σ x := hs x (by simp [TOp.sees])
     have e3 : elems s1 (.place (.tmp s')) = elems s2 (.place (.tmp s')) := by simp only [elems, look, e1]
     simp only [zdA, e2, e3]
     split
     ·cases elems s2 (.place (.tmp s')) <;> rfl
     ·rfl
    | store n p x => cases hr
  ·cases h
 ·cases h
theorem zjw {o : AOper} {d : Nat} (h : o.plain? = some d) : o.guard = none ∧ zju cf o d (slots o.op.opds) := by
 unfold AOper.plain? at h
 split at h
 ·rename_i d' hd
  split at h
  ·rename_i hc
   simp only [Option.some.injEq] at h
   subst h
   simp only [Bool.and_eq_true, Option.isNone_iff_eq_none, List.isEmpty_iff] at hc
   obtain ⟨⟨⟨hg, hf⟩, hp⟩, ht⟩ := hc
   obtain ⟨hb, _, hk⟩ := zc2.1 hf
   refine ⟨hg, ?_⟩
   open Classical in
   refine ⟨fun st => if (∀ t ∈ slots o.op.opds, rootOk o.lean (st.σ t) = true) then ((evalOp cf st o.op).bind fun q => if zek o q.1 = true ∧ za8 o st st = true then some q.1 else none) else none, fun st st' => ?_, fun s1 s2 hs hm hl => ?_⟩
   ·rw [zaF hk (zmH hb), hd]
    constructor
    ·rintro ⟨x, st1, h1, h2, h3, h4, rfl⟩
     obtain ⟨e1, _⟩ := zc9 hp ht (st1 := st) (st2 := st) (fun _ _ => rfl) h2
     subst e1
     refine ⟨x, ?_, rfl⟩
     simp only
     rw [if_pos h1, h2]
     simp only [Option.bind_some]
     rw [if_pos ⟨h3, h4⟩]
    ·rintro ⟨y, hy, rfl⟩
     simp only at hy
     split at hy
     ·rename_i h1
      simp only [Option.bind_eq_some_iff] at hy
      obtain ⟨⟨z, sz⟩, hz, hy⟩ := hy
      split at hy
      ·rename_i h2
       simp only [Option.some.injEq] at hy
       subst hy
       obtain ⟨e1, _⟩ := zc9 hp ht (st1 := st) (st2 := st) (fun _ _ => rfl) hz
       subst e1
       exact ⟨_, _, h1, hz, h2.1, h2.2, rfl⟩
      ·cases hy
     ·cases hy
   ·simp only
    have e0 : (∀ t ∈ slots o.op.opds, rootOk o.lean (s1.σ t) = true) ↔ (∀ t ∈ slots o.op.opds, rootOk o.lean (s2.σ t) = true) := ⟨fun h t ht => by rw [← hs t ht]; exact h t ht, fun h t ht => by rw [hs t ht]; exact h t ht⟩
    by_cases hr : ∀ t ∈ slots o.op.opds, rootOk o.lean (s1.σ t) = true
    ·rw [if_pos hr, if_pos (e0.1 hr)]
     have hmk : za8 o s1 s1 = za8 o s2 s2 := zby hs fun _ => ⟨fun _ => ⟨rfl, rfl⟩, fun _ => ⟨rfl, rfl⟩⟩
     cases h1 : evalOp cf s1 o.op with
     | none =>
      cases h2 : evalOp cf s2 o.op with
      | none => rfl
      | some q =>
       obtain ⟨x, sx⟩ := q
       have := (zc9 hp ht (st2 := s1) (fun t ht => (hs t ht).symm) h2).2
       rw [this] at h1; cases h1
     | some q =>
      obtain ⟨x, sx⟩ := q
      have := (zc9 hp ht (st2 := s2) hs h1).2
      rw [this]
      simp only [Option.bind_some, hmk]
    ·rw [if_neg hr, if_neg (fun h => hr (e0.2 h))]
  ·cases h
 ·cases h
theorem zjx {a b : AOper} {d e : Nat} {R Q : List Nat} (ha : zju cf a d R) (hb : zju cf b e Q) (hde : d ≠ e) (hdQ : d ∉ Q) (heR : e ∉ R) {st1 st2 : St} (h1 : zaq cf a st = some st1) (h2 : zaq cf b st1 = some st2) :
  ∃ st3, zaq cf b st = some st3 ∧ zaq cf a st3 = some st2 := by
 obtain ⟨V, hV, cV⟩ := ha
 obtain ⟨U, hU, cU⟩ := hb
 obtain ⟨y, hy, rfl⟩ := (hV _ _).1 h1
 obtain ⟨z, hz, rfl⟩ := (hU _ _).1 h2
 have e1 : U { st with σ := upd st.σ d y } = U st := cU _ _ (fun t ht => by simp only [upd]; rw [if_neg (show ¬ t = d from fun e => hdQ (e ▸ ht))]) rfl rfl
 have e2 : V { st with σ := upd st.σ e z } = V st := cV _ _ (fun t ht => by simp only [upd]; rw [if_neg (show ¬ t = e from fun h => heR (h ▸ ht))]) rfl rfl
 refine ⟨_, (hU _ _).2 ⟨z, by rw [← e1]; exact hz, rfl⟩, (hV _ _).2 ⟨y, by rw [e2]; exact hy, ?_⟩⟩
 simp only
 rw [zdt hde]
def AOper.reads? (o : AOper) : Option (Nat × List Nat × Bool) := match o.tlook? with
 | some (d, s, k) => some (d, k.sees s, true)
 | none => (o.plain?).map fun d => (d, slots o.op.opds, false)
theorem zgi {o : AOper} {d : Nat} {R : List Nat} {t : Bool} (h : o.reads? = some (d, R, t)) : o.guard = none ∧ zju cf o d R := by
 unfold AOper.reads? at h
 split at h
 ·rename_i d' s k hk
  simp only [Option.some.injEq, Prod.mk.injEq] at h
  obtain ⟨rfl, rfl, _⟩ := h
  exact zjv hk
 ·simp only [Option.map_eq_some_iff, Prod.mk.injEq] at h
  obtain ⟨d', hd, rfl, rfl, _⟩ := h
  exact zjw hd
def zfQ (a b : AOper) : Bool := match a.reads?, b.reads? with
 | some (d, R, t), some (e, Q, u) => (t || u) && d != e && !Q.contains d && !R.contains e
 | _, _ => false
theorem zl8 {a b : AOper} (h : zfQ a b = true) : (a.guard = none ∧ b.guard = none) ∧ ∀ {st1 st2 : St}, zaq cf a st = some st1 → zaq cf b st1 = some st2 → ∃ st3, zaq cf b st = some st3 ∧ zaq cf a st3 = some st2 := by
 unfold zfQ at h
 split at h
 ·rename_i d R t e Q u ha hb
  simp only [Bool.and_eq_true, bne_iff_ne, Bool.not_eq_true', List.contains_eq_mem, decide_eq_false_iff_not] at h
  obtain ⟨⟨⟨_, hde⟩, hdQ⟩, heR⟩ := h
  obtain ⟨g1, r1⟩ := zgi (cf := cf) ha
  obtain ⟨g2, r2⟩ := zgi (cf := cf) hb
  exact ⟨⟨g1, g2⟩, fun h1 h2 => zjx r1 r2 hde hdQ heR h1 h2⟩
 ·cases h
end
end Go.Proofs.YtakdnfneikbjjaaGreatDoor.Am

namespace Go.Proofs.YtakdnfneikbjjaaGreatDoor.Am
section
variable {cf : CF}
def AOper.off (o : AOper) : AOper := ⟨o.dst, none, o.kt, .mv (.c (.tuple [])), .none⟩
def zeW (o : AOper) (st : St) : Option AOper :=
 match o.guard with
 | none => some o
 | some (g, want) => match st.σ g with
  | .bool b => some (if b = want then o else o.off)
  | .tuple [] => some o.off
  | _ => none
theorem zjy {o : AOper} {st : St} : zaq cf o.off st = some (st.put o.kt o.dst (.tuple [])) := by
 have : (slots o.off.op.opds).all (fun s => rootOk o.off.lean (st.σ s)) = true := rfl
 have hT : o.off.op.isT = false := rfl
 unfold zaq
 rw [hT]
 simp only [Bool.false_eq_true, if_false]
 rw [if_pos this]
 simp only [AOper.off, evalOp, getO, Option.bind_some, putD, za8, zcS, selfPlace, Bool.false_eq_true, if_false]
 cases o.kt <;> rfl
theorem zgx {o : AOper} {st : St} : zcw cf o st = (zeW o st).bind fun o' => zaq cf o' st := by
 unfold zcw zeW
 cases o.guard with
 | none => rfl
 | some p =>
  obtain ⟨g, want⟩ := p
  simp only
  cases st.σ g with
  | bool b =>
   simp only [Option.bind_some]
   by_cases h : b = want
   ·rw [if_pos h, if_pos h]
   ·rw [if_neg h, if_neg h, zjy]
  | tuple vs => cases vs with
   | nil => simp only [Option.bind_some, zjy]
   | cons => rfl
  | _ => rfl
def zfp (a b : AOper) : Bool := a.fit && b.fit && zfk a b && (b.jumps a || a.jumps b || (a.stills && b.stills))
theorem ziA {o : AOper} (h : o.fit = true) : o.off.fit = true := by
 rw [zc2] at h ⊢
 exact ⟨rfl, rfl, h.2.2⟩
theorem zg0 {o a : AOper} : o.off.jumps a = true := rfl
theorem zdN {o : AOper} {s : Nat} (h : s ∈ o.off.writes) : s ∈ o.writes := by
 simp only [AOper.writes, AOper.off, AOp.opds, taken, List.nil_append, List.mem_append] at h ⊢
 exact .inr h
theorem zfq {o : AOper} {s : Nat} (h : s ∈ o.off.looks) : s ∈ o.looks := by
 simp [AOper.looks, AOper.off, AOp.opds, slots, Opd.slot?] at h
theorem ze3 {a b a' b' : AOper} (h : zfk a b = true) (h1 : ∀ s ∈ a'.writes, s ∈ a.writes) (h2 : ∀ s ∈ a'.looks, s ∈ a.looks) (h3 : ∀ s ∈ b'.writes, s ∈ b.writes) (h4 : ∀ s ∈ b'.looks, s ∈ b.looks) : zfk a' b' = true := by
 rw [zdL] at h ⊢
 exact ⟨fun s hs => ⟨fun hc => (h.1 s (h1 s hs)).1 (h4 s hc), fun hc => (h.1 s (h1 s hs)).2 (h3 s hc)⟩, fun s hs => ⟨fun hc => (h.2 s (h3 s hs)).1 (h2 s hc), fun hc => (h.2 s (h3 s hs)).2 (h1 s hc)⟩⟩
theorem zpE {a b : AOper} (h : zfp a b = true) {st st1 st2 : St} (h1 : zaq cf a st = some st1) (h2 : zaq cf b st1 = some st2) : ∃ st3, zaq cf b st = some st3 ∧ zaq cf a st3 = some st2 := by
 simp only [zfp, Bool.and_eq_true, Bool.or_eq_true] at h
 obtain ⟨⟨⟨ha, hb⟩, hap⟩, (hj | hj) | hj⟩ := h
 ·exact zlY ha hb hap hj h1 h2
 ·exact zkF ha hb hap hj h1 h2
 ·exact zlZ ha hb hap hj.1 hj.2 h1 h2
def zlj (o o' : AOper) : Prop := o' = o ∨ o' = o.off
theorem zd6 {o o' : AOper} {st : St} (h : zeW o st = some o') : zlj o o' := by
 unfold zeW at h
 split at h
 ·simp only [Option.some.injEq] at h; exact .inl h.symm
 ·split at h
  ·simp only [Option.some.injEq] at h
   split at h
   ·exact .inl h.symm
   ·exact .inr h.symm
  ·simp only [Option.some.injEq] at h; exact .inr h.symm
  ·cases h
theorem zkI {a b a' b' : AOper} (h : zfp a b = true) (ha : zlj a a') (hb : zlj b b') : zfp a' b' = true := by
 simp only [zfp, Bool.and_eq_true, Bool.or_eq_true] at h ⊢
 obtain ⟨⟨⟨h1, h2⟩, h3⟩, h4⟩ := h
 rcases ha with rfl | rfl <;> rcases hb with rfl | rfl
 ·exact ⟨⟨⟨h1, h2⟩, h3⟩, h4⟩
 ·exact ⟨⟨⟨h1, ziA h2⟩, ze3 h3 (fun _ h => h) (fun _ h => h) (fun _ h => zdN h) (fun _ h => zfq h)⟩, .inl (.inl zg0)⟩
 ·exact ⟨⟨⟨ziA h1, h2⟩, ze3 h3 (fun _ h => zdN h) (fun _ h => zfq h) (fun _ h => h) (fun _ h => h)⟩, .inl (.inr zg0)⟩
 ·exact ⟨⟨⟨ziA h1, ziA h2⟩, ze3 h3 (fun _ h => zdN h) (fun _ h => zfq h) (fun _ h => zdN h) (fun _ h => zfq h)⟩, .inl (.inl zg0)⟩
theorem zg1 {a a' : AOper} (h : zlj a a') {s : Nat} (hs : s ∈ a'.writes) : s ∈ a.writes := by
 rcases h with rfl | rfl
 ·exact hs
 ·exact zdN hs
theorem zg2 {a : AOper} (hf : a.fit = true) {st st1 : St} (h : zaq cf a st = some st1) {s : Nat} (hs : s ∉ a.writes) : zmF (st.σ s) (st1.σ s) := by
 obtain ⟨h1, h2, h3⟩ := zc2.1 hf
 obtain ⟨x, sa, hsa, hea, hra, hma, rfl⟩ := (zaF h3).1 h
 have hE := ziw h1 h2 (fun s hs => zbJ (hsa s hs)) hma hea
 simp only [AOper.writes, List.mem_append, not_or] at hs
 rw [zix fun p hp e => by
  simp only [List.mem_map] at hp
  obtain ⟨d, hd, rfl⟩ := hp
  exact hs.2 (e ▸ hd)]
 exact hE.σ s hs.1
theorem zpl {a b : AOper} (h : zfp a b = true) {st st1 st2 : St} (h1 : zcw cf a st = some st1) (h2 : zcw cf b st1 = some st2) : ∃ st3, zcw cf b st = some st3 ∧ zcw cf a st3 = some st2 := by
 simp only [zgx, Option.bind_eq_some_iff] at h1 h2 ⊢
 obtain ⟨a', ha, h1⟩ := h1
 obtain ⟨b', hb, h2⟩ := h2
 have hi := zkI h (zd6 ha) (zd6 hb)
 obtain ⟨st3, h3, h4⟩ := zpE hi h1 h2
 have hfit : a'.fit = true ∧ b'.fit = true := by simp only [zfp, Bool.and_eq_true] at hi; exact ⟨hi.1.1.1, hi.1.1.2⟩
 have hap : zfk a b = true := by simp only [zfp, Bool.and_eq_true] at h; exact h.1.2
 obtain ⟨hab, hba⟩ := zdL.1 hap
 refine ⟨st3, ⟨b', ?_, h3⟩, a', ?_, h4⟩
 ·rw [← hb]
  unfold zeW
  cases hg : b.guard with
  | none => rfl
  | some p =>
   obtain ⟨g, want⟩ := p
   have hgl : g ∈ b.looks := by simp [AOper.looks, hg]
   have hst := zg2 hfit.1 h1 (s := g) fun hw => (hab g (zg1 (zd6 ha) hw)).1 hgl
   simp only
   unfold zeW at hb
   rw [hg] at hb
   simp only at hb
   cases hb1 : st1.σ g with
   | bool t => rw [hb1] at hst; rw [zfO hst (by simp)]
   | tuple vs => cases vs with
    | nil => rw [hb1] at hst; rw [zfO hst (by simp)]
    | cons => rw [hb1] at hb; cases hb
   | _ => rw [hb1] at hb; cases hb
 ·rw [← ha]
  unfold zeW
  cases hg : a.guard with
  | none => rfl
  | some p =>
   obtain ⟨g, want⟩ := p
   have hgl : g ∈ a.looks := by simp [AOper.looks, hg]
   have hst := zg2 hfit.2 h3 (s := g) fun hw => (hba g (zg1 (zd6 hb) hw)).1 hgl
   simp only
   unfold zeW at ha
   rw [hg] at ha
   simp only at ha
   cases hb1 : st.σ g with
   | bool t => rw [hb1] at hst; rw [zfN hst rfl]
   | tuple vs => cases vs with
    | nil => rw [hb1] at hst; rw [zfN hst rfl]
    | cons => rw [hb1] at ha; cases ha
   | _ => rw [hb1] at ha; cases ha
def znZ (a b : AOper) : Bool := zfp a b || zdM a b || zes a b || zfQ a b
theorem zcE {o : AOper} (h : o.guard = none) {st : St} : zeW o st = some o := by
 unfold zeW
 rw [h]
theorem zpF {a b : AOper} (h : znZ a b = true) {st st1 st2 : St} (h1 : zcw cf a st = some st1) (h2 : zcw cf b st1 = some st2) : ∃ st3, zcw cf b st = some st3 ∧ zcw cf a st3 = some st2 := by
 rcases Bool.or_eq_true_iff.1 h with h | h
 ·rcases Bool.or_eq_true_iff.1 h with h | h
  ·rcases Bool.or_eq_true_iff.1 h with h | h
   ·exact zpl h h1 h2
   ·obtain ⟨ga, gb⟩ := zgn h
    simp only [zgx, zcE ga, zcE gb, Option.bind_some] at h1 h2 ⊢
    exact zl4 h h1 h2
  ·obtain ⟨ga, gb⟩ := zl7 h
   simp only [zgx, zcE ga, zcE gb, Option.bind_some] at h1 h2 ⊢
   exact zl6 h h1 h2
 ·obtain ⟨⟨ga, gb⟩, hs⟩ := zl8 (cf := cf) (st := st) h
  simp only [zgx, zcE ga, zcE gb, Option.bind_some] at h1 h2 ⊢
  exact hs h1 h2
theorem zox {b : AOper} {ys : List AOper} : ∀ {xs : List AOper} {st st' : St} (_ : ∀ a ∈ xs, znZ a b = true) (_ : runD cf (xs ++ b :: ys) st = some st'), runD cf (b :: (xs ++ ys)) st = some st'
 | [], _, _, _, h => h
 | a :: xs, st, st', hi, h => by
  simp only [List.cons_append, runD, Option.bind_eq_some_iff] at h
  obtain ⟨st1, h1, h2⟩ := h
  have h3 := zox (fun x hx => hi x (.tail _ hx)) h2
  simp only [runD, Option.bind_eq_some_iff] at h3
  obtain ⟨st2, h4, h5⟩ := h3
  obtain ⟨st3, h6, h7⟩ := zpF (hi a (.head _)) h1 h4
  simp only [List.cons_append, runD, Option.bind_eq_some_iff]
  exact ⟨st3, h6, st2, h7, h5⟩
theorem zjz {o : AOper} {st st' : St} (h : zcw cf o st = some st') : zb4 cf o st = some st' := by
 have hU : zaq cf o st = some st' → (evalOp cf st o.op).bind (zcS o) = some st' := fun h => by
  unfold zaq at h
  split at h
  ·exact h
  split at h
  ·simp only [Option.bind_eq_some_iff] at h ⊢
   obtain ⟨p, hp, h⟩ := h
   unfold putD at h
   split at h
   ·exact ⟨p, hp, h⟩
   ·cases h
  ·cases h
 unfold zcw at h
 unfold zb4
 split at h
 ·exact hU h
 ·split at h
  ·split at h
   ·rename_i hc; rw [if_pos hc]; exact hU h
   ·rename_i hc; rw [if_neg hc]; exact h
  ·exact h
  ·cases h
end
def zoV (acc : List Nat) (es : List Edge) : Nat := es.foldl (fun s e => if Region.binds .any e then s ||| 2 ^ e.on ||| acc.getD e.on 0 else s) 0
def zoW : List Oper → List Nat → List Nat
 | [], acc => acc
 | o :: os, acc => zoW os (acc ++ [zoV acc o.after.toList])
inductive Anc (ops : Array Oper) : Nat → Nat → Prop where
 | edge {i : Nat} {o : Oper} {e : Edge} (ho : ops[i]? = some o) (he : e ∈ o.after) (hb : Region.binds .any e = true) : Anc ops e.on i
 | step {a i : Nat} {o : Oper} {e : Edge} (ho : ops[i]? = some o) (he : e ∈ o.after) (hb : Region.binds .any e = true) (h : Anc ops a e.on) : Anc ops a i
theorem zl9 {acc : List Nat} {a : Nat} {es : List Edge} (h : (zoV acc es).testBit a = true) : ∃ e ∈ es, Region.binds .any e = true ∧ (e.on = a ∨ (acc.getD e.on 0).testBit a = true) := by
 have gen : ∀ (es : List Edge) (s : Nat), (es.foldl (fun s e => if Region.binds .any e then s ||| 2 ^ e.on ||| acc.getD e.on 0 else s) s).testBit a = true → s.testBit a = true ∨ ∃ e ∈ es, Region.binds .any e = true ∧ (e.on = a ∨ (acc.getD e.on 0).testBit a = true) := by
  intro es
  induction es with
  | nil => intro s h; exact .inl h
  | cons e es ih =>
   intro s h
   simp only [List.foldl_cons] at h
   rcases ih _ h with h1 | ⟨e', he', h1⟩
   ·by_cases hb : Region.binds .any e = true
    ·rw [if_pos hb] at h1
     simp only [Nat.testBit_or, Bool.or_eq_true] at h1
     rcases h1 with (h1 | h1) | h1
     ·exact .inl h1
     ·rw [Nat.testBit_two_pow] at h1
      exact .inr ⟨e, .head _, hb, .inl (by simpa using h1)⟩
     ·exact .inr ⟨e, .head _, hb, .inr h1⟩
    ·rw [if_neg hb] at h1; exact .inl h1
   ·exact .inr ⟨e', .tail _ he', h1⟩
 rcases gen es 0 h with h1 | h1
 ·simp at h1
 ·exact h1
theorem zh6 {ops : Array Oper} : ∀ {rest : List Oper} {acc : List Nat} {pre : List Oper} (_ : ops.toList = pre ++ rest) (_ : acc.length = pre.length) (_ : ∀ i a, (acc.getD i 0).testBit a = true → Anc ops a i) {i a : Nat} (_ : ((zoW rest acc).getD i 0).testBit a = true), Anc ops a i
 | [], acc, pre, _, _, hacc, i, a, h => hacc i a h
 | o :: rest, acc, pre, hp, hl, hacc, i, a, h => by
  refine zh6 (pre := pre ++ [o]) (rest := rest) (acc := acc ++ [zoV acc o.after.toList]) (by rw [hp]; simp) (by simp [hl]) ?_ h
  intro j b hj
  rw [List.getD_eq_getElem?_getD] at hj
  by_cases hlt : j < acc.length
  ·rw [List.getElem?_append_left hlt] at hj
   exact hacc j b (by rw [List.getD_eq_getElem?_getD]; exact hj)
  ·rw [List.getElem?_append_right (Nat.le_of_not_lt hlt)] at hj
   by_cases he : j = acc.length
   ·subst he
    simp only [Nat.sub_self, List.getElem?_cons_zero, Option.getD_some] at hj
    obtain ⟨e, he, hb, hc⟩ := zl9 hj
    have ho : ops[acc.length]? = some o := by
     rw [← Array.getElem?_toList, hp, List.getElem?_append_right (by omega), hl]; simp
    rcases hc with rfl | hc
    ·exact .edge ho (by simpa using he) hb
    ·exact .step ho (by simpa using he) hb (hacc _ _ hc)
   ·have : j - acc.length ≠ 0 := by omega
    obtain ⟨k, hk⟩ := Nat.exists_eq_succ_of_ne_zero this
    rw [hk] at hj
    simp at hj
def zjA (ops : Array Oper) (os : List AOper) : Bool :=
 let anc := zoW ops.toList []
 os.length == ops.size && (List.range ops.size).all fun i => ((ops[i]?).map fun o => o.after.toList.all fun e => !Region.binds .any e || decide (e.on < i)).getD false && (List.range i).all fun a => (anc.getD i 0).testBit a || znZ (os.getD a default) (os.getD i default)
theorem zkJ {ops : Array Oper} {os : List AOper} (h : zjA ops os = true) : os.length = ops.size ∧ (∀ i o e, ops[i]? = some o → e ∈ o.after → Region.binds .any e = true → e.on < i) ∧ ∀ i a, i < ops.size → a < i → Anc ops a i ∨ znZ (os.getD a default) (os.getD i default) = true := by
 simp only [zjA, Bool.and_eq_true, beq_iff_eq, List.all_eq_true, List.mem_range, Bool.or_eq_true] at h
 refine ⟨h.1, fun i o e ho he hb => ?_, fun i a hi ha => ?_⟩
 ·have hi : i < ops.size := (Array.getElem?_eq_some_iff.1 ho).1
  have h1 := (h.2 i hi).1
  rw [ho] at h1
  simp only [Option.map_some, Option.getD_some, List.all_eq_true, Bool.or_eq_true, Bool.not_eq_true', decide_eq_true_eq] at h1
  exact (h1 e (by simpa using he)).resolve_left (by simp [hb])
 ·rcases (h.2 i hi).2 a ha with h1 | h1
  ·exact .inl (zh6 (pre := []) (rest := ops.toList) (acc := []) rfl rfl (fun i a h => by simp at h) h1)
  ·exact .inr h1
def zbC (n : Nat) (listed : Array Bool) : List Nat := (List.range n).filter fun i => !listed.getD i true
theorem zjB {listed : Array Bool} {i j : Nat} {d : Bool} (hi : i < listed.size) : (listed.setIfInBounds i true).getD j d = if j = i then true else listed.getD j d := by
 by_cases h : j = i
 ·subst h; simp [hi]
 ·rw [if_neg h]; exact getD_set_ne d (Ne.symm h)
theorem zjC {n : Nat} {listed : Array Bool} {i : Nat} {xs ys : List Nat} (hi : i < listed.size) (h : zbC n listed = xs ++ i :: ys) : zbC n (listed.setIfInBounds i true) = xs ++ ys := by
 have e1 : zbC n (listed.setIfInBounds i true) = (zbC n listed).filter fun j => decide (j ≠ i) := by
  unfold zbC
  rw [List.filter_filter]
  apply List.filter_congr
  intro j _
  rw [zjB hi]
  by_cases h : j = i <;> simp [h]
 have hn : (zbC n listed).Nodup := (List.nodup_range).filter _
 rw [h] at hn
 rw [List.nodup_append] at hn
 have h2 := List.nodup_cons.1 hn.2.1
 rw [e1, h, List.filter_append, List.filter_cons]
 simp only [ne_eq, not_true_eq_false, decide_false, Bool.false_eq_true, if_false]
 rw [List.filter_eq_self.2 fun j hj => ?_, List.filter_eq_self.2 fun j hj => ?_]
 ·simp only [decide_not, Bool.not_eq_true', decide_eq_false_iff_not]; intro e; exact h2.1 (e ▸ hj)
 ·simp only [decide_not, Bool.not_eq_true', decide_eq_false_iff_not]; intro e; exact hn.2.2 j hj i (.head _) e
theorem zdv {n : Nat} {listed : Array Bool} {i : Nat} : i ∈ zbC n listed ↔ i < n ∧ listed.getD i true = false := by
 simp [zbC]
theorem zmM {listed : Array Bool} {i : Nat} (h : i < listed.size) : listed.getD i true = listed.getD i false := by simp [h]
theorem zmN {cf : CF} {ops : Array Oper} {os : List AOper} (hc : zjA ops os = true) : ∀ {fuel t : Nat} {listed : Array Bool} {st st' : St}, listed.size = ops.size → (zbC ops.size listed).length = fuel →
  (∀ i a, listed.getD i false = true → Anc ops a i → listed.getD a false = true) → runD cf ((zbC ops.size listed).map fun i => os.getD i default) st = some st' →
  za7 cf ((Region.linearise.go .any ops fuel t listed []).map fun i => os.getD i default) st = some st' := by
 obtain ⟨hlen, hedge, hind⟩ := zkJ hc
 have hanc : ∀ i a, Anc ops a i → a < i := fun i a h => by
  induction h with
  | edge ho he hb => exact hedge _ _ _ ho he hb
  | step ho he hb _ ih => exact Nat.lt_trans ih (hedge _ _ _ ho he hb)
 intro fuel
 induction fuel with
 | zero =>
  intro t listed st st' hsz hf hcl hr
  have := List.length_eq_zero_iff.1 hf
  rw [this] at hr
  simpa [Region.linearise.go, za7, runD] using hr
 | succ fuel ih =>
  intro t listed st st' hsz hf hcl hr
  have hne : Region.ready .any ops listed ≠ [] := by
   have hex : ∃ k, k ∈ zbC ops.size listed := by
    cases hu : zbC ops.size listed with
    | nil => rw [hu] at hf; simp at hf
    | cons x xs => exact ⟨x, .head _⟩
   obtain ⟨k, hk, hmin⟩ := zmy hex
   have hk' := zdv.1 hk
   have hmem : k ∈ Region.ready .any ops listed := by
    rw [mem_ready]
    refine ⟨hk'.2, ops[k], by rw [Array.getElem?_eq_getElem hk'.1], fun e he hb => ?_⟩
    have hlt := hedge k ops[k] e (by rw [Array.getElem?_eq_getElem hk'.1]) he hb
    cases hl : listed.getD e.on false with
    | true => rfl
    | false =>
     have := hmin e.on (zdv.2 ⟨by omega, by rw [zmM (by omega)]; exact hl⟩)
     omega
   intro e; rw [e] at hmem; cases hmem
  have hlt : t % (Region.ready .any ops listed).length < (Region.ready .any ops listed).length := Nat.mod_lt _ (by
   rcases h : Region.ready .any ops listed with _ | ⟨x, xs⟩
   ·exact absurd h hne
   ·simp)
  obtain ⟨i, hi⟩ : ∃ i, (Region.ready .any ops listed)[t % (Region.ready .any ops listed).length]? = some i := ⟨_, List.getElem?_eq_getElem hlt⟩
  have him := List.mem_of_getElem? hi
  simp only [Region.linearise.go]
  change za7 cf ((match (Region.ready .any ops listed)[t % (Region.ready .any ops listed).length]? with
   | some i => Region.linearise.go .any ops fuel (t / (Region.ready .any ops listed).length) (listed.setIfInBounds i true) [i]
   | none => [].reverse).map fun i => os.getD i default) st = some st'
  rw [hi]
  simp only
  rw [linearise_go_acc, List.reverse_singleton, List.singleton_append, List.map_cons]
  obtain ⟨hin, oi, hoi, hpre⟩ := mem_ready.1 him
  have hisz : i < ops.size := (Array.getElem?_eq_some_iff.1 hoi).1
  have hpl : ∀ a, Anc ops a i → listed.getD a false = true := fun a ha => by
   cases ha with
   | edge ho he hb => rw [hoi] at ho; cases ho; exact hpre _ he hb
   | step ho he hb h => rw [hoi] at ho; cases ho; exact hcl _ _ (hpre _ he hb) h
  obtain ⟨xs, ys, hxy⟩ := List.append_of_mem (zdv.2 ⟨hisz, hin⟩)
  have hxs : ∀ a ∈ xs, a < i ∧ listed.getD a false = false := fun a ha => by
   have hp : (zbC ops.size listed).Pairwise (· < ·) := List.pairwise_lt_range.filter _
   rw [hxy, List.pairwise_append] at hp
   have hm : a ∈ zbC ops.size listed := by rw [hxy]; exact List.mem_append_left _ ha
   have hm' := zdv.1 hm
   exact ⟨hp.2.2 a ha i (.head _), by rw [← zmM (by omega)]; exact hm'.2⟩
  rw [hxy, List.map_append, List.map_cons] at hr
  have hb := zox (fun a ha => by
   simp only [List.mem_map] at ha
   obtain ⟨a', ha', rfl⟩ := ha
   obtain ⟨h1, h2⟩ := hxs a' ha'
   rcases hind i a' hisz h1 with h3 | h3
   ·rw [hpl a' h3] at h2; cases h2
   ·exact h3) hr
  simp only [runD, Option.bind_eq_some_iff] at hb
  obtain ⟨st1, h1, h2⟩ := hb
  simp only [za7, Option.bind_eq_some_iff]
  refine ⟨st1, zjz h1, ?_⟩
  have hus := zjC (hsz ▸ hisz) hxy
  refine ih (by simpa using hsz) ?_ (fun j a hj ha => ?_) ?_
  ·rw [hus]; rw [hxy] at hf; simp at hf ⊢; omega
  ·rw [zjB (hsz ▸ hisz)] at hj ⊢
   by_cases hai : a = i
   ·rw [if_pos hai]
   ·rw [if_neg hai]
    by_cases hji : j = i
    ·subst hji; exact hpl a ha
    ·rw [if_neg hji] at hj; exact hcl j a hj ha
  ·rw [hus, List.map_append]; exact h2
theorem zpG {ops : Array Oper} : ∀ {fuel t : Nat} {listed : Array Bool} {i : Nat}, i ∈ Region.linearise.go .any ops fuel t listed [] → i < ops.size := by
 intro fuel
 induction fuel with
 | zero => intro t listed i h; simp [Region.linearise.go] at h
 | succ fuel ih =>
  intro t listed i h
  simp only [Region.linearise.go] at h
  change i ∈ (match (Region.ready .any ops listed)[t % (Region.ready .any ops listed).length]? with
   | some i => Region.linearise.go .any ops fuel (t / (Region.ready .any ops listed).length) (listed.setIfInBounds i true) [i]
   | none => [].reverse) at h
  split at h
  ·rename_i k hk
   rw [linearise_go_acc] at h
   simp only [List.reverse_singleton, List.singleton_append, List.mem_cons] at h
   rcases h with rfl | h
   ·obtain ⟨_, o, ho, _⟩ := mem_ready.1 (List.mem_of_getElem? hk)
    exact (Array.getElem?_eq_some_iff.1 ho).1
   ·exact ih h
  ·simp at h
section
variable {P : Program} {S : Nat → Bool} {nl nt : Nat}
theorem zjD [Lay P] {ops : Array Oper} {os : List AOper} : ∀ {is : List Nat} (_ : ∀ i ∈ is, ∃ oc, ops[i]? = some oc ∧ OperOK P S nl nt ops oc (os.getD i default)), seqOK P S nl nt ops is (is.map fun i => os.getD i default)
 | [], _ => .nil
 | i :: _, h => .cons (h i (.head _)) (zjD fun j hj => h j (.tail _ hj))
def zmO (P : Program) [Lay P] (S : Nat → Bool) (nl nt : Nat) (ops : Array Oper) (os : List AOper) : Prop :=
 os.length = ops.size ∧ ∀ i oc, ops[i]? = some oc → OperOK P S nl nt ops oc (os.getD i default)
theorem zeX {os : List AOper} : (List.range os.length).map (fun i => os.getD i default) = os := by
 apply List.ext_getElem
 ·simp
 ·intro i h1 h2; simp [h2]
theorem zkK [Lay P] {ops : Array Oper} {os : List AOper} (h : zmO P S nl nt ops os) (hm : (P.follows .mixedOrders || !Region.departs ops) = true) (hc : zjA ops os = true) : zld P S nl nt ops true os := by
 intro t
 have hs : Region.schedule (P.follows .mixedOrders) ops t = Region.linearise.go .any ops ops.size t (Array.replicate ops.size false) [] := by
  unfold Region.schedule; rw [if_pos hm]; rfl
 refine ⟨_, by rw [hs]; exact zjD fun i hi => ⟨ops[i]'(zpG hi), Array.getElem?_eq_getElem _, h.2 i _ (Array.getElem?_eq_getElem _)⟩, fun cf st st' hr => ?_⟩
 have hu : zbC ops.size (Array.replicate ops.size false) = List.range ops.size := by
  unfold zbC
  rw [List.filter_eq_self]
  intro i hi
  simp [List.mem_range.1 hi]
 refine zmN hc (by simp) (by rw [hu]; simp) (fun i a hi _ => by
  have : (Array.replicate ops.size false).getD i false = false := by simp [Array.getElem?_replicate]; split <;> rfl
  rw [this] at hi; cases hi) ?_
 rw [hu, ← h.1, zeX]
 exact hr
end
end Go.Proofs.YtakdnfneikbjjaaGreatDoor.Am

namespace Go.Proofs.YtakdnfneikbjjaaGreatDoor.Am
section
variable {P : Program} {S : Nat → Bool} {nl : Nat} {oc : Oper} {w : World}
def leafRel (x : V) (v : Value) : Prop :=
 match x with
 | .int k a => v = .int k a
 | .bool b => v = .bool b
 | .str s => ∃ b : ByteArray, v = .string b ∧ b.data.toList = s
 | _ => True
theorem R1.leafRel {g : G} {n : Nat} {x : V} {v : Value} (h : R1 g w n x v) : leafRel x v := by
 cases x with
 | int k a => exact R3.int (n := n) (τ := fun _ => undef) h
 | bool b => exact R3.bool (n := n) (τ := fun _ => undef) h
 | str s => exact R3.str (n := n) (τ := fun _ => undef) h
 | _ => trivial
theorem zmP (a b : ByteArray) : (a == b) = (a.data.toList == b.data.toList) := by
 rw [beq_toListBytes, ByteArray.toList_eq, ByteArray.toList_eq]
def LK.at (P : Program) (k : LK) (t : TypeId) : Prop :=
 match k with
 | .bool => P.underlying t = some .bool
 | .int => ∃ q, P.underlying t = some (.int q)
 | .str => P.underlying t = some .string
theorem zn0 {k : LK} {t : TypeId} (ht : k.at P t) {x y : V} {b : Bool} (h : zf5 k x y = some b) {u v : Value} (hu : leafRel x u) (hv : leafRel y v) (D : Nat) : (Op.equalIn (D + 1) t u v).run P w = .ok b w := by
 cases k with
 | bool =>
  cases x <;> cases y <;> simp only [zf5, Option.some.injEq, reduceCtorEq] at h
  subst h
  have e1 : u = .bool _ := hu
  have e2 : v = .bool _ := hv
  subst e1; subst e2
  simp [Op.equalIn, run_underlying ht]
 | int =>
  obtain ⟨q, ht⟩ := ht
  cases x with
  | int k1 a1 =>
   cases y with
   | int k2 a2 =>
    simp only [zf5] at h
    split at h
    ·rename_i hk
     simp only [Option.some.injEq] at h
     subst h
     have e1 : u = .int k1 a1 := hu
     have e2 : v = .int k2 a2 := hv
     subst e1; subst e2
     simp [Op.equalIn, run_underlying ht, hk]
    ·cases h
   | _ => cases h
  | _ => cases h
 | str =>
  cases x with
  | str s1 =>
   cases y with
   | str s2 =>
    simp only [zf5, Option.some.injEq] at h
    obtain ⟨b1, e1, h1⟩ := hu
    obtain ⟨b2, e2, h2⟩ := hv
    subst e1; subst e2
    rw [← h1, ← h2, ← zmP] at h
    simp [Op.equalIn, run_underlying ht, h]
   | _ => cases h
  | _ => cases h
theorem zg3 {ks ls : List LK} : ∀ {Xs Ys : List V} {b : Bool}, zbq (ks ++ ls) Xs Ys = some b → ∃ b1 b2, zbq ks (Xs.take ks.length) (Ys.take ks.length) = some b1 ∧ zbq ls (Xs.drop ks.length) (Ys.drop ks.length) = some b2 ∧ b = (b1 && b2) := by
 induction ks with
 | nil => intro Xs Ys b h; exact ⟨true, b, rfl, h, by simp⟩
 | cons k ks ih =>
  intro Xs Ys b h
  cases Xs with
  | nil => cases Ys <;> cases h
  | cons x Xs =>
   cases Ys with
   | nil => cases h
   | cons y Ys =>
    simp only [List.cons_append, zbq, Option.bind_eq_some_iff, Option.some.injEq] at h
    obtain ⟨c, hc, c2, hc2, rfl⟩ := h
    obtain ⟨b1, b2, h1, h2, rfl⟩ := ih hc2
    refine ⟨c && b1, b2, ?_, h2, by rw [Bool.and_assoc]⟩
    simp [zbq, hc, h1]
theorem zet : ∀ {ks : List LK} {Xs Ys : List V} {b : Bool}, zbq ks Xs Ys = some b → Xs.length = ks.length ∧ Ys.length = ks.length
 | [], [], [], _, _ => ⟨rfl, rfl⟩
 | k :: ks, x :: Xs, y :: Ys, b, h => by
  simp only [zbq, Option.bind_eq_some_iff] at h
  obtain ⟨c, _, c2, hc2, _⟩ := h
  have := zet hc2
  simp [this]
 | [], [], _ :: _, _, h => by cases h
 | [], _ :: _, [], _, h => by cases h
 | [], _ :: _, _ :: _, _, h => by cases h
 | _ :: _, [], [], _, h => by cases h
 | _ :: _, [], _ :: _, _, h => by cases h
 | _ :: _, _ :: _, [], _, h => by cases h
def zbD (Xs : List V) (A : Array Value) (off : Nat) : Prop := ∀ i, i < Xs.length → ∃ v, A[off + i]? = some v ∧ leafRel (Xs.getD i .undef) v
theorem zbD.take {Xs : List V} {A : Array Value} {off n : Nat} (h : zbD Xs A off) : zbD (Xs.take n) A off := fun i hi => by
 simp only [List.length_take] at hi
 obtain ⟨v, h1, h2⟩ := h i (by omega)
 refine ⟨v, h1, ?_⟩
 rw [List.getD_eq_getElem?_getD] at h2 ⊢
 rw [List.getElem?_take, if_pos (by omega)]; exact h2
theorem zbD.drop {Xs : List V} {A : Array Value} {off n : Nat} (h : zbD Xs A off) : zbD (Xs.drop n) A (off + n) := fun i hi => by
 simp only [List.length_drop] at hi
 obtain ⟨v, h1, h2⟩ := h (n + i) (by omega)
 refine ⟨v, by rw [Nat.add_assoc]; exact h1, ?_⟩
 rw [List.getD_eq_getElem?_getD] at h2 ⊢
 rw [List.getElem?_drop]; exact h2
theorem zbD.extract {Xs : List V} {A : Array Value} {off : Nat} (h : zbD Xs A off) : zbD Xs (A.extract off (off + Xs.length)) 0 := fun i hi => by
 obtain ⟨v, h1, h2⟩ := h i hi
 refine ⟨v, ?_, h2⟩
 have hlt := (Array.getElem?_eq_some_iff.1 h1).1
 rw [Nat.zero_add, Array.getElem?_extract, if_pos (by omega)]
 exact h1
theorem zh7 {F : TypeId → Option (List LK)} {D : Nat} {A B : Array Value}
  (hF : ∀ t ks, F t = some ks → ∀ (Xs Ys : List V) off b, zbD Xs A off → zbD Ys B off → zbq ks Xs Ys = some b → ∃ u v, (part t A off).run P w = .ok u w ∧ (part t B off).run P w = .ok v w ∧ (Op.equalIn D t u v).run P w = .ok b w) :
  ∀ {fs : List Field} {n : Nat} {ks : List LK} {Xs Ys : List V} {b : Bool}, zgI F n fs = some ks → zbD Xs A n → zbD Ys B n → zbq ks Xs Ys = some b → (Op.eqFields D A B fs).run P w = .ok b w
 | [], n, ks, Xs, Ys, b, h, _, _, hl => by
  simp only [zgI, Option.some.injEq] at h
  subst h
  cases Xs <;> cases Ys <;> simp [zbq] at hl
  subst hl
  simp [Op.eqFields]
 | f :: fs, n, ks, Xs, Ys, b, h, hX, hY, hl => by
  simp only [zgI] at h
  split at h
  ·rename_i hc
   simp only [Option.bind_eq_some_iff, Option.some.injEq] at h
   obtain ⟨k1, hk1, k2, hk2, rfl⟩ := h
   obtain ⟨b1, b2, h1, h2, rfl⟩ := zg3 hl
   obtain ⟨u, v, e1, e2, e3⟩ := hF f.type k1 hk1 _ _ n b1 hX.take hY.take h1
   have e4 := zh7 hF hk2 hX.drop hY.drop h2
   simp only [Op.eqFields, hc.2, if_pos hc.1, Sem.run_bind, e1, e2, e3, Result.andThen_ok, Sem.run_ite]
   cases b1 with
   | true => simp [e4]
   | false => simp
  ·cases h
theorem zmQ : ∀ {d : Nat} {t : TypeId} {ks : List LK}, zgJ P d t = some ks → ∀ {D : Nat}, d ≤ D → ∀ (A B : Array Value) (Xs Ys : List V) (off : Nat) (b : Bool), zbD Xs A off → zbD Ys B off → zbq ks Xs Ys = some b →
  ∃ u v, (part t A off).run P w = .ok u w ∧ (part t B off).run P w = .ok v w ∧ (Op.equalIn D t u v).run P w = .ok b w := by
 intro d
 induction d with
 | zero => intro t ks h; cases h
 | succ d ih =>
  intro t ks h D hD A B Xs Ys off b hX hY hl
  obtain ⟨D', rfl⟩ : ∃ D', D = D' + 1 := ⟨D - 1, by omega⟩
  have leaf : ∀ k : LK, ks = [k] → k.at P t → (∃ u, P.underlying t = some u ∧ (∀ fs, u ≠ .struct fs) ∧ ∀ n e, u ≠ .array n e) → ∃ u v, (part t A off).run P w = .ok u w ∧ (part t B off).run P w = .ok v w ∧ (Op.equalIn (D' + 1) t u v).run P w = .ok b w := fun k hk hat hu => by
   subst hk
   obtain ⟨ud, hud, hn1, hn2⟩ := hu
   have hagg : (isAgg t).run P w = .ok false w := by
    simp only [isAgg, Sem.run_bind, run_underlying hud, Result.andThen_ok]
    cases ud <;> first | rfl | exact absurd rfl (hn1 _) | exact absurd rfl (hn2 _ _)
   cases Xs with
   | nil => cases Ys <;> cases hl
   | cons x Xs =>
    cases Ys with
    | nil => cases hl
    | cons y Ys =>
     simp only [zbq, Option.bind_eq_some_iff, Option.some.injEq] at hl
     obtain ⟨c, hc, c2, hc2, rfl⟩ := hl
     cases Xs <;> cases Ys <;> simp [zbq] at hc2
     subst hc2
     obtain ⟨u, hu1, hu2⟩ := hX 0 (by simp)
     obtain ⟨v, hv1, hv2⟩ := hY 0 (by simp)
     simp only [Nat.add_zero] at hu1 hv1
     refine ⟨u, v, ?_, ?_, ?_⟩
     ·simp [part, hagg, hu1]
     ·simp [part, hagg, hv1]
     ·rw [Bool.and_true]; exact zn0 hat hc hu2 hv2 D'
  simp only [zgJ] at h
  cases hu : P.underlying t with
  | none => rw [hu] at h; cases h
  | some ud =>
   rw [hu] at h
   cases ud with
   | bool => simp only [Option.some.injEq] at h; exact leaf .bool h.symm hu ⟨_, hu, (fun _ e => TypeDesc.noConfusion e), (fun _ _ e => TypeDesc.noConfusion e)⟩
   | int q => simp only [Option.some.injEq] at h; exact leaf .int h.symm ⟨q, hu⟩ ⟨_, hu, (fun _ e => TypeDesc.noConfusion e), (fun _ _ e => TypeDesc.noConfusion e)⟩
   | string => simp only [Option.some.injEq] at h; exact leaf .str h.symm hu ⟨_, hu, (fun _ e => TypeDesc.noConfusion e), (fun _ _ e => TypeDesc.noConfusion e)⟩
   | struct fs =>
    simp only at h
    split at h
    ·cases h
    ·rename_i hst
     simp only [Option.bind_eq_some_iff] at h
     obtain ⟨ks', hks, h⟩ := h
     split at h
     ·rename_i hsz
      simp only [Option.some.injEq] at h
      subst h
      obtain ⟨lx, ly⟩ := zet hl
      have hagg : (isAgg t).run P w = .ok true w := by simp [isAgg, run_underlying hu]
      have hsize : (sizeOf t).run P w = .ok ks'.length w := by
       simp only [zaV, Option.map_eq_some_iff] at hsz
       obtain ⟨i, hi, hi2⟩ := hsz
       simp [sizeOf, typeInfo, hi, hi2]
      refine ⟨.agg (A.extract off (off + ks'.length)), .agg (B.extract off (off + ks'.length)), ?_, ?_, ?_⟩
      ·simp [part, hagg, hsize]
      ·simp [part, hagg, hsize]
      ·have hfo : P.fieldsOf t = fs := by simp [Program.fieldsOf, hu]
       rw [run_equalIn_struct w D' t _ _ (by rw [hfo]; exact hu) (by simpa using hst), hfo]
       refine zh7 (F := zgJ P d) (fun t' ks'' hk Xs' Ys' off' b' h1 h2 h3 => ih hk (by omega) _ _ Xs' Ys' off' b' h1 h2 h3) hks (Xs := Xs) (Ys := Ys) ?_ ?_ hl
       ·rw [← lx]; exact hX.extract
       ·rw [← ly]; exact hY.extract
     ·cases h
   | _ => cases h
theorem R2.cells {g : G} {n : Nat} {τ : Nat → Value} {cs : List V} {v : Value} (h : R3 g w n τ (.agg cs) v) : ∃ arr, v = .agg arr ∧ zbD cs arr 0 ∧ arr.size = cs.length := by
 obtain ⟨arr, e, hs, hk⟩ := h
 refine ⟨arr, e, fun i hi => ⟨arr.getD i undef, ?_, (hk i hi).2.leafRel⟩, hs⟩
 rw [Nat.zero_add, Array.getD_eq_getD_getElem?, Array.getElem?_eq_getElem (by omega)]; rfl
theorem zfR [Lay P] {op : BinOp} {t u : TypeId} {x y : Operand} {ox oy : Opd} {kind : EqK} (hop : oc.op = .binOp op t x y u) (he : op = .eql ∨ op = .neq) (hx : za2 S x ox) (hy : za2 S y oy)
  (hk : ∀ (g : G) (n : Nat) (τ : Nat → Value) (w : World) (p q : V) (b : Bool) (u v : Value), eqV kind p q = some b → R3 g w n τ p u → R3 g w n τ q v →
   (∀ D, 50 ≤ D → (Op.equalIn (D + 1) t u v).run P w = .ok b w) ∧ (eqGuard op t x y u v).run P w = .ok () w ∧ binOp .eql t u v = (do pure (.bool (← Op.equal t u v))) ∧ binOp .neq t u v = (do pure (.bool (!(← Op.equal t u v))))) :
  OpOK P S nl oc (.eq (zpf op) kind ox oy) := by
 intro cf g w fr st a z st' _ h hev K Q k
 simp only [evalOp, Option.bind_eq_some_iff, Option.some.injEq, Prod.mk.injEq] at hev
 obtain ⟨p, hp, q, hq, b, hb, rfl, rfl⟩ := hev
 obtain ⟨hx1, _, _⟩ := h.getC hx hp
 obtain ⟨hy1, _, _⟩ := h.getC hy hq
 obtain ⟨h1, h2, h3, h4⟩ := hk g st.m.length (tsAt a.tmps) w p q b _ _ hb hx1 hy1
 have h1' : (Op.equal t (a.eval x) (a.eval y)).run P w = .ok b w := h1 9999 (by omega)
 rcases he with rfl | rfl
 ·refine zav h k (v := .bool b) ?_ (RB.bool _) rfl (fun d hd => by cases hd)
  simp [execOp, hop, h2, h3, h1']
 ·refine zav h k (v := .bool !b) ?_ (RB.bool _) rfl (fun d hd => by cases hd)
  simp [execOp, hop, h2, h4, h1']
theorem zn1 {p q : V} {b : Bool} (h : eqV .bool p q = some b) : ∃ x y, p = .bool x ∧ q = .bool y ∧ b = (x == y) := by
 unfold eqV at h
 split at h <;> first | (rename_i heq; cases heq; done) | (simp only [Option.some.injEq] at h; exact ⟨_, _, rfl, rfl, h.symm⟩) | cases h
def isPtr : V → Prop
 | .ptr _ _ | .loc _ _ => True
 | _ => False
def isSl : V → Prop
 | .slice _ _ _ => True
 | _ => False
def isFn : V → Prop
 | .func _ _ => True
 | _ => False
theorem eqV_ptr {p q : V} {b : Bool} (h : eqV .ptr p q = some b) : (p = .nilp ∧ q = .nilp ∧ b = true) ∨ (p = .nilp ∧ isPtr q ∧ b = false) ∨ (isPtr p ∧ q = .nilp ∧ b = false) := by
 unfold eqV at h
 split at h <;> first | (rename_i heq; cases heq; done) | (cases h; done) | (cases h; first | exact .inl ⟨rfl, rfl, rfl⟩ | exact .inr (.inl ⟨rfl, trivial, rfl⟩) | exact .inr (.inr ⟨trivial, rfl, rfl⟩))
theorem eqV_slice {p q : V} {b : Bool} (h : eqV .slice p q = some b) : (p = .nils ∧ q = .nils ∧ b = true) ∨ (p = .nils ∧ isSl q ∧ b = false) ∨ (isSl p ∧ q = .nils ∧ b = false) := by
 unfold eqV at h
 split at h <;> first | (rename_i heq; cases heq; done) | (cases h; done) | (cases h; first | exact .inl ⟨rfl, rfl, rfl⟩ | exact .inr (.inl ⟨rfl, trivial, rfl⟩) | exact .inr (.inr ⟨trivial, rfl, rfl⟩))
theorem eqV_func {p q : V} {b : Bool} (h : eqV .func p q = some b) : (p = .nilf ∧ q = .nilf ∧ b = true) ∨ (p = .nilf ∧ isFn q ∧ b = false) ∨ (isFn p ∧ q = .nilf ∧ b = false) := by
 unfold eqV at h
 split at h <;> first | (rename_i heq; cases heq; done) | (cases h; done) | (cases h; first | exact .inl ⟨rfl, rfl, rfl⟩ | exact .inr (.inl ⟨rfl, trivial, rfl⟩) | exact .inr (.inr ⟨trivial, rfl, rfl⟩))
theorem zmR {p q : V} {b : Bool} (h : eqV .iface p q = some b) : p = .nili ∧ q = .nili ∧ b = true := by
 unfold eqV at h
 split at h <;> first | (rename_i heq; cases heq; done) | (cases h; done) | (cases h; exact ⟨rfl, rfl, rfl⟩)
theorem zmS {ks : List LK} {p q : V} {b : Bool} (h : eqV (.plain ks) p q = some b) : ∃ cs ds, p = .agg cs ∧ q = .agg ds ∧ zbq ks cs ds = some b := by
 unfold eqV at h
 split at h <;> first | (rename_i heq; cases heq; done) | (rename_i heq; cases heq; exact ⟨_, _, rfl, rfl, h⟩) | cases h
section
variable {g : G} {n : Nat} {τ : Nat → Value} {z : V} {zv : Value}
theorem R3.isPtr (h : R3 g w n τ z zv) (hz : isPtr z) : ∃ ad, zv = .pointer (some ad) := by
 cases z with
 | ptr b o => exact ⟨_, h.2⟩
 | loc j o => exact ⟨_, h⟩
 | _ => exact hz.elim
theorem R3.isSl (h : R3 g w n τ z zv) (hz : isSl z) : ∃ ad l c, zv = .slice (some ad) l c := by
 cases z with
 | slice o sz xs =>
  cases o with
  | true => obtain ⟨_, _, _, _, h1, _⟩ := h; exact ⟨_, _, _, h1⟩
  | false =>
   have h' : RB g.pers w (.slice false sz xs) zv := h
   cases h'; exact ⟨_, _, _, rfl⟩
 | _ => exact hz.elim
theorem R3.isFn (h : R3 g w n τ z zv) (hz : isFn z) : ∃ f a b, zv = .func f a b := by
 cases z with
 | func f cs => obtain ⟨vs, e, _⟩ := h; exact ⟨_, _, _, e⟩
 | _ => exact hz.elim
end
theorem zkL {d : Nat} {t : TypeId} {ks : List LK} {fs : Array Field} (hks : zgJ P (d + 1) t = some ks) (hu : P.underlying t = some (.struct fs)) : zaV P t = some ks.length := by
 simp only [zgJ, hu] at hks
 split at hks
 ·cases hks
 ·simp only [Option.bind_eq_some_iff] at hks
  obtain ⟨ks', _, hks⟩ := hks
  split at hks
  ·rename_i hsz
   simp only [Option.some.injEq] at hks
   rw [← hks]; exact hsz
  ·cases hks
theorem zoy [Lay P] {op : BinOp} {t u : TypeId} {x y : Operand} {ox oy : Opd} {o : AOp} (hop : oc.op = .binOp op t x y u) (he : op = .eql ∨ op = .neq) (hx : za2 S x ox) (hy : za2 S y oy) (hc : cEq P op t ox oy = some o) : OpOK P S nl oc o := by
 have guard : ∀ (u v : Value) (w : World), (∀ a b, ¬ (u = .agg a ∧ v = .agg b)) → (¬ (u = .nilIface ∧ v = .nilIface)) → (eqGuard op t x y u v).run P w = .ok () w := fun u v w h1 h2 => by
  unfold eqGuard
  rcases he with rfl | rfl <;> simp only [Bool.not_true, Bool.false_eq_true, if_false] <;> (split <;> first | (exact absurd ⟨rfl, rfl⟩ h2) | (exact absurd ⟨rfl, rfl⟩ (h1 _ _)) | rfl)
 simp only [cEq] at hc
 cases hu : P.underlying t with
 | none => rw [hu] at hc; cases hc
 | some ud =>
  rw [hu] at hc
  cases ud with
  | bool =>
   simp only [Option.some.injEq] at hc
   subst hc
   refine zfR hop he hx hy fun g n τ w p q b u v hq h1 h2 => ?_
   obtain ⟨x, y, rfl, rfl, rfl⟩ := zn1 hq
   rw [R3.bool h1, R3.bool h2]
   exact ⟨fun D _ => by simp [Op.equalIn, run_underlying hu], guard _ _ w (by simp) (by simp), rfl, rfl⟩
  | int k =>
   simp only [Option.some.injEq] at hc
   subst hc
   exact zmi hop hx hy
  | string =>
   simp only [Option.some.injEq] at hc
   subst hc
   exact zmi hop hx hy
  | pointer e =>
   simp only [Option.some.injEq] at hc
   subst hc
   refine zfR hop he hx hy fun g n τ w p q b u v hq h1 h2 => ?_
   rcases eqV_ptr hq with ⟨rfl, rfl, rfl⟩ | ⟨rfl, hz, rfl⟩ | ⟨hz, rfl, rfl⟩
   ·rw [R3.nilp h1, R3.nilp h2]
    exact ⟨fun D _ => by simp [Op.equalIn, run_underlying hu], guard _ _ w (by simp) (by simp), rfl, rfl⟩
   ·obtain ⟨ad, rfl⟩ := R3.isPtr h2 hz
    rw [R3.nilp h1]
    exact ⟨fun D _ => by simp [Op.equalIn, run_underlying hu], guard _ _ w (by simp) (by simp), rfl, rfl⟩
   ·obtain ⟨ad, rfl⟩ := R3.isPtr h1 hz
    rw [R3.nilp h2]
    exact ⟨fun D _ => by simp [Op.equalIn, run_underlying hu], guard _ _ w (by simp) (by simp), rfl, rfl⟩
  | struct fs =>
   simp only at hc
   split at hc
   ·cases hc
   ·rename_i hg
    simp only [Option.map_eq_some_iff] at hc
    obtain ⟨ks, hks, rfl⟩ := hc
    refine zfR hop he hx hy fun g n τ w p q b u v hq h1 h2 => ?_
    obtain ⟨cs, ds, rfl, rfl, hq⟩ := zmS hq
    obtain ⟨A, rfl, hA, hAs⟩ := R2.cells h1
    obtain ⟨B, rfl, hB, hBs⟩ := R2.cells h2
    obtain ⟨l1, l2⟩ := zet hq
    have hagg : (isAgg t).run P w = .ok true w := by simp [isAgg, run_underlying hu]
    have hsz := zkL (d := 49) hks hu
    have hsize : (sizeOf t).run P w = .ok ks.length w := by
     simp only [zaV, Option.map_eq_some_iff] at hsz
     obtain ⟨i, hi, hi2⟩ := hsz
     simp [sizeOf, typeInfo, hi, hi2]
    have p1 : (part t A 0).run P w = .ok (.agg A) w := by
     simp [part, hagg, hsize, ← l1, ← hAs]
    have p2 : (part t B 0).run P w = .ok (.agg B) w := by
     simp [part, hagg, hsize, ← l2, ← hBs]
    refine ⟨fun D hD => ?_, ?_, rfl, rfl⟩
    ·obtain ⟨u, v, e1, e2, e3⟩ := zmQ (w := w) hks (D := D + 1) (by omega) A B cs ds 0 b hA hB hq
     rw [p1] at e1
     rw [p2] at e2
     cases e1; cases e2
     exact e3
    ·unfold eqGuard
     have hg' : P.eqGuardType P.depth t = false := by simpa using hg
     rcases he with rfl | rfl <;> simp [hg']
  | slice e =>
   simp only [Option.some.injEq] at hc
   subst hc
   refine zfR hop he hx hy fun g n τ w p q b u v hq h1 h2 => ?_
   rcases eqV_slice hq with ⟨rfl, rfl, rfl⟩ | ⟨rfl, hz, rfl⟩ | ⟨hz, rfl, rfl⟩
   ·rw [R3.nils h1, R3.nils h2]
    exact ⟨fun D _ => by simp [Op.equalIn, run_underlying hu], guard _ _ w (by simp) (by simp), rfl, rfl⟩
   ·obtain ⟨ad, l, c, rfl⟩ := R3.isSl h2 hz
    rw [R3.nils h1]
    exact ⟨fun D _ => by simp [Op.equalIn, run_underlying hu], guard _ _ w (by simp) (by simp), rfl, rfl⟩
   ·obtain ⟨ad, l, c, rfl⟩ := R3.isSl h1 hz
    rw [R3.nils h2]
    exact ⟨fun D _ => by simp [Op.equalIn, run_underlying hu], guard _ _ w (by simp) (by simp), rfl, rfl⟩
  | func _ _ _ =>
   simp only [Option.some.injEq] at hc
   subst hc
   refine zfR hop he hx hy fun g n τ w p q b u v hq h1 h2 => ?_
   rcases eqV_func hq with ⟨rfl, rfl, rfl⟩ | ⟨rfl, hz, rfl⟩ | ⟨hz, rfl, rfl⟩
   ·rw [R3.nilf h1, R3.nilf h2]
    exact ⟨fun D _ => by simp [Op.equalIn, run_underlying hu], guard _ _ w (by simp) (by simp), rfl, rfl⟩
   ·obtain ⟨ad, l, c, rfl⟩ := R3.isFn h2 hz
    rw [R3.nilf h1]
    exact ⟨fun D _ => by simp [Op.equalIn, run_underlying hu], guard _ _ w (by simp) (by simp), rfl, rfl⟩
   ·obtain ⟨ad, l, c, rfl⟩ := R3.isFn h1 hz
    rw [R3.nilf h2]
    exact ⟨fun D _ => by simp [Op.equalIn, run_underlying hu], guard _ _ w (by simp) (by simp), rfl, rfl⟩
  | interface ms =>
   simp only at hc
   split at hc
   ·simp only [Option.some.injEq] at hc
    subst hc
    have hyc : ∃ v, y = .const v := by
     cases y with
     | const v => exact ⟨v, rfl⟩
     | func f => cases hy
     | _ => exact hy.elim
    obtain ⟨vc, rfl⟩ := hyc
    refine zfR hop he hx hy fun g n τ w p q b u v hq h1 h2 => ?_
    obtain ⟨rfl, rfl, rfl⟩ := zmR hq
    rw [R3.nili h1, R3.nili h2]
    refine ⟨fun D _ => by simp [Op.equalIn, run_underlying hu], ?_, rfl, rfl⟩
    unfold eqGuard
    rcases he with rfl | rfl <;> simp
   ·cases hc
  | _ => cases hc
end
end Go.Proofs.YtakdnfneikbjjaaGreatDoor.Am

namespace Go.Proofs.YtakdnfneikbjjaaGreatDoor.Am
section
variable {P : Program} {oc : Oper} {S : Nat → Bool} {nl : Nat}
theorem zmT [Lay P] {src dst : TypeId} {x : Operand} {o : Opd} {k : IntKind} (hop : oc.op = .convert src dst x) (hs : P.underlying src = some (.int k)) (hd : P.underlying dst = some .string)
  (ho : za2 S x o) : OpOK P S nl oc (.intStr o) := by
 intro cf g w fr st a y st' _ h he K Q kk
 simp only [evalOp, Option.bind_eq_some_iff] at he
 obtain ⟨u, hu, he⟩ := he
 obtain ⟨h1, _, _⟩ := h.getC ho hu
 cases u with
 | int kd n =>
  simp only [Option.some.injEq, Prod.mk.injEq] at he
  obtain ⟨rfl, rfl⟩ := he
  exact zav h kk (v := .string (Utf8.encode n)) (by simp [execOp, hop, R3.int h1, convert, run_underlying hs, run_underlying hd, Conv.intToString]) (RB.str _) rfl (fun d hd => by cases hd)
 | _ => cases he
theorem zma {w : World} {c : Nat} {arr : Array Value} {e : TypeId} (hB : Blk w c arr e) : Blk (w.freeze ⟨c, arr.size, none⟩ 1) c arr e ∧ Wrote w (w.freeze ⟨c, arr.size, none⟩ 1) c ∧ w.shape? c = some (e, arr.size) := by
 obtain ⟨⟨lo, hi⟩, h1, h2, h3⟩ := hB
 have hh : (w.freeze ⟨c, arr.size, none⟩ 1).heap[c]? = some (.cells arr e (if lo == hi then (arr.size, arr.size + 1) else (min lo arr.size, max hi (arr.size + 1)))) := by
  unfold World.freeze
  rw [if_neg (by decide)]
  show (w.heap.modify c _)[c]? = _
  rw [Array.getElem?_modify, if_pos rfl, h1]
  rfl
 refine ⟨⟨_, hh, fun k hk => ?_, ?_⟩, ⟨fun d hd => ?_, ?_, ?_, ?_, ?_⟩, ?_⟩
 ·by_cases hl : lo = hi
  ·subst hl; simp only [beq_self_eq_true, if_true]; omega
  ·have hb : (lo == hi) = false := by simpa using hl
   rw [hb]
   simp only [Bool.false_eq_true, if_false]
   simp only at h2 h3
   have hlo : arr.size ≤ lo := by
    rcases Nat.lt_or_ge lo arr.size with hlt | hge
    ·exact absurd ⟨Nat.le_refl lo, by omega⟩ (h2 lo hlt)
    ·exact hge
   omega
 ·by_cases hl : lo = hi
  ·subst hl; simp only [beq_self_eq_true, if_true]; omega
  ·have hb : (lo == hi) = false := by simpa using hl
   rw [hb]
   simp only [Bool.false_eq_true, if_false]
   simp only at h3
   omega
 ·unfold World.freeze
  rw [if_neg (by decide)]
  exact zgQ hd
 ·unfold World.freeze; simp
 ·unfold World.freeze; rw [if_neg (by decide)]
 ·unfold World.freeze; rw [if_neg (by decide)]
 ·unfold World.freeze; rw [if_neg (by decide)]
 ·unfold World.shape?; rw [h1]
theorem zn2 [Lay P] {src e : TypeId} {x : Operand} {o : Opd} (hop : oc.op = .convert src src x) (hs : P.underlying src = some (.slice e)) (he8 : P.underlying e = some (.int .u8))
  (ho : za2 S x o) : OpOK P S nl oc (.convB o) := by
 intro cf g w fr st a y st' _ h he K Q kk
 simp only [evalOp, Option.bind_eq_some_iff] at he
 obtain ⟨p, hp, he⟩ := he
 obtain ⟨px, st1⟩ := p
 obtain ⟨g1, hg1, hs1, hm1, _⟩ := h.getO ho hp
 cases px with
 | slice own z xs =>
  cases own with
  | false => cases he
  | true =>
   simp only at he
   split at he
   ·rename_i hz
    subst hz
    simp only [Option.some.injEq, Prod.mk.injEq] at he
    obtain ⟨rfl, rfl⟩ := he
    have hown := hs1.pend _ (.head _)
    obtain ⟨ad, cap, arr, e3, ex, hsp, hcap, hB, hroom, hE⟩ := R3.sliceT hown
    simp only at ex
    rw [ex] at hs1
    obtain ⟨hB', hW, hsh⟩ := zma hB
    obtain ⟨o1, o2, o3, o4, o5, o6⟩ := hs1.own_only
    have hO : OwnS g1.pers (w.freeze ⟨ad.block, arr.size, none⟩ 1) 1 xs (.slice (some ad) xs.length cap) :=
     ⟨ad, cap, arr, e3, rfl, hsp, hcap, hB', hroom, hE.1, fun i k hi hk => by
      obtain ⟨v, hv, hr⟩ := hE.2 i k hi hk
      refine ⟨v, ?_, hr.mono fun c hc => ⟨hc, hW.same c fun e => o5 (e ▸ hc)⟩⟩
      rw [hB.cell] at hv
      rw [hB'.cell]; exact hv⟩
    have h3 := hs1.ownWrite hW rfl hO
    refine zaZ (v := .slice (some ad) xs.length cap) (w' := w.freeze ⟨ad.block, arr.size, none⟩ 1) ?_ (kk _ g1 _ h3 ((Ext.gext hg1 w).trans (Ext.wrote hW o5 o6) (Nat.le_refl st.m.length)) (by rw [hm1]; exact Nat.le_refl _))
    simp [execOp, hop, ex, convert, run_underlying hs, run_underlying he8, markStringish, hsh]
   ·cases he
 | _ => cases he
theorem zn3 [Lay P] : OpOK P S nl oc (.lenStr (.c .undef)) := by
 intro cf g w fr st a y st' _ h he
 simp only [evalOp, getC, Option.bind_some] at he
 cases he
end
end Go.Proofs.YtakdnfneikbjjaaGreatDoor.Am

namespace Go.Proofs.YtakdnfneikbjjaaGreatDoor.Am
section
variable {P : Program} {S : Nat → Bool} {nl : Nat} {oc : Oper}
theorem zh8 {α : Type} {k : Nat} {v : α} : ∀ {l : List (Nat × α)}, l.lookup k = some v → (k, v) ∈ l
 | [], h => by cases h
 | (k', v') :: l, h => by
  simp only [List.lookup] at h
  split at h
  ·rename_i hk
   simp only [Option.some.injEq] at h
   have : k = k' := by simpa using hk
   subst this h
   exact .head _
  ·exact .tail _ (zh8 h)
theorem zpm [Lay P] {h : Hint} (hbox : ∀ j, h.box = some j → j < nl) {op : Op} (hop : oc.op = op) {o : AOp} (hc : cOp P S h op = some o) : OpOK P S nl oc o := by
 cases op with
 | move x =>
  simp only [cOp] at hc
  split at hc
  ·split at hc
   ·rename_i hS
    simp only [Option.some.injEq] at hc
    subst hc
    exact zow (.inl hop) hS
   ·cases hc
  ·simp only [Option.map_eq_some_iff] at hc; obtain ⟨o1, h1, rfl⟩ := hc; exact zph (.inl hop) (zaY h1)
 | assign x =>
  simp only [cOp] at hc
  split at hc
  ·split at hc
   ·rename_i hS
    simp only [Option.some.injEq] at hc
    subst hc
    exact zow (.inr hop) hS
   ·cases hc
  ·simp only [Option.map_eq_some_iff] at hc; obtain ⟨o1, h1, rfl⟩ := hc; exact zph (.inr hop) (zaY h1)
 | pick c a b =>
  simp only [cOp, Option.bind_eq_some_iff, Option.map_eq_some_iff] at hc
  obtain ⟨o1, h1, o2, h2, o3, h3, rfl⟩ := hc
  exact zoK hop (zaY h1) (zaY h2) (zaY h3)
 | alloc e =>
  simp only [cOp] at hc
  split at hc
  ·rename_i z hz
   split at hc
   ·rename_i j hj
    simp only [Option.some.injEq] at hc; subst hc
    exact zmr hop hz (hbox j hj)
   ·simp only [Option.some.injEq] at hc; subst hc
    exact zms hop hz
  ·cases hc
 | box t x =>
  simp only [cOp] at hc
  split at hc
  ·rename_i j hj
   simp only [Option.map_eq_some_iff] at hc
   obtain ⟨o1, h1, rfl⟩ := hc
   exact zoN hop (zaY h1) (hbox j hj)
  ·simp only [Option.map_eq_some_iff] at hc
   obtain ⟨o1, h1, rfl⟩ := hc
   exact zoO hop (zaY h1)
 | build t parts =>
  simp only [cOp] at hc
  split at hc
  ·rename_i fs z ht hz
   simp only [Option.bind_eq_some_iff, Option.map_eq_some_iff] at hc
   obtain ⟨pl, hpl, ps, hps, rfl⟩ := hc
   exact zlb hop (.inl ⟨fs, pl, ht, hpl, rfl⟩) hz hps
  ·rename_i k e z ht hz
   simp only [Option.bind_eq_some_iff, Option.map_eq_some_iff] at hc
   obtain ⟨n, hn, ps, hps, rfl⟩ := hc
   exact zlb hop (.inr ⟨k, e, n, ht, hn, rfl⟩) hz hps
  ·cases hc
 | buildSlice t len parts =>
  simp only [cOp] at hc
  split at hc
  ·rename_i e ht
   split at hc
   ·rename_i i z hi hz
    split at hc
    ·rename_i hcc
     simp only [Option.map_eq_some_iff] at hc
     obtain ⟨ps, hps, rfl⟩ := hc
     exact zil hop ht hi hz hcc.1 hcc.2.1 hcc.2.2 hps
    ·cases hc
   ·cases hc
  ·cases hc
 | load t p =>
  simp only [cOp, Option.bind_eq_some_iff, Option.map_eq_some_iff] at hc
  obtain ⟨q, hq, o1, h1, rfl⟩ := hc
  split
  ·exact zmu hop hq (zaY h1)
  ·exact znU (zmu hop hq (zaY h1))
 | store t p x =>
  simp only [cOp, Option.bind_eq_some_iff, Option.map_eq_some_iff] at hc
  obtain ⟨n, hn, o1, h1, o2, h2, rfl⟩ := hc
  exact znO hop hn (zaY h1) (zaY h2)
 | nilCheck x => simp only [cOp, Option.map_eq_some_iff] at hc; obtain ⟨o1, h1, rfl⟩ := hc; exact zkk hop (zaY h1)
 | binOp op t x y u =>
  simp only [cOp, Option.bind_eq_some_iff] at hc
  obtain ⟨o1, h1, o2, h2, hc⟩ := hc
  split at hc
  ·exact zoy hop (.inl rfl) (zaY h1) (zaY h2) hc
  ·exact zoy hop (.inr rfl) (zaY h1) (zaY h2) hc
  ·simp only [Option.some.injEq] at hc; subst hc
   exact zmi hop (zaY h1) (zaY h2)
 | unOp op t x => simp only [cOp, Option.map_eq_some_iff] at hc; obtain ⟨o1, h1, rfl⟩ := hc; exact zpC hop (zaY h1)
 | convert src dst x =>
  simp only [cOp, Option.bind_eq_some_iff] at hc
  obtain ⟨o1, h1, hc⟩ := hc
  split at hc
  ·rename_i k1 k2 hs hd
   simp only [Option.some.injEq] at hc; subst hc
   exact zoL hop hs hd (zaY h1)
  ·rename_i hs hd
   simp only [Option.some.injEq] at hc; subst hc
   exact zmj hop hs hd (zaY h1)
  ·rename_i e hs hd
   split at hc
   ·rename_i he
    simp only [Option.some.injEq] at hc; subst hc
    exact zkr hop hs hd he (zaY h1)
   ·cases hc
  ·rename_i e hs hd
   split at hc
   ·rename_i he
    simp only [Option.some.injEq] at hc; subst hc
    exact zkq hop hs he hd (zaY h1)
   ·cases hc
  ·rename_i k hs hd
   simp only [Option.some.injEq] at hc; subst hc
   exact zmT hop hs hd (zaY h1)
  ·rename_i e e2 hs hd
   split at hc
   ·rename_i he
    split at hc
    ·rename_i hsd
     subst hsd
     simp only [Option.some.injEq] at hc; subst hc
     exact zn2 hop hs he (zaY h1)
    ·cases hc
   ·cases hc
  ·cases hc
 | makeSlice t l c =>
  simp only [cOp] at hc
  split at hc
  ·rename_i e ht
   split at hc
   ·rename_i i z hi hz
    split at hc
    ·rename_i hcc
     simp only [Option.bind_eq_some_iff, Option.map_eq_some_iff] at hc
     obtain ⟨o1, h1, o2, h2, rfl⟩ := hc
     exact zi1 hop ht hi hz hcc.1 hcc.2.1 hcc.2.2 (zaY h1) (zaY h2)
    ·cases hc
   ·cases hc
  ·cases hc
 | slice t x lo hi mx =>
  cases mx with
  | some _ => cases hc
  | none =>
   simp only [cOp] at hc
   split at hc
   ·rename_i ht
    simp only [Option.bind_eq_some_iff, Option.map_eq_some_iff] at hc
    obtain ⟨o1, h1, o2, h2, o3, h3, rfl⟩ := hc
    exact zmn hop ht (zaY h1) (zla h2) (zla h3)
   ·rename_i e ht
    simp only [Option.bind_eq_some_iff, Option.map_eq_some_iff] at hc
    obtain ⟨n, hn, o1, h1, o2, h2, o3, h3, rfl⟩ := hc
    exact zmo hop ht hn (zaY h1) (zla h2) (zla h3)
   ·cases hc
 | fieldAddr s x f =>
  simp only [cOp] at hc
  split at hc
  ·rename_i fs hs
   split at hc
   ·rename_i fd hf
    split at hc
    ·rename_i n hn
     split at hc
     ·cases hc
     ·rename_i hn0
      simp only [Option.map_eq_some_iff] at hc
      obtain ⟨o1, h1, rfl⟩ := hc
      exact ziY hop hs hf hn hn0 (zaY h1)
    ·cases hc
   ·cases hc
  ·cases hc
 | field t x f =>
  simp only [cOp] at hc
  split at hc
  ·rename_i fs hs
   split at hc
   ·rename_i fd hf
    simp only [Option.bind_eq_some_iff, Option.map_eq_some_iff] at hc
    obtain ⟨q, hq, o1, h1, rfl⟩ := hc
    exact znM hop hs hf hq (zaY h1)
   ·cases hc
  ·cases hc
 | indexAddr t x i =>
  have keyT : ∀ gl, x = .global gl → OpOK P S nl oc o := fun gl hx => by
   subst hx
   simp only [cOp] at hc
   split at hc
   ·rename_i len e ht
    simp only [Option.bind_eq_some_iff] at hc
    obtain ⟨q, hq, hc⟩ := hc
    obtain ⟨z, xs⟩ := q
    split at hc
    ·rename_i hz
     simp only [Option.map_eq_some_iff] at hc
     obtain ⟨o2, h2, rfl⟩ := hc
     exact zpi hop ht hz.1 (zh8 hq) hz.2 (zaY h2)
    ·cases hc
   ·cases hc
  by_cases hgx : ∃ gl, x = .global gl
  ·obtain ⟨gl, hx⟩ := hgx
   exact keyT gl hx
  have hc : (match P.underlying t with
   | some (.array len e) => (zaV P e).bind fun n => (cO S h x).bind fun o => (cO S h i).map fun j => AOp.indexArr len n o j
   | some (.slice e) => (zaV P e).bind fun n => (cO S h x).bind fun o => (cO S h i).map fun j => AOp.indexSl n o j
   | _ => none) = some o := by
   cases x with
   | global gl => exact absurd ⟨gl, rfl⟩ hgx
   | _ => exact hc
  split at hc
  ·rename_i len e ht
   simp only [Option.bind_eq_some_iff, Option.map_eq_some_iff] at hc
   obtain ⟨n, hn, o1, h1, o2, h2, rfl⟩ := hc
   exact zkm hop ht hn (zaY h1) (zaY h2)
  ·rename_i e ht
   simp only [Option.bind_eq_some_iff, Option.map_eq_some_iff] at hc
   obtain ⟨n, hn, o1, h1, o2, h2, rfl⟩ := hc
   exact zlN hop ht hn (zaY h1) (zaY h2)
  ·cases hc
 | index t x i =>
  simp only [cOp] at hc
  split at hc
  ·rename_i len e ht
   simp only [Option.bind_eq_some_iff] at hc
   obtain ⟨q, hq, n, hn, hc⟩ := hc
   split at hc
   ·rename_i hqn
    simp only [Option.bind_eq_some_iff, Option.map_eq_some_iff] at hc
    obtain ⟨o1, h1, o2, h2, rfl⟩ := hc
    exact zkp hop ht hq hn hqn (zaY h1) (zaY h2)
   ·cases hc
  ·rename_i ht
   simp only [Option.bind_eq_some_iff, Option.map_eq_some_iff] at hc
   obtain ⟨o1, h1, o2, h2, rfl⟩ := hc
   exact zkn hop ht (zaY h1) (zaY h2)
  ·cases hc
 | extract x i => simp only [cOp, Option.map_eq_some_iff] at hc; obtain ⟨o1, h1, rfl⟩ := hc; exact zlM hop (zaY h1)
 | makeFunc fn first captured =>
  cases fn with
  | func f =>
   simp only [cOp] at hc
   split at hc
   ·rename_i hf
    simp only [Option.map_eq_some_iff] at hc
    obtain ⟨os, hos, rfl⟩ := hc
    exact zml ⟨first, hop, hf⟩ (zga hos)
   ·cases hc
  | _ => cases hc
 | call c =>
  simp only [cOp] at hc
  unfold zpg at hc
  split at hc
  ·rename_i f hcal
   split at hc
   ·rename_i fn hfn
    split at hc
    ·simp only [Option.map_eq_some_iff] at hc
     obtain ⟨os, hos, rfl⟩ := hc
     split
     ·exact znS hop hcal (zga hos)
     ·split
      ·exact znP hop hcal (zga hos)
      ·exact znT hop hcal (zga hos)
    ·cases hc
   ·cases hc
  ·rename_i s hcal
   simp only [Option.bind_eq_some_iff, Option.map_eq_some_iff] at hc
   obtain ⟨o1, h1, os, hos, rfl⟩ := hc
   exact znQ hop hcal (zaY h1) (zga hos)
  ·rename_i x hcal hargs
   split at hc
   ·rename_i t hat
    split at hc
    ·rename_i ht
     simp only [Option.map_eq_some_iff] at hc
     obtain ⟨o1, h1, rfl⟩ := hc
     exact zmk hop hcal hargs hat ht (zaY h1)
    ·rename_i e ht
     simp only [Option.map_eq_some_iff] at hc
     obtain ⟨o1, h1, rfl⟩ := hc
     exact znL hop hcal hargs hat ht (zaY h1)
    ·rename_i n e ht
     simp only [Option.some.injEq] at hc; subst hc
     exact zoM hop hcal hargs hat ht
    ·cases hc
   ·cases hc
  ·rename_i x y hcal hargs
   split at hc
   ·rename_i t u hat
    have hat' : c.argTypes = #[t, u] := by rw [← Array.toArray_toList (xs := c.argTypes), hat]
    split at hc
    ·rename_i e ht
     split at hc
     ·rename_i i z e' hi hz hu
      split at hc
      ·rename_i hcc
       simp only [Option.bind_eq_some_iff, Option.map_eq_some_iff] at hc
       obtain ⟨o1, h1, o2, h2, rfl⟩ := hc
       exact zi7 hop hcal hargs hat' ht (.inl ⟨_, hu⟩) hi hz hcc.2.1 hcc.1 hcc.2.2 (zaY h1) (zaY h2)
      ·cases hc
     ·rename_i i z hi hz hu
      split at hc
      ·rename_i hcc
       simp only [Option.bind_eq_some_iff, Option.map_eq_some_iff] at hc
       obtain ⟨o1, h1, o2, h2, rfl⟩ := hc
       exact zi7 hop hcal hargs hat' ht (.inr hu) hi hz hcc.2.1 hcc.1 (by omega) (zaY h1) (zaY h2)
      ·cases hc
     ·cases hc
    ·cases hc
   ·cases hc
  ·rename_i x ys hcal hargs
   simp only [Option.bind_eq_some_iff, Option.map_eq_some_iff] at hc
   obtain ⟨o1, h1, os, hos, rfl⟩ := hc
   exact ziZ (mx := false) hop hcal hargs (zaY h1) (zga hos)
  ·rename_i x ys hcal hargs
   simp only [Option.bind_eq_some_iff, Option.map_eq_some_iff] at hc
   obtain ⟨o1, h1, os, hos, rfl⟩ := hc
   exact ziZ (mx := true) hop hcal hargs (zaY h1) (zga hos)
  ·cases hc
 | _ => cases hc
end
structure Plan where
 peeks : List Nat := []
 nl : Nat := 0
 hints : List ((Nat × Nat) × Hint) := []
 live : List (List Nat) := []
def Plan.S (p : Plan) : Nat → Bool := fun s => p.peeks.contains s
def Plan.hint (p : Plan) (id i : Nat) : Hint := (p.hints.lookup (id, i)).getD {}
def zoX (P : Program) [Lay P] (p : Plan) (nt : Nat) (ops : Array Oper) (h : Hint) (o : Oper) : Option AOper :=
 (some (match h.name with
  | some s => toT s ((cOp P p.S h o.op).getD (.lenStr (.c .undef)))
  | none => (cOp P p.S h o.op).getD (.lenStr (.c .undef)))).bind fun a =>
  if (o.dst.all fun d => decide (d < nt)) && (h.box.all fun j => decide (j < p.nl)) then
   match o.guard with
   | none => some ⟨o.dst, none, (o.dst.map p.S).getD false, a, h.mark⟩
   | some (j, want) => match (ops[j]?).bind (·.dst) with
    | some s => if s < nt then some ⟨o.dst, some (s, want), (o.dst.map p.S).getD false, a, h.mark⟩ else none
    | none => none
  else none
def zjE (P : Program) [Lay P] (p : Plan) (nt id : Nat) (ops : Array Oper) : Nat → List Oper → Option (List AOper)
 | _, [] => some []
 | i, o :: os => (zoX P p nt ops (p.hint id i) o).bind fun a => (zjE P p nt id ops (i + 1) os).bind fun zs9 => some (a :: zs9)
def zmU : Option Operand → Option Nat
 | none => some 0
 | some (.const (.int _ n)) => if 0 ≤ n then some n.toNat else none
 | _ => none
def zoY (P : Program) (p : Plan) (nt : Nat) (oc1 oc2 : Oper) : Option (AOper × AOper) :=
 match oc1.op, oc2.op, oc1.dst with
 | .slice t (.tmp s) ol none none, .call c, some d1 => match P.underlying t, c.callee, c.args.toList with
  | some (.slice e), .value (.func f), [.tmp d] => (zaV P e).bind fun n => (zmU ol).bind fun lo =>
   if d1 < nt ∧ s ≠ d1 ∧ d = d1 ∧ oc1.guard = none ∧ oc2.guard = none ∧ (oc2.dst.all fun d => decide (d < nt)) = true then
    some (⟨some d1, none, p.S d1, .mv (.c .undef), .none⟩, ⟨oc2.dst, none, (oc2.dst.map p.S).getD false, .lend f n (.t s) lo, .none⟩) else none
  | _, _, _ => none
 | _, _, _ => none
def zjF (P : Program) (p : Plan) (nt id : Nat) (ops : Array Oper) : List Nat → List AOper → List AOper
 | i :: j :: is, o1 :: o2 :: os => match (if (p.hint id i).lend then (ops[i]?).bind fun a => (ops[j]?).bind fun b => zoY P p nt a b else none) with
  | some q => q.1 :: q.2 :: zjF P p nt id ops is os
  | none => o1 :: zjF P p nt id ops (j :: is) (o2 :: os)
 | _, os => os
def cCode (P : Program) [Lay P] (p : Plan) (nt : Nat) : Code → List (List Nat) → Option (ACode × List (List Nat))
 | .skip, ls => some (.skip, ls)
 | .label _, ls => some (.skip, ls)
 | .region id ops draw, ls => (zjE P p nt id ops 0 ops.toList).bind fun os =>
   if draw then (if (P.follows .mixedOrders || !Region.departs ops) && zjA ops os then some (.region true os, ls) else none) else some (.region false (zjF P p nt id ops (List.range ops.size) os), ls)
 | .seq a b, ls => (cCode P p nt a ls).bind fun x => (cCode P p nt b x.2).bind fun y => some (.seq x.1 y.1, y.2)
 | .cond c t e, ls => (cO p.S {} c).bind fun o => (cCode P p nt t ls).bind fun x => (cCode P p nt e x.2).bind fun y => some (.cond o x.1 y.1, y.2)
 | .block i b, ls => (cCode P p nt b ls).bind fun x => some (.block i x.1, x.2)
 | .loop b, ls => match ls with
  | l :: ls => (cCode P p nt b ls).bind fun x => some (.loop l x.1, x.2)
  | [] => none
 | .exit i, ls => some (.exit i, ls)
 | .ret, ls => some (.ret, ls)
 | .scope b, ls => cCode P p nt b ls
 | .rangeFunc _ _ _ _, ls => some (.cond (.c .undef) .skip .skip, ls)
 | _, _ => none
def cRes (P : Program) : ResultVar → Option ARes
 | .tmp t => some (.tmp t)
 | .cell t ty => (zfc P ty).map fun q => .cell t q.1 q.2
def zmV (P : Program) : List ResultVar → Option (List ARes)
 | [] => some []
 | r :: rs => (cRes P r).bind fun a => (zmV P rs).bind fun zs9 => some (a :: zs9)
def zap (P : Program) [Lay P] (p : Plan) (f : Nat) : Option AFunc :=
 (P.funcs[f]?).bind fun fn => fn.body.bind fun c =>
  if fn.name == "runtime.NumGoroutine" then none else
   (cCode P p fn.ntmps c p.live).bind fun x => (zmV P fn.results.toList).bind fun rs =>
    let np := fn.params.size + fn.nfree
    if np ≤ fn.ntmps then some ⟨np, fn.ntmps, p.nl, rs, x.1⟩ else none
section
variable {P : Program} {p : Plan} {nt : Nat}
theorem zn4 [Lay P] {ops : Array Oper} {h : Hint} {o : Oper} {a : AOper} (hc : zoX P p nt ops h o = some a) : OperOK P p.S p.nl nt ops o a := by
 simp only [zoX, Option.bind_eq_some_iff] at hc
 obtain ⟨x, hx, hc⟩ := hc
 split at hc
 ·rename_i hcc
  simp only [Bool.and_eq_true] at hcc
  have hok : (∀ j, h.box = some j → j < p.nl) → OpOK P p.S p.nl o x := fun hb => by
   simp only [Option.some.injEq] at hx
   have h0 : OpOK P p.S p.nl o ((cOp P p.S h o.op).getD (.lenStr (.c .undef))) := by
    cases hcop : cOp P p.S h o.op with
    | none => exact zn3
    | some a => exact zpm hb rfl hcop
   split at hx
   ·subst hx; exact zpj h0
   ·subst hx; exact h0
  have hbox : ∀ j, h.box = some j → j < p.nl := fun j hj => by have := hcc.2; rw [hj] at this; simpa using this
  have hd : ∀ d, o.dst = some d → d < nt := fun d hd => by have := hcc.1; rw [hd] at this; simpa using this
  have hlt : ∀ d, o.dst = some d → d < nt ∧ ((o.dst.map p.S).getD false = true ∨ p.S d = false) := fun d hd' => ⟨hd d hd', by rw [hd']; cases h : p.S d <;> simp [h]⟩
  split at hc
  ·rename_i hg
   simp only [Option.some.injEq] at hc; subst hc
   exact ⟨rfl, hlt, .inl ⟨hg, rfl⟩, hok hbox⟩
  ·rename_i j want hg
   split at hc
   ·rename_i s hs
    split at hc
    ·rename_i hlt'
     simp only [Option.some.injEq] at hc; subst hc
     exact ⟨rfl, hlt, .inr ⟨j, want, s, hg, rfl, hs, hlt'⟩, hok hbox⟩
    ·cases hc
   ·cases hc
 ·cases hc
theorem zjG [Lay P] {ops : Array Oper} {id : Nat} : ∀ {l : List Oper} {i : Nat} {os : List AOper}, zjE P p nt id ops i l = some os → os.length = l.length ∧ ∀ k oc, l[k]? = some oc → OperOK P p.S p.nl nt ops oc (os.getD k default)
 | [], i, os, hc => by
  simp only [zjE, Option.some.injEq] at hc; subst hc
  exact ⟨rfl, fun k oc h => by simp at h⟩
 | o :: l, i, os, hc => by
  simp only [zjE, Option.bind_eq_some_iff, Option.some.injEq] at hc
  obtain ⟨a, ha, zs9, has, rfl⟩ := hc
  obtain ⟨h1, h2⟩ := zjG has
  refine ⟨by simp [h1], fun k oc hk => ?_⟩
  cases k with
  | zero => simp only [List.getElem?_cons_zero, Option.some.injEq] at hk; subst hk; exact zn4 ha
  | succ k => simp only [List.getElem?_cons_succ] at hk; exact h2 k oc hk
theorem zn5 [Lay P] {oc1 oc2 : Oper} {q : AOper × AOper} (h : zoY P p nt oc1 oc2 = some q) : oc1.guard = none ∧ oc2.guard = none ∧ zmw P p.S p.nl nt oc1 oc2 q.1 q.2 := by
 unfold zoY at h
 split at h
 ·rename_i t s ol c d1 h1 h2 hd1
  split at h
  ·rename_i e f d ht hc ha
   simp only [Option.bind_eq_some_iff] at h
   obtain ⟨n, hn, lo, hlo, h⟩ := h
   split at h
   ·rename_i hcc
    obtain ⟨q1, q2, q3, q4, q5, q6⟩ := hcc
    simp only [Option.some.injEq] at h
    subst h
    subst q3
    refine ⟨q4, q5, zmx (ox := .t s) h1 ht hn ?_ hd1 q1 q2 ?_ h2 hc (by rw [← Array.toArray_toList (xs := c.args), ha]) rfl rfl rfl rfl fun d hd => ⟨by rw [hd] at q6; simpa using q6, ?_⟩⟩
    ·cases ol with
     | none => simp only [zmU, Option.some.injEq] at hlo; exact .inl ⟨rfl, hlo.symm⟩
     | some o =>
      cases o with
      | const v =>
       cases v with
       | int k m =>
        simp only [zmU] at hlo
        split at hlo
        ·rename_i hm
         simp only [Option.some.injEq] at hlo
         refine .inr ⟨k, ?_⟩
         rw [← hlo, Int.toNat_of_nonneg hm]
        ·cases hlo
       | _ => cases hlo
      | _ => cases hlo
    ·cases p.S d <;> simp
    ·rw [hd]; cases hh : p.S d <;> simp [hh]
   ·cases h
  ·cases h
 ·cases h
def zlk (P : Program) [Lay P] (S : Nat → Bool) (nl nt : Nat) (ops : Array Oper) : List Nat → List AOper → Prop
 | [], [] => True
 | i :: is, o :: os => (∃ oc, ops[i]? = some oc ∧ OperOK P S nl nt ops oc o) ∧ zlk P S nl nt ops is os
 | _, _ => False
theorem zh9 [Lay P] {S : Nat → Bool} {nl : Nat} {ops : Array Oper} {os : List AOper} : ∀ {is : List Nat} (_ : ∀ i ∈ is, ∃ oc, ops[i]? = some oc ∧ OperOK P S nl nt ops oc (os.getD i default)), zlk P S nl nt ops is (is.map fun i => os.getD i default)
 | [], _ => trivial
 | i :: _, h => ⟨h i (.head _), zh9 fun j hj => h j (.tail _ hj)⟩
theorem zmb [Lay P] {S : Nat → Bool} {nl : Nat} {ops : Array Oper} {os : List AOper} (h : zmO P S nl nt ops os) : zlk P S nl nt ops (List.range ops.size) os := by
 have := zh9 (P := P) (S := S) (nl := nl) (nt := nt) (ops := ops) (os := os) (is := List.range ops.size) fun i hi => ⟨ops[i]'(List.mem_range.1 hi), Array.getElem?_eq_getElem _, h.2 i _ (Array.getElem?_eq_getElem _)⟩
 rw [← h.1, zeX, h.1] at this
 exact this
theorem zg4 [Lay P] {ops : Array Oper} {id : Nat} : ∀ {is : List Nat} {os : List AOper}, zlk P p.S p.nl nt ops is os → seqOK P p.S p.nl nt ops is (zjF P p nt id ops is os)
 | [], [], _ => .nil
 | [_], [_], h => .cons h.1 .nil
 | i :: j :: is, o1 :: o2 :: os, ⟨h1, h2, h3⟩ => by
  unfold zjF
  split
  ·rename_i q hq
   split at hq
   ·simp only [Option.bind_eq_some_iff] at hq
    obtain ⟨a, ha, b, hb, hq⟩ := hq
    obtain ⟨k1, k2, k3⟩ := zn5 hq
    exact .pair ⟨a, b, ha, hb, k1, k2, k3⟩ (zg4 h3)
   ·cases hq
  ·exact .cons h1 (zg4 ⟨h2, h3⟩)
 | [], _ :: _, h => h.elim
 | _ :: _, [], h => h.elim
 | [_], _ :: _ :: _, h => h.2.elim
 | _ :: _ :: _, [_], h => h.2.elim
theorem zn6 [Lay P] : ∀ {c : Code} {ls ls' : List (List Nat)} {ac : ACode}, cCode P p nt c ls = some (ac, ls') → zee P p.S p.nl nt c ac := by
 intro c
 induction c with
 | skip => intro ls ls' ac hc; simp only [cCode, Option.some.injEq, Prod.mk.injEq] at hc; obtain ⟨rfl, _⟩ := hc; trivial
 | label _ => intro ls ls' ac hc; simp only [cCode, Option.some.injEq, Prod.mk.injEq] at hc; obtain ⟨rfl, _⟩ := hc; trivial
 | region id ops draw =>
  intro ls ls' ac hc
  simp only [cCode, Option.bind_eq_some_iff] at hc
  obtain ⟨os, hos, hc⟩ := hc
  obtain ⟨h1, h2⟩ := zjG hos
  have he : zmO P p.S p.nl nt ops os := ⟨by simpa using h1, fun i oc hi => h2 i oc (by simpa using hi)⟩
  cases draw with
  | true =>
   simp only [if_true] at hc
   split at hc
   ·rename_i hcc
    simp only [Bool.and_eq_true] at hcc
    simp only [Option.some.injEq, Prod.mk.injEq] at hc; obtain ⟨rfl, _⟩ := hc
    exact ⟨rfl, zkK he hcc.1 hcc.2⟩
   ·cases hc
  | false =>
   simp only [Bool.false_eq_true, if_false, Option.some.injEq, Prod.mk.injEq] at hc; obtain ⟨rfl, _⟩ := hc
   exact ⟨rfl, zg4 (zmb he)⟩
 | seq a b iha ihb =>
  intro ls ls' ac hc
  simp only [cCode, Option.bind_eq_some_iff, Option.some.injEq, Prod.mk.injEq] at hc
  obtain ⟨x, hx, y, hy, rfl, _⟩ := hc
  exact ⟨iha hx, ihb hy⟩
 | cond c t e iht ihe =>
  intro ls ls' ac hc
  simp only [cCode, Option.bind_eq_some_iff, Option.some.injEq, Prod.mk.injEq] at hc
  obtain ⟨o, ho, x, hx, y, hy, rfl, _⟩ := hc
  exact ⟨zaY ho, iht hx, ihe hy⟩
 | block i b ih =>
  intro ls ls' ac hc
  simp only [cCode, Option.bind_eq_some_iff, Option.some.injEq, Prod.mk.injEq] at hc
  obtain ⟨x, hx, rfl, _⟩ := hc
  exact ⟨rfl, ih hx⟩
 | loop b ih =>
  intro ls ls' ac hc
  simp only [cCode] at hc
  split at hc
  ·simp only [Option.bind_eq_some_iff, Option.some.injEq, Prod.mk.injEq] at hc
   obtain ⟨x, hx, rfl, _⟩ := hc
   exact ih hx
  ·cases hc
 | exit i => intro ls ls' ac hc; simp only [cCode, Option.some.injEq, Prod.mk.injEq] at hc; obtain ⟨rfl, _⟩ := hc; exact rfl
 | ret => intro ls ls' ac hc; simp only [cCode, Option.some.injEq, Prod.mk.injEq] at hc; obtain ⟨rfl, _⟩ := hc; trivial
 | scope b ih => intro ls ls' ac hc; simp only [cCode] at hc; exact ih hc
 | rangeFunc f ps a b => intro ls ls' ac hc; simp only [cCode, Option.some.injEq, Prod.mk.injEq] at hc; obtain ⟨rfl, _⟩ := hc; trivial
 | _ => intro ls ls' ac hc; cases hc
theorem zll : ∀ {rs : List ResultVar} {zs9 : List ARes}, zmV P rs = some zs9 → zle P rs zs9
 | [], zs9, hc => by simp only [zmV, Option.some.injEq] at hc; subst hc; trivial
 | r :: rs, zs9, hc => by
  simp only [zmV, Option.bind_eq_some_iff, Option.some.injEq] at hc
  obtain ⟨a, ha, zs9', has, rfl⟩ := hc
  refine ⟨?_, zll has⟩
  cases r with
  | tmp t => simp only [cRes, Option.some.injEq] at ha; subst ha; rfl
  | cell t ty => simp only [cRes, Option.map_eq_some_iff] at ha; obtain ⟨q, hq, rfl⟩ := ha; exact ⟨rfl, hq⟩
theorem zae [Lay P] {f : Nat} {af : AFunc} (hc : zap P p f = some af) : zjc P f af := by
 simp only [zap, Option.bind_eq_some_iff] at hc
 obtain ⟨fn, hfn, c, hbody, hc⟩ := hc
 split at hc
 ·cases hc
 ·rename_i hname
  simp only [Option.bind_eq_some_iff] at hc
  obtain ⟨x, hx, rs, hrs, hc⟩ := hc
  split at hc
  ·rename_i hnp
   simp only [Option.some.injEq] at hc; subst hc
   exact ⟨fn, c, p.S, hfn, hbody, by simpa using hname, rfl, hnp, zn6 hx, zll hrs⟩
  ·cases hc
end
end Go.Proofs.YtakdnfneikbjjaaGreatDoor.Am

namespace Go.Proofs.YtakdnfneikbjjaaGreatDoor.Am
def Le (cf1 cf2 : CF) : Prop := ∀ f a m x, cf1 f a m = some x → cf2 f a m = some x
section
variable {cf1 cf2 : CF}
theorem zg5 (h : Le cf1 cf2) {st : St} {op : AOp} {y : V × St} (he : evalOp cf1 st op = some y) : evalOp cf2 st op = some y := by
 cases op with
 | callF f args =>
  simp only [evalOp, Option.bind_eq_some_iff] at he ⊢
  obtain ⟨p, hp, he⟩ := he
  refine ⟨p, hp, ?_⟩
  split at he
  ·rename_i hc
   rw [if_pos hc]
   simp only [Option.bind_eq_some_iff] at he ⊢
   obtain ⟨r, hr, he⟩ := he
   exact ⟨r, h _ _ _ _ hr, he⟩
  ·cases he
 | callP f args =>
  simp only [evalOp, Option.bind_eq_some_iff] at he ⊢
  obtain ⟨p, hp, he⟩ := he
  refine ⟨p, hp, ?_⟩
  split at he
  ·rename_i hc
   rw [if_pos hc]
   simp only [Option.bind_eq_some_iff] at he ⊢
   obtain ⟨r, hr, he⟩ := he
   exact ⟨r, h _ _ _ _ hr, he⟩
  ·cases he
 | callN f args ws =>
  simp only [evalOp, Option.bind_eq_some_iff] at he ⊢
  obtain ⟨us, hus, p, hp, he⟩ := he
  refine ⟨us, hus, p, hp, ?_⟩
  split at he
  ·rename_i hc
   rw [if_pos hc]
   simp only [Option.bind_eq_some_iff] at he ⊢
   obtain ⟨r, hr, he⟩ := he
   exact ⟨r, h _ _ _ _ hr, he⟩
  ·cases he
 | lend f z x lo =>
  simp only [evalOp, Option.bind_eq_some_iff] at he ⊢
  obtain ⟨v, hv, xs, hxs, he⟩ := he
  refine ⟨v, hv, xs, hxs, ?_⟩
  split at he
  ·rename_i hc
   rw [if_pos hc]
   simp only [Option.bind_eq_some_iff] at he ⊢
   obtain ⟨r, hr, he⟩ := he
   exact ⟨r, h _ _ _ _ hr, he⟩
  ·cases he
 | callV f args =>
  simp only [evalOp, Option.bind_eq_some_iff] at he ⊢
  obtain ⟨v, hv, he⟩ := he
  refine ⟨v, hv, ?_⟩
  cases v with
  | func g cap =>
   simp only [Option.bind_eq_some_iff] at he ⊢
   obtain ⟨p, hp, he⟩ := he
   refine ⟨p, hp, ?_⟩
   split at he
   ·rename_i hc
    rw [if_pos hc]
    simp only [Option.bind_eq_some_iff] at he ⊢
    obtain ⟨r, hr, he⟩ := he
    exact ⟨r, h _ _ _ _ hr, he⟩
   ·cases he
  | _ => cases he
 | _ => exact he
theorem zaW {α β : Type} {o1 o2 : Option α} {f1 f2 : α → Option β} (ho : ∀ x, o1 = some x → o2 = some x) (hf : ∀ x y, f1 x = some y → f2 x = some y) {y : β} (h : o1.bind f1 = some y) : o2.bind f2 = some y := by
 simp only [Option.bind_eq_some_iff] at h ⊢
 obtain ⟨x, hx, h⟩ := h
 exact ⟨x, ho x hx, hf x y h⟩
theorem zkM (h : Le cf1 cf2) {o : AOper} {st st' : St} (he : zb4 cf1 o st = some st') : zb4 cf2 o st = some st' := by
 unfold zb4 at he ⊢
 have hb : ∀ y, (evalOp cf1 st o.op).bind (zcS o) = some y → (evalOp cf2 st o.op).bind (zcS o) = some y := fun y => zaW (fun _ => zg5 h) (fun _ _ h => h)
 split at he
 ·exact hb _ he
 ·split at he
  ·split at he
   ·rename_i hc; rw [if_pos hc]; exact hb _ he
   ·rename_i hc; rw [if_neg hc]; exact he
  ·exact he
  ·cases he
theorem zg6 (h : Le cf1 cf2) : ∀ {os : List AOper} {st st' : St}, za7 cf1 os st = some st' → za7 cf2 os st = some st'
 | [], _, _, he => he
 | _ :: _, _, _, he => zaW (fun _ => zkM h) (fun _ _ => zg6 h) he
theorem zmc (h : Le cf1 cf2) {o : AOper} {st st' : St} (he : zcw cf1 o st = some st') : zcw cf2 o st = some st' := by
 unfold zcw at he ⊢
 have hb : ∀ y, zaq cf1 o st = some y → zaq cf2 o st = some y := fun y hy => by
  unfold zaq at hy ⊢
  split at hy
  ·rename_i hc; rw [if_pos hc]; exact zaW (fun _ => zg5 h) (fun _ _ h => h) hy
  rename_i hT
  rw [if_neg hT]
  split at hy
  ·rename_i hc; rw [if_pos hc]; exact zaW (fun _ => zg5 h) (fun _ _ h => h) hy
  ·cases hy
 split at he
 ·exact hb _ he
 ·split at he
  ·split at he
   ·rename_i hc; rw [if_pos hc]; exact hb _ he
   ·rename_i hc; rw [if_neg hc]; exact he
  ·exact he
  ·cases he
theorem zjH (h : Le cf1 cf2) : ∀ {os : List AOper} {st st' : St}, runD cf1 os st = some st' → runD cf2 os st = some st'
 | [], _, _, he => he
 | _ :: _, _, _, he => zaW (fun _ => zmc h) (fun _ _ => zjH h) he
theorem zeu {r1 r2 : St → Option (Ex × St)} (h : ∀ st x, r1 st = some x → r2 st = some x) : ∀ {k : Nat} {st : St} {x : Ex × St}, zb5 r1 k st = some x → zb5 r2 k st = some x
 | 0, _, _, he => by cases he
 | k + 1, st, x, he => by
  unfold zb5 at he ⊢
  refine zaW (h st) (fun q y hq => ?_) he
  obtain ⟨e, st1⟩ := q
  cases e with
  | normal => exact zeu h hq
  | _ => exact hq
theorem zmW (h : Le cf1 cf2) : ∀ {c : ACode} {st : St} {x : Ex × St}, exec cf1 c st = some x → exec cf2 c st = some x := by
 intro c
 induction c with
 | skip => intro st x he; exact he
 | region d ops =>
  intro st x he
  cases d with
  | true => simp only [exec] at he ⊢; exact zaW (fun _ => zjH h) (fun _ _ h => h) he
  | false => simp only [exec] at he ⊢; exact zaW (fun _ => zg6 h) (fun _ _ h => h) he
 | seq a b iha ihb =>
  intro st x he
  simp only [exec] at he ⊢
  refine zaW (fun _ => iha) (fun q y hq => ?_) he
  obtain ⟨e, st1⟩ := q
  cases e with
  | normal => exact ihb hq
  | _ => exact hq
 | cond c t e iht ihe =>
  intro st x he
  simp only [exec] at he ⊢
  refine zaW (fun _ h => h) (fun v y hq => ?_) he
  cases v with
  | bool b =>
   cases b with
   | true => exact iht hq
   | false => exact ihe hq
  | _ => cases hq
 | block i b ih =>
  intro st x he
  simp only [exec] at he ⊢
  exact zaW (fun _ => ih) (fun _ _ h => h) he
 | loop live b ih =>
  intro st x he
  simp only [exec] at he ⊢
  obtain ⟨k, hk⟩ := zcc.1 he
  exact zcc.2 ⟨k, zeu (fun st x => ih) hk⟩
 | exit i => intro st x he; exact he
 | ret => intro st x he; exact he
theorem zjI (h : Le cf1 cf2) {f : AFunc} {args : List V} {m : List (List V)} {x : V × List (List V)} (he : runF cf1 f args m = some x) : runF cf2 f args m = some x := by
 unfold runF at he ⊢
 split at he
 ·rename_i hc
  rw [if_pos hc]
  exact zaW (fun _ => zmW h) (fun _ _ h => h) he
 ·cases he
end
theorem Ret.unique {T : Table} {f : Nat} {a : List V} {m m1 : List (List V)} {r1 : V} (h1 : Ret T f a m r1 m1) : ∀ {r2 : V} {m2 : List (List V)}, Ret T f a m r2 m2 → r1 = r2 ∧ m1 = m2 := by
 induction h1 with
 | mk cf1 f fn args m r1 m1 hf1 hr1 hcf1 ih =>
  intro r2 m2 h2
  cases h2 with
  | mk cf2 _ fn2 _ _ _ _ hf2 hr2 hcf2 =>
   rw [hf1] at hf2
   cases hf2
   have hle1 : Le cf1 (fun f a m => (cf1 f a m).or (cf2 f a m)) := fun f a m x hx => by simp [hx]
   have hle2 : Le cf2 (fun f a m => (cf1 f a m).or (cf2 f a m)) := fun f a m x hx => by
    cases hc : cf1 f a m with
    | none => simp [hc, hx]
    | some y =>
     obtain ⟨yr, ym⟩ := y
     obtain ⟨xr, xm⟩ := x
     obtain ⟨e1, e2⟩ := ih f a m yr ym hc (hcf2 f a m xr xm hx)
     simp [hc, e1, e2]
   have e1 := zjI hle1 hr1
   have e2 := zjI hle2 hr2
   rw [e1] at e2
   simp only [Option.some.injEq, Prod.mk.injEq] at e2
   exact e2
  | ext _ _ _ _ _ hf2 _ => rw [hf1] at hf2; cases hf2
 | ext f args m r m' hf h =>
  intro r2 m2 h2
  cases h2 with
  | mk cf2 _ fn2 _ _ _ _ hf2 _ _ => rw [hf] at hf2; cases hf2
  | ext _ _ _ _ _ _ h2 =>
   rw [h] at h2
   simp only [Option.some.injEq, Prod.mk.injEq] at h2
   exact h2
open Classical in
noncomputable def RF (T : Table) : CF := fun f a m =>
 if h : ∃ x : V × List (List V), Ret T f a m x.1 x.2 then some h.choose else none
theorem zlm {T : Table} {f : Nat} {a : List V} {m : List (List V)} {x : V × List (List V)} : RF T f a m = some x ↔ Ret T f a m x.1 x.2 := by
 unfold RF
 constructor
 ·intro h
  split at h
  ·rename_i hx
   simp only [Option.some.injEq] at h
   rw [← h]; exact hx.choose_spec
  ·cases h
 ·intro h
  have hx : ∃ x : V × List (List V), Ret T f a m x.1 x.2 := ⟨x, h⟩
  rw [dif_pos hx]
  obtain ⟨e1, e2⟩ := hx.choose_spec.unique h
  rw [Option.some.injEq]
  exact Prod.ext e1 e2
theorem zpH {T : Table} {f : Nat} {fn : AFunc} (hf : T.code f = some fn) {a : List V} {m : List (List V)} {x : V × List (List V)} (h : runF (RF T) fn a m = some x) : RF T f a m = some x :=
 zlm.2 (.mk (RF T) f fn a m x.1 x.2 hf h fun _ _ _ _ _ hh => zlm.1 hh)
theorem zpn {T : Table} {f : Nat} (hf : T.code f = none) {a : List V} {m : List (List V)} {x : V × List (List V)} (h : T.ext f a m = some x) : RF T f a m = some x :=
 zlm.2 (.ext f a m x.1 x.2 hf h)
end Go.Proofs.YtakdnfneikbjjaaGreatDoor.Am

namespace Go.Proofs.YtakdnfneikbjjaaGreatDoor.Am
abbrev Ts := List (Nat × V)
abbrev Bs := List (Nat × List V)
abbrev Ms := List (List V)
def fnd {α : Type} : List (Nat × α) → Nat → Option α
 | [], _ => none
 | (k, v) :: r, s => bif Nat.beq k s then some v else fnd r s
def mapK (f : V → V) : Ts → (Ts → Prop) → Prop
 | [], k => k []
 | (s, v) :: r, k => mapK f r fun r' => k ((s, f v) :: r')
def zbH {α : Type} (L : List (Nat × α)) : List Nat → (List (Nat × α) → Prop) → Prop
 | [], k => k []
 | s :: r, k => match fnd L s with
  | some v => zbH L r fun r' => k ((s, v) :: r')
  | none => zbH L r k
def rdP (v : V) (p : Prop) : Prop :=
 match v with
 | .slice true _ _ => False
 | .agg cs => cs.any V.own0 = false ∧ p
 | .tuple vs => vs.any V.own1 = false ∧ p
 | _ => p
def rdV (v : V) (k : V → Prop) : Prop := rdP v (k v)
def rdC (L : Ts) (o : Opd) (k : V → Prop) : Prop :=
 match o with
 | .c v => k v
 | .t s => match fnd L s with
  | some v => rdV v k
  | none => False
 | .u s .peek => k (.place (.tmp s))
 | .u _ _ => False
def rd (L : Ts) (o : Opd) (k : V → Ts → Prop) : Prop :=
 match o with
 | .c v => k v L
 | .t s => match fnd L s with
  | some v => rdV v fun v => k v L
  | none => False
 | .u s .take => match fnd L s with
  | some v => k v ((s, .undef) :: L)
  | none => False
 | .u s .share => match fnd L s with
  | some v => k v.share ((s, .undef) :: L)
  | none => False
 | .u s .peek => k (.place (.tmp s)) L
 | .u s .copy => match fnd L s with
  | some v => rdV v fun v => k v L
  | none => False
def rds (L : Ts) : List Opd → (List V → Ts → Prop) → Prop
 | [], k => k [] L
 | x :: xs, k => rd L x fun v L1 => rds L1 xs fun vs L2 => k (v :: vs) L2
def rdCs (L : Ts) : List Opd → (List V → Prop) → Prop
 | [], k => k []
 | x :: xs, k => rdC L x fun v => rdCs L xs fun vs => k (v :: vs)
def zfS (L : Ts) (B : Bs) (m : Ms) (r : Root) (k : V → Prop) : Prop :=
 match r with
 | .mem b o => ∃ cs, m[b]? = some cs ∧ ∃ v, cs[o]? = some v ∧ k v
 | .loc j o => match fnd B j with
  | some cs => ∃ v, cs[o]? = some v ∧ k v
  | none => False
 | .tmp s => match fnd L s with
  | some v => k v
  | none => False
def zjJ (v : V) (k : List (List V) → Prop) : Prop :=
 match v with
 | .slice _ _ xs => k xs
 | .nils => k []
 | _ => False
def zfr (L : Ts) (B : Bs) (m : Ms) (v : V) (k : List (List V) → Prop) : Prop :=
 match v with
 | .slice _ _ xs => k xs
 | .nils => k []
 | .place r => zfS L B m r fun v => zjJ v k
 | _ => False
def ziB (sz : Nat) (v : V) (k : List (List V) → Prop) : Prop :=
 match v with
 | .nils => k []
 | .slice _ z xs => bif Nat.beq z sz then k xs else False
 | _ => False
def zev (sz : Nat) (L : Ts) (B : Bs) (m : Ms) (v : V) (k : List (List V) → Prop) : Prop :=
 match v with
 | .nils => k []
 | .str s => bif Nat.beq sz 1 then k (zbR s) else False
 | .slice _ z xs => bif Nat.beq z sz then k xs else False
 | .place r => zfS L B m r fun v => ziB sz v k
 | _ => False
def ldW (mode : Use) (root : Root) (agg : Bool) (n : Nat) (cs : List V) (off : Nat) (k : V → Option (List V) → Prop) : Prop :=
 match agg with
 | false => bif Nat.beq n 1 then ∃ v, cs[off]? = some v ∧ match mode with
   | .copy => v.own0 = false ∧ k v none
   | .take => k v (some (cs.set off v.left))
   | .share => k v.share0 (some (cs.set off v.share0))
   | .peek => k (.place root) none
  else False
 | true => off + n ≤ cs.length ∧ match mode with
   | .copy => ((cs.drop off).take n).any V.own0 = false ∧ k (.agg ((cs.drop off).take n)) none
   | .take => k (.agg ((cs.drop off).take n)) (some (zay cs off (((cs.drop off).take n).map V.left)))
   | .share => k (.agg (((cs.drop off).take n).map V.share0)) (some (zay cs off (((cs.drop off).take n).map V.share0)))
   | .peek => False
def loadW (agg : Bool) (n : Nat) (mode : Use) (L : Ts) (B : Bs) (m : Ms) (a : V) (k : V → Bs → Ms → Prop) : Prop :=
 match a with
 | .ptr b off => ∃ cs, m[b]? = some cs ∧ ldW mode (.mem b off) agg n cs off fun v c => match c with
  | none => k v B m
  | some c => k v B (m.set b c)
 | .loc j off => match mode with
  | .share => False
  | mode => match fnd B j with
   | some cs => ldW mode (.loc j off) agg n cs off fun v c => match c with
    | none => k v B m
    | some c => k v ((j, c) :: B) m
   | none => False
 | .ro cs off => match mode with
  | .copy => match agg with
   | false => bif Nat.beq n 1 then ∃ v, cs[off]? = some v ∧ k v B m else False
   | true => off + n ≤ cs.length ∧ k (.agg ((cs.drop off).take n)) B m
  | _ => False
 | .el r z i o => match mode with
  | .copy => zfS L B m r fun v => match v with
   | .slice true sz xs => bif Nat.beq z sz then ∃ cs, xs[i]? = some cs ∧ match agg with
     | false => bif Nat.beq n 1 then ∃ v, cs[o]? = some v ∧ k v B m else False
     | true => o + n ≤ cs.length ∧ k (.agg ((cs.drop o).take n)) B m
    else False
   | _ => False
  | _ => False
 | _ => False
def zg7 (n : Nat) (cells : List V) (L : Ts) (B : Bs) (m : Ms) (a : V) (k : Ts → Bs → Ms → Prop) : Prop :=
 match a with
 | .ptr b off => ∃ old, m[b]? = some old ∧ (off + n ≤ old.length ∧ cells.length = n ∧ cells.all V.ok0 = true ∧ tops cells ≤ b + 1) ∧ mapK (killAtV off n) L fun L' => k L' B (m.set b (zay old off cells))
 | .loc j off => match fnd B j with
  | some old => (off + n ≤ old.length ∧ cells.length = n ∧ cells.all V.ok0 = true) ∧ mapK killLocV L fun L' => k L' ((j, zay old off cells) :: B) m
  | none => False
 | .el r z i o => (cells.length = n ∧ cells.all V.good = true) ∧ match r with
  | .mem b q => ∃ old, m[b]? = some old ∧ ∃ v, old[q]? = some v ∧ match v with
   | .slice true sz xs => bif Nat.beq z sz then ∃ cs, xs[i]? = some cs ∧ o + n ≤ cs.length ∧ k L B (m.set b (old.set q (.slice true sz (xs.set i (zay cs o cells))))) else False
   | _ => False
  | .loc j q => match fnd B j with
   | some old => ∃ v, old[q]? = some v ∧ match v with
    | .slice true sz xs => bif Nat.beq z sz then ∃ cs, xs[i]? = some cs ∧ o + n ≤ cs.length ∧ k L ((j, old.set q (.slice true sz (xs.set i (zay cs o cells)))) :: B) m else False
    | _ => False
   | none => False
  | .tmp s => match fnd L s with
   | some (.slice true sz xs) => bif Nat.beq z sz then ∃ cs, xs[i]? = some cs ∧ o + n ≤ cs.length ∧ k ((s, .slice true sz (xs.set i (zay cs o cells))) :: L) B m else False
   | _ => False
 | _ => False
def ziC (L : Ts) (cells : List V) : List (Nat × Nat × Opd) → (List V → Ts → Prop) → Prop
 | [], k => k cells L
 | (off, n, x) :: r, k => rd L x fun v L1 => (v.cells.length = n ∧ off + n ≤ cells.length ∧ v.ok1 = true) ∧ ziC L1 (zay cells off v.cells) r k
def zfs (L : Ts) (sz : Nat) (xs : List (List V)) : List (Nat × Opd) → (List (List V) → Ts → Prop) → Prop
 | [], k => k xs L
 | (i, x) :: r, k => rd L x fun v L1 => (v.cells.length = sz ∧ i < xs.length ∧ v.cells.all V.good = true) ∧ zfs L1 sz (xs.set i v.cells) r k
def bndW (L : Ts) (dflt : Nat) (o : Option Opd) (k : Nat → Prop) : Prop :=
 match o with
 | none => k dflt
 | some x => rdC L x fun v => match v with
  | .int _ i => 0 ≤ i ∧ k i.toNat
  | _ => False
def tell (b : Bool) (k : V → Prop) : Prop := ∀ c : Bool, b = c → k (.bool c)
def binW (op : BinOp) (x y : V) (k : V → Prop) : Prop :=
 match x, y with
 | .int a n, .int b p => match op with
  | .shl => 0 ≤ p ∧ k (.int a (a.wrap (n * 2 ^ min p.toNat a.bits)))
  | .shr => 0 ≤ p ∧ k (.int a (n.fdiv (2 ^ min p.toNat a.bits)))
  | .add => bif decide (a = b) then k (.int a (a.wrap (n + p))) else False
  | .sub => bif decide (a = b) then k (.int a (a.wrap (n - p))) else False
  | .mul => bif decide (a = b) then k (.int a (a.wrap (n * p))) else False
  | .quo => bif decide (a = b) then p ≠ 0 ∧ k (.int a (a.wrap (n.tdiv p))) else False
  | .rem => bif decide (a = b) then p ≠ 0 ∧ k (.int a (n.tmod p)) else False
  | .and => bif decide (a = b) then k (.int a (a.wrap ((BitVec.ofInt a.bits n &&& BitVec.ofInt a.bits p).toNat))) else False
  | .or => bif decide (a = b) then k (.int a (a.wrap ((BitVec.ofInt a.bits n ||| BitVec.ofInt a.bits p).toNat))) else False
  | .xor => bif decide (a = b) then k (.int a (a.wrap ((BitVec.ofInt a.bits n ^^^ BitVec.ofInt a.bits p).toNat))) else False
  | .andNot => bif decide (a = b) then k (.int a (a.wrap ((BitVec.ofInt a.bits n &&& ~~~ (BitVec.ofInt a.bits p)).toNat))) else False
  | .eql => bif decide (a = b) then tell (decide (n = p)) k else False
  | .neq => bif decide (a = b) then tell (decide (n ≠ p)) k else False
  | .lss => bif decide (a = b) then tell (decide (n < p)) k else False
  | .leq => bif decide (a = b) then tell (decide (n ≤ p)) k else False
  | .gtr => bif decide (a = b) then tell (decide (n > p)) k else False
  | .geq => bif decide (a = b) then tell (decide (n ≥ p)) k else False
 | .str s, .str t => match op with
  | .add => s.length + t.length ≤ 4611686018427387904 ∧ k (.str (s ++ t))
  | .eql => tell (decide (s = t)) k
  | .neq => tell (decide (s ≠ t)) k
  | _ => ∃ v, zhL op s t = some v ∧ k v
 | _, _ => False
def eqW (neg : Bool) (kind : EqK) (x y : V) (k : V → Prop) : Prop :=
 match kind with
 | .bool => match x, y with
  | .bool a, .bool b => tell (if neg then !(a == b) else (a == b)) k
  | _, _ => False
 | .plain ks => ∃ b, eqV (.plain ks) x y = some b ∧ tell (if neg then !b else b) k
 | kind => match eqV kind x y with
  | some b => k (.bool (if neg then !b else b))
  | none => False
def appW (sz : Nat) (ys : List (List V)) (xs : List (List V)) (z : Nat) (k : V → Prop) : Prop :=
 bif Nat.beq z sz then xs.length + ys.length ≤ most ∧ k (.slice true sz (xs ++ ys)) else False
def zmX (sz : Nat) (ys : List (List V)) (k : V → Prop) : Prop :=
 ys.length ≤ most ∧ (0 < ys.length → k (.slice true sz ys)) ∧ (ys = [] → k .nils)
def ze4 (mx : Bool) (v : V) (vs : List V) (k : V → Prop) : Prop :=
 match v, vs with
 | .int kd a, [.int _ b] => match mx with
  | false => k (.int kd (min a b))
  | true => k (.int kd (max a b))
 | v, vs => match zca mx v vs with
  | some r => k r
  | none => False
def wpOp (cf : CF) (op : AOp) (L : Ts) (B : Bs) (m : Ms) (k : V → Ts → Bs → Ms → Prop) : Prop :=
 match op with
 | .mv x => rd L x fun v L' => k v L' B m
 | .mvK s => match fnd L s with
  | some (.slice _ z xs) => k (.slice false z xs) ((s, .slice false z xs) :: L) B m
  | some .nils => k .nils L B m
  | _ => False
 | .pick c a b => rdC L c fun v => match v with
  | .bool t => rdC L (bif t then a else b) fun w => k w L B m
  | _ => False
 | .allocL j zero => bif zero.all V.ok0 then mapK (killLV j) L fun L' => k (.loc j 0) L' ((j, zero) :: B) m else False
 | .allocM zero => bif zero.all V.ok0 && Nat.beq (tops zero) 0 then k (.ptr m.length 0) L B (m ++ [zero]) else False
 | .boxL j x => rd L x fun v L1 => v.ok1 = true ∧ mapK (killLV j) L1 fun L' => k (.loc j 0) L' ((j, v.cells) :: B) m
 | .boxM x => rd L x fun v L1 => v.ok1 = true ∧ k (.ptr m.length 0) L1 B (m ++ [v.cells])
 | .build zero parts => ziC L zero parts fun cs L' => k (.agg cs) L' B m
 | .buildSlice sz zero len parts => bif Nat.beq zero.length sz && zero.all V.good then zfs L sz (List.replicate len zero) parts fun xs L' => k (.slice true sz xs) L' B m else False
 | .load agg n p mode => rdC L p fun a => loadW agg n mode L B m a fun v B' m' => k v L B' m'
 | .store n p x => rd L x fun v L1 => rdC L1 p fun a => v.ok1 = true ∧ zg7 n v.cells L1 B m a fun L' B' m' => k .undef L' B' m'
 | .nilCheck x => rdC L x fun v => match v with
  | .ptr .. | .loc .. | .ro .. | .el .. | .func .. => k v L B m
  | _ => False
 | .bin op x y => rdC L x fun a => rdC L y fun b => binW op a b fun v => k v L B m
 | .eq neg kind x y => rdC L x fun a => rdC L y fun b => eqW neg kind a b fun v => k v L B m
 | .un op x => rdC L x fun a => match doUn op a with
  | some v => k v L B m
  | none => False
 | .conv kd x => rdC L x fun a => match a with
  | .int _ n => k (.int kd (kd.wrap n)) L B m
  | _ => False
 | .strStr x => rdC L x fun a => match a with
  | .str s => k (.str s) L B m
  | _ => False
 | .strBytes x => rdC L x fun a => match a with
  | .str s => k (.slice true 1 (zbR s)) L B m
  | _ => False
 | .bytesStr x => rdC L x fun a => zfr L B m a fun xs => ∃ s, bytesOf xs = some s ∧ k (.str s) L B m
 | .intStr _ => False
 | .lend _ _ _ _ => False
 | .callP _ _ => False
 | .callN _ _ _ => False
 | .tOp _ _ => False
 | .loadW _ _ _ _ _ _ => False
 | .convB _ => False
 | .makeSlice sz zero l c => rdC L l fun a => rdC L c fun b => match a, b with
  | .int _ n, .int _ q => (0 ≤ n ∧ n ≤ q ∧ q ≤ (most : Int)) ∧ bif Nat.beq zero.length sz && zero.all V.good then k (.slice true sz (List.replicate n.toNat zero)) L B m else False
  | _, _ => False
 | .sliceS x lo hi => rdC L x fun a => match a with
  | .str s => bndW L s.length hi fun h => bndW L 0 lo fun l => (l ≤ h ∧ h ≤ s.length) ∧ k (.str ((s.drop l).take (h - l))) L B m
  | _ => False
 | .sliceV sz x lo hi => rd L x fun v L1 => match v with
  | .nils => bndW L1 0 hi fun h => bndW L1 0 lo fun l => (l = 0 ∧ h = 0) ∧ k .nils L1 B m
  | .slice o z xs => bif Nat.beq z sz then bndW L1 xs.length hi fun h => bndW L1 0 lo fun l => (l ≤ h ∧ h ≤ xs.length) ∧ k (.slice o sz ((xs.drop l).take (h - l))) L1 B m else False
  | _ => False
 | .fieldAddr off x => rdC L x fun v => match v with
  | .ptr b o => k (.ptr b (o + off)) L B m
  | .loc j o => k (.loc j (o + off)) L B m
  | .ro cs o => k (.ro cs (o + off)) L B m
  | .el r z i q => k (.el r z i (q + off)) L B m
  | _ => False
 | .field agg n off x => rdC L x fun v => match v with
  | .agg cs => match agg with
   | false => bif Nat.beq n 1 then (match cs[off]? with
    | some v => k v L B m
    | none => False) else False
   | true => off + n ≤ cs.length ∧ k (.agg ((cs.drop off).take n)) L B m
  | _ => False
 | .indexArr len sz x i => rdC L x fun v => rdC L i fun n => match n with
  | .int _ i => (0 ≤ i ∧ i < len) ∧ match v with
   | .ptr b o => k (.ptr b (o + i.toNat * sz)) L B m
   | .loc j o => k (.loc j (o + i.toNat * sz)) L B m
   | .ro cs o => k (.ro cs (o + i.toNat * sz)) L B m
   | .el r z e q => k (.el r z e (q + i.toNat * sz)) L B m
   | _ => False
  | _ => False
 | .indexSl sz x i => rdC L x fun v => rdC L i fun n => match n with
  | .int _ i => match v with
   | .slice false z xs => bif Nat.beq z sz then 0 ≤ i ∧ ∃ cs, xs[i.toNat]? = some cs ∧ k (.ro cs 0) L B m else False
   | .place r => zfS L B m r fun v => match v with
    | .slice false z xs => bif Nat.beq z sz then 0 ≤ i ∧ ∃ cs, xs[i.toNat]? = some cs ∧ k (.ro cs 0) L B m else False
    | .slice true z xs => bif Nat.beq z sz then (0 ≤ i ∧ i < xs.length) ∧ k (.el r sz i.toNat 0) L B m else False
    | _ => False
   | _ => False
  | _ => False
 | .indexAgg agg len sz x i => rdC L x fun v => rdC L i fun n => match v, n with
  | .agg cs, .int _ i => (0 ≤ i ∧ i < len ∧ i.toNat * sz + sz ≤ cs.length) ∧ match agg with
   | false => bif Nat.beq sz 1 then ∃ v, cs[i.toNat * sz]? = some v ∧ k v L B m else False
   | true => k (.agg ((cs.drop (i.toNat * sz)).take sz)) L B m
  | _, _ => False
 | .indexStr x i => rdC L x fun v => rdC L i fun n => match v, n with
  | .str s, .int _ i => (0 ≤ i ∧ i < s.length) ∧ k (.int .u8 ((s.getD i.toNat 0).toNat)) L B m
  | _, _ => False
 | .extract x i => rd L x fun v L1 => match v with
  | .tuple vs => match vs[i]? with
   | some v => k v L1 B m
   | none => False
  | _ => False
 | .callF f args => rds L args fun vs L1 => vs.all V.okArg = true ∧ ∃ r m', cf f vs m = some (r, m') ∧ mapK killMV L1 fun L' => k r L' B m'
 | .callV f args => rdC L f fun v => match v with
  | .func g cap => rds L args fun vs L1 => (vs.all V.okArg = true ∧ cap.all V.okArg = true) ∧ ∃ r m', cf g (vs ++ cap) m = some (r, m') ∧ mapK killMV L1 fun L' => k r L' B m'
  | _ => False
 | .lenStr x => rdC L x fun a => match a with
  | .str s => k (.int .i64 s.length) L B m
  | _ => False
 | .lenSl x => rdC L x fun a => zfr L B m a fun xs => k (.int .i64 xs.length) L B m
 | .lenC n => k (.int .i64 n) L B m
 | .append sz x y => rd L x fun p L1 => rd L1 y fun q L2 => zev sz L2 B m q fun ys => match p with
  | .nils => zmX sz ys fun v => k v L2 B m
  | .slice true z xs => appW sz ys xs z fun v => k v L2 B m
  | .place (.tmp s) => match fnd L2 s with
   | some (.slice true z xs) => appW sz ys xs z fun v => k v ((s, .undef) :: L2) B m
   | some .nils => zmX sz ys fun v => k v L2 B m
   | _ => False
  | .place (.mem b o) => ∃ cs, m[b]? = some cs ∧ ∃ w, cs[o]? = some w ∧ match w with
   | .slice true z xs => appW sz ys xs z fun v => k v L2 B (m.set b (cs.set o .undef))
   | .nils => zmX sz ys fun v => k v L2 B m
   | _ => False
  | .place (.loc j o) => match fnd B j with
   | some cs => ∃ w, cs[o]? = some w ∧ match w with
    | .slice true z xs => appW sz ys xs z fun v => k v L2 ((j, cs.set o .undef) :: B) m
    | .nils => zmX sz ys fun v => k v L2 B m
    | _ => False
   | none => False
  | _ => False
 | .minMax mx x ys => rdC L x fun v => rdCs L ys fun vs => ze4 mx v vs fun r => k r L B m
 | .mkFunc f captured => rdCs L captured fun vs => vs.all okCap = true ∧ k (.func f vs) L B m
def putW (o : AOper) (v : V) (L : Ts) (k : Ts → Prop) : Prop :=
 match o.dst with
 | none => bif o.kt then (bif selfPlace none v then False else k L) else k L
 | some d => bif o.kt then (bif selfPlace (some d) v then False else mapK (killTV d) L fun L' => k ((d, v) :: L')) else k ((d, v) :: L)
def wpOps (cf : CF) : List AOper → Ts → Bs → Ms → (Ts → Bs → Ms → Prop) → Prop
 | [], L, B, m, k => k L B m
 | o :: os, L, B, m, k => match o.guard with
  | none => wpOp cf o.op L B m fun v L1 B1 m1 => putW o v L1 fun L2 => wpOps cf os L2 B1 m1 k
  | some (g, want) => match fnd L g with
   | some (.bool b) => bif b == want then wpOp cf o.op L B m fun v L1 B1 m1 => putW o v L1 fun L2 => wpOps cf os L2 B1 m1 k
    else putW o (.tuple []) L fun L2 => wpOps cf os L2 B m k
   | some (.tuple []) => putW o (.tuple []) L fun L2 => wpOps cf os L2 B m k
   | _ => False
def zft (lean : Bool) (L : Ts) : List Nat → Bool
 | [] => true
 | s :: r => match fnd L s with
  | some v => rootOk lean v && zft lean L r
  | none => false
def AOp.isCall : AOp → Bool
 | .callF _ _ | .callV _ _ => true
 | _ => false
def ziD (L : Ts) : List Nat → Bool
 | [] => true
 | s :: r => match fnd L s with
  | some v => zfa v && ziD L r
  | none => false
def faW (j : Nat) (L : Ts) : List Nat → Bool
 | [] => true
 | s :: r => match fnd L s with
  | some v => zii j v && faW j L r
  | none => false
def zkN (o : AOper) (L : Ts) (m m' : Ms) (k : Prop) : Prop :=
 match o.mark with
 | .none => k
 | .cool => match o.op.ptr? with
  | none => bif ziD L (slots o.op.opds) then k else False
  | some _ => False
 | .quiet => bif o.op.isCall then m' = m ∧ k else False
 | .fa j => bif faW j L (slots o.op.opds) then k else False
 | mk => match o.op.ptr? with
  | none => k
  | some p => rdC L p fun v => match v with
   | .loc i _ => bif mk == .loc i then k else False
   | .ptr _ _ => bif mk == .mem then k else False
   | .ro _ _ => bif mk == .free then k else False
   | _ => False
def doD (cf : CF) (o : AOper) (L : Ts) (B : Bs) (m : Ms) (k : Ts → Bs → Ms → Prop) : Prop :=
 bif zft o.lean L (slots o.op.opds) then wpOp cf o.op L B m fun v L1 B1 m1 => bif zek o v then zkN o L m m1 (putW o v L1 fun L2 => k L2 B1 m1) else False else False
def wpD (cf : CF) : List AOper → Ts → Bs → Ms → (Ts → Bs → Ms → Prop) → Prop
 | [], L, B, m, k => k L B m
 | o :: os, L, B, m, k => match o.guard with
  | none => doD cf o L B m fun L2 B1 m1 => wpD cf os L2 B1 m1 k
  | some (g, want) => match fnd L g with
   | some (.bool b) => bif b == want then doD cf o L B m fun L2 B1 m1 => wpD cf os L2 B1 m1 k
    else putW o (.tuple []) L fun L2 => wpD cf os L2 B m k
   | some (.tuple []) => putW o (.tuple []) L fun L2 => wpD cf os L2 B m k
   | _ => False
structure WP (cf : CF) (c : ACode) (L : Ts) (B : Bs) (m : Ms) (Q : Ex → Ts → Bs → Ms → Prop) : Prop where
 go : ∀ st : St, (∀ s v, fnd L s = some v → st.σ s = v) → (∀ s v, fnd B s = some v → st.l s = v) → st.m = m →
  ∃ e st', exec cf c st = some (e, st') ∧ ∃ L' B', (∀ s v, fnd L' s = some v → st'.σ s = v) ∧ (∀ s v, fnd B' s = some v → st'.l s = v) ∧ Q e L' B' st'.m
def resW : List ARes → Ts → Bs → Ms → (List V → Ms → Prop) → Prop
 | [], _, _, m, k => k [] m
 | .tmp s :: r, L, B, m, k => match fnd L s with
  | some v => resW r ((s, .undef) :: L) B m fun vs m' => k (v :: vs) m'
  | none => False
 | .cell s agg n :: r, L, B, m, k => match fnd L s with
  | some a => loadW agg n .take L B m a fun v B' m' => resW r L B' m' fun vs m'' => k (v :: vs) m''
  | none => False
def zg8 : List V → V
 | [v] => v
 | vs => .tuple vs
end Go.Proofs.YtakdnfneikbjjaaGreatDoor.Am

namespace Go.Proofs.YtakdnfneikbjjaaGreatDoor.Am
def Ag (L : Ts) (σ : Nat → V) : Prop := ∀ s v, fnd L s = some v → σ s = v
def AgB (B : Bs) (l : Nat → List V) : Prop := ∀ s v, fnd B s = some v → l s = v
theorem zbr {α : Type} {k s : Nat} {v : α} {r : List (Nat × α)} : fnd ((k, v) :: r) s = if s = k then some v else fnd r s := by
 show (bif Nat.beq k s then some v else fnd r s) = _
 by_cases h : s = k
 ·subst h; simp
 ·have : Nat.beq k s = false := by
   cases hb : Nat.beq k s with
   | false => rfl
   | true => exact absurd (Nat.eq_of_beq_eq_true hb).symm h
  simp [h, this]
theorem Ag.upd {L : Ts} {σ : Nat → V} (h : Ag L σ) (d : Nat) (v : V) : Ag ((d, v) :: L) (Am.upd σ d v) := fun s x hx => by
 rw [zbr] at hx
 unfold Am.upd
 split at hx
 ·rename_i e; rw [if_pos e]; exact Option.some.inj hx
 ·rename_i e; rw [if_neg e]; exact h s x hx
theorem AgB.upd {B : Bs} {l : Nat → List V} (h : AgB B l) (d : Nat) (v : List V) : AgB ((d, v) :: B) (Am.upd l d v) := fun s x hx => by
 rw [zbr] at hx
 unfold Am.upd
 split at hx
 ·rename_i e; rw [if_pos e]; exact Option.some.inj hx
 ·rename_i e; rw [if_neg e]; exact h s x hx
theorem zg9 {f : V → V} : ∀ {L : Ts} {s : Nat}, fnd (L.map fun p => (p.1, f p.2)) s = (fnd L s).map f
 | [], _ => rfl
 | (k, v) :: r, s => by
  rw [List.map_cons, zbr, zbr, zg9]
  split <;> rfl
theorem Ag.map {L : Ts} {σ : Nat → V} (h : Ag L σ) (f : V → V) : Ag (L.map fun p => (p.1, f p.2)) (fun i => f (σ i)) := fun s x hx => by
 rw [zg9, Option.map_eq_some_iff] at hx
 obtain ⟨y, hy, rfl⟩ := hx
 show f (σ s) = f y
 rw [h s y hy]
theorem zdw {f : V → V} : ∀ {L : Ts} {k : Ts → Prop}, mapK f L k ↔ k (L.map fun p => (p.1, f p.2))
 | [], _ => Iff.rfl
 | (s, v) :: r, k => by
  unfold mapK
  rw [zdw]; rfl
theorem zbd {L : Ts} {σ : Nat → V} (h : Ag L σ) : ∀ {r : List Nat} {k : Ts → Prop}, zbH L r k → ∃ L', Ag L' σ ∧ (∀ s v, fnd L' s = some v → s ∈ r) ∧ k L'
 | [], k, hk => ⟨[], fun s v hv => (nomatch hv), fun s v hv => (nomatch hv), hk⟩
 | s :: r, k, hk => by
  unfold zbH at hk
  cases hs : fnd L s with
  | none =>
   rw [hs] at hk
   obtain ⟨L', h1, h2, h3⟩ := zbd h hk
   exact ⟨L', h1, fun t v hv => .tail _ (h2 t v hv), h3⟩
  | some v =>
   rw [hs] at hk
   obtain ⟨L', h1, h2, h3⟩ := zbd h (k := fun r' => k ((s, v) :: r')) hk
   refine ⟨_, fun t x hx => ?_, fun t x hx => ?_, h3⟩
   ·rw [zbr] at hx
    split at hx
    ·rename_i e; subst e; cases hx; exact h _ _ hs
    ·exact h1 t x hx
   ·rw [zbr] at hx
    split at hx
    ·rename_i e; subst e; exact .head _
    ·exact .tail _ (h2 t x hx)
theorem zha {v : V} {k : V → Prop} (h : rdV v k) : v.hasOwn = false ∧ k v := by
 unfold rdV rdP at h
 split at h
 ·exact h.elim
 ·exact ⟨by simpa [V.hasOwn, V.own1] using h.1, h.2⟩
 ·exact ⟨by simpa [V.hasOwn] using h.1, h.2⟩
 ·rename_i h1 h2 h3
  refine ⟨?_, h⟩
  cases v with
  | slice o z xs => cases o with
   | true => exact (h1 _ _ rfl).elim
   | false => rfl
  | agg cs => exact (h2 _ rfl).elim
  | tuple vs => exact (h3 _ rfl).elim
  | _ => rfl
section
variable {L : Ts} {B : Bs} {st : St}
theorem zaf (h : Ag L st.σ) {o : Opd} {k : V → Prop} (hk : rdC L o k) : ∃ v, getC st o = some v ∧ k v := by
 unfold rdC at hk
 cases o with
 | c v => exact ⟨v, rfl, hk⟩
 | t s =>
  simp only at hk
  cases hs : fnd L s with
  | none => rw [hs] at hk; exact hk.elim
  | some v =>
   rw [hs] at hk
   obtain ⟨h1, h2⟩ := zha hk
   refine ⟨v, ?_, h2⟩
   simp [getC, h s v hs, h1]
 | u s how =>
  cases how with
  | peek => exact ⟨_, rfl, hk⟩
  | _ => exact hk.elim
theorem zaJ (h : Ag L st.σ) {o : Opd} {k : V → Ts → Prop} (hk : rd L o k) : ∃ v σ', getO st o = some (v, { st with σ := σ' }) ∧ ∃ L', Ag L' σ' ∧ k v L' := by
 unfold rd at hk
 have copy : ∀ s, (match fnd L s with | some v => rdV v fun v => k v L | none => False) → (st.σ s).hasOwn = false ∧ k (st.σ s) L := fun s hk => by
  cases hs : fnd L s with
  | none => rw [hs] at hk; exact hk.elim
  | some v =>
   rw [hs] at hk
   obtain ⟨h1, h2⟩ := zha hk
   rw [h s v hs]; exact ⟨h1, h2⟩
 have mv : ∀ (f : V → V) s, (match fnd L s with | some v => k (f v) ((s, .undef) :: L) | none => False) → k (f (st.σ s)) ((s, .undef) :: L) := fun f s hk => by
  cases hs : fnd L s with
  | none => rw [hs] at hk; exact hk.elim
  | some v => rw [hs] at hk; rw [h s v hs]; exact hk
 cases o with
 | c v => exact ⟨v, st.σ, rfl, L, h, hk⟩
 | t s =>
  obtain ⟨h1, h2⟩ := copy s hk
  exact ⟨_, st.σ, by simp [getO, h1], L, h, h2⟩
 | u s how =>
  cases how with
  | copy =>
   obtain ⟨h1, h2⟩ := copy s hk
   exact ⟨_, st.σ, by simp [getO, h1], L, h, h2⟩
  | take => exact ⟨_, _, rfl, _, h.upd s .undef, mv id s hk⟩
  | share => exact ⟨_, _, rfl, _, h.upd s .undef, mv V.share s hk⟩
  | peek => exact ⟨_, st.σ, rfl, L, h, hk⟩
theorem zcV : ∀ {xs : List Opd} {L : Ts} {st : St} (_ : Ag L st.σ) {k : List V → Ts → Prop} (_ : rds L xs k), ∃ vs σ', getOs st xs = some (vs, { st with σ := σ' }) ∧ ∃ L', Ag L' σ' ∧ k vs L'
 | [], L, st, h, k, hk => ⟨[], st.σ, rfl, L, h, hk⟩
 | x :: xs, L, st, h, k, hk => by
  unfold rds at hk
  obtain ⟨v, σ1, e1, L1, h1, hk1⟩ := zaJ h hk
  obtain ⟨vs, σ2, e2, L2, h2, hk2⟩ := zcV (st := { st with σ := σ1 }) (L := L1) h1 hk1
  exact ⟨v :: vs, σ2, by simp [getOs, e1, e2], L2, h2, hk2⟩
theorem zcF (h : Ag L st.σ) : ∀ {xs : List Opd} {k : List V → Prop} (_ : rdCs L xs k), ∃ vs, getCs st xs = some vs ∧ k vs
 | [], k, hk => ⟨[], rfl, hk⟩
 | x :: xs, k, hk => by
  unfold rdCs at hk
  obtain ⟨v, e1, hk1⟩ := zaf h hk
  obtain ⟨vs, e2, hk2⟩ := zcF h hk1
  exact ⟨v :: vs, by simp [getCs, e1, e2], hk2⟩
theorem zax {α : Type} {l : List α} {i : Nat} {d v : α} (h : l[i]? = some v) : l.getD i d = v := by
 rw [List.getD_eq_getElem?_getD, h]; rfl
theorem zai {α : Type} {l : List α} {i : Nat} {v : α} (h : l[i]? = some v) : i < l.length := (List.getElem?_eq_some_iff.1 h).1
theorem zd7 (h : Ag L st.σ) (hB : AgB B st.l) {r : Root} {k : V → Prop} (hk : zfS L B st.m r k) : k (look st r) := by
 unfold zfS at hk
 cases r with
 | mem b o =>
  obtain ⟨cs, h1, v, h2, hk⟩ := hk
  show k ((st.m.getD b []).getD o .undef)
  rw [zax h1, zax h2]; exact hk
 | loc j o =>
  simp only at hk
  cases hj : fnd B j with
  | none => rw [hj] at hk; exact hk.elim
  | some cs =>
   rw [hj] at hk
   obtain ⟨v, h2, hk⟩ := hk
   show k ((st.l j).getD o .undef)
   rw [hB j cs hj, zax h2]; exact hk
 | tmp s =>
  simp only at hk
  cases hj : fnd L s with
  | none => rw [hj] at hk; exact hk.elim
  | some v => rw [hj] at hk; simpa [look, h s v hj] using hk
theorem zcW (h : Ag L st.σ) (hB : AgB B st.l) {v : V} {k : List (List V) → Prop} (hk : zfr L B st.m v k) : ∃ xs, elems st v = some xs ∧ k xs := by
 unfold zfr at hk
 cases v with
 | nils => exact ⟨[], rfl, hk⟩
 | slice o z xs => exact ⟨xs, rfl, hk⟩
 | place r =>
  have h1 := zd7 h hB hk
  unfold elems
  cases hl : look st r with
  | nils => rw [hl] at h1; exact ⟨[], by simp [hl], h1⟩
  | slice o z xs => rw [hl] at h1; exact ⟨xs, by simp [hl], h1⟩
  | _ => rw [hl] at h1; exact h1.elim
 | _ => exact hk.elim
theorem zb0 (h : Ag L st.σ) (hB : AgB B st.l) {sz : Nat} {v : V} {k : List (List V) → Prop} (hk : zev sz L B st.m v k) : ∃ xs, zb2 sz st v = some xs ∧ k xs := by
 unfold zev at hk
 have b : ∀ {x y : Nat} {p : Prop}, (bif Nat.beq x y then p else False) → x = y ∧ p := fun {x y p} hb => by
  cases e : Nat.beq x y with
  | true => rw [e] at hb; exact ⟨Nat.eq_of_beq_eq_true e, hb⟩
  | false => rw [e] at hb; exact hb.elim
 cases v with
 | nils => exact ⟨[], rfl, hk⟩
 | str s => obtain ⟨e, hk⟩ := b hk; exact ⟨_, by simp [zb2, e], hk⟩
 | slice o z xs => obtain ⟨e, hk⟩ := b hk; exact ⟨xs, by simp [zb2, e], hk⟩
 | place r =>
  have h1 := zd7 h hB hk
  unfold zb2
  cases hl : look st r with
  | nils => rw [hl] at h1; exact ⟨[], by simp [hl], h1⟩
  | slice o z xs => rw [hl] at h1; obtain ⟨e, hk⟩ := b h1; exact ⟨xs, by simp [hl, e], hk⟩
  | _ => rw [hl] at h1; exact h1.elim
 | _ => exact hk.elim
theorem zaN {c : Bool} {p : Prop} (h : bif c then p else False) : c = true ∧ p := by
 cases c with
 | true => exact ⟨rfl, h⟩
 | false => exact h.elim
theorem zaH {x y : Nat} {p : Prop} (h : bif Nat.beq x y then p else False) : x = y ∧ p :=
 let ⟨a, b⟩ := zaN h; ⟨Nat.eq_of_beq_eq_true a, b⟩
theorem zhG {cs : List V} {off : Nat} {v : V} (h : cs[off]? = some v) : (cs.drop off).take 1 = [v] := by
 obtain ⟨hl, e⟩ := List.getElem?_eq_some_iff.1 h
 rw [List.drop_eq_getElem_cons hl, e]; rfl
theorem zln {cs : List V} {off : Nat} {v x : V} (h : cs[off]? = some v) : zay cs off [x] = cs.set off x := by
 have hl := zai h
 unfold zay
 rw [List.set_eq_take_append_cons_drop, if_pos hl]
 simp
theorem zew {mode : Use} {root : Root} {agg : Bool} {n : Nat} {cs : List V} {off : Nat} {k : V → Option (List V) → Prop} (hk : ldW mode root agg n cs off k) :
  off + n ≤ cs.length ∧ ∃ v, zc1 mode root agg ((cs.drop off).take n) = some v ∧ k v (if mode.writes then some (zay cs off (zfF mode ((cs.drop off).take n))) else none) := by
 unfold ldW at hk
 cases agg with
 | false =>
  obtain ⟨rfl, v, hv, hk⟩ := zaH hk
  refine ⟨zai hv, ?_⟩
  rw [zhG hv]
  cases mode with
  | copy => exact ⟨v, by simp [zc1, agg?, hk.1], hk.2⟩
  | take => exact ⟨v, by simp [zc1, agg?], by simpa [Use.writes, zfF, zln hv] using hk⟩
  | share => exact ⟨v.share0, by simp [zc1, agg?], by simpa [Use.writes, zfF, zln hv] using hk⟩
  | peek => exact ⟨.place root, by simp [zc1], hk⟩
 | true =>
  obtain ⟨hl, hk⟩ := hk
  refine ⟨hl, ?_⟩
  cases mode with
  | copy => exact ⟨_, by simp only [zc1, hk.1, Bool.false_eq_true, if_false, agg?, if_true], hk.2⟩
  | take => exact ⟨_, rfl, hk⟩
  | share => exact ⟨_, rfl, hk⟩
  | peek => exact hk.elim
theorem zdi (h : Ag L st.σ) (hB : AgB B st.l) {agg : Bool} {n : Nat} {mode : Use} {a : V} {k : V → Bs → Ms → Prop} (hk : loadW agg n mode L B st.m a k) :
  ∃ v st', zaG st agg n mode a = some (v, st') ∧ st'.σ = st.σ ∧ ∃ B', AgB B' st'.l ∧ k v B' st'.m := by
 unfold loadW at hk
 cases a with
 | ptr b off =>
  obtain ⟨cs, h1, hk⟩ := hk
  obtain ⟨h2, v, h3, hk⟩ := zew hk
  have e1 := zax (d := []) h1
  simp only [zaG, e1]
  rw [if_pos ⟨zai h1, h2⟩, h3]
  refine ⟨v, _, rfl, ?_⟩
  cases hw : mode.writes with
  | true => rw [hw] at hk; exact ⟨rfl, B, hB, hk⟩
  | false => rw [hw] at hk; exact ⟨rfl, B, hB, hk⟩
 | loc j off =>
  have key : ∀ cs, fnd B j = some cs → mode ≠ .share → ldW mode (.loc j off) agg n cs off (fun v c => match c with | none => k v B st.m | some c => k v ((j, c) :: B) st.m) →
    ∃ v st', zaG st agg n mode (.loc j off) = some (v, st') ∧ st'.σ = st.σ ∧ ∃ B', AgB B' st'.l ∧ k v B' st'.m := fun cs hj hm hk => by
   obtain ⟨h2, v, h3, hk⟩ := zew hk
   have e1 := hB j cs hj
   simp only [zaG, e1]
   rw [if_pos ⟨h2, hm⟩, h3]
   refine ⟨v, _, rfl, ?_⟩
   cases hw : mode.writes with
   | true => rw [hw] at hk; exact ⟨rfl, _, hB.upd _ _, hk⟩
   | false => rw [hw] at hk; exact ⟨rfl, B, hB, hk⟩
  cases hj : fnd B j with
  | none => simp only [hj] at hk; cases mode <;> exact hk.elim
  | some cs =>
   simp only [hj] at hk
   cases mode with
   | share => exact hk.elim
   | _ => exact key cs hj (by simp) hk
 | ro cs off =>
  cases mode with
  | copy =>
   cases agg with
   | false =>
    obtain ⟨rfl, v, hv, hk⟩ := zaH hk
    exact ⟨v, st, by simp only [zaG]; rw [if_pos ⟨trivial, Nat.succ_le_of_lt (zai hv)⟩, zhG hv]; rfl, rfl, B, hB, hk⟩
   | true => exact ⟨_, st, by simp only [zaG]; rw [if_pos ⟨trivial, hk.1⟩]; rfl, rfl, B, hB, hk.2⟩
  | _ => exact hk.elim
 | el r z i o =>
  cases mode with
  | copy =>
   have h1 := zd7 h hB hk
   simp only [zaG]
   cases hl : look st r with
   | slice own sz xs =>
    rw [hl] at h1
    cases own with
    | false => exact h1.elim
    | true =>
     obtain ⟨rfl, cs, hc, h1⟩ := zaH h1
     have e := zax (d := []) hc
     simp only [e]
     cases agg with
     | false =>
      obtain ⟨rfl, v, hv, hk⟩ := zaH h1
      exact ⟨v, st, by simp only [if_true]; rw [if_pos ⟨trivial, zai hc, Nat.succ_le_of_lt (zai hv)⟩, zhG hv]; rfl, rfl, B, hB, hk⟩
     | true => exact ⟨_, st, by simp only [if_true]; rw [if_pos ⟨trivial, zai hc, h1.1⟩]; rfl, rfl, B, hB, h1.2⟩
   | _ => rw [hl] at h1; exact h1.elim
  | _ => exact hk.elim
 | _ => exact hk.elim
theorem zex (h : Ag L st.σ) (hB : AgB B st.l) {n : Nat} {cells : List V} {a : V} {k : Ts → Bs → Ms → Prop} (hk : zg7 n cells L B st.m a k) :
  ∃ st', zbb st n cells a = some st' ∧ ∃ L' B', Ag L' st'.σ ∧ AgB B' st'.l ∧ k L' B' st'.m := by
 unfold zg7 at hk
 cases a with
 | ptr b off =>
  obtain ⟨old, h1, ⟨h2, h3, h4, h5⟩, hk⟩ := hk
  have e1 := zax (d := []) h1
  simp only [zbb, e1]
  rw [if_pos ⟨zai h1, h2, h3, h4, h5⟩]
  exact ⟨_, rfl, _, B, h.map (killAtV off n), hB, zdw.1 hk⟩
 | loc j off =>
  cases hj : fnd B j with
  | none => simp only [hj] at hk
  | some old =>
   simp only [hj] at hk
   obtain ⟨⟨h2, h3, h4⟩, hk⟩ := hk
   simp only [zbb, hB j old hj]
   rw [if_pos ⟨h2, h3, h4⟩]
   exact ⟨_, rfl, _, _, h.map killLocV, hB.upd _ _, zdw.1 hk⟩
 | el r z i o =>
  obtain ⟨hc, hk⟩ := hk
  simp only [zbb]
  rw [if_pos hc]
  cases r with
  | mem b q =>
   obtain ⟨old, h1, v, h2, hk⟩ := hk
   have e1 := zax (d := []) h1
   have e2 := zax (d := V.undef) h2
   simp only [look, e1, e2]
   cases v with
   | slice own sz xs =>
    cases own with
    | false => exact hk.elim
    | true =>
     obtain ⟨rfl, cs, hcs, hl, hk⟩ := zaH hk
     have e3 := zax (d := []) hcs
     simp only [e3]
     rw [if_pos ⟨trivial, zai hcs, hl⟩]
     exact ⟨_, rfl, L, B, h, hB, hk⟩
   | _ => exact hk.elim
  | loc j q =>
   cases hj : fnd B j with
   | none => simp only [hj] at hk
   | some old =>
    simp only [hj] at hk
    obtain ⟨v, h2, hk⟩ := hk
    have e2 := zax (d := V.undef) h2
    simp only [look, hB j old hj, e2]
    cases v with
    | slice own sz xs =>
     cases own with
     | false => exact hk.elim
     | true =>
      obtain ⟨rfl, cs, hcs, hl, hk⟩ := zaH hk
      have e3 := zax (d := []) hcs
      simp only [e3]
      rw [if_pos ⟨trivial, zai hcs, hl⟩]
      exact ⟨_, rfl, L, _, h, hB.upd _ _, hk⟩
    | _ => exact hk.elim
  | tmp s =>
   cases hj : fnd L s with
   | none => simp only [hj] at hk
   | some v =>
    simp only [hj] at hk
    simp only [look, h s v hj]
    cases v with
    | slice own sz xs =>
     cases own with
     | false => exact hk.elim
     | true =>
      obtain ⟨rfl, cs, hcs, hl, hk⟩ := zaH hk
      have e3 := zax (d := []) hcs
      simp only [e3]
      rw [if_pos ⟨trivial, zai hcs, hl⟩]
      exact ⟨_, rfl, _, B, h.upd _ _, hB, hk⟩
    | _ => exact hk.elim
 | _ => exact hk.elim
theorem zdj : ∀ {ps : List (Nat × Nat × Opd)} {L : Ts} {st : St} (_ : Ag L st.σ) {cells : List V} {k : List V → Ts → Prop} (_ : ziC L cells ps k), ∃ cs σ', zaT st cells ps = some (cs, { st with σ := σ' }) ∧ ∃ L', Ag L' σ' ∧ k cs L'
 | [], L, st, h, cells, k, hk => ⟨cells, st.σ, rfl, L, h, hk⟩
 | (off, n, x) :: r, L, st, h, cells, k, hk => by
  unfold ziC at hk
  obtain ⟨v, σ1, e1, L1, h1, hc, hk1⟩ := zaJ h hk
  obtain ⟨cs, σ2, e2, L2, h2, hk2⟩ := zdj (st := { st with σ := σ1 }) h1 hk1
  exact ⟨cs, σ2, by simp only [zaT, e1, Option.bind_some]; rw [if_pos hc]; exact e2, L2, h2, hk2⟩
theorem zcX {sz : Nat} : ∀ {ps : List (Nat × Opd)} {L : Ts} {st : St} (_ : Ag L st.σ) {xs : List (List V)} {k : List (List V) → Ts → Prop} (_ : zfs L sz xs ps k), ∃ ys σ', zaU st sz xs ps = some (ys, { st with σ := σ' }) ∧ ∃ L', Ag L' σ' ∧ k ys L'
 | [], L, st, h, xs, k, hk => ⟨xs, st.σ, rfl, L, h, hk⟩
 | (i, x) :: r, L, st, h, xs, k, hk => by
  unfold zfs at hk
  obtain ⟨v, σ1, e1, L1, h1, hc, hk1⟩ := zaJ h hk
  obtain ⟨cs, σ2, e2, L2, h2, hk2⟩ := zcX (st := { st with σ := σ1 }) h1 hk1
  exact ⟨cs, σ2, by simp only [zaU, e1, Option.bind_some]; rw [if_pos hc]; exact e2, L2, h2, hk2⟩
theorem zbj (h : Ag L st.σ) {d : Nat} {o : Option Opd} {k : Nat → Prop} (hk : bndW L d o k) : ∃ n, zaI st d o = some n ∧ k n := by
 unfold bndW at hk
 cases o with
 | none => exact ⟨d, rfl, hk⟩
 | some x =>
  obtain ⟨v, e, hk⟩ := zaf h hk
  cases v with
  | int kd i => exact ⟨_, by simp [zaI, e, hk.1], hk.2⟩
  | _ => exact hk.elim
theorem za0 {b : Bool} {k : V → Prop} (h : tell b k) : k (.bool b) := h b rfl
theorem zfT {op : BinOp} {x y : V} {k : V → Prop} (hk : binW op x y k) : ∃ v, zb3 op x y = some v ∧ k v := by
 unfold binW at hk
 split at hk
 ·rename_i a n b p
  cases op with
  | shl => exact ⟨_, by simp only [zb3, zdS]; rw [if_neg (by omega)], hk.2⟩
  | shr => exact ⟨_, by simp only [zb3, zdS]; rw [if_neg (by omega)], hk.2⟩
  | quo => obtain ⟨e, h0, hk⟩ := zaN hk; exact ⟨_, by simp only [zb3, zbS, of_decide_eq_true e, if_true, if_neg h0], hk⟩
  | rem => obtain ⟨e, h0, hk⟩ := zaN hk; exact ⟨_, by simp only [zb3, zbS, of_decide_eq_true e, if_true, if_neg h0], hk⟩
  | eql => obtain ⟨e, hk⟩ := zaN hk; exact ⟨_, by simp only [zb3, zbS, of_decide_eq_true e, if_true]; rfl, za0 hk⟩
  | neq =>
   obtain ⟨e, hk⟩ := zaN hk
   refine ⟨_, by simp only [zb3, zbS, of_decide_eq_true e, if_true]; rfl, ?_⟩
   have h1 := za0 hk
   have e2 : decide (n ≠ p) = (n != p) := by simp [bne, decide_not]; rfl
   rwa [e2] at h1
  | lss => obtain ⟨e, hk⟩ := zaN hk; exact ⟨_, by simp only [zb3, zbS, of_decide_eq_true e, if_true], za0 hk⟩
  | leq => obtain ⟨e, hk⟩ := zaN hk; exact ⟨_, by simp only [zb3, zbS, of_decide_eq_true e, if_true], za0 hk⟩
  | gtr => obtain ⟨e, hk⟩ := zaN hk; exact ⟨_, by simp only [zb3, zbS, of_decide_eq_true e, if_true], za0 hk⟩
  | geq => obtain ⟨e, hk⟩ := zaN hk; exact ⟨_, by simp only [zb3, zbS, of_decide_eq_true e, if_true], za0 hk⟩
  | _ => obtain ⟨e, hk⟩ := zaN hk; exact ⟨_, by simp only [zb3, zbS, of_decide_eq_true e, if_true], hk⟩
 ·rename_i s t
  cases op with
  | add => exact ⟨_, by simp only [zb3, zhL]; rw [if_pos hk.1], hk.2⟩
  | eql =>
   refine ⟨_, rfl, ?_⟩
   have h1 := za0 hk
   rwa [show decide (s = t) = (s == t) from by rw [Bool.eq_iff_iff]; simp] at h1
  | neq =>
   refine ⟨_, rfl, ?_⟩
   have h1 := za0 hk
   rwa [show decide (s ≠ t) = !(s == t) from by rw [Bool.eq_iff_iff]; simp] at h1
  | _ => exact hk
 ·exact hk.elim
theorem zhb {neg : Bool} {kind : EqK} {x y : V} {k : V → Prop} (hk : eqW neg kind x y k) : ∃ b, eqV kind x y = some b ∧ k (.bool (if neg then !b else b)) := by
 unfold eqW at hk
 cases kind with
 | bool =>
  simp only at hk
  split at hk
  ·exact ⟨_, rfl, za0 hk⟩
  ·exact hk.elim
 | plain ks =>
  obtain ⟨b, e, hk⟩ := hk
  exact ⟨b, e, za0 hk⟩
 | ptr => simp only at hk; split at hk; exact ⟨_, by assumption, hk⟩; exact hk.elim
 | slice => simp only at hk; split at hk; exact ⟨_, by assumption, hk⟩; exact hk.elim
 | func => simp only at hk; split at hk; exact ⟨_, by assumption, hk⟩; exact hk.elim
 | iface => simp only at hk; split at hk; exact ⟨_, by assumption, hk⟩; exact hk.elim
theorem zd8 {mx : Bool} {v : V} {vs : List V} {k : V → Prop} (hk : ze4 mx v vs k) : ∃ r, zca mx v vs = some r ∧ k r := by
 unfold ze4 at hk
 split at hk
 ·cases mx with
  | false => exact ⟨_, by simp only [zca, zej, Option.bind_some, Bool.false_eq_true, if_false, Int.min_def]; congr 2; split <;> split <;> omega, hk⟩
  | true => exact ⟨_, by simp only [zca, zej, Option.bind_some, if_true, Int.max_def]; congr 2; split <;> split <;> omega, hk⟩
 ·split at hk
  ·exact ⟨_, by assumption, hk⟩
  ·exact hk.elim
theorem zlo {L : Ts} {k : Ts → Prop} {f : V → V} {σ : Nat → V} (h : Ag L σ) (hk : mapK f L k) : ∃ L', Ag L' (fun i => f (σ i)) ∧ k L' := ⟨_, h.map f, zdw.1 hk⟩
theorem zdb {cf : CF} (h : Ag L st.σ) (hB : AgB B st.l) {op : AOp} {k : V → Ts → Bs → Ms → Prop} (hk : wpOp cf op L B st.m k) :
  ∃ v st', evalOp cf st op = some (v, st') ∧ (op.isCall = true → st'.l = st.l) ∧ ∃ L' B', Ag L' st'.σ ∧ AgB B' st'.l ∧ k v L' B' st'.m := by
 cases op with
 | mv x =>
  dsimp only [wpOp] at hk
  obtain ⟨v, σ', e, L', h1, hk⟩ := zaJ h hk
  exact ⟨v, _, e, (fun hh => by cases hh), L', B, h1, hB, hk⟩
 | mvK s =>
  dsimp only [wpOp] at hk
  split at hk
  ·rename_i o z xs hv
   have e := h s _ hv
   exact ⟨_, { st with σ := upd st.σ s (.slice false z xs) }, by simp only [evalOp, e], (fun hh => by cases hh), _, B, h.upd s _, hB, hk⟩
  ·rename_i hv
   have e := h s _ hv
   exact ⟨_, st, by simp only [evalOp, e], (fun hh => by cases hh), L, B, h, hB, hk⟩
  ·exact hk.elim
 | pick c a b =>
  dsimp only [wpOp] at hk
  obtain ⟨v, e, hk⟩ := zaf h hk
  cases v with
  | bool t =>
   obtain ⟨w, e2, hk⟩ := zaf h hk
   exact ⟨w, st, by simp only [evalOp, e, Option.bind_some]; cases t <;> simp_all, (fun hh => by cases hh), L, B, h, hB, hk⟩
  | _ => exact hk.elim
 | allocL j zero =>
  dsimp only [wpOp] at hk
  obtain ⟨hz, hk⟩ := zaN hk
  obtain ⟨L', h1, hk⟩ := zlo h hk
  exact ⟨.loc j 0, { st with l := upd st.l j zero, σ := killL j st.σ }, by simp only [evalOp]; rw [if_pos hz], (fun hh => by cases hh), L', _, h1, hB.upd _ _, hk⟩
 | allocM zero =>
  dsimp only [wpOp] at hk
  obtain ⟨hz, hk⟩ := zaN hk
  rw [Bool.and_eq_true] at hz
  exact ⟨.ptr st.m.length 0, { st with m := st.m ++ [zero] }, by simp only [evalOp]; rw [if_pos ⟨hz.1, Nat.eq_of_beq_eq_true hz.2⟩], (fun hh => by cases hh), L, B, h, hB, hk⟩
 | boxL j x =>
  dsimp only [wpOp] at hk
  obtain ⟨v, σ', e, L1, h1, ho, hk⟩ := zaJ h hk
  obtain ⟨L', h2, hk⟩ := zlo h1 hk
  exact ⟨.loc j 0, { st with l := upd st.l j v.cells, σ := killL j σ' }, by simp only [evalOp, e, Option.bind_some]; rw [if_pos ho], (fun hh => by cases hh), L', _, h2, hB.upd _ _, hk⟩
 | boxM x =>
  dsimp only [wpOp] at hk
  obtain ⟨v, σ', e, L1, h1, ho, hk⟩ := zaJ h hk
  exact ⟨.ptr st.m.length 0, { st with σ := σ', m := st.m ++ [v.cells] }, by simp only [evalOp, e, Option.bind_some]; rw [if_pos ho], (fun hh => by cases hh), L1, B, h1, hB, hk⟩
 | build zero parts =>
  dsimp only [wpOp] at hk
  obtain ⟨cs, σ', e, L', h1, hk⟩ := zdj h hk
  exact ⟨.agg cs, { st with σ := σ' }, by simp only [evalOp, e, Option.bind_some], (fun hh => by cases hh), L', B, h1, hB, hk⟩
 | buildSlice sz zero len parts =>
  dsimp only [wpOp] at hk
  obtain ⟨hz, hk⟩ := zaN hk
  rw [Bool.and_eq_true] at hz
  obtain ⟨cs, σ', e, L', h1, hk⟩ := zcX h hk
  exact ⟨.slice true sz cs, { st with σ := σ' }, by simp only [evalOp]; rw [if_pos ⟨Nat.eq_of_beq_eq_true hz.1, hz.2⟩, e]; rfl, (fun hh => by cases hh), L', B, h1, hB, hk⟩
 | load agg n p mode =>
  dsimp only [wpOp] at hk
  obtain ⟨a, e, hk⟩ := zaf h hk
  obtain ⟨v, st', e2, e3, B', h1, hk⟩ := zdi h hB hk
  exact ⟨v, st', by simp only [evalOp, e, Option.bind_some, e2], (fun hh => by cases hh), L, B', by rw [e3]; exact h, h1, hk⟩
 | store n p x =>
  dsimp only [wpOp] at hk
  obtain ⟨v, σ', e, L1, h1, hk⟩ := zaJ h hk
  obtain ⟨a, e1, ho, hk⟩ := zaf (st := { st with σ := σ' }) h1 hk
  obtain ⟨st', e2, L', B', h2, h3, hk⟩ := zex (st := { st with σ := σ' }) h1 hB hk
  exact ⟨_, st', by simp only [evalOp, e, Option.bind_some, e1]; rw [if_pos ho, e2]; rfl, (fun hh => by cases hh), L', B', h2, h3, hk⟩
 | nilCheck x =>
  dsimp only [wpOp] at hk
  obtain ⟨a, e, hk⟩ := zaf h hk
  cases a <;> first | exact hk.elim | exact ⟨_, st, by simp only [evalOp, e, Option.bind_some], (fun hh => by cases hh), L, B, h, hB, hk⟩
 | bin op x y =>
  dsimp only [wpOp] at hk
  obtain ⟨a, e, hk⟩ := zaf h hk
  obtain ⟨b, e1, hk⟩ := zaf h hk
  obtain ⟨v, e2, hk⟩ := zfT hk
  exact ⟨v, st, by simp only [evalOp, e, e1, e2, Option.bind_some], (fun hh => by cases hh), L, B, h, hB, hk⟩
 | eq neg kind x y =>
  dsimp only [wpOp] at hk
  obtain ⟨a, e, hk⟩ := zaf h hk
  obtain ⟨b, e1, hk⟩ := zaf h hk
  obtain ⟨v, e2, hk⟩ := zhb hk
  exact ⟨_, st, by simp only [evalOp, e, e1, e2, Option.bind_some], (fun hh => by cases hh), L, B, h, hB, hk⟩
 | un op x =>
  dsimp only [wpOp] at hk
  obtain ⟨a, e, hk⟩ := zaf h hk
  cases hd : doUn op a with
  | none => simp only [hd] at hk
  | some v => simp only [hd] at hk; exact ⟨v, st, by simp only [evalOp, e, hd, Option.bind_some], (fun hh => by cases hh), L, B, h, hB, hk⟩
 | conv kd x =>
  dsimp only [wpOp] at hk
  obtain ⟨a, e, hk⟩ := zaf h hk
  cases a <;> first | exact hk.elim | exact ⟨_, st, by simp only [evalOp, e, Option.bind_some], (fun hh => by cases hh), L, B, h, hB, hk⟩
 | strStr x =>
  dsimp only [wpOp] at hk
  obtain ⟨a, e, hk⟩ := zaf h hk
  cases a <;> first | exact hk.elim | exact ⟨_, st, by simp only [evalOp, e, Option.bind_some], (fun hh => by cases hh), L, B, h, hB, hk⟩
 | strBytes x =>
  dsimp only [wpOp] at hk
  obtain ⟨a, e, hk⟩ := zaf h hk
  cases a <;> first | exact hk.elim | exact ⟨_, st, by simp only [evalOp, e, Option.bind_some], (fun hh => by cases hh), L, B, h, hB, hk⟩
 | bytesStr x =>
  dsimp only [wpOp] at hk
  obtain ⟨a, e, hk⟩ := zaf h hk
  obtain ⟨xs, e1, s, e2, hk⟩ := zcW h hB hk
  exact ⟨_, st, by simp only [evalOp, e, e1, e2, Option.bind_some], (fun hh => by cases hh), L, B, h, hB, hk⟩
 | intStr x => exact hk.elim
 | lend f z x lo => exact hk.elim
 | callP f args => exact hk.elim
 | callN f args w => exact hk.elim
 | tOp _ _ => exact hk.elim
 | loadW _ _ _ _ _ _ => exact hk.elim
 | convB x => exact hk.elim
 | makeSlice sz zero l c =>
  dsimp only [wpOp] at hk
  obtain ⟨a, e, hk⟩ := zaf h hk
  obtain ⟨b, e1, hk⟩ := zaf h hk
  cases a <;> try exact hk.elim
  cases b <;> try exact hk.elim
  obtain ⟨hc, hk⟩ := hk
  obtain ⟨hz, hk⟩ := zaN hk
  rw [Bool.and_eq_true] at hz
  exact ⟨_, st, by simp only [evalOp, e, e1, Option.bind_some]; rw [if_pos ⟨hc.1, hc.2.1, hc.2.2, Nat.eq_of_beq_eq_true hz.1, hz.2⟩], (fun hh => by cases hh), L, B, h, hB, hk⟩
 | sliceS x lo hi =>
  dsimp only [wpOp] at hk
  obtain ⟨a, e, hk⟩ := zaf h hk
  cases a <;> try exact hk.elim
  obtain ⟨q, e1, hk⟩ := zbj h hk
  obtain ⟨l, e2, hc, hk⟩ := zbj h hk
  exact ⟨_, st, by simp only [evalOp, e, e1, e2, Option.bind_some]; rw [if_pos hc], (fun hh => by cases hh), L, B, h, hB, hk⟩
 | sliceV sz x lo hi =>
  dsimp only [wpOp] at hk
  obtain ⟨v, σ', e, L1, h1, hk⟩ := zaJ h hk
  cases v <;> try exact hk.elim
  ·obtain ⟨q, e1, hk⟩ := zbj (st := { st with σ := σ' }) h1 hk
   obtain ⟨l, e2, hc, hk⟩ := zbj (st := { st with σ := σ' }) h1 hk
   exact ⟨.nils, { st with σ := σ' }, by simp only [evalOp, e, e1, e2, Option.bind_some]; rw [if_pos hc], (fun hh => by cases hh), L1, B, h1, hB, hk⟩
  ·obtain ⟨hz, hk⟩ := zaH hk
   obtain ⟨q, e1, hk⟩ := zbj (st := { st with σ := σ' }) h1 hk
   obtain ⟨l, e2, hc, hk⟩ := zbj (st := { st with σ := σ' }) h1 hk
   exact ⟨_, { st with σ := σ' }, by simp only [evalOp, e, e1, e2, Option.bind_some]; rw [if_pos ⟨hc.1, hc.2, hz⟩], (fun hh => by cases hh), L1, B, h1, hB, hk⟩
 | fieldAddr off x =>
  dsimp only [wpOp] at hk
  obtain ⟨a, e, hk⟩ := zaf h hk
  cases a <;> first | exact hk.elim | exact ⟨_, st, by simp only [evalOp, e, Option.bind_some], (fun hh => by cases hh), L, B, h, hB, hk⟩
 | field agg n off x =>
  dsimp only [wpOp] at hk
  obtain ⟨a, e, hk⟩ := zaf h hk
  cases a <;> try exact hk.elim
  rename_i cs
  cases agg with
  | false =>
   obtain ⟨rfl, hk⟩ := zaH hk
   cases hv : cs[off]? with
   | none => simp only [hv] at hk; exact hk.elim
   | some v =>
    simp only [hv] at hk
    exact ⟨v, st, by simp only [evalOp, e, Option.bind_some]; rw [if_pos (Nat.succ_le_of_lt (zai hv)), zhG hv]; rfl, (fun hh => by cases hh), L, B, h, hB, hk⟩
  | true => exact ⟨_, st, by simp only [evalOp, e, Option.bind_some]; rw [if_pos hk.1]; rfl, (fun hh => by cases hh), L, B, h, hB, hk.2⟩
 | indexArr len sz x i =>
  dsimp only [wpOp] at hk
  obtain ⟨a, e, hk⟩ := zaf h hk
  obtain ⟨b, e1, hk⟩ := zaf h hk
  cases b <;> try exact hk.elim
  obtain ⟨hc, hk⟩ := hk
  cases a <;> first | exact hk.elim | exact ⟨_, st, by simp only [evalOp, e, e1, Option.bind_some]; rw [if_pos hc], (fun hh => by cases hh), L, B, h, hB, hk⟩
 | indexSl sz x i =>
  dsimp only [wpOp] at hk
  obtain ⟨a, e, hk⟩ := zaf h hk
  obtain ⟨b, e1, hk⟩ := zaf h hk
  cases b <;> try exact hk.elim
  cases a with
  | place r =>
   have h1 := zd7 h hB hk
   cases hl : look st r with
   | slice own z xs =>
    rw [hl] at h1
    cases own with
    | false =>
     obtain ⟨hz, h0, cs, hcs, h1⟩ := zaH h1
     have e2 := zax (d := []) hcs
     exact ⟨_, st, by simp only [evalOp, e, e1, Option.bind_some, hl]; rw [if_pos ⟨h0, by have := zai hcs; omega, hz⟩, e2], (fun hh => by cases hh), L, B, h, hB, h1⟩
    | true =>
     obtain ⟨hz, h0, h1⟩ := zaH h1
     exact ⟨_, st, by simp only [evalOp, e, e1, Option.bind_some, hl]; rw [if_pos ⟨h0.1, h0.2, hz⟩], (fun hh => by cases hh), L, B, h, hB, h1⟩
   | _ => rw [hl] at h1; exact h1.elim
  | slice own z xs =>
   cases own with
   | false =>
    obtain ⟨hz, h0, cs, hcs, h1⟩ := zaH hk
    have e2 := zax (d := []) hcs
    exact ⟨_, st, by simp only [evalOp, e, e1, Option.bind_some]; rw [if_pos ⟨h0, by have := zai hcs; omega, hz⟩, e2], (fun hh => by cases hh), L, B, h, hB, h1⟩
   | true => exact hk.elim
  | _ => exact hk.elim
 | indexAgg agg len sz x i =>
  dsimp only [wpOp] at hk
  obtain ⟨a, e, hk⟩ := zaf h hk
  obtain ⟨b, e1, hk⟩ := zaf h hk
  cases a <;> try exact hk.elim
  cases b <;> try exact hk.elim
  obtain ⟨hc, hk⟩ := hk
  cases agg with
  | false =>
   obtain ⟨rfl, v, hv, hk⟩ := zaH hk
   exact ⟨v, st, by simp only [evalOp, e, e1, Option.bind_some]; rw [if_pos hc, zhG hv]; rfl, (fun hh => by cases hh), L, B, h, hB, hk⟩
  | true => exact ⟨_, st, by simp only [evalOp, e, e1, Option.bind_some]; rw [if_pos hc]; rfl, (fun hh => by cases hh), L, B, h, hB, hk⟩
 | indexStr x i =>
  dsimp only [wpOp] at hk
  obtain ⟨a, e, hk⟩ := zaf h hk
  obtain ⟨b, e1, hk⟩ := zaf h hk
  cases a <;> try exact hk.elim
  cases b <;> try exact hk.elim
  exact ⟨_, st, by simp only [evalOp, e, e1, Option.bind_some]; rw [if_pos hk.1], (fun hh => by cases hh), L, B, h, hB, hk.2⟩
 | extract x i =>
  dsimp only [wpOp] at hk
  obtain ⟨v, σ', e, L1, h1, hk⟩ := zaJ h hk
  cases v <;> try exact hk.elim
  rename_i vs
  cases hv : vs[i]? with
  | none => simp only [hv] at hk
  | some v =>
   simp only [hv] at hk
   exact ⟨v, { st with σ := σ' }, by simp only [evalOp, e, Option.bind_some]; rw [if_pos (zai hv), zax hv], (fun hh => by cases hh), L1, B, h1, hB, hk⟩
 | callF f args =>
  dsimp only [wpOp] at hk
  obtain ⟨vs, σ', e, L1, h1, ha, r, m', hr, hk⟩ := zcV h hk
  obtain ⟨L', h2, hk⟩ := zlo h1 hk
  exact ⟨r, { st with σ := killM σ', m := m' }, by simp only [evalOp, e, Option.bind_some]; rw [if_pos ha, hr]; rfl, fun _ => rfl, L', B, h2, hB, hk⟩
 | callV f args =>
  dsimp only [wpOp] at hk
  obtain ⟨fv, e0, hk⟩ := zaf h hk
  cases fv <;> try exact hk.elim
  obtain ⟨vs, σ', e, L1, h1, ha, r, m', hr, hk⟩ := zcV h hk
  obtain ⟨L', h2, hk⟩ := zlo h1 hk
  exact ⟨r, { st with σ := killM σ', m := m' }, by simp only [evalOp, e0, e, Option.bind_some]; rw [if_pos ha, hr]; rfl, fun _ => rfl, L', B, h2, hB, hk⟩
 | lenStr x =>
  dsimp only [wpOp] at hk
  obtain ⟨a, e, hk⟩ := zaf h hk
  cases a <;> first | exact hk.elim | exact ⟨_, st, by simp only [evalOp, e, Option.bind_some], (fun hh => by cases hh), L, B, h, hB, hk⟩
 | lenSl x =>
  dsimp only [wpOp] at hk
  obtain ⟨a, e, hk⟩ := zaf h hk
  obtain ⟨xs, e1, hk⟩ := zcW h hB hk
  exact ⟨_, st, by simp only [evalOp, e, e1, Option.bind_some], (fun hh => by cases hh), L, B, h, hB, hk⟩
 | lenC n => exact ⟨_, st, rfl, (fun hh => by cases hh), L, B, h, hB, hk⟩
 | append sz x y =>
  dsimp only [wpOp] at hk
  obtain ⟨p, σ1, e1, L1, h1, hk⟩ := zaJ h hk
  obtain ⟨q, σ2, e2, L2, h2, hk⟩ := zaJ (st := { st with σ := σ1 }) h1 hk
  obtain ⟨ys, e3, hk⟩ := zb0 (st := { st with σ := σ2 }) h2 hB hk
  have app : ∀ {xs z kk}, appW sz ys xs z kk → (xs.length + ys.length ≤ most ∧ z = sz) ∧ kk (.slice true sz (xs ++ ys)) := fun {xs z kk} ha => by
   obtain ⟨hz, hc, ha⟩ := zaH ha
   exact ⟨⟨hc, hz⟩, ha⟩
  have app0 : ∀ {kk : V → Prop}, zmX sz ys kk → ∃ v, (if ys.length ≤ most ∧ 0 < ys.length then some (V.slice true sz ys, ({ st with σ := σ2 } : St)) else if ys.length = 0 then some (.nils, { st with σ := σ2 }) else none) = some (v, { st with σ := σ2 }) ∧ kk v := fun {kk} ha => by
   obtain ⟨hm, hp, hn⟩ := ha
   by_cases h0 : 0 < ys.length
   ·exact ⟨_, by rw [if_pos ⟨hm, h0⟩], hp h0⟩
   ·exact ⟨_, by rw [if_neg (fun hh => h0 hh.2), if_pos (by omega)], hn (List.length_eq_zero_iff.1 (by omega))⟩
  have fin : ∀ v st', evalOp cf st (.append sz x y) = some (v, st') → ∀ L' B', Ag L' st'.σ → AgB B' st'.l → k v L' B' st'.m → ∃ v st', evalOp cf st (.append sz x y) = some (v, st') ∧ ((AOp.append sz x y).isCall = true → st'.l = st.l) ∧ ∃ L' B', Ag L' st'.σ ∧ AgB B' st'.l ∧ k v L' B' st'.m :=
   fun v st' e L' B' a b c => ⟨v, st', e, (fun hh => by cases hh), L', B', a, b, c⟩
  cases p with
  | nils =>
   obtain ⟨v, e, hk⟩ := app0 hk
   exact fin v { st with σ := σ2 } (by simp only [evalOp, e1, e2, e3, Option.bind_some]; exact e) L2 B h2 hB hk
  | slice o z xs =>
   cases o with
   | false => exact hk.elim
   | true =>
    obtain ⟨hc, hk⟩ := app hk
    exact fin (.slice true sz (xs ++ ys)) { st with σ := σ2 } (by simp only [evalOp, e1, e2, e3, Option.bind_some]; rw [if_pos hc]) L2 B h2 hB hk
  | place r =>
   cases r with
   | tmp s =>
    simp only at hk
    cases hs : fnd L2 s with
    | none => simp only [hs] at hk
    | some w =>
     have hl : look { st with σ := σ2 } (.tmp s) = w := h2 s w hs
     cases w with
     | slice o z xs =>
      cases o with
      | false => simp only [hs] at hk
      | true =>
       simp only [hs] at hk
       obtain ⟨hc, hk⟩ := app hk
       exact fin (.slice true sz (xs ++ ys)) { st with σ := upd σ2 s .undef } (by simp only [evalOp, e1, e2, e3, Option.bind_some, hl]; rw [if_pos hc]) _ B (h2.upd s .undef) hB hk
     | nils =>
      simp only [hs] at hk
      obtain ⟨v, e, hk⟩ := app0 hk
      exact fin v { st with σ := σ2 } (by simp only [evalOp, e1, e2, e3, Option.bind_some, hl]; exact e) L2 B h2 hB hk
     | _ => simp only [hs] at hk
   | mem b o =>
    obtain ⟨cs, hcs, w, hw, hk⟩ := hk
    have hl : look { st with σ := σ2 } (.mem b o) = w := by show (st.m.getD b []).getD o .undef = w; rw [zax hcs, zax hw]
    have hcd := zax (d := []) hcs
    cases w with
    | slice own z xs =>
     cases own with
     | false => exact hk.elim
     | true =>
      obtain ⟨hc, hk⟩ := app hk
      exact fin (.slice true sz (xs ++ ys)) { st with σ := σ2, m := st.m.set b (cs.set o .undef) } (by simp only [evalOp, e1, e2, e3, Option.bind_some, hl, hcd]; rw [if_pos hc]) L2 B h2 hB hk
    | nils =>
     obtain ⟨v, e, hk⟩ := app0 hk
     exact fin v { st with σ := σ2 } (by simp only [evalOp, e1, e2, e3, Option.bind_some, hl]; exact e) L2 B h2 hB hk
    | _ => exact hk.elim
   | loc j o =>
    simp only at hk
    cases hj : fnd B j with
    | none => simp only [hj] at hk
    | some cs =>
     simp only [hj] at hk
     obtain ⟨w, hw, hk⟩ := hk
     have hbj := hB j cs hj
     have hl : look { st with σ := σ2 } (.loc j o) = w := by show (st.l j).getD o .undef = w; rw [hbj, zax hw]
     cases w with
     | slice own z xs =>
      cases own with
      | false => exact hk.elim
      | true =>
       obtain ⟨hc, hk⟩ := app hk
       exact fin (.slice true sz (xs ++ ys)) { st with σ := σ2, l := upd st.l j (cs.set o .undef) } (by simp only [evalOp, e1, e2, e3, Option.bind_some, hl, hbj]; rw [if_pos hc]) L2 _ h2 (hB.upd _ _) hk
     | nils =>
      obtain ⟨v, e, hk⟩ := app0 hk
      exact fin v { st with σ := σ2 } (by simp only [evalOp, e1, e2, e3, Option.bind_some, hl]; exact e) L2 B h2 hB hk
     | _ => exact hk.elim
  | _ => exact hk.elim
 | minMax mx x ys =>
  dsimp only [wpOp] at hk
  obtain ⟨a, e, hk⟩ := zaf h hk
  obtain ⟨vs, e1, hk⟩ := zcF h hk
  obtain ⟨r, hm, hk⟩ := zd8 hk
  exact ⟨r, st, by simp only [evalOp, e, e1, hm, Option.bind_some], (fun hh => by cases hh), L, B, h, hB, hk⟩
 | mkFunc f captured =>
  dsimp only [wpOp] at hk
  obtain ⟨vs, e1, hc, hk⟩ := zcF h hk
  exact ⟨_, st, by simp only [evalOp, e1, Option.bind_some]; rw [if_pos hc], (fun hh => by cases hh), L, B, h, hB, hk⟩
end
end Go.Proofs.YtakdnfneikbjjaaGreatDoor.Am

namespace Go.Proofs.YtakdnfneikbjjaaGreatDoor.Am
section
variable {cf : CF} {L : Ts} {B : Bs} {st : St}
theorem zcG (h : Ag L st.σ) {o : AOper} {v : V} {k : Ts → Prop} (hk : putW o v L k) : ∃ σ', zcS o (v, st) = some { st with σ := σ' } ∧ ∃ L', Ag L' σ' ∧ k L' := by
 unfold putW at hk
 unfold zcS
 cases hd : o.dst with
 | none =>
  simp only [hd] at hk
  cases hkt : o.kt with
  | false =>
   rw [hkt] at hk
   exact ⟨st.σ, rfl, L, h, hk⟩
  | true =>
   rw [hkt] at hk
   simp only [cond_true] at hk
   cases hs : selfPlace none v with
   | true => rw [hs] at hk; exact hk.elim
   | false =>
    rw [hs] at hk
    exact ⟨st.σ, by simp [St.put], L, h, hk⟩
 | some d =>
  simp only [hd] at hk
  cases hkt : o.kt with
  | false =>
   rw [hkt] at hk
   exact ⟨upd st.σ d v, by simp [St.put], _, h.upd d v, hk⟩
  | true =>
   rw [hkt] at hk
   simp only [cond_true] at hk
   cases hs : selfPlace (some d) v with
   | true => rw [hs] at hk; exact hk.elim
   | false =>
    rw [hs] at hk
    exact ⟨upd (killT d st.σ) d v, by simp [St.put], _, Ag.upd (h.map (killTV d)) d v, zdw.1 hk⟩
theorem zfu (h : Ag L st.σ) {o : AOper} {k : Ts → Prop} (hk : putW o (.tuple []) L k) : ∃ σ', st.put o.kt o.dst (.tuple []) = { st with σ := σ' } ∧ ∃ L', Ag L' σ' ∧ k L' := by
 obtain ⟨σ', e, L', h1, h2⟩ := zcG h hk
 refine ⟨σ', ?_, L', h1, h2⟩
 unfold zcS at e
 cases hkt : o.kt with
 | false => rw [hkt] at e; simpa using e
 | true =>
  rw [hkt] at e
  simp only [if_true, selfPlace, Bool.false_eq_true, if_false, Option.some.injEq] at e
  exact e
theorem zcg : ∀ {os : List AOper} {L : Ts} {B : Bs} {st : St} {k : Ts → Bs → Ms → Prop} (_ : Ag L st.σ) (_ : AgB B st.l) (_ : wpOps cf os L B st.m k),
  ∃ st', za7 cf os st = some st' ∧ ∃ L' B', Ag L' st'.σ ∧ AgB B' st'.l ∧ k L' B' st'.m
 | [], L, B, st, k, h, hB, hk => ⟨st, rfl, L, B, h, hB, hk⟩
 | o :: os, L, B, st, k, h, hB, hk => by
  have doit : (wpOp cf o.op L B st.m fun v L1 B1 m1 => putW o v L1 fun L2 => wpOps cf os L2 B1 m1 k) → ∃ st1, (evalOp cf st o.op).bind (zcS o) = some st1 ∧ ∃ st', za7 cf os st1 = some st' ∧ ∃ L' B', Ag L' st'.σ ∧ AgB B' st'.l ∧ k L' B' st'.m := fun hk => by
   obtain ⟨v, st1, e, _, L1, B1, h1, hB1, hk⟩ := zdb h hB hk
   obtain ⟨σ', e2, L2, h2, hk⟩ := zcG h1 hk
   obtain ⟨st', e3, r⟩ := zcg (st := { st1 with σ := σ' }) h2 hB1 hk
   exact ⟨_, by rw [e]; exact e2, st', e3, r⟩
  unfold wpOps at hk
  cases hg : o.guard with
  | none =>
   rw [hg] at hk
   obtain ⟨st1, e, st', e2, r⟩ := doit hk
   exact ⟨st', by simp only [za7, zb4, hg, e, Option.bind_some, e2], r⟩
  | some q =>
   obtain ⟨g, want⟩ := q
   rw [hg] at hk
   simp only at hk
   cases hf : fnd L g with
   | none => simp only [hf] at hk
   | some v =>
    have hv := h g v hf
    cases v with
    | bool b =>
     simp only [hf] at hk
     by_cases hbw : b = want
     ·subst hbw
      simp only [beq_self_eq_true, cond_true] at hk
      obtain ⟨st1, e, st', e2, r⟩ := doit hk
      exact ⟨st', by simp only [za7, zb4, hg, hv, if_true, e, Option.bind_some, e2], r⟩
     ·have : (b == want) = false := by simpa using hbw
      rw [this] at hk
      simp only [cond_false] at hk
      obtain ⟨σ', e2, L2, h2, hk⟩ := zfu h hk
      obtain ⟨st', e3, r⟩ := zcg (st := { st with σ := σ' }) h2 hB hk
      exact ⟨st', by simp only [za7, zb4, hg, hv]; rw [if_neg hbw, e2]; exact e3, r⟩
    | tuple vs => cases vs with
     | nil =>
      simp only [hf] at hk
      obtain ⟨σ', e2, L2, h2, hk⟩ := zfu h hk
      obtain ⟨st', e3, r⟩ := zcg (st := { st with σ := σ' }) h2 hB hk
      exact ⟨st', by simp only [za7, zb4, hg, hv]; rw [e2]; exact e3, r⟩
     | cons => simp only [hf] at hk
    | _ => simp only [hf] at hk
theorem zcY (h : Ag L st.σ) {lean : Bool} : ∀ {r : List Nat}, zft lean L r = true → (r.all fun s => rootOk lean (st.σ s)) = true
 | [], _ => rfl
 | s :: r, hr => by
  unfold zft at hr
  cases hf : fnd L s with
  | none => simp only [hf] at hr; cases hr
  | some v =>
   simp only [hf, Bool.and_eq_true] at hr
   rw [List.all_cons, Bool.and_eq_true, h s v hf]
   exact ⟨hr.1, zcY h hr.2⟩
theorem zdk (h : Ag L st.σ) : ∀ {r : List Nat}, ziD L r = true → (r.all fun s => zfa (st.σ s)) = true
 | [], _ => rfl
 | s :: r, hr => by
  unfold ziD at hr
  cases hf : fnd L s with
  | none => simp only [hf] at hr; cases hr
  | some v =>
   simp only [hf, Bool.and_eq_true] at hr
   rw [List.all_cons, Bool.and_eq_true, h s v hf]
   exact ⟨hr.1, zdk h hr.2⟩
theorem zey {j : Nat} (h : Ag L st.σ) : ∀ {r : List Nat}, faW j L r = true → (r.all fun s => zii j (st.σ s)) = true
 | [], _ => rfl
 | s :: r, hr => by
  unfold faW at hr
  cases hf : fnd L s with
  | none => simp only [hf] at hr; cases hr
  | some v =>
   simp only [hf, Bool.and_eq_true] at hr
   rw [List.all_cons, Bool.and_eq_true, h s v hf]
   exact ⟨hr.1, zey h hr.2⟩
theorem ze5 (h : Ag L st.σ) {o : AOper} {st' : St} {k : Prop} (hl : o.op.isCall = true → st'.l = st.l) (hk : zkN o L st.m st'.m k) : za8 o st st' = true ∧ k := by
 unfold zkN at hk
 unfold za8
 have ptr : ∀ mk, (match o.op.ptr? with
   | none => k
   | some p => rdC L p fun v => match v with
    | .loc i _ => bif mk == Mark.loc i then k else False
    | .ptr _ _ => bif mk == Mark.mem then k else False
    | .ro _ _ => bif mk == Mark.free then k else False
    | _ => False) → (match o.op.ptr? with
   | none => true
   | some p => match getC st p with
    | some (.loc i _) => mk == .loc i
    | some (.ptr _ _) => mk == .mem
    | some (.ro _ _) => mk == .free
    | _ => false) = true ∧ k := fun mk hk => by
  cases hp : o.op.ptr? with
  | none => rw [hp] at hk; exact ⟨rfl, hk⟩
  | some p =>
   rw [hp] at hk
   obtain ⟨v, e, hk⟩ := zaf h hk
   simp only [e]
   cases v <;> first | exact hk.elim | exact zaN hk
 cases hm : o.mark with
 | none => rw [hm] at hk; exact ⟨rfl, hk⟩
 | cool =>
  rw [hm] at hk
  simp only at hk ⊢
  cases hp : o.op.ptr? with
  | some p => rw [hp] at hk; exact hk.elim
  | none =>
   rw [hp] at hk
   obtain ⟨h1, h2⟩ := zaN hk
   exact ⟨zdk h h1, h2⟩
 | quiet =>
  rw [hm] at hk
  obtain ⟨hc, hk⟩ := zaN hk
  have hp : st'.m = st.m ∧ st'.l = st.l := ⟨hk.1, hl hc⟩
  exact ⟨by simp only [hp, and_self, decide_true], hk.2⟩
 | fa j =>
  rw [hm] at hk
  obtain ⟨h1, h2⟩ := zaN hk
  exact ⟨zey h h1, h2⟩
 | loc j => rw [hm] at hk; exact ptr _ hk
 | mem => rw [hm] at hk; exact ptr _ hk
 | free => rw [hm] at hk; exact ptr _ hk
theorem zhc (h : Ag L st.σ) (hB : AgB B st.l) {o : AOper} {k : Ts → Bs → Ms → Prop} (hk : doD cf o L B st.m k) : ∃ st', zaq cf o st = some st' ∧ ∃ L' B', Ag L' st'.σ ∧ AgB B' st'.l ∧ k L' B' st'.m := by
 obtain ⟨hr, hk⟩ := zaN hk
 have hT : o.op.isT = false := by
  cases ho : o.op <;> first | rfl | (rw [ho] at hk; exact hk.elim)
 obtain ⟨v, st1, e, hl, L1, B1, h1, hB1, hk⟩ := zdb h hB hk
 obtain ⟨hro, hk⟩ := zaN hk
 obtain ⟨hm, hk⟩ := ze5 h hl hk
 obtain ⟨σ', e2, L2, h2, hk⟩ := zcG h1 hk
 refine ⟨{ st1 with σ := σ' }, ?_, L2, B1, h2, hB1, hk⟩
 unfold zaq
 rw [hT]
 simp only [Bool.false_eq_true, if_false]
 rw [if_pos (zcY h hr), e]
 simp only [Option.bind_some, putD, hro, hm, Bool.and_self, if_true]
 exact e2
theorem zdl : ∀ {os : List AOper} {L : Ts} {B : Bs} {st : St} {k : Ts → Bs → Ms → Prop} (_ : Ag L st.σ) (_ : AgB B st.l) (_ : wpD cf os L B st.m k),
  ∃ st', runD cf os st = some st' ∧ ∃ L' B', Ag L' st'.σ ∧ AgB B' st'.l ∧ k L' B' st'.m
 | [], L, B, st, k, h, hB, hk => ⟨st, rfl, L, B, h, hB, hk⟩
 | o :: os, L, B, st, k, h, hB, hk => by
  have doit : (doD cf o L B st.m fun L2 B1 m1 => wpD cf os L2 B1 m1 k) → ∃ st1, zaq cf o st = some st1 ∧ ∃ st', runD cf os st1 = some st' ∧ ∃ L' B', Ag L' st'.σ ∧ AgB B' st'.l ∧ k L' B' st'.m := fun hk => by
   obtain ⟨st1, e, L1, B1, h1, hB1, hk⟩ := zhc h hB hk
   obtain ⟨st', e3, r⟩ := zdl h1 hB1 hk
   exact ⟨_, e, st', e3, r⟩
  unfold wpD at hk
  cases hg : o.guard with
  | none =>
   rw [hg] at hk
   obtain ⟨st1, e, st', e2, r⟩ := doit hk
   exact ⟨st', by simp only [runD, zcw, hg, e, Option.bind_some, e2], r⟩
  | some q =>
   obtain ⟨g, want⟩ := q
   rw [hg] at hk
   simp only at hk
   cases hf : fnd L g with
   | none => simp only [hf] at hk
   | some v =>
    have hv := h g v hf
    cases v with
    | bool b =>
     simp only [hf] at hk
     by_cases hbw : b = want
     ·subst hbw
      simp only [beq_self_eq_true, cond_true] at hk
      obtain ⟨st1, e, st', e2, r⟩ := doit hk
      exact ⟨st', by simp only [runD, zcw, hg, hv, if_true, e, Option.bind_some, e2], r⟩
     ·have : (b == want) = false := by simpa using hbw
      rw [this] at hk
      simp only [cond_false] at hk
      obtain ⟨σ', e2, L2, h2, hk⟩ := zfu h hk
      obtain ⟨st', e3, r⟩ := zdl (st := { st with σ := σ' }) h2 hB hk
      exact ⟨st', by simp only [runD, zcw, hg, hv]; rw [if_neg hbw, e2]; exact e3, r⟩
    | tuple vs => cases vs with
     | nil =>
      simp only [hf] at hk
      obtain ⟨σ', e2, L2, h2, hk⟩ := zfu h hk
      obtain ⟨st', e3, r⟩ := zdl (st := { st with σ := σ' }) h2 hB hk
      exact ⟨st', by simp only [runD, zcw, hg, hv]; rw [e2]; exact e3, r⟩
     | cons => simp only [hf] at hk
    | _ => simp only [hf] at hk
theorem za4 {l : Nat → List V} (h : AgB B l) : ∀ {r : List Nat} {k : Bs → Prop}, zbH B r k → ∃ B', AgB B' l ∧ k B'
 | [], k, hk => ⟨[], fun s v hv => (nomatch hv), hk⟩
 | s :: r, k, hk => by
  unfold zbH at hk
  cases hs : fnd B s with
  | none => rw [hs] at hk; exact za4 h hk
  | some v =>
   rw [hs] at hk
   obtain ⟨L', h1, h3⟩ := za4 h (k := fun r' => k ((s, v) :: r')) hk
   refine ⟨_, fun t x hx => ?_, h3⟩
   rw [zbr] at hx
   split at hx
   ·rename_i e; subst e; cases hx; exact h _ _ hs
   ·exact h1 t x hx
theorem zdc : ∀ {rs : List ARes} {L : Ts} {B : Bs} {st : St} {k : List V → Ms → Prop} (_ : Ag L st.σ) (_ : AgB B st.l) (_ : resW rs L B st.m k), ∃ vs st', zdq st rs = some (vs, st') ∧ k vs st'.m
 | [], L, B, st, k, h, hB, hk => ⟨[], st, rfl, hk⟩
 | .tmp s :: r, L, B, st, k, h, hB, hk => by
  unfold resW at hk
  cases hs : fnd L s with
  | none => simp only [hs] at hk
  | some v =>
   simp only [hs] at hk
   obtain ⟨vs, st', e, hk⟩ := zdc (st := { st with σ := upd st.σ s .undef }) (h.upd s .undef) hB hk
   exact ⟨v :: vs, st', by simp only [zdq, e, Option.bind_some, h s v hs], hk⟩
 | .cell s agg n :: r, L, B, st, k, h, hB, hk => by
  unfold resW at hk
  cases hs : fnd L s with
  | none => simp only [hs] at hk
  | some a =>
   simp only [hs] at hk
   obtain ⟨v, st1, e, e2, B1, hB1, hk⟩ := zdi h hB hk
   obtain ⟨vs, st', e3, hk⟩ := zdc (st := st1) (L := L) (by rw [e2]; exact h) hB1 hk
   exact ⟨v :: vs, st', by simp only [zdq, h s a hs, e, Option.bind_some, e3], hk⟩
end
end Go.Proofs.YtakdnfneikbjjaaGreatDoor.Am

namespace Go.Proofs.YtakdnfneikbjjaaGreatDoor.Am
def zkO (l : List (Nat × AFunc)) (x : CF) : Table := ⟨fun f => l.lookup f, x⟩
def zmY (P : Program) [Lay P] : List (Nat × AFunc) → Prop
 | [] => True
 | p :: l => zjc P p.1 p.2 ∧ zmY P l
theorem zia {P : Program} [Lay P] {l : List (Nat × AFunc)} {x : CF} (h : zmY P l) (hx : Good P x) : TableOK P (zkO l x) where
 code f af hf := by
  have key : ∀ l : List (Nat × AFunc), zmY P l → l.lookup f = some af → zjc P f af := by
   intro l
   induction l with
   | nil => intro _ hl; cases hl
   | cons p l ih =>
    intro h hl
    obtain ⟨g, b⟩ := p
    rw [List.lookup_cons] at hl
    cases hb : f == g with
    | true =>
     rw [hb] at hl
     have := beq_iff_eq.1 hb
     subst this
     cases hl
     exact h.1
    | false => rw [hb] at hl; exact ih h.2 hl
  exact key l h hf
 ext := hx
end Go.Proofs.YtakdnfneikbjjaaGreatDoor.Am

namespace Go.Proofs.YtakdnfneikbjjaaGreatDoor.Am.Lay10
open Go
instance : Lay Go.Proofs.Tryz.prog := ⟨[], []⟩
def lyX : CF := fun f args m => match f, args with
 | 11, [] => some (.bool true, m)
 | _, _ => none
end Go.Proofs.YtakdnfneikbjjaaGreatDoor.Am.Lay10

namespace Go.Proofs.YtakdnfneikbjjaaGreatDoor.Am.LayA
open Go
def lyA : CF := fun f args m => match f, args with
 | 97, [.str s, .int .i64 10, .int .i64 64] => match Lib.parseIntB 64 s with
  | .ok v => if s.length ≤ 1000 then some (.tuple [.int .i64 v, .nili], m) else none
  | _ => none
 | _, _ => none
end Go.Proofs.YtakdnfneikbjjaaGreatDoor.Am.LayA

set_option linter.all false
namespace Go.Proofs.YtakdnfneikbjjaaGreatDoor.Am
def zmZ {α : Type} (v : V) (k : V → α) : α :=
 match v with
 | .undef => k .undef
 | .bool b => k (.bool b)
 | .int kd n => k (.int kd n)
 | .str s => k (.str s)
 | .nilp => k .nilp
 | .ptr b o => k (.ptr b o)
 | .loc j o => k (.loc j o)
 | .ro cs o => k (.ro cs o)
 | .el r z i j => k (.el r z i j)
 | .place r => k (.place r)
 | .nils => k .nils
 | .slice o z xs => k (.slice o z xs)
 | .agg cs => k (.agg cs)
 | .tuple vs => k (.tuple vs)
 | .func f cs => k (.func f cs)
 | .nilf => k .nilf
 | .nili => k .nili
theorem zjK {α : Type} (v : V) (k : V → α) : zmZ v k = k v := by cases v <;> rfl
def zfU {α : Type} : List V → (List V → α) → α
 | [], k => k []
 | v :: r, k => zmZ v fun v' => zfU r fun r' => k (v' :: r')
theorem zeJ {α : Type} : ∀ (l : List V) (k : List V → α), zfU l k = k l
 | [], _ => rfl
 | v :: r, k => by simp only [zfU, zjK, zeJ r]
def zhd {α : Type} : List (List V) → (List (List V) → α) → α
 | [], k => k []
 | v :: r, k => zfU v fun v' => zhd r fun r' => k (v' :: r')
theorem zez {α : Type} : ∀ (l : List (List V)) (k : List (List V) → α), zhd l k = k l
 | [], _ => rfl
 | v :: r, k => by simp only [zhd, zeJ, zez r]
def lk : List Nat → List V → Nat → V
 | j :: js, v :: vs, i => if i = j then v else lk js vs i
 | _, _, _ => .undef
theorem zm0 (σ : Nat → V) : ∀ (live : List Nat) (i : Nat), lk live (live.map σ) i = keep live σ i
 | [], i => by simp [lk, keep]
 | j :: js, i => by
  have := zm0 σ js i
  simp only [List.map_cons, lk]
  by_cases h : i = j
  ·subst h; simp [keep]
  ·rw [if_neg h, this]
   simp [keep, h]
def lkL (n : Nat) (ls : List (List V)) (l : Nat → List V) : Nat → List V := fun j => if j < n then ls.getD j [] else l j
theorem zpo (n : Nat) (l : Nat → List V) : lkL n ((List.range n).map l) l = l := by
 funext j
 unfold lkL
 split
 ·rename_i h
  simp [List.getD_eq_getElem?_getD, h]
 ·rfl
def zoZ {α : Type} (nl : Nat) (live : List Nat) (st : St) (k : St → α) : α :=
 zfU (live.map st.σ) fun vs => zhd ((List.range nl).map st.l) fun ls => zhd st.m fun m => k ⟨lk live vs, lkL nl ls st.l, m⟩
theorem zn7 {α : Type} (nl : Nat) (live : List Nat) (st : St) (k : St → α) : zoZ nl live st k = k { st with σ := keep live st.σ } := by
 unfold zoZ
 rw [zeJ, zez, zez, zpo]
 congr 1
 have : lk live (live.map st.σ) = keep live st.σ := funext fun i => zm0 st.σ live i
 rw [this]
mutual
def V.beq : V → V → Bool
 | .undef, .undef | .nilp, .nilp | .nils, .nils | .nilf, .nilf | .nili, .nili => true
 | .bool a, .bool b => a == b
 | .int k n, .int k' n' => decide (k = k') && decide (n = n')
 | .str s, .str t => decide (s = t)
 | .ptr a b, .ptr c d | .loc a b, .loc c d => decide (a = c) && decide (b = d)
 | .ro cs o, .ro cs' o' => V.beqL cs cs' && decide (o = o')
 | .el r z i k, .el r' z' i' k' => decide (r = r') && decide (z = z') && decide (i = i') && decide (k = k')
 | .place r, .place r' => decide (r = r')
 | .slice o z xs, .slice o' z' xs' => decide (o = o') && decide (z = z') && V.beqM xs xs'
 | .agg a, .agg b | .tuple a, .tuple b => V.beqL a b
 | .func f cs, .func f' cs' => decide (f = f') && V.beqL cs cs'
 | _, _ => false
def V.beqL : List V → List V → Bool
 | [], [] => true
 | a :: l, b :: m => V.beq a b && V.beqL l m
 | _, _ => false
def V.beqM : List (List V) → List (List V) → Bool
 | [], [] => true
 | a :: l, b :: m => V.beqL a b && V.beqM l m
 | _, _ => false
end
mutual
theorem V.beq_eq : ∀ {a b : V}, V.beq a b = true → a = b := by
 intro a b h
 cases a <;> cases b <;> simp only [V.beq, Bool.and_eq_true, decide_eq_true_eq, beq_iff_eq, Bool.false_eq_true] at h
 all_goals first
  | rfl
  | (subst h; rfl)
  | (obtain ⟨h1, h2⟩ := h; subst h1 h2; rfl)
  | (obtain ⟨⟨⟨h1, h2⟩, h3⟩, h4⟩ := h; subst h1 h2 h3 h4; rfl)
  | (obtain ⟨h1, h2⟩ := h; have := V.beqL_eq h1; subst this h2; rfl)
  | (obtain ⟨⟨h1, h2⟩, h3⟩ := h; have := V.beqM_eq h3; subst h1 h2 this; rfl)
  | (have := V.beqL_eq h; subst this; rfl)
  | (obtain ⟨h1, h2⟩ := h; have := V.beqL_eq h2; subst h1 this; rfl)
theorem V.beqL_eq : ∀ {a b : List V}, V.beqL a b = true → a = b
 | [], [], _ => rfl
 | x :: l, y :: m, h => by
  simp only [V.beqL, Bool.and_eq_true] at h
  rw [V.beq_eq h.1, V.beqL_eq h.2]
 | [], _ :: _, h => by cases h
 | _ :: _, [], h => by cases h
theorem V.beqM_eq : ∀ {a b : List (List V)}, V.beqM a b = true → a = b
 | [], [], _ => rfl
 | x :: l, y :: m, h => by
  simp only [V.beqM, Bool.and_eq_true] at h
  rw [V.beqL_eq h.1, V.beqM_eq h.2]
 | [], _ :: _, h => by cases h
 | _ :: _, [], h => by cases h
end
def zoz : AOp → Bool
 | .callF _ _ | .callV _ _ => true
 | _ => false
def zpp (o : AOper) (st st' : St) : Bool :=
 match o.mark with
 | .none => true
 | .cool => match o.op.ptr? with
  | none => (slots o.op.opds).all fun s => zfa (st.σ s)
  | some _ => false
 | .quiet => zoz o.op && V.beqM st'.m st.m
 | .fa j => (slots o.op.opds).all fun s => zii j (st.σ s)
 | mk => match o.op.ptr? with
  | none => true
  | some p => match getC st p with
   | some (.loc i _) => mk == .loc i
   | some (.ptr _ _) => mk == .mem
   | some (.ro _ _) => mk == .free
   | _ => false
def putE (o : AOper) (st : St) (p : V × St) : Option St := if zek o p.1 && zpp o st p.2 then zcS o p else none
def zlp (cf : CF) (o : AOper) (st : St) : Option St :=
 if o.op.isT then (evalOp cf st o.op).bind (zcS o) else if (slots o.op.opds).all fun s => rootOk o.lean (st.σ s) then (evalOp cf st o.op).bind (putE o st) else none
def zm1 (cf : CF) (o : AOper) (st : St) : Option St :=
 match o.guard with
 | none => zlp cf o st
 | some (g, want) => match st.σ g with
  | .bool b => if b = want then zlp cf o st else some (st.put o.kt o.dst (.tuple []))
  | .tuple [] => some (st.put o.kt o.dst (.tuple []))
  | _ => none
def zo0 (cf : CF) : List AOper → St → Option St
 | [], st => some st
 | o :: os, st => (zm1 cf o st).bind (zo0 cf os)
theorem zkP {st : St} : ∀ {xs : List Opd} {p : List V × St}, getOs st xs = some p → p.2.l = st.l
 | [], p, h => by
  simp only [getOs, Option.some.injEq] at h; subst h; rfl
 | x :: xs, p, h => by
  simp only [getOs, Option.bind_eq_some_iff, Option.some.injEq] at h
  obtain ⟨q, hq, r, hr, rfl⟩ := h
  have h1 := zkP hr
  simp only
  rw [h1]
  unfold getO at hq
  split at hq
  ·cases hq; rfl
  ·split at hq
   ·cases hq
   ·cases hq; rfl
  ·cases hq; rfl
  ·cases hq; rfl
  ·cases hq; rfl
  ·split at hq
   ·cases hq
   ·cases hq; rfl
theorem zpq {cf : CF} {st : St} {op : AOp} {v : V} {st' : St} (hc : zoz op = true) (h : evalOp cf st op = some (v, st')) : st'.l = st.l := by
 cases op with
 | callF f args =>
  simp only [evalOp, Option.bind_eq_some_iff] at h
  obtain ⟨p, hp, h⟩ := h
  split at h
  ·simp only [Option.bind_eq_some_iff, Option.some.injEq, Prod.mk.injEq] at h
   obtain ⟨r, _, _, rfl⟩ := h
   exact zkP hp
  ·cases h
 | callV f args =>
  simp only [evalOp, Option.bind_eq_some_iff] at h
  obtain ⟨fv, _, h⟩ := h
  cases fv with
  | func g cap =>
   simp only [Option.bind_eq_some_iff] at h
   obtain ⟨p, hp, h⟩ := h
   split at h
   ·simp only [Option.bind_eq_some_iff, Option.some.injEq, Prod.mk.injEq] at h
    obtain ⟨r, _, _, rfl⟩ := h
    exact zkP hp
   ·cases h
  | _ => cases h
 | _ => cases hc
theorem zjL {cf : CF} {o : AOper} {st st' : St} (h : zlp cf o st = some st') : zaq cf o st = some st' := by
 unfold zlp at h
 unfold zaq
 by_cases hT : o.op.isT = true
 ·rw [if_pos hT] at h ⊢; exact h
 rw [if_neg hT] at h ⊢
 split at h
 ·rename_i hr
  rw [if_pos hr]
  simp only [Option.bind_eq_some_iff] at h ⊢
  obtain ⟨p, hp, h⟩ := h
  refine ⟨p, hp, ?_⟩
  unfold putE at h
  unfold putD
  split at h
  ·rename_i hm
   simp only [Bool.and_eq_true] at hm
   have : za8 o st p.2 = true := by
    have h2 := hm.2
    unfold zpp at h2
    unfold za8
    cases hmk : o.mark with
    | quiet =>
     rw [hmk] at h2
     simp only [Bool.and_eq_true] at h2
     simp only
     exact @decide_eq_true _ (_) ⟨V.beqM_eq h2.2, zpq h2.1 hp⟩
    | none => rfl
    | _ => rw [hmk] at h2; exact h2
   rw [if_pos (by rw [hm.1, this]; rfl)]
   exact h
  ·cases h
 ·cases h
theorem zm2 {cf : CF} {o : AOper} {st st' : St} (h : zm1 cf o st = some st') : zcw cf o st = some st' := by
 unfold zm1 at h
 unfold zcw
 cases hg : o.guard with
 | none => rw [hg] at h; exact zjL h
 | some gw =>
  obtain ⟨g, want⟩ := gw
  rw [hg] at h
  simp only at h ⊢
  cases hs : st.σ g with
  | bool b =>
   rw [hs] at h
   simp only at h ⊢
   split at h
   ·rename_i hc; rw [if_pos hc]; exact zjL h
   ·rename_i hc; rw [if_neg hc]; exact h
  | tuple vs =>
   rw [hs] at h
   cases vs with
   | nil => exact h
   | cons _ _ => cases h
  | _ => rw [hs] at h; cases h
theorem zlq {cf : CF} : ∀ {os : List AOper} {st st' : St}, zo0 cf os st = some st' → runD cf os st = some st'
 | [], _, _, h => h
 | _ :: _, _, _, h => zaW (fun _ h => zm2 h) (fun _ _ h => zlq h) h
def zfV (cf : CF) (nl n : Nat) : ACode → St → Option (Ex × St)
 | .skip, st => some (.normal, st)
 | .region false ops, st => (za7 cf ops st).bind fun st => some (.normal, st)
 | .region true ops, st => (zo0 cf ops st).bind fun st => some (.normal, st)
 | .seq a b, st => (zfV cf nl n a st).bind fun r => match r.1 with
  | .normal => zfV cf nl n b r.2
  | e => some (e, r.2)
 | .cond c t e, st => (getC st c).bind fun v => match v with
  | .bool true => zfV cf nl n t st
  | .bool false => zfV cf nl n e st
  | _ => none
 | .block id b, st => (zfV cf nl n b st).bind fun r => match r.1 with
  | .exit i => if i = id then some (.normal, r.2) else some (.exit i, r.2)
  | e => some (e, r.2)
 | .loop live b, st => zb5 (fun st => zoZ nl live st fun st => zfV cf nl n b st) n st
 | .exit id, st => some (.exit id, st)
 | .ret, st => some (.ret, st)
theorem zn8 {cf : CF} {nl n : Nat} : ∀ {c : ACode} {st : St} {x : Ex × St}, zfV cf nl n c st = some x → exec cf c st = some x := by
 intro c
 induction c with
 | skip => intro st x he; exact he
 | region d ops =>
  intro st x he
  cases d with
  | true => simp only [zfV] at he; simp only [exec]; exact zaW (fun _ h => zlq h) (fun _ _ h => h) he
  | false => exact he
 | seq a b iha ihb =>
  intro st x he
  simp only [zfV] at he
  simp only [exec]
  refine zaW (fun _ => iha) (fun q y hq => ?_) he
  obtain ⟨e, st1⟩ := q
  cases e with
  | normal => exact ihb hq
  | _ => exact hq
 | cond c t e iht ihe =>
  intro st x he
  simp only [zfV] at he
  simp only [exec]
  refine zaW (fun _ h => h) (fun v y hq => ?_) he
  cases v with
  | bool b =>
   cases b with
   | true => exact iht hq
   | false => exact ihe hq
  | _ => cases hq
 | block i b ih =>
  intro st x he
  simp only [zfV] at he
  simp only [exec]
  exact zaW (fun _ => ih) (fun _ _ h => h) he
 | loop live b ih =>
  intro st x he
  simp only [zfV] at he
  simp only [exec]
  refine zcc.2 ⟨n, zeu (fun st x h => ?_) he⟩
  rw [zn7] at h
  exact ih h
 | exit i => intro st x he; exact he
 | ret => intro st x he; exact he
def runE (cf : CF) (n : Nat) (f : AFunc) (args : List V) (m : List (List V)) : Option (V × List (List V)) :=
 if args.length = f.np then
  zfU args fun args => zhd m fun m => (zfV cf f.nl n f.body ⟨fun i => args.getD i .undef, fun _ => [], m⟩).bind fun r => match r.1 with
   | .exit _ => none
   | _ => (zhM r.2 f.results).bind fun q =>
    if m.length ≤ q.2.m.length then zmZ q.1 fun v => zhd q.2.m fun m' => some (v, if v.top2 ≤ m.length then m'.take m.length else m') else none
 else none
theorem zo1 {cf : CF} {n : Nat} {f : AFunc} {args : List V} {m : List (List V)} {x : V × List (List V)} (h : runE cf n f args m = some x) : runF cf f args m = some x := by
 unfold runE at h
 unfold runF
 split at h
 ·rename_i hc
  rw [if_pos hc]
  rw [zeJ, zez] at h
  refine zaW (fun _ => zn8) (fun q y hq => ?_) h
  obtain ⟨e, st1⟩ := q
  simp only [zjK, zez] at hq
  exact hq
 ·cases h
def evF (T : Table) (n : Nat) : Nat → CF
 | 0 => fun _ _ _ => none
 | k + 1 => fun f args m => match T.code f with
  | some fn => runE (evF T n k) n fn args m
  | none => T.ext f args m
theorem zm3 {T : Table} {n : Nat} : ∀ {k f : Nat} {args : List V} {m : List (List V)} {r : V} {m' : List (List V)}, evF T n k f args m = some (r, m') → Ret T f args m r m'
 | 0, f, args, m, r, m', h => by cases h
 | k + 1, f, args, m, r, m', h => by
  unfold evF at h
  split at h
  ·rename_i fn hf
   exact .mk (evF T n k) f fn args m r m' hf (zo1 h) fun f a m r m' hh => zm3 hh
  ·rename_i hf
   exact .ext f args m r m' hf h
def ziE : Option (V × List (List V)) → Bool
 | some (.bool true, []) => true
 | _ => false
theorem zn9 {T : Table} {n k f : Nat} (h : ziE (evF T n k f [] []) = true) : Ret T f [] [] (.bool true) [] := by
 refine zm3 (n := n) (k := k) ?_
 revert h
 cases evF T n k f [] [] with
 | none => intro h; cases h
 | some x =>
  obtain ⟨v, m⟩ := x
  intro h
  unfold ziE at h
  split at h
  ·rename_i e; exact e
  ·cases h
theorem zdr.anyMem {P : Program} [Lay P] {f : Nat} {b : Bool} (hcall : zdr P f [] [] (.bool b) []) (m : List (List V)) : zdr P f [] m (.bool b) m := by
 intro g w fr vs hsz hok hL h
 have hvs : vs = #[] := Array.eq_empty_of_size_eq_zero hsz
 subst hvs
 have h : SR g w 0 fr (fun _ => false) ⟨fun _ => .undef, fun _ => [], m⟩ #[] [] := h
 obtain ⟨fr', hfr'⟩ : ∃ fr' : Nat → Nat, fr' = fun c => cntM g w c m + fr c := ⟨_, rfl⟩
 have hT : ∀ c, total g w 0 fr' ⟨fun _ => .undef, fun _ => [], []⟩ #[] [] c = total g w 0 fr ⟨fun _ => .undef, fun _ => [], m⟩ #[] [] c := fun c => by
  subst hfr'
  have e3 : cntM g w c [] = 0 := rfl
  unfold total
  simp only [e3]
  omega
 have hS : SR g w 0 fr' (fun _ => false) ⟨fun _ => .undef, fun _ => [], []⟩ #[] [] :=
  ⟨fun s => trivial, fun s _ => rfl, fun s d hd => (by cases hd), fun p hp => (by cases hp), fun p hp => (by cases hp), h.lvs, fun j hj => absurd rfl hj, fun b hb => absurd hb (Nat.not_lt_zero _), fun c => by rw [hT]; exact h.one c, fun c hc => by rw [hT]; exact h.out c hc⟩
 refine (hcall g w fr' #[] rfl rfl hL hS).mono fun e w' => ?_
 rintro ⟨v, g2, rfl, hS2, hE, hml, hnr, hnl⟩
 obtain ⟨g3, hg3⟩ : ∃ g3 : G, g3 = { g2 with mb := g.mb } := ⟨_, rfl⟩
 have hfrm : ∀ c, 0 < cntM g w c m ∨ 0 < fr c → Same w w' c := fun c hc => hE.frame c (by subst hfr'; simp only; omega)
 have hmem : ∀ b, b < m.length → ∀ c, 0 < zaO g w c m b → Same w w' c := fun b hb c hc => hfrm c (.inl (by
  have := za9 (f := fun i => zaO g w c m i) hb
  unfold cntM; omega))
 have hmbs : ∀ b, b < m.length → Same w w' (g.mb b) := fun b hb => hmem b hb _ (by unfold zaO; rw [if_pos rfl]; omega)
 have hcM : ∀ c, cntM g3 w' c m = cntM g w c m := fun c => by
  subst hg3
  refine zal fun b hb => ?_
  unfold zaO
  rw [(hmbs b hb).cellsOf]
 have hpers : ∀ c, g.pers c → g3.pers c ∧ Same w w' c := fun c hc => by
  subst hg3
  exact hE.pers c hc
 have hR : R3 g2 w' 0 (tsAt #[]) (.bool b) v := hS2.pend (.bool b, v) (.head _)
 have hv : v = .bool b := by cases hR; rfl
 subst hv
 have hT2 : ∀ c, total g3 w' 0 fr ⟨fun _ => .undef, fun _ => [], m⟩ #[] [(.bool b, .bool b)] c = total g2 w' 0 fr' ⟨fun _ => .undef, fun _ => [], []⟩ #[] [(.bool b, .bool b)] c := fun c => by
  have e3 : cntM g2 w' c [] = 0 := rfl
  have e2 : cntB g3 w' c 0 (fun _ => []) = 0 := rfl
  have e2' : cntB g2 w' c 0 (fun _ => []) = 0 := rfl
  have e4 : za1 g3 c = za1 g2 c := by subst hg3; rfl
  unfold total
  simp only [e2, e2', e3, e4, hcM]
  subst hfr'
  simp only
  omega
 refine ⟨.bool b, g3, rfl, ?_, ⟨hE.os, hE.tape, hE.output, hE.size, hpers, fun c hc => hfrm c (.inr hc), fun b _ => by subst hg3; rfl⟩, Nat.le_refl _, hnr, hnl⟩
 refine ⟨fun s => trivial, fun s _ => rfl, fun s d hd => (by cases hd), fun p hp => ?_, fun p hp d hd => ?_, fun j => ?_, fun j hj => absurd rfl hj, fun b hb => ?_, fun c => by rw [hT2]; exact hS2.one c, fun c hc => by rw [hT2]; exact hS2.out c hc⟩
 ·simp only [List.mem_singleton] at hp
  subst hp
  exact RB.bool b
 ·simp only [List.mem_singleton] at hp
  subst hp
  cases hd
 ·have := hS2.lvs j
  subst hg3
  exact this
 ·have hgb : g3.mb b = g.mb b := by subst hg3; rfl
  rw [hgb]
  exact ⟨CBlk.mono (g := g) hpers (Nat.le_refl _) (fun b _ => by subst hg3; rfl) (hmbs b hb) (fun d (hd : 0 < cntL d (m.getD b []) (cellsOf w (g.mb b))) => hmem b hb d (by unfold zaO; omega)) (h.mem b hb).1, (h.mem b hb).2⟩
end Go.Proofs.YtakdnfneikbjjaaGreatDoor.Am
