/-
A part of the proof of a law: am swap t, am draw, am ops k, am ops l, am ok, am eq, am wp, am wp s, am wp c, am tab, ly ext, ly ext a, am eval, ly code a, ly shelf.
-/
import Derived.Test.YtakdnfneikbjjaaGreatDoorAmLayoutReadsRow2
import Derived.Laws.StructEq
import Derived.ChangeKeysEq
import Derived.Lib.ParseIntB
import Derived.Test.YtakdnfneikbjjaaGreatDoorProg
import Derived.Shelf.Strconv.ParseIntPublic10
import Derived.Ground.NamesProg
set_option linter.all false
namespace Go.Proofs.YtakdnfneikbjjaaGreatDoor.Am
def TOp.sees (s : Nat) : TOp → List Nat
 | .place => []
 | .index _ x i => s :: x :: slots [i]
 | .load _ _ p => [s, p]
 | .len x => [s, x]
 | .store _ _ _ => []
def TOp.reads : TOp → Bool
 | .store _ _ _ => false
 | .index _ _ i => (taken [i]).isEmpty
 | _ => true
def AOper.tlook? (o : AOper) : Option (Nat × Nat × TOp) := match o with
 | ⟨some d, none, false, .tOp s k, .none⟩ => if k.reads then some (d, s, k) else none
 | _ => none
def AOper.plain? (o : AOper) : Option Nat := match o.dst with
 | some d => if o.guard.isNone && o.fit && o.op.pure && (taken o.op.opds).isEmpty then some d else none
 | none => none
section
variable {cf : CF} {st st' : St}
def zjq (cf : CF) (o : AOper) (d : Nat) (R : List Nat) : Prop :=
 ∃ V : St → Option V, (∀ st st', zay cf o st = some st' ↔ ∃ y, V st = some y ∧ st' = { st with σ := upd st.σ d y }) ∧ ∀ s1 s2 : St, (∀ t ∈ R, s1.σ t = s2.σ t) → s1.m = s2.m → s1.l = s2.l → V s1 = V s2
theorem zjr {o : AOper} {d s : Nat} {k : TOp} (h : o.tlook? = some (d, s, k)) : o.guard = none ∧ zjq cf o d (k.sees s) := by
 unfold AOper.tlook? at h
 split at h
 ·split at h
  ·rename_i d' s' k' hr
   simp only [yaa, yac] at h
   obtain ⟨rfl, rfl, rfl⟩ := h
   refine ⟨rfl, fun st => (zdF st s' k').map Prod.fst, fun st st' => ?_, fun s1 s2 hs hm hl => ?_⟩
   ·have hst : ∀ {y : V × St}, zdF st s' k' = some y → y.2 = st := fun {y} hy => by
     cases k' with
     | place => simp only [zdF, yaa] at hy; subst hy; rfl
     | index sz x i =>
      simp only [zdF] at hy
      split at hy
      ·simp only [yab] at hy
       obtain ⟨n, _, hy⟩ := hy
       cases n with
       | int kk j =>
        simp only at hy
        split at hy
        ·split at hy
         ·simp only [yaa] at hy; subst hy; rfl
         ·cases hy
        ·split at hy
         ·simp only [yaa] at hy; subst hy; rfl
         ·cases hy
        ·cases hy
       | _ => cases hy
      ·cases hy
     | load agg n p =>
      simp only [zdF, yab, yaa] at hy
      obtain ⟨_, _, _, _, rfl⟩ := hy; rfl
     | len x =>
      simp only [zdF] at hy
      split at hy
      ·simp only [yab, yaa] at hy
       obtain ⟨_, _, rfl⟩ := hy; rfl
      ·cases hy
     | store n p x => cases hr
    show (if true = true then (zdF st s' k').bind (zdv _) else _) = some st' ↔ _
    rw [if_pos rfl]
    constructor
    ·intro h1
     simp only [yab] at h1
     obtain ⟨⟨y, sy⟩, hy, h1⟩ := h1
     have e := hst hy
     simp only at e
     subst e
     simp only [zdv, yas, if_false, yaa] at h1
     exact ⟨y, by show (zdF _ s' k').map Prod.fst = some y; rw [hy]; rfl, h1.symm⟩
    ·rintro ⟨y, hy, rfl⟩
     simp only [yah] at hy
     obtain ⟨⟨y', sy⟩, hy, rfl⟩ := hy
     have e := hst hy
     simp only at e
     subst e
     rw [hy]; rfl
   ·cases k' with
    | place => rfl
    | index sz x i =>
     have e1 : s1.σ s' = s2.σ s' := hs s' (by simp [TOp.sees])
     have e2 : s1.σ x = s2.σ x := hs x (by simp [TOp.sees])
     have e3 : getC s1 i = getC s2 i := zan fun t ht => hs t (by simp only [TOp.sees, slots, yag, List.flatMap_nil, List.append_nil, List.mem_cons]; exact .inr (.inr ht))
     simp only [zdF, e1, e2, e3]
     split
     ·cases getC s2 i with
      | none => rfl
      | some n =>
       cases n with
       | int kk j =>
        simp only [Option.bind_some]
        split
        ·split <;> rfl
        ·split <;> rfl
        ·rfl
       | _ => rfl
     ·rfl
    | load agg n p =>
     have e1 : s1.σ s' = s2.σ s' := hs s' (by simp [TOp.sees])
     have e2 : s1.σ p = s2.σ p := hs p (by simp [TOp.sees])
     have e3 : zke s1 s' n (s1.σ p) = zke s2 s' n (s2.σ p) := by
      rw [e2]
      unfold zke
      rw [e1]
     simp only [zdF, e3]
     cases zke s2 s' n (s2.σ p) with
     | none => rfl
     | some cs => simp only [Option.bind_some]; cases agg? agg cs <;> rfl
    | len x =>
     have e1 : s1.σ s' = s2.σ s' := hs s' (by simp [TOp.sees])
     have e2 : s1.σ x = s2.σ x := hs x (by simp [TOp.sees])
     have e3 : elems s1 (.place (.tmp s')) = elems s2 (.place (.tmp s')) := by simp only [elems, look, e1]
     simp only [zdF, e2, e3]
     split
     ·cases elems s2 (.place (.tmp s')) <;> rfl
     ·rfl
    | store n p x => cases hr
  ·cases h
 ·cases h
theorem zjs {o : AOper} {d : Nat} (h : o.plain? = some d) : o.guard = none ∧ zjq cf o d (slots o.op.opds) := by
 unfold AOper.plain? at h
 split at h
 ·rename_i d' hd
  split at h
  ·rename_i hc
   simp only [yaa] at h
   subst h
   simp only [yae, Option.isNone_iff_eq_none, List.isEmpty_iff] at hc
   obtain ⟨⟨⟨hg, hf⟩, hp⟩, ht⟩ := hc
   obtain ⟨hb, _, hk⟩ := zc4.1 hf
   refine ⟨hg, ?_⟩
   open Classical in
   refine ⟨fun st => if (∀ t ∈ slots o.op.opds, rootOk o.lean (st.σ t) = true) then ((evalOp cf st o.op).bind fun q => if zeY o q.1 = true ∧ zbg o st st = true then some q.1 else none) else none, fun st st' => ?_, fun s1 s2 hs hm hl => ?_⟩
   ·rw [zaQ hk (zmU hb), hd]
    constructor
    ·rintro ⟨x, st1, h1, h2, h3, h4, rfl⟩
     obtain ⟨e1, _⟩ := zdi hp ht (st1 := st) (st2 := st) (fun _ _ => rfl) h2
     subst e1
     refine ⟨x, ?_, rfl⟩
     simp only
     rw [if_pos h1, h2]
     simp only [Option.bind_some]
     rw [if_pos ⟨h3, h4⟩]
    ·rintro ⟨y, hy, rfl⟩
     simp only at hy
     split at hy
     ·rename_i h1
      simp only [yab] at hy
      obtain ⟨⟨z, sz⟩, hz, hy⟩ := hy
      split at hy
      ·rename_i h2
       simp only [yaa] at hy
       subst hy
       obtain ⟨e1, _⟩ := zdi hp ht (st1 := st) (st2 := st) (fun _ _ => rfl) hz
       subst e1
       exact ⟨_, _, h1, hz, h2.1, h2.2, rfl⟩
      ·cases hy
     ·cases hy
   ·simp only
    have e0 : (∀ t ∈ slots o.op.opds, rootOk o.lean (s1.σ t) = true) ↔ (∀ t ∈ slots o.op.opds, rootOk o.lean (s2.σ t) = true) := ⟨fun h t ht => by rw [← hs t ht]; exact h t ht, fun h t ht => by rw [hs t ht]; exact h t ht⟩
    by_cases hr : ∀ t ∈ slots o.op.opds, rootOk o.lean (s1.σ t) = true
    ·rw [if_pos hr, if_pos (e0.1 hr)]
     have hmk : zbg o s1 s1 = zbg o s2 s2 := zbw hs fun _ => ⟨fun _ => ⟨rfl, rfl⟩, fun _ => ⟨rfl, rfl⟩⟩
     cases h1 : evalOp cf s1 o.op with
     | none =>
      cases h2 : evalOp cf s2 o.op with
      | none => rfl
      | some q =>
       obtain ⟨x, sx⟩ := q
       have := (zdi hp ht (st2 := s1) (fun t ht => (hs t ht).symm) h2).2
       rw [this] at h1; cases h1
     | some q =>
      obtain ⟨x, sx⟩ := q
      have := (zdi hp ht (st2 := s2) hs h1).2
      rw [this]
      simp only [Option.bind_some, hmk]
    ·rw [if_neg hr, if_neg (fun h => hr (e0.2 h))]
  ·cases h
 ·cases h
theorem zjt {a b : AOper} {d e : Nat} {R Q : List Nat} (ha : zjq cf a d R) (hb : zjq cf b e Q) (hde : d ≠ e) (hdQ : d ∉ Q) (heR : e ∉ R) {st1 st2 : St} (h1 : zay cf a st = some st1) (h2 : zay cf b st1 = some st2) :
  ∃ st3, zay cf b st = some st3 ∧ zay cf a st3 = some st2 := by
 obtain ⟨V, hV, cV⟩ := ha
 obtain ⟨U, hU, cU⟩ := hb
 obtain ⟨y, hy, rfl⟩ := (hV _ _).1 h1
 obtain ⟨z, hz, rfl⟩ := (hU _ _).1 h2
 have e1 : U { st with σ := upd st.σ d y } = U st := cU _ _ (fun t ht => by simp only [upd]; rw [if_neg (show ¬ t = d from fun e => hdQ (e ▸ ht))]) rfl rfl
 have e2 : V { st with σ := upd st.σ e z } = V st := cV _ _ (fun t ht => by simp only [upd]; rw [if_neg (show ¬ t = e from fun h => heR (h ▸ ht))]) rfl rfl
 refine ⟨_, (hU _ _).2 ⟨z, by rw [← e1]; exact hz, rfl⟩, (hV _ _).2 ⟨y, by rw [e2]; exact hy, ?_⟩⟩
 simp only
 rw [zdz hde]
def AOper.reads? (o : AOper) : Option (Nat × List Nat × Bool) := match o.tlook? with
 | some (d, s, k) => some (d, k.sees s, true)
 | none => (o.plain?).map fun d => (d, slots o.op.opds, false)
theorem zgk {o : AOper} {d : Nat} {R : List Nat} {t : Bool} (h : o.reads? = some (d, R, t)) : o.guard = none ∧ zjq cf o d R := by
 unfold AOper.reads? at h
 split at h
 ·rename_i d' s k hk
  simp only [yaa, yac] at h
  obtain ⟨rfl, rfl, _⟩ := h
  exact zjr hk
 ·simp only [yah, yac] at h
  obtain ⟨d', hd, rfl, rfl, _⟩ := h
  exact zjs hd
def zfU (a b : AOper) : Bool := match a.reads?, b.reads? with
 | some (d, R, t), some (e, Q, u) => (t || u) && d != e && !Q.contains d && !R.contains e
 | _, _ => false
theorem zmc {a b : AOper} (h : zfU a b = true) : (a.guard = none ∧ b.guard = none) ∧ ∀ {st1 st2 : St}, zay cf a st = some st1 → zay cf b st1 = some st2 → ∃ st3, zay cf b st = some st3 ∧ zay cf a st3 = some st2 := by
 unfold zfU at h
 split at h
 ·rename_i d R t e Q u ha hb
  simp only [yae, bne_iff_ne, Bool.not_eq_true', List.contains_eq_mem, decide_eq_false_iff_not] at h
  obtain ⟨⟨⟨_, hde⟩, hdQ⟩, heR⟩ := h
  obtain ⟨g1, r1⟩ := zgk (cf := cf) ha
  obtain ⟨g2, r2⟩ := zgk (cf := cf) hb
  exact ⟨⟨g1, g2⟩, fun h1 h2 => zjt r1 r2 hde hdQ heR h1 h2⟩
 ·cases h
end
end Go.Proofs.YtakdnfneikbjjaaGreatDoor.Am

namespace Go.Proofs.YtakdnfneikbjjaaGreatDoor.Am
section
variable {cf : CF}
def AOper.off (o : AOper) : AOper := ⟨o.dst, none, o.kt, .mv (.c (.tuple [])), .none⟩
def ze6 (o : AOper) (st : St) : Option AOper :=
 match o.guard with
 | none => some o
 | some (g, want) => match st.σ g with
  | .bool b => some (if b = want then o else o.off)
  | .tuple [] => some o.off
  | _ => none
theorem zju {o : AOper} {st : St} : zay cf o.off st = some (st.put o.kt o.dst (.tuple [])) := by
 have : (slots o.off.op.opds).all (fun s => rootOk o.off.lean (st.σ s)) = true := rfl
 have hT : o.off.op.isT = false := rfl
 unfold zay
 rw [hT]
 simp only [yas, if_false]
 rw [if_pos this]
 simp only [AOper.off, evalOp, getO, Option.bind_some, putD, zbg, zdv, selfPlace, yas, if_false]
 cases o.kt <;> rfl
theorem zgz {o : AOper} {st : St} : zc8 cf o st = (ze6 o st).bind fun o' => zay cf o' st := by
 unfold zc8 ze6
 cases o.guard with
 | none => rfl
 | some p =>
  obtain ⟨g, want⟩ := p
  simp only
  cases st.σ g with
  | bool b =>
   simp only [Option.bind_some]
   by_cases h : b = want
   ·rw [if_pos h, if_pos h]
   ·rw [if_neg h, if_neg h, zju]
  | tuple vs => cases vs with
   | nil => simp only [Option.bind_some, zju]
   | cons => rfl
  | _ => rfl
def zfx (a b : AOper) : Bool := a.fit && b.fit && zfs a b && (b.jumps a || a.jumps b || (a.stills && b.stills))
theorem ziz {o : AOper} (h : o.fit = true) : o.off.fit = true := by
 rw [zc4] at h ⊢
 exact ⟨rfl, rfl, h.2.2⟩
theorem zg2 {o a : AOper} : o.off.jumps a = true := rfl
theorem zdU {o : AOper} {s : Nat} (h : s ∈ o.off.writes) : s ∈ o.writes := by
 simp only [AOper.writes, AOper.off, AOp.opds, taken, List.nil_append, yak] at h ⊢
 exact .inr h
theorem zfy {o : AOper} {s : Nat} (h : s ∈ o.off.looks) : s ∈ o.looks := by
 simp [AOper.looks, AOper.off, AOp.opds, slots, Opd.slot?] at h
theorem zfe {a b a' b' : AOper} (h : zfs a b = true) (h1 : ∀ s ∈ a'.writes, s ∈ a.writes) (h2 : ∀ s ∈ a'.looks, s ∈ a.looks) (h3 : ∀ s ∈ b'.writes, s ∈ b.writes) (h4 : ∀ s ∈ b'.looks, s ∈ b.looks) : zfs a' b' = true := by
 rw [zdS] at h ⊢
 exact ⟨fun s hs => ⟨fun hc => (h.1 s (h1 s hs)).1 (h4 s hc), fun hc => (h.1 s (h1 s hs)).2 (h3 s hc)⟩, fun s hs => ⟨fun hc => (h.2 s (h3 s hs)).1 (h2 s hc), fun hc => (h.2 s (h3 s hs)).2 (h1 s hc)⟩⟩
theorem zpP {a b : AOper} (h : zfx a b = true) {st st1 st2 : St} (h1 : zay cf a st = some st1) (h2 : zay cf b st1 = some st2) : ∃ st3, zay cf b st = some st3 ∧ zay cf a st3 = some st2 := by
 simp only [zfx, yae, Bool.or_eq_true] at h
 obtain ⟨⟨⟨ha, hb⟩, hap⟩, (hj | hj) | hj⟩ := h
 ·exact zl2 ha hb hap hj h1 h2
 ·exact zkE ha hb hap hj h1 h2
 ·exact zl3 ha hb hap hj.1 hj.2 h1 h2
def zlm (o o' : AOper) : Prop := o' = o ∨ o' = o.off
theorem zeb {o o' : AOper} {st : St} (h : ze6 o st = some o') : zlm o o' := by
 unfold ze6 at h
 split at h
 ·simp only [yaa] at h; exact .inl h.symm
 ·split at h
  ·simp only [yaa] at h
   split at h
   ·exact .inl h.symm
   ·exact .inr h.symm
  ·simp only [yaa] at h; exact .inr h.symm
  ·cases h
theorem zkH {a b a' b' : AOper} (h : zfx a b = true) (ha : zlm a a') (hb : zlm b b') : zfx a' b' = true := by
 simp only [zfx, yae, Bool.or_eq_true] at h ⊢
 obtain ⟨⟨⟨h1, h2⟩, h3⟩, h4⟩ := h
 rcases ha with rfl | rfl <;> rcases hb with rfl | rfl
 ·exact ⟨⟨⟨h1, h2⟩, h3⟩, h4⟩
 ·exact ⟨⟨⟨h1, ziz h2⟩, zfe h3 (fun _ h => h) (fun _ h => h) (fun _ h => zdU h) (fun _ h => zfy h)⟩, .inl (.inl zg2)⟩
 ·exact ⟨⟨⟨ziz h1, h2⟩, zfe h3 (fun _ h => zdU h) (fun _ h => zfy h) (fun _ h => h) (fun _ h => h)⟩, .inl (.inr zg2)⟩
 ·exact ⟨⟨⟨ziz h1, ziz h2⟩, zfe h3 (fun _ h => zdU h) (fun _ h => zfy h) (fun _ h => zdU h) (fun _ h => zfy h)⟩, .inl (.inl zg2)⟩
theorem zg3 {a a' : AOper} (h : zlm a a') {s : Nat} (hs : s ∈ a'.writes) : s ∈ a.writes := by
 rcases h with rfl | rfl
 ·exact hs
 ·exact zdU hs
theorem zg4 {a : AOper} (hf : a.fit = true) {st st1 : St} (h : zay cf a st = some st1) {s : Nat} (hs : s ∉ a.writes) : zmS (st.σ s) (st1.σ s) := by
 obtain ⟨h1, h2, h3⟩ := zc4.1 hf
 obtain ⟨x, sa, hsa, hea, hra, hma, rfl⟩ := (zaQ h3).1 h
 have hE := ziv h1 h2 (fun s hs => zbR (hsa s hs)) hma hea
 simp only [AOper.writes, yak, not_or] at hs
 rw [ziw fun p hp e => by
  simp only [List.mem_map] at hp
  obtain ⟨d, hd, rfl⟩ := hp
  exact hs.2 (e ▸ hd)]
 exact hE.σ s hs.1
theorem zpy {a b : AOper} (h : zfx a b = true) {st st1 st2 : St} (h1 : zc8 cf a st = some st1) (h2 : zc8 cf b st1 = some st2) : ∃ st3, zc8 cf b st = some st3 ∧ zc8 cf a st3 = some st2 := by
 simp only [zgz, yab] at h1 h2 ⊢
 obtain ⟨a', ha, h1⟩ := h1
 obtain ⟨b', hb, h2⟩ := h2
 have hi := zkH h (zeb ha) (zeb hb)
 obtain ⟨st3, h3, h4⟩ := zpP hi h1 h2
 have hfit : a'.fit = true ∧ b'.fit = true := by simp only [zfx, yae] at hi; exact ⟨hi.1.1.1, hi.1.1.2⟩
 have hap : zfs a b = true := by simp only [zfx, yae] at h; exact h.1.2
 obtain ⟨hab, hba⟩ := zdS.1 hap
 refine ⟨st3, ⟨b', ?_, h3⟩, a', ?_, h4⟩
 ·rw [← hb]
  unfold ze6
  cases hg : b.guard with
  | none => rfl
  | some p =>
   obtain ⟨g, want⟩ := p
   have hgl : g ∈ b.looks := by simp [AOper.looks, hg]
   have hst := zg4 hfit.1 h1 (s := g) fun hw => (hab g (zg3 (zeb ha) hw)).1 hgl
   simp only
   unfold ze6 at hb
   rw [hg] at hb
   simp only at hb
   cases hb1 : st1.σ g with
   | bool t => rw [hb1] at hst; rw [zfS hst (by simp)]
   | tuple vs => cases vs with
    | nil => rw [hb1] at hst; rw [zfS hst (by simp)]
    | cons => rw [hb1] at hb; cases hb
   | _ => rw [hb1] at hb; cases hb
 ·rw [← ha]
  unfold ze6
  cases hg : a.guard with
  | none => rfl
  | some p =>
   obtain ⟨g, want⟩ := p
   have hgl : g ∈ a.looks := by simp [AOper.looks, hg]
   have hst := zg4 hfit.2 h3 (s := g) fun hw => (hba g (zg3 (zeb hb) hw)).1 hgl
   simp only
   unfold ze6 at ha
   rw [hg] at ha
   simp only at ha
   cases hb1 : st.σ g with
   | bool t => rw [hb1] at hst; rw [zfR hst rfl]
   | tuple vs => cases vs with
    | nil => rw [hb1] at hst; rw [zfR hst rfl]
    | cons => rw [hb1] at ha; cases ha
   | _ => rw [hb1] at ha; cases ha
def zoj (a b : AOper) : Bool := zfx a b || zdT a b || zey a b || zfU a b
theorem zcM {o : AOper} (h : o.guard = none) {st : St} : ze6 o st = some o := by
 unfold ze6
 rw [h]
theorem zpQ {a b : AOper} (h : zoj a b = true) {st st1 st2 : St} (h1 : zc8 cf a st = some st1) (h2 : zc8 cf b st1 = some st2) : ∃ st3, zc8 cf b st = some st3 ∧ zc8 cf a st3 = some st2 := by
 rcases Bool.or_eq_true_iff.1 h with h | h
 ·rcases Bool.or_eq_true_iff.1 h with h | h
  ·rcases Bool.or_eq_true_iff.1 h with h | h
   ·exact zpy h h1 h2
   ·obtain ⟨ga, gb⟩ := zgq h
    simp only [zgz, zcM ga, zcM gb, Option.bind_some] at h1 h2 ⊢
    exact zl8 h h1 h2
  ·obtain ⟨ga, gb⟩ := zmb h
   simp only [zgz, zcM ga, zcM gb, Option.bind_some] at h1 h2 ⊢
   exact zma h h1 h2
 ·obtain ⟨⟨ga, gb⟩, hs⟩ := zmc (cf := cf) (st := st) h
  simp only [zgz, zcM ga, zcM gb, Option.bind_some] at h1 h2 ⊢
  exact hs h1 h2
theorem zoQ {b : AOper} {ys : List AOper} : ∀ {xs : List AOper} {st st' : St} (_ : ∀ a ∈ xs, zoj a b = true) (_ : runD cf (xs ++ b :: ys) st = some st'), runD cf (b :: (xs ++ ys)) st = some st'
 | [], _, _, _, h => h
 | a :: xs, st, st', hi, h => by
  simp only [List.cons_append, runD, yab] at h
  obtain ⟨st1, h1, h2⟩ := h
  have h3 := zoQ (fun x hx => hi x (.tail _ hx)) h2
  simp only [runD, yab] at h3
  obtain ⟨st2, h4, h5⟩ := h3
  obtain ⟨st3, h6, h7⟩ := zpQ (hi a (.head _)) h1 h4
  simp only [List.cons_append, runD, yab]
  exact ⟨st3, h6, st2, h7, h5⟩
theorem zjv {o : AOper} {st st' : St} (h : zc8 cf o st = some st') : zcY cf o st = some st' := by
 have hU : zay cf o st = some st' → (evalOp cf st o.op).bind (zdv o) = some st' := fun h => by
  unfold zay at h
  split at h
  ·exact h
  split at h
  ·simp only [yab] at h ⊢
   obtain ⟨p, hp, h⟩ := h
   unfold putD at h
   split at h
   ·exact ⟨p, hp, h⟩
   ·cases h
  ·cases h
 unfold zc8 at h
 unfold zcY
 split at h
 ·exact hU h
 ·split at h
  ·split at h
   ·rename_i hc; rw [if_pos hc]; exact hU h
   ·rename_i hc; rw [if_neg hc]; exact h
  ·exact h
  ·cases h
end
def zpb (acc : List Nat) (es : List Edge) : Nat := es.foldl (fun s e => if Region.binds .any e then s ||| 2 ^ e.on ||| acc.getD e.on 0 else s) 0
def zpc : List Oper → List Nat → List Nat
 | [], acc => acc
 | o :: os, acc => zpc os (acc ++ [zpb acc o.after.toList])
inductive Anc (ops : Array Oper) : Nat → Nat → Prop where
 | edge {i : Nat} {o : Oper} {e : Edge} (ho : ops[i]? = some o) (he : e ∈ o.after) (hb : Region.binds .any e = true) : Anc ops e.on i
 | step {a i : Nat} {o : Oper} {e : Edge} (ho : ops[i]? = some o) (he : e ∈ o.after) (hb : Region.binds .any e = true) (h : Anc ops a e.on) : Anc ops a i
theorem zmd {acc : List Nat} {a : Nat} {es : List Edge} (h : (zpb acc es).testBit a = true) : ∃ e ∈ es, Region.binds .any e = true ∧ (e.on = a ∨ (acc.getD e.on 0).testBit a = true) := by
 have gen : ∀ (es : List Edge) (s : Nat), (es.foldl (fun s e => if Region.binds .any e then s ||| 2 ^ e.on ||| acc.getD e.on 0 else s) s).testBit a = true → s.testBit a = true ∨ ∃ e ∈ es, Region.binds .any e = true ∧ (e.on = a ∨ (acc.getD e.on 0).testBit a = true) := by
  intro es
  induction es with
  | nil => intro s h; exact .inl h
  | cons e es ih =>
   intro s h
   simp only [List.foldl_cons] at h
   rcases ih _ h with h1 | ⟨e', he', h1⟩
   ·by_cases hb : Region.binds .any e = true
    ·rw [if_pos hb] at h1
     simp only [Nat.testBit_or, Bool.or_eq_true] at h1
     rcases h1 with (h1 | h1) | h1
     ·exact .inl h1
     ·rw [Nat.testBit_two_pow] at h1
      exact .inr ⟨e, .head _, hb, .inl (by simpa using h1)⟩
     ·exact .inr ⟨e, .head _, hb, .inr h1⟩
    ·rw [if_neg hb] at h1; exact .inl h1
   ·exact .inr ⟨e', .tail _ he', h1⟩
 rcases gen es 0 h with h1 | h1
 ·simp at h1
 ·exact h1
theorem zh8 {ops : Array Oper} : ∀ {rest : List Oper} {acc : List Nat} {pre : List Oper} (_ : ops.toList = pre ++ rest) (_ : acc.length = pre.length) (_ : ∀ i a, (acc.getD i 0).testBit a = true → Anc ops a i) {i a : Nat} (_ : ((zpc rest acc).getD i 0).testBit a = true), Anc ops a i
 | [], acc, pre, _, _, hacc, i, a, h => hacc i a h
 | o :: rest, acc, pre, hp, hl, hacc, i, a, h => by
  refine zh8 (pre := pre ++ [o]) (rest := rest) (acc := acc ++ [zpb acc o.after.toList]) (by rw [hp]; simp) (by simp [hl]) ?_ h
  intro j b hj
  rw [yad] at hj
  by_cases hlt : j < acc.length
  ·rw [yaq hlt] at hj
   exact hacc j b (by rw [yad]; exact hj)
  ·rw [List.getElem?_append_right (Nat.le_of_not_lt hlt)] at hj
   by_cases he : j = acc.length
   ·subst he
    simp only [Nat.sub_self, List.getElem?_cons_zero, Option.getD_some] at hj
    obtain ⟨e, he, hb, hc⟩ := zmd hj
    have ho : ops[acc.length]? = some o := by
     rw [← Array.getElem?_toList, hp, List.getElem?_append_right (by omega), hl]; simp
    rcases hc with rfl | hc
    ·exact .edge ho (by simpa using he) hb
    ·exact .step ho (by simpa using he) hb (hacc _ _ hc)
   ·have : j - acc.length ≠ 0 := by omega
    obtain ⟨k, hk⟩ := Nat.exists_eq_succ_of_ne_zero this
    rw [hk] at hj
    simp at hj
def zjw (ops : Array Oper) (os : List AOper) : Bool :=
 let anc := zpc ops.toList []
 os.length == ops.size && (List.range ops.size).all fun i => ((ops[i]?).map fun o => o.after.toList.all fun e => !Region.binds .any e || decide (e.on < i)).getD false && (List.range i).all fun a => (anc.getD i 0).testBit a || zoj (os.getD a default) (os.getD i default)
theorem zkI {ops : Array Oper} {os : List AOper} (h : zjw ops os = true) : os.length = ops.size ∧ (∀ i o e, ops[i]? = some o → e ∈ o.after → Region.binds .any e = true → e.on < i) ∧ ∀ i a, i < ops.size → a < i → Anc ops a i ∨ zoj (os.getD a default) (os.getD i default) = true := by
 simp only [zjw, yae, beq_iff_eq, yam, List.mem_range, Bool.or_eq_true] at h
 refine ⟨h.1, fun i o e ho he hb => ?_, fun i a hi ha => ?_⟩
 ·have hi : i < ops.size := (yan.1 ho).1
  have h1 := (h.2 i hi).1
  rw [ho] at h1
  simp only [Option.map_some, Option.getD_some, yam, Bool.or_eq_true, Bool.not_eq_true', yat] at h1
  exact (h1 e (by simpa using he)).resolve_left (by simp [hb])
 ·rcases (h.2 i hi).2 a ha with h1 | h1
  ·exact .inl (zh8 (pre := []) (rest := ops.toList) (acc := []) rfl rfl (fun i a h => by simp at h) h1)
  ·exact .inr h1
def zbH (n : Nat) (listed : Array Bool) : List Nat := (List.range n).filter fun i => !listed.getD i true
theorem zjx {listed : Array Bool} {i j : Nat} {d : Bool} (hi : i < listed.size) : (listed.setIfInBounds i true).getD j d = if j = i then true else listed.getD j d := by
 by_cases h : j = i
 ·subst h; simp [hi]
 ·rw [if_neg h]; exact getD_set_ne d (Ne.symm h)
theorem zjy {n : Nat} {listed : Array Bool} {i : Nat} {xs ys : List Nat} (hi : i < listed.size) (h : zbH n listed = xs ++ i :: ys) : zbH n (listed.setIfInBounds i true) = xs ++ ys := by
 have e1 : zbH n (listed.setIfInBounds i true) = (zbH n listed).filter fun j => decide (j ≠ i) := by
  unfold zbH
  rw [List.filter_filter]
  apply List.filter_congr
  intro j _
  rw [zjx hi]
  by_cases h : j = i <;> simp [h]
 have hn : (zbH n listed).Nodup := (List.nodup_range).filter _
 rw [h] at hn
 rw [List.nodup_append] at hn
 have h2 := List.nodup_cons.1 hn.2.1
 rw [e1, h, List.filter_append, List.filter_cons]
 simp only [ne_eq, not_true_eq_false, decide_false, yas, if_false]
 rw [List.filter_eq_self.2 fun j hj => ?_, List.filter_eq_self.2 fun j hj => ?_]
 ·simp only [decide_not, Bool.not_eq_true', decide_eq_false_iff_not]; intro e; exact h2.1 (e ▸ hj)
 ·simp only [decide_not, Bool.not_eq_true', decide_eq_false_iff_not]; intro e; exact hn.2.2 j hj i (.head _) e
theorem zdA {n : Nat} {listed : Array Bool} {i : Nat} : i ∈ zbH n listed ↔ i < n ∧ listed.getD i true = false := by
 simp [zbH]
theorem zmZ {listed : Array Bool} {i : Nat} (h : i < listed.size) : listed.getD i true = listed.getD i false := by simp [h]
theorem zm0 {cf : CF} {ops : Array Oper} {os : List AOper} (hc : zjw ops os = true) : ∀ {fuel t : Nat} {listed : Array Bool} {st st' : St}, listed.size = ops.size → (zbH ops.size listed).length = fuel →
  (∀ i a, listed.getD i false = true → Anc ops a i → listed.getD a false = true) → runD cf ((zbH ops.size listed).map fun i => os.getD i default) st = some st' →
  zbG cf ((Region.linearise.go .any ops fuel t listed []).map fun i => os.getD i default) st = some st' := by
 obtain ⟨hlen, hedge, hind⟩ := zkI hc
 have hanc : ∀ i a, Anc ops a i → a < i := fun i a h => by
  induction h with
  | edge ho he hb => exact hedge _ _ _ ho he hb
  | step ho he hb _ ih => exact Nat.lt_trans ih (hedge _ _ _ ho he hb)
 intro fuel
 induction fuel with
 | zero =>
  intro t listed st st' hsz hf hcl hr
  have := List.length_eq_zero_iff.1 hf
  rw [this] at hr
  simpa [Region.linearise.go, zbG, runD] using hr
 | succ fuel ih =>
  intro t listed st st' hsz hf hcl hr
  have hne : Region.ready .any ops listed ≠ [] := by
   have hex : ∃ k, k ∈ zbH ops.size listed := by
    cases hu : zbH ops.size listed with
    | nil => rw [hu] at hf; simp at hf
    | cons x xs => exact ⟨x, .head _⟩
   obtain ⟨k, hk, hmin⟩ := zmJ hex
   have hk' := zdA.1 hk
   have hmem : k ∈ Region.ready .any ops listed := by
    rw [mem_ready]
    refine ⟨hk'.2, ops[k], by rw [yaj hk'.1], fun e he hb => ?_⟩
    have hlt := hedge k ops[k] e (by rw [yaj hk'.1]) he hb
    cases hl : listed.getD e.on false with
    | true => rfl
    | false =>
     have := hmin e.on (zdA.2 ⟨by omega, by rw [zmZ (by omega)]; exact hl⟩)
     omega
   intro e; rw [e] at hmem; cases hmem
  have hlt : t % (Region.ready .any ops listed).length < (Region.ready .any ops listed).length := Nat.mod_lt _ (by
   rcases h : Region.ready .any ops listed with _ | ⟨x, xs⟩
   ·exact absurd h hne
   ·simp)
  obtain ⟨i, hi⟩ : ∃ i, (Region.ready .any ops listed)[t % (Region.ready .any ops listed).length]? = some i := ⟨_, yai hlt⟩
  have him := List.mem_of_getElem? hi
  simp only [Region.linearise.go]
  change zbG cf ((match (Region.ready .any ops listed)[t % (Region.ready .any ops listed).length]? with
   | some i => Region.linearise.go .any ops fuel (t / (Region.ready .any ops listed).length) (listed.setIfInBounds i true) [i]
   | none => [].reverse).map fun i => os.getD i default) st = some st'
  rw [hi]
  simp only
  rw [linearise_go_acc, List.reverse_singleton, List.singleton_append, List.map_cons]
  obtain ⟨hin, oi, hoi, hpre⟩ := mem_ready.1 him
  have hisz : i < ops.size := (yan.1 hoi).1
  have hpl : ∀ a, Anc ops a i → listed.getD a false = true := fun a ha => by
   cases ha with
   | edge ho he hb => rw [hoi] at ho; cases ho; exact hpre _ he hb
   | step ho he hb h => rw [hoi] at ho; cases ho; exact hcl _ _ (hpre _ he hb) h
  obtain ⟨xs, ys, hxy⟩ := List.append_of_mem (zdA.2 ⟨hisz, hin⟩)
  have hxs : ∀ a ∈ xs, a < i ∧ listed.getD a false = false := fun a ha => by
   have hp : (zbH ops.size listed).Pairwise (· < ·) := List.pairwise_lt_range.filter _
   rw [hxy, List.pairwise_append] at hp
   have hm : a ∈ zbH ops.size listed := by rw [hxy]; exact List.mem_append_left _ ha
   have hm' := zdA.1 hm
   exact ⟨hp.2.2 a ha i (.head _), by rw [← zmZ (by omega)]; exact hm'.2⟩
  rw [hxy, List.map_append, List.map_cons] at hr
  have hb := zoQ (fun a ha => by
   simp only [List.mem_map] at ha
   obtain ⟨a', ha', rfl⟩ := ha
   obtain ⟨h1, h2⟩ := hxs a' ha'
   rcases hind i a' hisz h1 with h3 | h3
   ·rw [hpl a' h3] at h2; cases h2
   ·exact h3) hr
  simp only [runD, yab] at hb
  obtain ⟨st1, h1, h2⟩ := hb
  simp only [zbG, yab]
  refine ⟨st1, zjv h1, ?_⟩
  have hus := zjy (hsz ▸ hisz) hxy
  refine ih (by simpa using hsz) ?_ (fun j a hj ha => ?_) ?_
  ·rw [hus]; rw [hxy] at hf; simp at hf ⊢; omega
  ·rw [zjx (hsz ▸ hisz)] at hj ⊢
   by_cases hai : a = i
   ·rw [if_pos hai]
   ·rw [if_neg hai]
    by_cases hji : j = i
    ·subst hji; exact hpl a ha
    ·rw [if_neg hji] at hj; exact hcl j a hj ha
  ·rw [hus, List.map_append]; exact h2
theorem zpR {ops : Array Oper} : ∀ {fuel t : Nat} {listed : Array Bool} {i : Nat}, i ∈ Region.linearise.go .any ops fuel t listed [] → i < ops.size := by
 intro fuel
 induction fuel with
 | zero => intro t listed i h; simp [Region.linearise.go] at h
 | succ fuel ih =>
  intro t listed i h
  simp only [Region.linearise.go] at h
  change i ∈ (match (Region.ready .any ops listed)[t % (Region.ready .any ops listed).length]? with
   | some i => Region.linearise.go .any ops fuel (t / (Region.ready .any ops listed).length) (listed.setIfInBounds i true) [i]
   | none => [].reverse) at h
  split at h
  ·rename_i k hk
   rw [linearise_go_acc] at h
   simp only [List.reverse_singleton, List.singleton_append, List.mem_cons] at h
   rcases h with rfl | h
   ·obtain ⟨_, o, ho, _⟩ := mem_ready.1 (List.mem_of_getElem? hk)
    exact (yan.1 ho).1
   ·exact ih h
  ·simp at h
section
variable {P : Program} {S : Nat → Bool} {nl nt : Nat}
theorem zjz [Lay P] {ops : Array Oper} {os : List AOper} : ∀ {is : List Nat} (_ : ∀ i ∈ is, ∃ oc, ops[i]? = some oc ∧ OperOK P S nl nt ops oc (os.getD i default)), seqOK P S nl nt ops is (is.map fun i => os.getD i default)
 | [], _ => .nil
 | i :: _, h => .cons (h i (.head _)) (zjz fun j hj => h j (.tail _ hj))
def zm1 (P : Program) [Lay P] (S : Nat → Bool) (nl nt : Nat) (ops : Array Oper) (os : List AOper) : Prop :=
 os.length = ops.size ∧ ∀ i oc, ops[i]? = some oc → OperOK P S nl nt ops oc (os.getD i default)
theorem ze7 {os : List AOper} : (List.range os.length).map (fun i => os.getD i default) = os := by
 apply List.ext_getElem
 ·simp
 ·intro i h1 h2; simp [h2]
theorem zkJ [Lay P] {ops : Array Oper} {os : List AOper} (h : zm1 P S nl nt ops os) (hm : (P.follows .mixedOrders || !Region.departs ops) = true) (hc : zjw ops os = true) : zlg P S nl nt ops true os := by
 intro t
 have hs : Region.schedule (P.follows .mixedOrders) ops t = Region.linearise.go .any ops ops.size t (Array.replicate ops.size false) [] := by
  unfold Region.schedule; rw [if_pos hm]; rfl
 refine ⟨_, by rw [hs]; exact zjz fun i hi => ⟨ops[i]'(zpR hi), yaj _, h.2 i _ (yaj _)⟩, fun cf st st' hr => ?_⟩
 have hu : zbH ops.size (Array.replicate ops.size false) = List.range ops.size := by
  unfold zbH
  rw [List.filter_eq_self]
  intro i hi
  simp [List.mem_range.1 hi]
 refine zm0 hc (by simp) (by rw [hu]; simp) (fun i a hi _ => by
  have : (Array.replicate ops.size false).getD i false = false := by simp [Array.getElem?_replicate]; split <;> rfl
  rw [this] at hi; cases hi) ?_
 rw [hu, ← h.1, ze7]
 exact hr
end
end Go.Proofs.YtakdnfneikbjjaaGreatDoor.Am

namespace Go.Proofs.YtakdnfneikbjjaaGreatDoor.Am
section
variable {P : Program} {S : Nat → Bool} {nl : Nat} {oc : Oper} {w : World}
def leafRel (x : V) (v : Value) : Prop :=
 match x with
 | .int k a => v = .int k a
 | .bool b => v = .bool b
 | .str s => ∃ b : ByteArray, v = .string b ∧ b.data.toList = s
 | _ => True
theorem R1.leafRel {g : G} {n : Nat} {x : V} {v : Value} (h : R1 g w n x v) : leafRel x v := by
 cases x with
 | int k a => exact R3.int (n := n) (τ := fun _ => undef) h
 | bool b => exact R3.bool (n := n) (τ := fun _ => undef) h
 | str s => exact R3.str (n := n) (τ := fun _ => undef) h
 | _ => trivial
theorem zm2 (a b : ByteArray) : (a == b) = (a.data.toList == b.data.toList) := by
 rw [beq_toListBytes, ByteArray.toList_eq, ByteArray.toList_eq]
def LK.at (P : Program) (k : LK) (t : TypeId) : Prop :=
 match k with
 | .bool => P.underlying t = some .bool
 | .int => ∃ q, P.underlying t = some (.int q)
 | .str => P.underlying t = some .string
theorem zok {k : LK} {t : TypeId} (ht : k.at P t) {x y : V} {b : Bool} (h : zf8 k x y = some b) {u v : Value} (hu : leafRel x u) (hv : leafRel y v) (D : Nat) : (Op.equalIn (D + 1) t u v).run P w = .ok b w := by
 cases k with
 | bool =>
  cases x <;> cases y <;> simp only [zf8, yaa, reduceCtorEq] at h
  subst h
  have e1 : u = .bool _ := hu
  have e2 : v = .bool _ := hv
  subst e1; subst e2
  simp [Op.equalIn, run_underlying ht]
 | int =>
  obtain ⟨q, ht⟩ := ht
  cases x with
  | int k1 a1 =>
   cases y with
   | int k2 a2 =>
    simp only [zf8] at h
    split at h
    ·rename_i hk
     simp only [yaa] at h
     subst h
     have e1 : u = .int k1 a1 := hu
     have e2 : v = .int k2 a2 := hv
     subst e1; subst e2
     simp [Op.equalIn, run_underlying ht, hk]
    ·cases h
   | _ => cases h
  | _ => cases h
 | str =>
  cases x with
  | str s1 =>
   cases y with
   | str s2 =>
    simp only [zf8, yaa] at h
    obtain ⟨b1, e1, h1⟩ := hu
    obtain ⟨b2, e2, h2⟩ := hv
    subst e1; subst e2
    rw [← h1, ← h2, ← zm2] at h
    simp [Op.equalIn, run_underlying ht, h]
   | _ => cases h
  | _ => cases h
theorem zg5 {ks ls : List LK} : ∀ {Xs Ys : List V} {b : Bool}, zbp (ks ++ ls) Xs Ys = some b → ∃ b1 b2, zbp ks (Xs.take ks.length) (Ys.take ks.length) = some b1 ∧ zbp ls (Xs.drop ks.length) (Ys.drop ks.length) = some b2 ∧ b = (b1 && b2) := by
 induction ks with
 | nil => intro Xs Ys b h; exact ⟨true, b, rfl, h, by simp⟩
 | cons k ks ih =>
  intro Xs Ys b h
  cases Xs with
  | nil => cases Ys <;> cases h
  | cons x Xs =>
   cases Ys with
   | nil => cases h
   | cons y Ys =>
    simp only [List.cons_append, zbp, yab, yaa] at h
    obtain ⟨c, hc, c2, hc2, rfl⟩ := h
    obtain ⟨b1, b2, h1, h2, rfl⟩ := ih hc2
    refine ⟨c && b1, b2, ?_, h2, by rw [Bool.and_assoc]⟩
    simp [zbp, hc, h1]
theorem zez : ∀ {ks : List LK} {Xs Ys : List V} {b : Bool}, zbp ks Xs Ys = some b → Xs.length = ks.length ∧ Ys.length = ks.length
 | [], [], [], _, _ => ⟨rfl, rfl⟩
 | k :: ks, x :: Xs, y :: Ys, b, h => by
  simp only [zbp, yab] at h
  obtain ⟨c, _, c2, hc2, _⟩ := h
  have := zez hc2
  simp [this]
 | [], [], _ :: _, _, h => by cases h
 | [], _ :: _, [], _, h => by cases h
 | [], _ :: _, _ :: _, _, h => by cases h
 | _ :: _, [], [], _, h => by cases h
 | _ :: _, [], _ :: _, _, h => by cases h
 | _ :: _, _ :: _, [], _, h => by cases h
def zbI (Xs : List V) (A : Array Value) (off : Nat) : Prop := ∀ i, i < Xs.length → ∃ v, A[off + i]? = some v ∧ leafRel (Xs.getD i .undef) v
theorem zbI.take {Xs : List V} {A : Array Value} {off n : Nat} (h : zbI Xs A off) : zbI (Xs.take n) A off := fun i hi => by
 simp only [List.length_take] at hi
 obtain ⟨v, h1, h2⟩ := h i (by omega)
 refine ⟨v, h1, ?_⟩
 rw [yad] at h2 ⊢
 rw [List.getElem?_take, if_pos (by omega)]; exact h2
theorem zbI.drop {Xs : List V} {A : Array Value} {off n : Nat} (h : zbI Xs A off) : zbI (Xs.drop n) A (off + n) := fun i hi => by
 simp only [List.length_drop] at hi
 obtain ⟨v, h1, h2⟩ := h (n + i) (by omega)
 refine ⟨v, by rw [Nat.add_assoc]; exact h1, ?_⟩
 rw [yad] at h2 ⊢
 rw [List.getElem?_drop]; exact h2
theorem zbI.extract {Xs : List V} {A : Array Value} {off : Nat} (h : zbI Xs A off) : zbI Xs (A.extract off (off + Xs.length)) 0 := fun i hi => by
 obtain ⟨v, h1, h2⟩ := h i hi
 refine ⟨v, ?_, h2⟩
 have hlt := (yan.1 h1).1
 rw [Nat.zero_add, Array.getElem?_extract, if_pos (by omega)]
 exact h1
theorem zh9 {F : TypeId → Option (List LK)} {D : Nat} {A B : Array Value}
  (hF : ∀ t ks, F t = some ks → ∀ (Xs Ys : List V) off b, zbI Xs A off → zbI Ys B off → zbp ks Xs Ys = some b → ∃ u v, (part t A off).run P w = .ok u w ∧ (part t B off).run P w = .ok v w ∧ (Op.equalIn D t u v).run P w = .ok b w) :
  ∀ {fs : List Field} {n : Nat} {ks : List LK} {Xs Ys : List V} {b : Bool}, zgJ F n fs = some ks → zbI Xs A n → zbI Ys B n → zbp ks Xs Ys = some b → (Op.eqFields D A B fs).run P w = .ok b w
 | [], n, ks, Xs, Ys, b, h, _, _, hl => by
  simp only [zgJ, yaa] at h
  subst h
  cases Xs <;> cases Ys <;> simp [zbp] at hl
  subst hl
  simp [Op.eqFields]
 | f :: fs, n, ks, Xs, Ys, b, h, hX, hY, hl => by
  simp only [zgJ] at h
  split at h
  ·rename_i hc
   simp only [yab, yaa] at h
   obtain ⟨k1, hk1, k2, hk2, rfl⟩ := h
   obtain ⟨b1, b2, h1, h2, rfl⟩ := zg5 hl
   obtain ⟨u, v, e1, e2, e3⟩ := hF f.type k1 hk1 _ _ n b1 hX.take hY.take h1
   have e4 := zh9 hF hk2 hX.drop hY.drop h2
   simp only [Op.eqFields, hc.2, if_pos hc.1, Sem.run_bind, e1, e2, e3, Result.andThen_ok, Sem.run_ite]
   cases b1 with
   | true => simp [e4]
   | false => simp
  ·cases h
theorem zm3 : ∀ {d : Nat} {t : TypeId} {ks : List LK}, zgK P d t = some ks → ∀ {D : Nat}, d ≤ D → ∀ (A B : Array Value) (Xs Ys : List V) (off : Nat) (b : Bool), zbI Xs A off → zbI Ys B off → zbp ks Xs Ys = some b →
  ∃ u v, (part t A off).run P w = .ok u w ∧ (part t B off).run P w = .ok v w ∧ (Op.equalIn D t u v).run P w = .ok b w := by
 intro d
 induction d with
 | zero => intro t ks h; cases h
 | succ d ih =>
  intro t ks h D hD A B Xs Ys off b hX hY hl
  obtain ⟨D', rfl⟩ : ∃ D', D = D' + 1 := ⟨D - 1, by omega⟩
  have leaf : ∀ k : LK, ks = [k] → k.at P t → (∃ u, P.underlying t = some u ∧ (∀ fs, u ≠ .struct fs) ∧ ∀ n e, u ≠ .array n e) → ∃ u v, (part t A off).run P w = .ok u w ∧ (part t B off).run P w = .ok v w ∧ (Op.equalIn (D' + 1) t u v).run P w = .ok b w := fun k hk hat hu => by
   subst hk
   obtain ⟨ud, hud, hn1, hn2⟩ := hu
   have hagg : (isAgg t).run P w = .ok false w := by
    simp only [isAgg, Sem.run_bind, run_underlying hud, Result.andThen_ok]
    cases ud <;> first | rfl | exact absurd rfl (hn1 _) | exact absurd rfl (hn2 _ _)
   cases Xs with
   | nil => cases Ys <;> cases hl
   | cons x Xs =>
    cases Ys with
    | nil => cases hl
    | cons y Ys =>
     simp only [zbp, yab, yaa] at hl
     obtain ⟨c, hc, c2, hc2, rfl⟩ := hl
     cases Xs <;> cases Ys <;> simp [zbp] at hc2
     subst hc2
     obtain ⟨u, hu1, hu2⟩ := hX 0 (by simp)
     obtain ⟨v, hv1, hv2⟩ := hY 0 (by simp)
     simp only [Nat.add_zero] at hu1 hv1
     refine ⟨u, v, ?_, ?_, ?_⟩
     ·simp [part, hagg, hu1]
     ·simp [part, hagg, hv1]
     ·rw [Bool.and_true]; exact zok hat hc hu2 hv2 D'
  simp only [zgK] at h
  cases hu : P.underlying t with
  | none => rw [hu] at h; cases h
  | some ud =>
   rw [hu] at h
   cases ud with
   | bool => simp only [yaa] at h; exact leaf .bool h.symm hu ⟨_, hu, (fun _ e => TypeDesc.noConfusion e), (fun _ _ e => TypeDesc.noConfusion e)⟩
   | int q => simp only [yaa] at h; exact leaf .int h.symm ⟨q, hu⟩ ⟨_, hu, (fun _ e => TypeDesc.noConfusion e), (fun _ _ e => TypeDesc.noConfusion e)⟩
   | string => simp only [yaa] at h; exact leaf .str h.symm hu ⟨_, hu, (fun _ e => TypeDesc.noConfusion e), (fun _ _ e => TypeDesc.noConfusion e)⟩
   | struct fs =>
    simp only at h
    split at h
    ·cases h
    ·rename_i hst
     simp only [yab] at h
     obtain ⟨ks', hks, h⟩ := h
     split at h
     ·rename_i hsz
      simp only [yaa] at h
      subst h
      obtain ⟨lx, ly⟩ := zez hl
      have hagg : (isAgg t).run P w = .ok true w := by simp [isAgg, run_underlying hu]
      have hsize : (sizeOf t).run P w = .ok ks'.length w := by
       simp only [za2, yah] at hsz
       obtain ⟨i, hi, hi2⟩ := hsz
       simp [sizeOf, typeInfo, hi, hi2]
      refine ⟨.agg (A.extract off (off + ks'.length)), .agg (B.extract off (off + ks'.length)), ?_, ?_, ?_⟩
      ·simp [part, hagg, hsize]
      ·simp [part, hagg, hsize]
      ·have hfo : P.fieldsOf t = fs := by simp [Program.fieldsOf, hu]
       rw [run_equalIn_struct w D' t _ _ (by rw [hfo]; exact hu) (by simpa using hst), hfo]
       refine zh9 (F := zgK P d) (fun t' ks'' hk Xs' Ys' off' b' h1 h2 h3 => ih hk (by omega) _ _ Xs' Ys' off' b' h1 h2 h3) hks (Xs := Xs) (Ys := Ys) ?_ ?_ hl
       ·rw [← lx]; exact hX.extract
       ·rw [← ly]; exact hY.extract
     ·cases h
   | _ => cases h
theorem R2.cells {g : G} {n : Nat} {τ : Nat → Value} {cs : List V} {v : Value} (h : R3 g w n τ (.agg cs) v) : ∃ arr, v = .agg arr ∧ zbI cs arr 0 ∧ arr.size = cs.length := by
 obtain ⟨arr, e, hs, hk⟩ := h
 refine ⟨arr, e, fun i hi => ⟨arr.getD i undef, ?_, (hk i hi).2.leafRel⟩, hs⟩
 rw [Nat.zero_add, yaf, yaj (by omega)]; rfl
theorem zfV [Lay P] {op : BinOp} {t u : TypeId} {x y : Operand} {ox oy : Opd} {kind : EqK} (hop : oc.op = .binOp op t x y u) (he : op = .eql ∨ op = .neq) (hx : za7 S x ox) (hy : za7 S y oy)
  (hk : ∀ (g : G) (n : Nat) (τ : Nat → Value) (w : World) (p q : V) (b : Bool) (u v : Value), eqV kind p q = some b → R3 g w n τ p u → R3 g w n τ q v →
   (∀ D, 50 ≤ D → (Op.equalIn (D + 1) t u v).run P w = .ok b w) ∧ (eqGuard op t x y u v).run P w = .ok () w ∧ binOp .eql t u v = (do pure (.bool (← Op.equal t u v))) ∧ binOp .neq t u v = (do pure (.bool (!(← Op.equal t u v))))) :
  OpOK P S nl oc (.eq (zps op) kind ox oy) := by
 intro cf g w fr st a z st' _ h hev K Q k
 simp only [evalOp, yab, yaa, yac] at hev
 obtain ⟨p, hp, q, hq, b, hb, rfl, rfl⟩ := hev
 obtain ⟨hx1, _, _⟩ := h.getC hx hp
 obtain ⟨hy1, _, _⟩ := h.getC hy hq
 obtain ⟨h1, h2, h3, h4⟩ := hk g st.m.length (tsAt a.tmps) w p q b _ _ hb hx1 hy1
 have h1' : (Op.equal t (a.eval x) (a.eval y)).run P w = .ok b w := h1 9999 (by omega)
 rcases he with rfl | rfl
 ·refine zaz h k (v := .bool b) ?_ (RB.bool _) rfl (fun d hd => by cases hd)
  simp [execOp, hop, h2, h3, h1']
 ·refine zaz h k (v := .bool !b) ?_ (RB.bool _) rfl (fun d hd => by cases hd)
  simp [execOp, hop, h2, h4, h1']
theorem zol {p q : V} {b : Bool} (h : eqV .bool p q = some b) : ∃ x y, p = .bool x ∧ q = .bool y ∧ b = (x == y) := by
 unfold eqV at h
 split at h <;> first | (rename_i heq; cases heq; done) | (simp only [yaa] at h; exact ⟨_, _, rfl, rfl, h.symm⟩) | cases h
def isPtr : V → Prop
 | .ptr _ _ | .loc _ _ => True
 | _ => False
def isSl : V → Prop
 | .slice _ _ _ => True
 | _ => False
def isFn : V → Prop
 | .func _ _ => True
 | _ => False
theorem eqV_ptr {p q : V} {b : Bool} (h : eqV .ptr p q = some b) : (p = .nilp ∧ q = .nilp ∧ b = true) ∨ (p = .nilp ∧ isPtr q ∧ b = false) ∨ (isPtr p ∧ q = .nilp ∧ b = false) := by
 unfold eqV at h
 split at h <;> first | (rename_i heq; cases heq; done) | (cases h; done) | (cases h; first | exact .inl ⟨rfl, rfl, rfl⟩ | exact .inr (.inl ⟨rfl, trivial, rfl⟩) | exact .inr (.inr ⟨trivial, rfl, rfl⟩))
theorem eqV_slice {p q : V} {b : Bool} (h : eqV .slice p q = some b) : (p = .nils ∧ q = .nils ∧ b = true) ∨ (p = .nils ∧ isSl q ∧ b = false) ∨ (isSl p ∧ q = .nils ∧ b = false) := by
 unfold eqV at h
 split at h <;> first | (rename_i heq; cases heq; done) | (cases h; done) | (cases h; first | exact .inl ⟨rfl, rfl, rfl⟩ | exact .inr (.inl ⟨rfl, trivial, rfl⟩) | exact .inr (.inr ⟨trivial, rfl, rfl⟩))
theorem eqV_func {p q : V} {b : Bool} (h : eqV .func p q = some b) : (p = .nilf ∧ q = .nilf ∧ b = true) ∨ (p = .nilf ∧ isFn q ∧ b = false) ∨ (isFn p ∧ q = .nilf ∧ b = false) := by
 unfold eqV at h
 split at h <;> first | (rename_i heq; cases heq; done) | (cases h; done) | (cases h; first | exact .inl ⟨rfl, rfl, rfl⟩ | exact .inr (.inl ⟨rfl, trivial, rfl⟩) | exact .inr (.inr ⟨trivial, rfl, rfl⟩))
theorem eqV_iface {p q : V} {b : Bool} (h : eqV .iface p q = some b) : (p = .nili ∧ q = .nili ∧ b = true) ∨ (p = .nili ∧ q = .erri ∧ b = false) ∨ (p = .erri ∧ q = .nili ∧ b = false) := by
 unfold eqV at h
 split at h <;> first | (rename_i heq; cases heq; done) | (cases h; done) | (cases h; first | exact .inl ⟨rfl, rfl, rfl⟩ | exact .inr (.inl ⟨rfl, rfl, rfl⟩) | exact .inr (.inr ⟨rfl, rfl, rfl⟩))
theorem zm4 {ks : List LK} {p q : V} {b : Bool} (h : eqV (.plain ks) p q = some b) : ∃ cs ds, p = .agg cs ∧ q = .agg ds ∧ zbp ks cs ds = some b := by
 unfold eqV at h
 split at h <;> first | (rename_i heq; cases heq; done) | (rename_i heq; cases heq; exact ⟨_, _, rfl, rfl, h⟩) | cases h
section
variable {g : G} {n : Nat} {τ : Nat → Value} {z : V} {zv : Value}
theorem R3.isPtr (h : R3 g w n τ z zv) (hz : isPtr z) : ∃ ad, zv = .pointer (some ad) := by
 cases z with
 | ptr b o => exact ⟨_, h.2⟩
 | loc j o => exact ⟨_, h⟩
 | _ => exact hz.elim
theorem R3.isSl (h : R3 g w n τ z zv) (hz : isSl z) : ∃ ad l c, zv = .slice (some ad) l c := by
 cases z with
 | slice o sz xs =>
  cases o with
  | true => obtain ⟨_, _, _, _, h1, _⟩ := h; exact ⟨_, _, _, h1⟩
  | false =>
   have h' : RB g.pers w (.slice false sz xs) zv := h
   cases h'; exact ⟨_, _, _, rfl⟩
 | _ => exact hz.elim
theorem R3.isFn (h : R3 g w n τ z zv) (hz : isFn z) : ∃ f a b, zv = .func f a b := by
 cases z with
 | func f cs => obtain ⟨vs, e, _⟩ := h; exact ⟨_, _, _, e⟩
 | _ => exact hz.elim
end
theorem zkK {d : Nat} {t : TypeId} {ks : List LK} {fs : Array Field} (hks : zgK P (d + 1) t = some ks) (hu : P.underlying t = some (.struct fs)) : za2 P t = some ks.length := by
 simp only [zgK, hu] at hks
 split at hks
 ·cases hks
 ·simp only [yab] at hks
  obtain ⟨ks', _, hks⟩ := hks
  split at hks
  ·rename_i hsz
   simp only [yaa] at hks
   rw [← hks]; exact hsz
  ·cases hks
theorem zoR [Lay P] {op : BinOp} {t u : TypeId} {x y : Operand} {ox oy : Opd} {o : AOp} (hop : oc.op = .binOp op t x y u) (he : op = .eql ∨ op = .neq) (hx : za7 S x ox) (hy : za7 S y oy) (hc : cEq P op t ox oy = some o) : OpOK P S nl oc o := by
 have guard : ∀ (u v : Value) (w : World), (∀ a b, ¬ (u = .agg a ∧ v = .agg b)) → (¬ (u = .nilIface ∧ v = .nilIface)) → (eqGuard op t x y u v).run P w = .ok () w := fun u v w h1 h2 => by
  unfold eqGuard
  rcases he with rfl | rfl <;> simp only [Bool.not_true, yas, if_false] <;> (split <;> first | (exact absurd ⟨rfl, rfl⟩ h2) | (exact absurd ⟨rfl, rfl⟩ (h1 _ _)) | rfl)
 simp only [cEq] at hc
 cases hu : P.underlying t with
 | none => rw [hu] at hc; cases hc
 | some ud =>
  rw [hu] at hc
  cases ud with
  | bool =>
   simp only [yaa] at hc
   subst hc
   refine zfV hop he hx hy fun g n τ w p q b u v hq h1 h2 => ?_
   obtain ⟨x, y, rfl, rfl, rfl⟩ := zol hq
   rw [R3.bool h1, R3.bool h2]
   exact ⟨fun D _ => by simp [Op.equalIn, run_underlying hu], guard _ _ w (by simp) (by simp), rfl, rfl⟩
  | int k =>
   simp only [yaa] at hc
   subst hc
   exact zmt hop hx hy
  | string =>
   simp only [yaa] at hc
   subst hc
   exact zmt hop hx hy
  | pointer e =>
   simp only [yaa] at hc
   subst hc
   refine zfV hop he hx hy fun g n τ w p q b u v hq h1 h2 => ?_
   rcases eqV_ptr hq with ⟨rfl, rfl, rfl⟩ | ⟨rfl, hz, rfl⟩ | ⟨hz, rfl, rfl⟩
   ·rw [R3.nilp h1, R3.nilp h2]
    exact ⟨fun D _ => by simp [Op.equalIn, run_underlying hu], guard _ _ w (by simp) (by simp), rfl, rfl⟩
   ·obtain ⟨ad, rfl⟩ := R3.isPtr h2 hz
    rw [R3.nilp h1]
    exact ⟨fun D _ => by simp [Op.equalIn, run_underlying hu], guard _ _ w (by simp) (by simp), rfl, rfl⟩
   ·obtain ⟨ad, rfl⟩ := R3.isPtr h1 hz
    rw [R3.nilp h2]
    exact ⟨fun D _ => by simp [Op.equalIn, run_underlying hu], guard _ _ w (by simp) (by simp), rfl, rfl⟩
  | struct fs =>
   simp only at hc
   split at hc
   ·cases hc
   ·rename_i hg
    simp only [yah] at hc
    obtain ⟨ks, hks, rfl⟩ := hc
    refine zfV hop he hx hy fun g n τ w p q b u v hq h1 h2 => ?_
    obtain ⟨cs, ds, rfl, rfl, hq⟩ := zm4 hq
    obtain ⟨A, rfl, hA, hAs⟩ := R2.cells h1
    obtain ⟨B, rfl, hB, hBs⟩ := R2.cells h2
    obtain ⟨l1, l2⟩ := zez hq
    have hagg : (isAgg t).run P w = .ok true w := by simp [isAgg, run_underlying hu]
    have hsz := zkK (d := 49) hks hu
    have hsize : (sizeOf t).run P w = .ok ks.length w := by
     simp only [za2, yah] at hsz
     obtain ⟨i, hi, hi2⟩ := hsz
     simp [sizeOf, typeInfo, hi, hi2]
    have p1 : (part t A 0).run P w = .ok (.agg A) w := by
     simp [part, hagg, hsize, ← l1, ← hAs]
    have p2 : (part t B 0).run P w = .ok (.agg B) w := by
     simp [part, hagg, hsize, ← l2, ← hBs]
    refine ⟨fun D hD => ?_, ?_, rfl, rfl⟩
    ·obtain ⟨u, v, e1, e2, e3⟩ := zm3 (w := w) hks (D := D + 1) (by omega) A B cs ds 0 b hA hB hq
     rw [p1] at e1
     rw [p2] at e2
     cases e1; cases e2
     exact e3
    ·unfold eqGuard
     have hg' : P.eqGuardType P.depth t = false := by simpa using hg
     rcases he with rfl | rfl <;> simp [hg']
  | slice e =>
   simp only [yaa] at hc
   subst hc
   refine zfV hop he hx hy fun g n τ w p q b u v hq h1 h2 => ?_
   rcases eqV_slice hq with ⟨rfl, rfl, rfl⟩ | ⟨rfl, hz, rfl⟩ | ⟨hz, rfl, rfl⟩
   ·rw [R3.nils h1, R3.nils h2]
    exact ⟨fun D _ => by simp [Op.equalIn, run_underlying hu], guard _ _ w (by simp) (by simp), rfl, rfl⟩
   ·obtain ⟨ad, l, c, rfl⟩ := R3.isSl h2 hz
    rw [R3.nils h1]
    exact ⟨fun D _ => by simp [Op.equalIn, run_underlying hu], guard _ _ w (by simp) (by simp), rfl, rfl⟩
   ·obtain ⟨ad, l, c, rfl⟩ := R3.isSl h1 hz
    rw [R3.nils h2]
    exact ⟨fun D _ => by simp [Op.equalIn, run_underlying hu], guard _ _ w (by simp) (by simp), rfl, rfl⟩
  | func _ _ _ =>
   simp only [yaa] at hc
   subst hc
   refine zfV hop he hx hy fun g n τ w p q b u v hq h1 h2 => ?_
   rcases eqV_func hq with ⟨rfl, rfl, rfl⟩ | ⟨rfl, hz, rfl⟩ | ⟨hz, rfl, rfl⟩
   ·rw [R3.nilf h1, R3.nilf h2]
    exact ⟨fun D _ => by simp [Op.equalIn, run_underlying hu], guard _ _ w (by simp) (by simp), rfl, rfl⟩
   ·obtain ⟨ad, l, c, rfl⟩ := R3.isFn h2 hz
    rw [R3.nilf h1]
    exact ⟨fun D _ => by simp [Op.equalIn, run_underlying hu], guard _ _ w (by simp) (by simp), rfl, rfl⟩
   ·obtain ⟨ad, l, c, rfl⟩ := R3.isFn h1 hz
    rw [R3.nilf h2]
    exact ⟨fun D _ => by simp [Op.equalIn, run_underlying hu], guard _ _ w (by simp) (by simp), rfl, rfl⟩
  | interface ms =>
   simp only at hc
   split at hc
   ·simp only [yaa] at hc
    subst hc
    have hyc : ∃ v, y = .const v := by
     cases y with
     | const v => exact ⟨v, rfl⟩
     | func f => cases hy
     | _ => exact hy.elim
    obtain ⟨vc, rfl⟩ := hyc
    refine zfV hop he hx hy fun g n τ w p q b u v hq h1 h2 => ?_
    rcases eqV_iface hq with ⟨rfl, rfl, rfl⟩ | ⟨rfl, rfl, rfl⟩ | ⟨rfl, rfl, rfl⟩
    ·rw [R3.nili h1, R3.nili h2]
     refine ⟨fun D _ => by simp [Op.equalIn, run_underlying hu], ?_, rfl, rfl⟩
     unfold eqGuard
     rcases he with rfl | rfl <;> simp
    ·obtain ⟨t', x', rfl⟩ := R3.erri h2
     rw [R3.nili h1]
     refine ⟨fun D _ => by simp [Op.equalIn, run_underlying hu], ?_, rfl, rfl⟩
     unfold eqGuard
     rcases he with rfl | rfl <;> simp
    ·obtain ⟨t', x', rfl⟩ := R3.erri h1
     rw [R3.nili h2]
     refine ⟨fun D _ => by simp [Op.equalIn, run_underlying hu], ?_, rfl, rfl⟩
     unfold eqGuard
     rcases he with rfl | rfl <;> simp
   ·cases hc
  | _ => cases hc
end
end Go.Proofs.YtakdnfneikbjjaaGreatDoor.Am

namespace Go.Proofs.YtakdnfneikbjjaaGreatDoor.Am
section
variable {P : Program} {oc : Oper} {S : Nat → Bool} {nl : Nat}
theorem zm5 [Lay P] {src dst : TypeId} {x : Operand} {o : Opd} {k : IntKind} (hop : oc.op = .convert src dst x) (hs : P.underlying src = some (.int k)) (hd : P.underlying dst = some .string)
  (ho : za7 S x o) : OpOK P S nl oc (.intStr o) := by
 intro cf g w fr st a y st' _ h he K Q kk
 simp only [evalOp, yab] at he
 obtain ⟨u, hu, he⟩ := he
 obtain ⟨h1, _, _⟩ := h.getC ho hu
 cases u with
 | int kd n =>
  simp only [yaa, yac] at he
  obtain ⟨rfl, rfl⟩ := he
  exact zaz h kk (v := .string (Utf8.encode n)) (by simp [execOp, hop, R3.int h1, convert, run_underlying hs, run_underlying hd, Conv.intToString]) (RB.str _) rfl (fun d hd => by cases hd)
 | _ => cases he
theorem zme {w : World} {c : Nat} {arr : Array Value} {e : TypeId} (hB : Blk w c arr e) : Blk (w.freeze ⟨c, arr.size, none⟩ 1) c arr e ∧ Wrote w (w.freeze ⟨c, arr.size, none⟩ 1) c ∧ w.shape? c = some (e, arr.size) := by
 obtain ⟨⟨lo, hi⟩, h1, h2, h3⟩ := hB
 have hh : (w.freeze ⟨c, arr.size, none⟩ 1).heap[c]? = some (.cells arr e (if lo == hi then (arr.size, arr.size + 1) else (min lo arr.size, max hi (arr.size + 1)))) := by
  unfold World.freeze
  rw [if_neg (by decide)]
  show (w.heap.modify c _)[c]? = _
  rw [Array.getElem?_modify, if_pos rfl, h1]
  rfl
 refine ⟨⟨_, hh, fun k hk => ?_, ?_⟩, ⟨fun d hd => ?_, ?_, ?_, ?_, ?_⟩, ?_⟩
 ·by_cases hl : lo = hi
  ·subst hl; simp only [beq_self_eq_true, if_true]; omega
  ·have hb : (lo == hi) = false := by simpa using hl
   rw [hb]
   simp only [yas, if_false]
   simp only at h2 h3
   have hlo : arr.size ≤ lo := by
    rcases Nat.lt_or_ge lo arr.size with hlt | hge
    ·exact absurd ⟨Nat.le_refl lo, by omega⟩ (h2 lo hlt)
    ·exact hge
   omega
 ·by_cases hl : lo = hi
  ·subst hl; simp only [beq_self_eq_true, if_true]; omega
  ·have hb : (lo == hi) = false := by simpa using hl
   rw [hb]
   simp only [yas, if_false]
   simp only at h3
   omega
 ·unfold World.freeze
  rw [if_neg (by decide)]
  exact zgR hd
 ·unfold World.freeze; simp
 ·unfold World.freeze; rw [if_neg (by decide)]
 ·unfold World.freeze; rw [if_neg (by decide)]
 ·unfold World.freeze; rw [if_neg (by decide)]
 ·unfold World.shape?; rw [h1]
theorem zom [Lay P] {src e : TypeId} {x : Operand} {o : Opd} (hop : oc.op = .convert src src x) (hs : P.underlying src = some (.slice e)) (he8 : P.underlying e = some (.int .u8))
  (ho : za7 S x o) : OpOK P S nl oc (.convB o) := by
 intro cf g w fr st a y st' _ h he K Q kk
 simp only [evalOp, yab] at he
 obtain ⟨p, hp, he⟩ := he
 obtain ⟨px, st1⟩ := p
 obtain ⟨g1, hg1, hs1, hm1, _⟩ := h.getO ho hp
 cases px with
 | slice own z xs =>
  cases own with
  | false => cases he
  | true =>
   simp only at he
   split at he
   ·rename_i hz
    subst hz
    simp only [yaa, yac] at he
    obtain ⟨rfl, rfl⟩ := he
    have hown := hs1.pend _ (.head _)
    obtain ⟨ad, cap, arr, e3, ex, hsp, hcap, hB, hroom, hE⟩ := R3.sliceT hown
    simp only at ex
    rw [ex] at hs1
    obtain ⟨hB', hW, hsh⟩ := zme hB
    obtain ⟨o1, o2, o3, o4, o5, o6⟩ := hs1.own_only
    have hO : OwnS g1.pers (w.freeze ⟨ad.block, arr.size, none⟩ 1) 1 xs (.slice (some ad) xs.length cap) :=
     ⟨ad, cap, arr, e3, rfl, hsp, hcap, hB', hroom, hE.1, fun i k hi hk => by
      obtain ⟨v, hv, hr⟩ := hE.2 i k hi hk
      refine ⟨v, ?_, hr.mono fun c hc => ⟨hc, hW.same c fun e => o5 (e ▸ hc)⟩⟩
      rw [hB.cell] at hv
      rw [hB'.cell]; exact hv⟩
    have h3 := hs1.ownWrite hW rfl hO
    refine za6 (v := .slice (some ad) xs.length cap) (w' := w.freeze ⟨ad.block, arr.size, none⟩ 1) ?_ (kk _ g1 _ h3 ((Ext.gext hg1 w).trans (Ext.wrote hW o5 o6) (Nat.le_refl st.m.length)) (by rw [hm1]; exact Nat.le_refl _))
    simp [execOp, hop, ex, convert, run_underlying hs, run_underlying he8, markStringish, hsh]
   ·cases he
 | _ => cases he
theorem zon [Lay P] : OpOK P S nl oc (.lenStr (.c .undef)) := by
 intro cf g w fr st a y st' _ h he
 simp only [evalOp, getC, Option.bind_some] at he
 cases he
end
end Go.Proofs.YtakdnfneikbjjaaGreatDoor.Am

namespace Go.Proofs.YtakdnfneikbjjaaGreatDoor.Am
section
variable {P : Program} {S : Nat → Bool} {nl : Nat} {oc : Oper}
theorem zia {α : Type} {k : Nat} {v : α} : ∀ {l : List (Nat × α)}, l.lookup k = some v → (k, v) ∈ l
 | [], h => by cases h
 | (k', v') :: l, h => by
  simp only [List.lookup] at h
  split at h
  ·rename_i hk
   simp only [yaa] at h
   have : k = k' := by simpa using hk
   subst this h
   exact .head _
  ·exact .tail _ (zia h)
theorem zpz [Lay P] {h : Hint} (hbox : ∀ j, h.box = some j → j < nl) {op : Op} (hop : oc.op = op) {o : AOp} (hc : cOp P S h op = some o) : OpOK P S nl oc o := by
 cases op with
 | move x =>
  simp only [cOp] at hc
  split at hc
  ·split at hc
   ·rename_i hS
    simp only [yaa] at hc
    subst hc
    exact zoP (.inl hop) hS
   ·cases hc
  ·simp only [yah] at hc; obtain ⟨o1, h1, rfl⟩ := hc; exact zpu (.inl hop) (za5 h1)
 | assign x =>
  simp only [cOp] at hc
  split at hc
  ·split at hc
   ·rename_i hS
    simp only [yaa] at hc
    subst hc
    exact zoP (.inr hop) hS
   ·cases hc
  ·simp only [yah] at hc; obtain ⟨o1, h1, rfl⟩ := hc; exact zpu (.inr hop) (za5 h1)
 | pick c a b =>
  simp only [cOp, yab, yah] at hc
  obtain ⟨o1, h1, o2, h2, o3, h3, rfl⟩ := hc
  exact zo0 hop (za5 h1) (za5 h2) (za5 h3)
 | alloc e =>
  simp only [cOp] at hc
  split at hc
  ·rename_i z hz
   split at hc
   ·rename_i j hj
    simp only [yaa] at hc; subst hc
    exact zmC hop hz (hbox j hj)
   ·simp only [yaa] at hc; subst hc
    exact zmD hop hz
  ·cases hc
 | box t x =>
  simp only [cOp] at hc
  split at hc
  ·rename_i j hj
   simp only [yah] at hc
   obtain ⟨o1, h1, rfl⟩ := hc
   exact zo3 hop (za5 h1) (hbox j hj)
  ·simp only [yah] at hc
   obtain ⟨o1, h1, rfl⟩ := hc
   exact zo4 hop (za5 h1)
 | build t parts =>
  simp only [cOp] at hc
  split at hc
  ·rename_i fs z ht hz
   simp only [yab, yah] at hc
   obtain ⟨pl, hpl, ps, hps, rfl⟩ := hc
   exact zld hop (.inl ⟨fs, pl, ht, hpl, rfl⟩) hz hps
  ·rename_i k e z ht hz
   simp only [yab, yah] at hc
   obtain ⟨n, hn, ps, hps, rfl⟩ := hc
   exact zld hop (.inr ⟨k, e, n, ht, hn, rfl⟩) hz hps
  ·cases hc
 | buildSlice t len parts =>
  simp only [cOp] at hc
  split at hc
  ·rename_i e ht
   split at hc
   ·rename_i i z hi hz
    split at hc
    ·rename_i hcc
     simp only [yah] at hc
     obtain ⟨ps, hps, rfl⟩ := hc
     exact zik hop ht hi hz hcc.1 hcc.2.1 hcc.2.2 hps
    ·cases hc
   ·cases hc
  ·cases hc
 | load t p =>
  simp only [cOp, yab, yah] at hc
  obtain ⟨q, hq, o1, h1, rfl⟩ := hc
  split
  ·exact zmF hop hq (za5 h1)
  ·exact zoc (zmF hop hq (za5 h1))
 | store t p x =>
  simp only [cOp, yab, yah] at hc
  obtain ⟨n, hn, o1, h1, o2, h2, rfl⟩ := hc
  exact zn7 hop hn (za5 h1) (za5 h2)
 | nilCheck x => simp only [cOp, yah] at hc; obtain ⟨o1, h1, rfl⟩ := hc; exact zkj hop (za5 h1)
 | binOp op t x y u =>
  simp only [cOp, yab] at hc
  obtain ⟨o1, h1, o2, h2, hc⟩ := hc
  split at hc
  ·exact zoR hop (.inl rfl) (za5 h1) (za5 h2) hc
  ·exact zoR hop (.inr rfl) (za5 h1) (za5 h2) hc
  ·simp only [yaa] at hc; subst hc
   exact zmt hop (za5 h1) (za5 h2)
 | unOp op t x => simp only [cOp, yah] at hc; obtain ⟨o1, h1, rfl⟩ := hc; exact zpN hop (za5 h1)
 | convert src dst x =>
  simp only [cOp, yab] at hc
  obtain ⟨o1, h1, hc⟩ := hc
  split at hc
  ·rename_i k1 k2 hs hd
   simp only [yaa] at hc; subst hc
   exact zo1 hop hs hd (za5 h1)
  ·rename_i hs hd
   simp only [yaa] at hc; subst hc
   exact zmu hop hs hd (za5 h1)
  ·rename_i e hs hd
   split at hc
   ·rename_i he
    simp only [yaa] at hc; subst hc
    exact zkq hop hs hd he (za5 h1)
   ·cases hc
  ·rename_i e hs hd
   split at hc
   ·rename_i he
    simp only [yaa] at hc; subst hc
    exact zkp hop hs he hd (za5 h1)
   ·cases hc
  ·rename_i k hs hd
   simp only [yaa] at hc; subst hc
   exact zm5 hop hs hd (za5 h1)
  ·rename_i e e2 hs hd
   split at hc
   ·rename_i he
    split at hc
    ·rename_i hsd
     subst hsd
     simp only [yaa] at hc; subst hc
     exact zom hop hs he (za5 h1)
    ·cases hc
   ·cases hc
  ·cases hc
 | makeSlice t l c =>
  simp only [cOp] at hc
  split at hc
  ·rename_i e ht
   split at hc
   ·rename_i i z hi hz
    split at hc
    ·rename_i hcc
     simp only [yab, yah] at hc
     obtain ⟨o1, h1, o2, h2, rfl⟩ := hc
     exact ziW hop ht hi hz hcc.1 hcc.2.1 hcc.2.2 (za5 h1) (za5 h2)
    ·cases hc
   ·cases hc
  ·cases hc
 | slice t x lo hi mx =>
  cases mx with
  | some _ => cases hc
  | none =>
   simp only [cOp] at hc
   split at hc
   ·rename_i ht
    simp only [yab, yah] at hc
    obtain ⟨o1, h1, o2, h2, o3, h3, rfl⟩ := hc
    exact zmy hop ht (za5 h1) (zlc h2) (zlc h3)
   ·rename_i e ht
    simp only [yab, yah] at hc
    obtain ⟨n, hn, o1, h1, o2, h2, o3, h3, rfl⟩ := hc
    exact zmz hop ht hn (za5 h1) (zlc h2) (zlc h3)
   ·cases hc
 | fieldAddr s x f =>
  simp only [cOp] at hc
  split at hc
  ·rename_i fs hs
   split at hc
   ·rename_i fd hf
    split at hc
    ·rename_i n hn
     split at hc
     ·cases hc
     ·rename_i hn0
      simp only [yah] at hc
      obtain ⟨o1, h1, rfl⟩ := hc
      exact ziT hop hs hf hn hn0 (za5 h1)
    ·cases hc
   ·cases hc
  ·cases hc
 | field t x f =>
  simp only [cOp] at hc
  split at hc
  ·rename_i fs hs
   split at hc
   ·rename_i fd hf
    simp only [yab, yah] at hc
    obtain ⟨q, hq, o1, h1, rfl⟩ := hc
    exact zn5 hop hs hf hq (za5 h1)
   ·cases hc
  ·cases hc
 | indexAddr t x i =>
  have keyT : ∀ gl, x = .global gl → OpOK P S nl oc o := fun gl hx => by
   subst hx
   simp only [cOp] at hc
   split at hc
   ·rename_i len e ht
    simp only [yab] at hc
    obtain ⟨q, hq, hc⟩ := hc
    obtain ⟨z, xs⟩ := q
    split at hc
    ·rename_i hz
     simp only [yah] at hc
     obtain ⟨o2, h2, rfl⟩ := hc
     exact zpv hop ht hz.1 (zia hq) hz.2 (za5 h2)
    ·cases hc
   ·cases hc
  by_cases hgx : ∃ gl, x = .global gl
  ·obtain ⟨gl, hx⟩ := hgx
   exact keyT gl hx
  have hc : (match P.underlying t with
   | some (.array len e) => (za2 P e).bind fun n => (cO S h x).bind fun o => (cO S h i).map fun j => AOp.indexArr len n o j
   | some (.slice e) => (za2 P e).bind fun n => (cO S h x).bind fun o => (cO S h i).map fun j => AOp.indexSl n o j
   | _ => none) = some o := by
   cases x with
   | global gl => exact absurd ⟨gl, rfl⟩ hgx
   | _ => exact hc
  split at hc
  ·rename_i len e ht
   simp only [yab, yah] at hc
   obtain ⟨n, hn, o1, h1, o2, h2, rfl⟩ := hc
   exact zkl hop ht hn (za5 h1) (za5 h2)
  ·rename_i e ht
   simp only [yab, yah] at hc
   obtain ⟨n, hn, o1, h1, o2, h2, rfl⟩ := hc
   exact zlR hop ht hn (za5 h1) (za5 h2)
  ·cases hc
 | index t x i =>
  simp only [cOp] at hc
  split at hc
  ·rename_i len e ht
   simp only [yab] at hc
   obtain ⟨q, hq, n, hn, hc⟩ := hc
   split at hc
   ·rename_i hqn
    simp only [yab, yah] at hc
    obtain ⟨o1, h1, o2, h2, rfl⟩ := hc
    exact zko hop ht hq hn hqn (za5 h1) (za5 h2)
   ·cases hc
  ·rename_i ht
   simp only [yab, yah] at hc
   obtain ⟨o1, h1, o2, h2, rfl⟩ := hc
   exact zkm hop ht (za5 h1) (za5 h2)
  ·cases hc
 | extract x i => simp only [cOp, yah] at hc; obtain ⟨o1, h1, rfl⟩ := hc; exact zlQ hop (za5 h1)
 | makeFunc fn first captured =>
  cases fn with
  | func f =>
   simp only [cOp] at hc
   split at hc
   ·rename_i hf
    simp only [yah] at hc
    obtain ⟨os, hos, rfl⟩ := hc
    exact zmw ⟨first, hop, hf⟩ (zfl hos)
   ·cases hc
  | _ => cases hc
 | call c =>
  simp only [cOp] at hc
  unfold zpt at hc
  split at hc
  ·rename_i f hcal
   split at hc
   ·rename_i fn hfn
    split at hc
    ·simp only [yah] at hc
     obtain ⟨os, hos, rfl⟩ := hc
     split
     ·split
      ·exact zod hop hcal (zfl hos)
      ·exact zoa hop hcal (zfl hos)
     ·split
      ·exact zn8 hop hcal (zfl hos)
      ·exact zob hop hcal (zfl hos)
    ·cases hc
   ·cases hc
  ·rename_i s hcal
   simp only [yab, yah] at hc
   obtain ⟨o1, h1, os, hos, rfl⟩ := hc
   exact zn9 hop hcal (za5 h1) (zfl hos)
  ·rename_i x hcal hargs
   split at hc
   ·rename_i t hat
    split at hc
    ·rename_i ht
     simp only [yah] at hc
     obtain ⟨o1, h1, rfl⟩ := hc
     exact zmv hop hcal hargs hat ht (za5 h1)
    ·rename_i e ht
     simp only [yah] at hc
     obtain ⟨o1, h1, rfl⟩ := hc
     exact zn4 hop hcal hargs hat ht (za5 h1)
    ·rename_i n e ht
     simp only [yaa] at hc; subst hc
     exact zo2 hop hcal hargs hat ht
    ·cases hc
   ·cases hc
  ·rename_i x y hcal hargs
   split at hc
   ·rename_i t u hat
    have hat' : c.argTypes = #[t, u] := by rw [← Array.toArray_toList (xs := c.argTypes), hat]
    split at hc
    ·rename_i e ht
     split at hc
     ·rename_i i z e' hi hz hu
      split at hc
      ·rename_i hcc
       simp only [yab, yah] at hc
       obtain ⟨o1, h1, o2, h2, rfl⟩ := hc
       exact zi2 hop hcal hargs hat' ht (.inl ⟨_, hu⟩) hi hz hcc.2.1 hcc.1 hcc.2.2 (za5 h1) (za5 h2)
      ·cases hc
     ·rename_i i z hi hz hu
      split at hc
      ·rename_i hcc
       simp only [yab, yah] at hc
       obtain ⟨o1, h1, o2, h2, rfl⟩ := hc
       exact zi2 hop hcal hargs hat' ht (.inr hu) hi hz hcc.2.1 hcc.1 (by omega) (za5 h1) (za5 h2)
      ·cases hc
     ·cases hc
    ·cases hc
   ·cases hc
  ·rename_i x ys hcal hargs
   simp only [yab, yah] at hc
   obtain ⟨o1, h1, os, hos, rfl⟩ := hc
   exact ziU (mx := false) hop hcal hargs (za5 h1) (zfl hos)
  ·rename_i x ys hcal hargs
   simp only [yab, yah] at hc
   obtain ⟨o1, h1, os, hos, rfl⟩ := hc
   exact ziU (mx := true) hop hcal hargs (za5 h1) (zfl hos)
  ·cases hc
 | _ => cases hc
end
structure Plan where
 peeks : List Nat := []
 nl : Nat := 0
 hints : List ((Nat × Nat) × Hint) := []
 live : List (List Nat) := []
def Plan.S (p : Plan) : Nat → Bool := fun s => p.peeks.contains s
def Plan.hint (p : Plan) (id i : Nat) : Hint := (p.hints.lookup (id, i)).getD {}
def zpd (P : Program) [Lay P] (p : Plan) (nt : Nat) (ops : Array Oper) (h : Hint) (o : Oper) : Option AOper :=
 (some (match h.name with
  | some s => toT s ((cOp P p.S h o.op).getD (.lenStr (.c .undef)))
  | none => (cOp P p.S h o.op).getD (.lenStr (.c .undef)))).bind fun a =>
  if (o.dst.all fun d => decide (d < nt)) && (h.box.all fun j => decide (j < p.nl)) then
   match o.guard with
   | none => some ⟨o.dst, none, (o.dst.map p.S).getD false, a, h.mark⟩
   | some (j, want) => match (ops[j]?).bind (·.dst) with
    | some s => if s < nt then some ⟨o.dst, some (s, want), (o.dst.map p.S).getD false, a, h.mark⟩ else none
    | none => none
  else none
def zjA (P : Program) [Lay P] (p : Plan) (nt id : Nat) (ops : Array Oper) : Nat → List Oper → Option (List AOper)
 | _, [] => some []
 | i, o :: os => (zpd P p nt ops (p.hint id i) o).bind fun a => (zjA P p nt id ops (i + 1) os).bind fun zs9 => some (a :: zs9)
def zm6 : Option Operand → Option Nat
 | none => some 0
 | some (.const (.int _ n)) => if 0 ≤ n then some n.toNat else none
 | _ => none
def zpe (P : Program) (p : Plan) (nt : Nat) (oc1 oc2 : Oper) : Option (AOper × AOper) :=
 match oc1.op, oc2.op, oc1.dst with
 | .slice t (.tmp s) ol none none, .call c, some d1 => match P.underlying t, c.callee, c.args.toList with
  | some (.slice e), .value (.func f), [.tmp d] => (za2 P e).bind fun n => (zm6 ol).bind fun lo =>
   if d1 < nt ∧ s ≠ d1 ∧ d = d1 ∧ oc1.guard = none ∧ oc2.guard = none ∧ (oc2.dst.all fun d => decide (d < nt)) = true then
    some (⟨some d1, none, p.S d1, .mv (.c .undef), .none⟩, ⟨oc2.dst, none, (oc2.dst.map p.S).getD false, .lend f n (.t s) lo, .none⟩) else none
  | _, _, _ => none
 | _, _, _ => none
def zjB (P : Program) (p : Plan) (nt id : Nat) (ops : Array Oper) : List Nat → List AOper → List AOper
 | i :: j :: is, o1 :: o2 :: os => match (if (p.hint id i).lend then (ops[i]?).bind fun a => (ops[j]?).bind fun b => zpe P p nt a b else none) with
  | some q => q.1 :: q.2 :: zjB P p nt id ops is os
  | none => o1 :: zjB P p nt id ops (j :: is) (o2 :: os)
 | _, os => os
def cCode (P : Program) [Lay P] (p : Plan) (nt : Nat) : Code → List (List Nat) → Option (ACode × List (List Nat))
 | .skip, ls => some (.skip, ls)
 | .label _, ls => some (.skip, ls)
 | .region id ops draw, ls => (zjA P p nt id ops 0 ops.toList).bind fun os =>
   if draw then (if (P.follows .mixedOrders || !Region.departs ops) && zjw ops os then some (.region true os, ls) else none) else some (.region false (zjB P p nt id ops (List.range ops.size) os), ls)
 | .seq a b, ls => (cCode P p nt a ls).bind fun x => (cCode P p nt b x.2).bind fun y => some (.seq x.1 y.1, y.2)
 | .cond c t e, ls => (cO p.S {} c).bind fun o => (cCode P p nt t ls).bind fun x => (cCode P p nt e x.2).bind fun y => some (.cond o x.1 y.1, y.2)
 | .block i b, ls => (cCode P p nt b ls).bind fun x => some (.block i x.1, x.2)
 | .loop b, ls => match ls with
  | l :: ls => (cCode P p nt b ls).bind fun x => some (.loop l x.1, x.2)
  | [] => none
 | .exit i, ls => some (.exit i, ls)
 | .ret, ls => some (.ret, ls)
 | .scope b, ls => cCode P p nt b ls
 | .rangeFunc _ _ _ _, ls => some (.cond (.c .undef) .skip .skip, ls)
 | _, _ => none
def cRes (P : Program) : ResultVar → Option ARes
 | .tmp t => some (.tmp t)
 | .cell t ty => (zfm P ty).map fun q => .cell t q.1 q.2
def zm7 (P : Program) : List ResultVar → Option (List ARes)
 | [] => some []
 | r :: rs => (cRes P r).bind fun a => (zm7 P rs).bind fun zs9 => some (a :: zs9)
def zat (P : Program) [Lay P] (p : Plan) (f : Nat) : Option AFunc :=
 (P.funcs[f]?).bind fun fn => fn.body.bind fun c =>
  if fn.name == "runtime.NumGoroutine" then none else
   (cCode P p fn.ntmps c p.live).bind fun x => (zm7 P fn.results.toList).bind fun rs =>
    let np := fn.params.size + fn.nfree
    if np ≤ fn.ntmps then some ⟨np, fn.ntmps, p.nl, rs, x.1⟩ else none
section
variable {P : Program} {p : Plan} {nt : Nat}
theorem zoo [Lay P] {ops : Array Oper} {h : Hint} {o : Oper} {a : AOper} (hc : zpd P p nt ops h o = some a) : OperOK P p.S p.nl nt ops o a := by
 simp only [zpd, yab] at hc
 obtain ⟨x, hx, hc⟩ := hc
 split at hc
 ·rename_i hcc
  simp only [yae] at hcc
  have hok : (∀ j, h.box = some j → j < p.nl) → OpOK P p.S p.nl o x := fun hb => by
   simp only [yaa] at hx
   have h0 : OpOK P p.S p.nl o ((cOp P p.S h o.op).getD (.lenStr (.c .undef))) := by
    cases hcop : cOp P p.S h o.op with
    | none => exact zon
    | some a => exact zpz hb rfl hcop
   split at hx
   ·subst hx; exact zpw h0
   ·subst hx; exact h0
  have hbox : ∀ j, h.box = some j → j < p.nl := fun j hj => by have := hcc.2; rw [hj] at this; simpa using this
  have hd : ∀ d, o.dst = some d → d < nt := fun d hd => by have := hcc.1; rw [hd] at this; simpa using this
  have hlt : ∀ d, o.dst = some d → d < nt ∧ ((o.dst.map p.S).getD false = true ∨ p.S d = false) := fun d hd' => ⟨hd d hd', by rw [hd']; cases h : p.S d <;> simp [h]⟩
  split at hc
  ·rename_i hg
   simp only [yaa] at hc; subst hc
   exact ⟨rfl, hlt, .inl ⟨hg, rfl⟩, hok hbox⟩
  ·rename_i j want hg
   split at hc
   ·rename_i s hs
    split at hc
    ·rename_i hlt'
     simp only [yaa] at hc; subst hc
     exact ⟨rfl, hlt, .inr ⟨j, want, s, hg, rfl, hs, hlt'⟩, hok hbox⟩
    ·cases hc
   ·cases hc
 ·cases hc
theorem zjC [Lay P] {ops : Array Oper} {id : Nat} : ∀ {l : List Oper} {i : Nat} {os : List AOper}, zjA P p nt id ops i l = some os → os.length = l.length ∧ ∀ k oc, l[k]? = some oc → OperOK P p.S p.nl nt ops oc (os.getD k default)
 | [], i, os, hc => by
  simp only [zjA, yaa] at hc; subst hc
  exact ⟨rfl, fun k oc h => by simp at h⟩
 | o :: l, i, os, hc => by
  simp only [zjA, yab, yaa] at hc
  obtain ⟨a, ha, zs9, has, rfl⟩ := hc
  obtain ⟨h1, h2⟩ := zjC has
  refine ⟨by simp [h1], fun k oc hk => ?_⟩
  cases k with
  | zero => simp only [List.getElem?_cons_zero, yaa] at hk; subst hk; exact zoo ha
  | succ k => simp only [List.getElem?_cons_succ] at hk; exact h2 k oc hk
theorem zop [Lay P] {oc1 oc2 : Oper} {q : AOper × AOper} (h : zpe P p nt oc1 oc2 = some q) : oc1.guard = none ∧ oc2.guard = none ∧ zmH P p.S p.nl nt oc1 oc2 q.1 q.2 := by
 unfold zpe at h
 split at h
 ·rename_i t s ol c d1 h1 h2 hd1
  split at h
  ·rename_i e f d ht hc ha
   simp only [yab] at h
   obtain ⟨n, hn, lo, hlo, h⟩ := h
   split at h
   ·rename_i hcc
    obtain ⟨q1, q2, q3, q4, q5, q6⟩ := hcc
    simp only [yaa] at h
    subst h
    subst q3
    refine ⟨q4, q5, zmI (ox := .t s) h1 ht hn ?_ hd1 q1 q2 ?_ h2 hc (by rw [← Array.toArray_toList (xs := c.args), ha]) rfl rfl rfl rfl fun d hd => ⟨by rw [hd] at q6; simpa using q6, ?_⟩⟩
    ·cases ol with
     | none => simp only [zm6, yaa] at hlo; exact .inl ⟨rfl, hlo.symm⟩
     | some o =>
      cases o with
      | const v =>
       cases v with
       | int k m =>
        simp only [zm6] at hlo
        split at hlo
        ·rename_i hm
         simp only [yaa] at hlo
         refine .inr ⟨k, ?_⟩
         rw [← hlo, Int.toNat_of_nonneg hm]
        ·cases hlo
       | _ => cases hlo
      | _ => cases hlo
    ·cases p.S d <;> simp
    ·rw [hd]; cases hh : p.S d <;> simp [hh]
   ·cases h
  ·cases h
 ·cases h
def zln (P : Program) [Lay P] (S : Nat → Bool) (nl nt : Nat) (ops : Array Oper) : List Nat → List AOper → Prop
 | [], [] => True
 | i :: is, o :: os => (∃ oc, ops[i]? = some oc ∧ OperOK P S nl nt ops oc o) ∧ zln P S nl nt ops is os
 | _, _ => False
theorem zib [Lay P] {S : Nat → Bool} {nl : Nat} {ops : Array Oper} {os : List AOper} : ∀ {is : List Nat} (_ : ∀ i ∈ is, ∃ oc, ops[i]? = some oc ∧ OperOK P S nl nt ops oc (os.getD i default)), zln P S nl nt ops is (is.map fun i => os.getD i default)
 | [], _ => trivial
 | i :: _, h => ⟨h i (.head _), zib fun j hj => h j (.tail _ hj)⟩
theorem zmf [Lay P] {S : Nat → Bool} {nl : Nat} {ops : Array Oper} {os : List AOper} (h : zm1 P S nl nt ops os) : zln P S nl nt ops (List.range ops.size) os := by
 have := zib (P := P) (S := S) (nl := nl) (nt := nt) (ops := ops) (os := os) (is := List.range ops.size) fun i hi => ⟨ops[i]'(List.mem_range.1 hi), yaj _, h.2 i _ (yaj _)⟩
 rw [← h.1, ze7, h.1] at this
 exact this
theorem zg6 [Lay P] {ops : Array Oper} {id : Nat} : ∀ {is : List Nat} {os : List AOper}, zln P p.S p.nl nt ops is os → seqOK P p.S p.nl nt ops is (zjB P p nt id ops is os)
 | [], [], _ => .nil
 | [_], [_], h => .cons h.1 .nil
 | i :: j :: is, o1 :: o2 :: os, ⟨h1, h2, h3⟩ => by
  unfold zjB
  split
  ·rename_i q hq
   split at hq
   ·simp only [yab] at hq
    obtain ⟨a, ha, b, hb, hq⟩ := hq
    obtain ⟨k1, k2, k3⟩ := zop hq
    exact .pair ⟨a, b, ha, hb, k1, k2, k3⟩ (zg6 h3)
   ·cases hq
  ·exact .cons h1 (zg6 ⟨h2, h3⟩)
 | [], _ :: _, h => h.elim
 | _ :: _, [], h => h.elim
 | [_], _ :: _ :: _, h => h.2.elim
 | _ :: _ :: _, [_], h => h.2.elim
theorem zoq [Lay P] : ∀ {c : Code} {ls ls' : List (List Nat)} {ac : ACode}, cCode P p nt c ls = some (ac, ls') → zei P p.S p.nl nt c ac := by
 intro c
 induction c with
 | skip => intro ls ls' ac hc; simp only [cCode, yaa, yac] at hc; obtain ⟨rfl, _⟩ := hc; trivial
 | label _ => intro ls ls' ac hc; simp only [cCode, yaa, yac] at hc; obtain ⟨rfl, _⟩ := hc; trivial
 | region id ops draw =>
  intro ls ls' ac hc
  simp only [cCode, yab] at hc
  obtain ⟨os, hos, hc⟩ := hc
  obtain ⟨h1, h2⟩ := zjC hos
  have he : zm1 P p.S p.nl nt ops os := ⟨by simpa using h1, fun i oc hi => h2 i oc (by simpa using hi)⟩
  cases draw with
  | true =>
   simp only [if_true] at hc
   split at hc
   ·rename_i hcc
    simp only [yae] at hcc
    simp only [yaa, yac] at hc; obtain ⟨rfl, _⟩ := hc
    exact ⟨rfl, zkJ he hcc.1 hcc.2⟩
   ·cases hc
  | false =>
   simp only [yas, if_false, yaa, yac] at hc; obtain ⟨rfl, _⟩ := hc
   exact ⟨rfl, zg6 (zmf he)⟩
 | seq a b iha ihb =>
  intro ls ls' ac hc
  simp only [cCode, yab, yaa, yac] at hc
  obtain ⟨x, hx, y, hy, rfl, _⟩ := hc
  exact ⟨iha hx, ihb hy⟩
 | cond c t e iht ihe =>
  intro ls ls' ac hc
  simp only [cCode, yab, yaa, yac] at hc
  obtain ⟨o, ho, x, hx, y, hy, rfl, _⟩ := hc
  exact ⟨za5 ho, iht hx, ihe hy⟩
 | block i b ih =>
  intro ls ls' ac hc
  simp only [cCode, yab, yaa, yac] at hc
  obtain ⟨x, hx, rfl, _⟩ := hc
  exact ⟨rfl, ih hx⟩
 | loop b ih =>
  intro ls ls' ac hc
  simp only [cCode] at hc
  split at hc
  ·simp only [yab, yaa, yac] at hc
   obtain ⟨x, hx, rfl, _⟩ := hc
   exact ih hx
  ·cases hc
 | exit i => intro ls ls' ac hc; simp only [cCode, yaa, yac] at hc; obtain ⟨rfl, _⟩ := hc; exact rfl
 | ret => intro ls ls' ac hc; simp only [cCode, yaa, yac] at hc; obtain ⟨rfl, _⟩ := hc; trivial
 | scope b ih => intro ls ls' ac hc; simp only [cCode] at hc; exact ih hc
 | rangeFunc f ps a b => intro ls ls' ac hc; simp only [cCode, yaa, yac] at hc; obtain ⟨rfl, _⟩ := hc; trivial
 | _ => intro ls ls' ac hc; cases hc
theorem zlo : ∀ {rs : List ResultVar} {zs9 : List ARes}, zm7 P rs = some zs9 → zlh P rs zs9
 | [], zs9, hc => by simp only [zm7, yaa] at hc; subst hc; trivial
 | r :: rs, zs9, hc => by
  simp only [zm7, yab, yaa] at hc
  obtain ⟨a, ha, zs9', has, rfl⟩ := hc
  refine ⟨?_, zlo has⟩
  cases r with
  | tmp t => simp only [cRes, yaa] at ha; subst ha; rfl
  | cell t ty => simp only [cRes, yah] at ha; obtain ⟨q, hq, rfl⟩ := ha; exact ⟨rfl, hq⟩
theorem zae [Lay P] {f : Nat} {af : AFunc} (hc : zat P p f = some af) : zi6 P f af := by
 simp only [zat, yab] at hc
 obtain ⟨fn, hfn, c, hbody, hc⟩ := hc
 split at hc
 ·cases hc
 ·rename_i hname
  simp only [yab] at hc
  obtain ⟨x, hx, rs, hrs, hc⟩ := hc
  split at hc
  ·rename_i hnp
   simp only [yaa] at hc; subst hc
   exact ⟨fn, c, p.S, hfn, hbody, by simpa using hname, rfl, hnp, zoq hx, zlo hrs⟩
  ·cases hc
end
end Go.Proofs.YtakdnfneikbjjaaGreatDoor.Am

namespace Go.Proofs.YtakdnfneikbjjaaGreatDoor.Am
def Le (cf1 cf2 : CF) : Prop := ∀ f a m x, cf1 f a m = some x → cf2 f a m = some x
section
variable {cf1 cf2 : CF}
theorem zg7 (h : Le cf1 cf2) {st : St} {op : AOp} {y : V × St} (he : evalOp cf1 st op = some y) : evalOp cf2 st op = some y := by
 cases op with
 | callF f args =>
  simp only [evalOp, yab] at he ⊢
  obtain ⟨p, hp, he⟩ := he
  refine ⟨p, hp, ?_⟩
  split at he
  ·rename_i hc
   rw [if_pos hc]
   simp only [yab] at he ⊢
   obtain ⟨r, hr, he⟩ := he
   exact ⟨r, h _ _ _ _ hr, he⟩
  ·cases he
 | callP f args =>
  simp only [evalOp, yab] at he ⊢
  obtain ⟨p, hp, he⟩ := he
  refine ⟨p, hp, ?_⟩
  split at he
  ·rename_i hc
   rw [if_pos hc]
   simp only [yab] at he ⊢
   obtain ⟨r, hr, he⟩ := he
   exact ⟨r, h _ _ _ _ hr, he⟩
  ·cases he
 | callL f args =>
  simp only [evalOp, yab] at he ⊢
  obtain ⟨vs, hvs, us, hus, r, hr, he⟩ := he
  exact ⟨vs, hvs, us, hus, r, h _ _ _ _ hr, he⟩
 | callN f args ws =>
  simp only [evalOp, yab] at he ⊢
  obtain ⟨us, hus, p, hp, he⟩ := he
  refine ⟨us, hus, p, hp, ?_⟩
  split at he
  ·rename_i hc
   rw [if_pos hc]
   simp only [yab] at he ⊢
   obtain ⟨r, hr, he⟩ := he
   exact ⟨r, h _ _ _ _ hr, he⟩
  ·cases he
 | lend f z x lo =>
  simp only [evalOp, yab] at he ⊢
  obtain ⟨v, hv, xs, hxs, he⟩ := he
  refine ⟨v, hv, xs, hxs, ?_⟩
  split at he
  ·rename_i hc
   rw [if_pos hc]
   simp only [yab] at he ⊢
   obtain ⟨r, hr, he⟩ := he
   exact ⟨r, h _ _ _ _ hr, he⟩
  ·cases he
 | callV f args =>
  simp only [evalOp, yab] at he ⊢
  obtain ⟨v, hv, he⟩ := he
  refine ⟨v, hv, ?_⟩
  cases v with
  | func g cap =>
   simp only [yab] at he ⊢
   obtain ⟨p, hp, he⟩ := he
   refine ⟨p, hp, ?_⟩
   split at he
   ·rename_i hc
    rw [if_pos hc]
    simp only [yab] at he ⊢
    obtain ⟨r, hr, he⟩ := he
    exact ⟨r, h _ _ _ _ hr, he⟩
   ·cases he
  | _ => cases he
 | _ => exact he
theorem za3 {α β : Type} {o1 o2 : Option α} {f1 f2 : α → Option β} (ho : ∀ x, o1 = some x → o2 = some x) (hf : ∀ x y, f1 x = some y → f2 x = some y) {y : β} (h : o1.bind f1 = some y) : o2.bind f2 = some y := by
 simp only [yab] at h ⊢
 obtain ⟨x, hx, h⟩ := h
 exact ⟨x, ho x hx, hf x y h⟩
theorem zkL (h : Le cf1 cf2) {o : AOper} {st st' : St} (he : zcY cf1 o st = some st') : zcY cf2 o st = some st' := by
 unfold zcY at he ⊢
 have hb : ∀ y, (evalOp cf1 st o.op).bind (zdv o) = some y → (evalOp cf2 st o.op).bind (zdv o) = some y := fun y => za3 (fun _ => zg7 h) (fun _ _ h => h)
 split at he
 ·exact hb _ he
 ·split at he
  ·split at he
   ·rename_i hc; rw [if_pos hc]; exact hb _ he
   ·rename_i hc; rw [if_neg hc]; exact he
  ·exact he
  ·cases he
theorem zg8 (h : Le cf1 cf2) : ∀ {os : List AOper} {st st' : St}, zbG cf1 os st = some st' → zbG cf2 os st = some st'
 | [], _, _, he => he
 | _ :: _, _, _, he => za3 (fun _ => zkL h) (fun _ _ => zg8 h) he
theorem zmg (h : Le cf1 cf2) {o : AOper} {st st' : St} (he : zc8 cf1 o st = some st') : zc8 cf2 o st = some st' := by
 unfold zc8 at he ⊢
 have hb : ∀ y, zay cf1 o st = some y → zay cf2 o st = some y := fun y hy => by
  unfold zay at hy ⊢
  split at hy
  ·rename_i hc; rw [if_pos hc]; exact za3 (fun _ => zg7 h) (fun _ _ h => h) hy
  rename_i hT
  rw [if_neg hT]
  split at hy
  ·rename_i hc; rw [if_pos hc]; exact za3 (fun _ => zg7 h) (fun _ _ h => h) hy
  ·cases hy
 split at he
 ·exact hb _ he
 ·split at he
  ·split at he
   ·rename_i hc; rw [if_pos hc]; exact hb _ he
   ·rename_i hc; rw [if_neg hc]; exact he
  ·exact he
  ·cases he
theorem zjD (h : Le cf1 cf2) : ∀ {os : List AOper} {st st' : St}, runD cf1 os st = some st' → runD cf2 os st = some st'
 | [], _, _, he => he
 | _ :: _, _, _, he => za3 (fun _ => zmg h) (fun _ _ => zjD h) he
theorem zeA {r1 r2 : St → Option (Ex × St)} (h : ∀ st x, r1 st = some x → r2 st = some x) : ∀ {k : Nat} {st : St} {x : Ex × St}, zce r1 k st = some x → zce r2 k st = some x
 | 0, _, _, he => by cases he
 | k + 1, st, x, he => by
  unfold zce at he ⊢
  refine za3 (h st) (fun q y hq => ?_) he
  obtain ⟨e, st1⟩ := q
  cases e with
  | normal => exact zeA h hq
  | _ => exact hq
theorem zm8 (h : Le cf1 cf2) : ∀ {c : ACode} {st : St} {x : Ex × St}, exec cf1 c st = some x → exec cf2 c st = some x := by
 intro c
 induction c with
 | skip => intro st x he; exact he
 | region d ops =>
  intro st x he
  cases d with
  | true => simp only [exec] at he ⊢; exact za3 (fun _ => zjD h) (fun _ _ h => h) he
  | false => simp only [exec] at he ⊢; exact za3 (fun _ => zg8 h) (fun _ _ h => h) he
 | seq a b iha ihb =>
  intro st x he
  simp only [exec] at he ⊢
  refine za3 (fun _ => iha) (fun q y hq => ?_) he
  obtain ⟨e, st1⟩ := q
  cases e with
  | normal => exact ihb hq
  | _ => exact hq
 | cond c t e iht ihe =>
  intro st x he
  simp only [exec] at he ⊢
  refine za3 (fun _ h => h) (fun v y hq => ?_) he
  cases v with
  | bool b =>
   cases b with
   | true => exact iht hq
   | false => exact ihe hq
  | _ => cases hq
 | block i b ih =>
  intro st x he
  simp only [exec] at he ⊢
  exact za3 (fun _ => ih) (fun _ _ h => h) he
 | loop live b ih =>
  intro st x he
  simp only [exec] at he ⊢
  obtain ⟨k, hk⟩ := zcl.1 he
  exact zcl.2 ⟨k, zeA (fun st x => ih) hk⟩
 | exit i => intro st x he; exact he
 | ret => intro st x he; exact he
theorem zjE (h : Le cf1 cf2) {f : AFunc} {args : List V} {m : List (List V)} {x : V × List (List V)} (he : runF cf1 f args m = some x) : runF cf2 f args m = some x := by
 unfold runF at he ⊢
 split at he
 ·rename_i hc
  rw [if_pos hc]
  exact za3 (fun _ => zm8 h) (fun _ _ h => h) he
 ·cases he
end
theorem Ret.unique {T : Table} {f : Nat} {a : List V} {m m1 : List (List V)} {r1 : V} (h1 : Ret T f a m r1 m1) : ∀ {r2 : V} {m2 : List (List V)}, Ret T f a m r2 m2 → r1 = r2 ∧ m1 = m2 := by
 induction h1 with
 | mk cf1 f fn args m r1 m1 hf1 hr1 hcf1 ih =>
  intro r2 m2 h2
  cases h2 with
  | mk cf2 _ fn2 _ _ _ _ hf2 hr2 hcf2 =>
   rw [hf1] at hf2
   cases hf2
   have hle1 : Le cf1 (fun f a m => (cf1 f a m).or (cf2 f a m)) := fun f a m x hx => by simp [hx]
   have hle2 : Le cf2 (fun f a m => (cf1 f a m).or (cf2 f a m)) := fun f a m x hx => by
    cases hc : cf1 f a m with
    | none => simp [hc, hx]
    | some y =>
     obtain ⟨yr, ym⟩ := y
     obtain ⟨xr, xm⟩ := x
     obtain ⟨e1, e2⟩ := ih f a m yr ym hc (hcf2 f a m xr xm hx)
     simp [hc, e1, e2]
   have e1 := zjE hle1 hr1
   have e2 := zjE hle2 hr2
   rw [e1] at e2
   simp only [yaa, yac] at e2
   exact e2
  | ext _ _ _ _ _ hf2 _ => rw [hf1] at hf2; cases hf2
 | ext f args m r m' hf h =>
  intro r2 m2 h2
  cases h2 with
  | mk cf2 _ fn2 _ _ _ _ hf2 _ _ => rw [hf] at hf2; cases hf2
  | ext _ _ _ _ _ _ h2 =>
   rw [h] at h2
   simp only [yaa, yac] at h2
   exact h2
open Classical in
noncomputable def RF (T : Table) : CF := fun f a m =>
 if h : ∃ x : V × List (List V), Ret T f a m x.1 x.2 then some h.choose else none
theorem zlp {T : Table} {f : Nat} {a : List V} {m : List (List V)} {x : V × List (List V)} : RF T f a m = some x ↔ Ret T f a m x.1 x.2 := by
 unfold RF
 constructor
 ·intro h
  split at h
  ·rename_i hx
   simp only [yaa] at h
   rw [← h]; exact hx.choose_spec
  ·cases h
 ·intro h
  have hx : ∃ x : V × List (List V), Ret T f a m x.1 x.2 := ⟨x, h⟩
  rw [dif_pos hx]
  obtain ⟨e1, e2⟩ := hx.choose_spec.unique h
  rw [yaa]
  exact Prod.ext e1 e2
theorem zpS {T : Table} {f : Nat} {fn : AFunc} (hf : T.code f = some fn) {a : List V} {m : List (List V)} {x : V × List (List V)} (h : runF (RF T) fn a m = some x) : RF T f a m = some x :=
 zlp.2 (.mk (RF T) f fn a m x.1 x.2 hf h fun _ _ _ _ _ hh => zlp.1 hh)
theorem zoS {T : Table} {f : Nat} (hf : T.code f = none) {a : List V} {m : List (List V)} {x : V × List (List V)} (h : T.ext f a m = some x) : RF T f a m = some x :=
 zlp.2 (.ext f a m x.1 x.2 hf h)
end Go.Proofs.YtakdnfneikbjjaaGreatDoor.Am

namespace Go.Proofs.YtakdnfneikbjjaaGreatDoor.Am
abbrev Ts := List (Nat × V)
abbrev Bs := List (Nat × List V)
abbrev Ms := List (List V)
def fnd {α : Type} : List (Nat × α) → Nat → Option α
 | [], _ => none
 | (k, v) :: r, s => bif Nat.beq k s then some v else fnd r s
def zcb {α : Type} (L : List (Nat × α)) : List Nat → (List (Nat × α) → Prop) → Prop
 | [], k => k []
 | s :: r, k => match fnd L s with
  | some v => zcb L r fun r' => k ((s, v) :: r')
  | none => zcb L r k
def ziA (mx : Bool) (v : V) (vs : List V) (k : V → Prop) : Prop :=
 match v, vs with
 | .int kd a, [.int _ b] => match mx with
  | false => k (.int kd (min a b))
  | true => k (.int kd (max a b))
 | v, vs => match zc3 mx v vs with
  | some r => k r
  | none => False
def AOp.isCall : AOp → Bool
 | .callF _ _ | .callV _ _ => true
 | _ => false
def zg9 : List V → V
 | [v] => v
 | vs => .tuple vs
end Go.Proofs.YtakdnfneikbjjaaGreatDoor.Am

namespace Go.Proofs.YtakdnfneikbjjaaGreatDoor.Am
theorem zcB {α : Type} {k s : Nat} {v : α} {r : List (Nat × α)} : fnd ((k, v) :: r) s = if s = k then some v else fnd r s := by
 show (bif Nat.beq k s then some v else fnd r s) = _
 by_cases h : s = k
 ·subst h; simp
 ·have : Nat.beq k s = false := by
   cases hb : Nat.beq k s with
   | false => rfl
   | true => exact absurd (yap hb).symm h
  simp [h, this]
section
variable {L : Ts} {B : Bs} {st : St}
theorem zbE {α : Type} {l : List α} {i : Nat} {d v : α} (h : l[i]? = some v) : l.getD i d = v := by
 rw [yad, h]; rfl
theorem zax {α : Type} {l : List α} {i : Nat} {v : α} (h : l[i]? = some v) : i < l.length := (List.getElem?_eq_some_iff.1 h).1
theorem zdr {c : Bool} {p : Prop} (h : bif c then p else False) : c = true ∧ p := by
 cases c with
 | true => exact ⟨rfl, h⟩
 | false => exact h.elim
theorem zbW {x y : Nat} {p : Prop} (h : bif Nat.beq x y then p else False) : x = y ∧ p :=
 let ⟨a, b⟩ := zdr h; ⟨yap a, b⟩
theorem zm9 {cs : List V} {off : Nat} {v : V} (h : cs[off]? = some v) : (cs.drop off).take 1 = [v] := by
 obtain ⟨hl, e⟩ := List.getElem?_eq_some_iff.1 h
 rw [List.drop_eq_getElem_cons hl, e]; rfl
theorem zoT {cs : List V} {off : Nat} {v x : V} (h : cs[off]? = some v) : zaH cs off [x] = cs.set off x := by
 have hl := zax h
 unfold zaH
 rw [List.set_eq_take_append_cons_drop, if_pos hl]
 simp
end
end Go.Proofs.YtakdnfneikbjjaaGreatDoor.Am

namespace Go.Proofs.YtakdnfneikbjjaaGreatDoor.Am
section
variable {cf : CF} {L : Ts} {B : Bs} {st : St}
end
end Go.Proofs.YtakdnfneikbjjaaGreatDoor.Am

namespace Go.Proofs.YtakdnfneikbjjaaGreatDoor.Am
abbrev hB (n : Nat) : Hint := { box := some n }
abbrev hS (n : Nat) : Hint := { uses := [(n, .share)] }
abbrev hT (n : Nat) : Hint := { uses := [(n, .take)] }
abbrev hT2 (n m : Nat) : Hint := { uses := [(n, .take), (m, .take)] }
abbrev hK (n : Nat) : Hint := { uses := [(n, .peek)] }
abbrev hM (n : Nat) : Hint := { mark := (.loc n) }
abbrev hU (n : Nat) : Hint := { uses := [(n, .share)], pure := true }
abbrev hP : Hint := { pure := true }
abbrev hF : Hint := { mark := .free }
abbrev hG : Hint := { mark := .free, pure := true }
abbrev hA : Hint := { mode := .take }
abbrev hL : Hint := { mode := .peek }
abbrev o_ (d : Nat) (x : AOp) : AOper := ⟨some d, none, false, x, .none⟩
abbrev g_ (d g : Nat) (b : Bool) (x : AOp) : AOper := ⟨some d, some (g, b), false, x, .none⟩
abbrev m_ (d s : Nat) : AOper := ⟨some d, none, false, .mv (.t s), .none⟩
abbrev i_ (d : Nat) (n : Int) : AOper := ⟨some d, none, false, .mv (.c (.int .i64 n)), .none⟩
abbrev f_ (d o s : Nat) : AOper := ⟨some d, none, false, .fieldAddr o (.t s), .none⟩
abbrev l_ (d s : Nat) : AOper := ⟨some d, none, false, .load false 1 (.t s) .copy, .none⟩
abbrev b_ (d : Nat) (op : BinOp) (x y : Nat) : AOper := ⟨some d, none, false, .bin op (.t x) (.t y), .none⟩
abbrev c_ (d : Nat) (op : BinOp) (x : Nat) (n : Int) : AOper := ⟨some d, none, false, .bin op (.t x) (.c (.int .i64 n)), .none⟩
abbrev s_ (p x : Nat) : AOper := ⟨none, none, false, .store 1 (.t p) (.t x), .none⟩
abbrev k_ (d s : Nat) : AOper := ⟨some d, none, true, .mv (.u s .take), .none⟩
def zkM (l : List (Nat × AFunc)) (x : CF) : Table := ⟨fun f => l.lookup f, x⟩
def zna (P : Program) [Lay P] : List (Nat × AFunc) → Prop
 | [] => True
 | p :: l => zi6 P p.1 p.2 ∧ zna P l
theorem zic {P : Program} [Lay P] {l : List (Nat × AFunc)} {x : CF} (h : zna P l) (hx : Good P x) : TableOK P (zkM l x) where
 code f af hf := by
  have key : ∀ l : List (Nat × AFunc), zna P l → l.lookup f = some af → zi6 P f af := by
   intro l
   induction l with
   | nil => intro _ hl; cases hl
   | cons p l ih =>
    intro h hl
    obtain ⟨g, b⟩ := p
    rw [List.lookup_cons] at hl
    cases hb : f == g with
    | true =>
     rw [hb] at hl
     have := beq_iff_eq.1 hb
     subst this
     cases hl
     exact h.1
    | false => rw [hb] at hl; exact ih h.2 hl
  exact key l h hf
 ext := hx
end Go.Proofs.YtakdnfneikbjjaaGreatDoor.Am

namespace Go.Proofs.YtakdnfneikbjjaaGreatDoor.Am.Lay10
open Go
instance : Lay Go.Proofs.Tryz.prog := ⟨[(1, 1, [[.erri]]), (2, 1, [[.erri]])], []⟩
def uRes (n : Lib.NumEnd Nat) : V := match n with
 | .ok v => .tuple [.int .u64 v, .nili]
 | .range => .tuple [.int .u64 65535, .erri]
 | _ => .tuple [.int .u64 0, .erri]
def lyX : CF := fun f args m => match f, args with
 | 11, [] => some (.bool true, m)
 | 87, [.str s, .int .i64 10, .int .i64 16] => if s.length ≤ 281474976710656 then some (uRes (Lib.parseUintB 16 s), m) else none
 | _, _ => none
end Go.Proofs.YtakdnfneikbjjaaGreatDoor.Am.Lay10

namespace Go.Proofs.YtakdnfneikbjjaaGreatDoor.Am.LayA
open Go
def lyA : CF := fun f args m => match f, args with
 | 97, [.str s, .int .i64 10, .int .i64 64] => match Lib.parseIntB 64 s with
  | .ok v => if s.length ≤ 1000 then some (.tuple [.int .i64 v, .nili], m) else none
  | _ => none
 | _, _ => none
end Go.Proofs.YtakdnfneikbjjaaGreatDoor.Am.LayA

set_option linter.all false
namespace Go.Proofs.YtakdnfneikbjjaaGreatDoor.Am
def znb {α : Type} (v : V) (k : V → α) : α :=
 match v with
 | .undef => k .undef
 | .bool b => k (.bool b)
 | .int kd n => k (.int kd n)
 | .str s => k (.str s)
 | .nilp => k .nilp
 | .ptr b o => k (.ptr b o)
 | .loc j o => k (.loc j o)
 | .ro cs o => k (.ro cs o)
 | .el r z i j => k (.el r z i j)
 | .place r => k (.place r)
 | .nils => k .nils
 | .slice o z xs => k (.slice o z xs)
 | .agg cs => k (.agg cs)
 | .tuple vs => k (.tuple vs)
 | .func f cs => k (.func f cs)
 | .nilf => k .nilf
 | .nili => k .nili
 | .erri => k .erri
theorem zjF {α : Type} (v : V) (k : V → α) : znb v k = k v := by cases v <;> rfl
def zfW {α : Type} : List V → (List V → α) → α
 | [], k => k []
 | v :: r, k => znb v fun v' => zfW r fun r' => k (v' :: r')
theorem zeT {α : Type} : ∀ (l : List V) (k : List V → α), zfW l k = k l
 | [], _ => rfl
 | v :: r, k => by simp only [zfW, zjF, zeT r]
def zha {α : Type} : List (List V) → (List (List V) → α) → α
 | [], k => k []
 | v :: r, k => zfW v fun v' => zha r fun r' => k (v' :: r')
theorem zeB {α : Type} : ∀ (l : List (List V)) (k : List (List V) → α), zha l k = k l
 | [], _ => rfl
 | v :: r, k => by simp only [zha, zeT, zeB r]
def lk : List Nat → List V → Nat → V
 | j :: js, v :: vs, i => if i = j then v else lk js vs i
 | _, _, _ => .undef
theorem znc (σ : Nat → V) : ∀ (live : List Nat) (i : Nat), lk live (live.map σ) i = keep live σ i
 | [], i => by simp [lk, keep]
 | j :: js, i => by
  have := znc σ js i
  simp only [List.map_cons, lk]
  by_cases h : i = j
  ·subst h; simp [keep]
  ·rw [if_neg h, this]
   simp [keep, h]
def lkL (n : Nat) (ls : List (List V)) (l : Nat → List V) : Nat → List V := fun j => if j < n then ls.getD j [] else l j
theorem zpA (n : Nat) (l : Nat → List V) : lkL n ((List.range n).map l) l = l := by
 funext j
 unfold lkL
 split
 ·rename_i h
  simp [yad, h]
 ·rfl
def zpf {α : Type} (nl : Nat) (live : List Nat) (st : St) (k : St → α) : α :=
 zfW (live.map st.σ) fun vs => zha ((List.range nl).map st.l) fun ls => zha st.m fun m => k ⟨lk live vs, lkL nl ls st.l, m⟩
theorem zor {α : Type} (nl : Nat) (live : List Nat) (st : St) (k : St → α) : zpf nl live st k = k { st with σ := keep live st.σ } := by
 unfold zpf
 rw [zeT, zeB, zeB, zpA]
 congr 1
 have : lk live (live.map st.σ) = keep live st.σ := funext fun i => znc st.σ live i
 rw [this]
mutual
def V.beq : V → V → Bool
 | .undef, .undef | .nilp, .nilp | .nils, .nils | .nilf, .nilf | .nili, .nili | .erri, .erri => true
 | .bool a, .bool b => a == b
 | .int k n, .int k' n' => decide (k = k') && decide (n = n')
 | .str s, .str t => decide (s = t)
 | .ptr a b, .ptr c d | .loc a b, .loc c d => decide (a = c) && decide (b = d)
 | .ro cs o, .ro cs' o' => V.beqL cs cs' && decide (o = o')
 | .el r z i k, .el r' z' i' k' => decide (r = r') && decide (z = z') && decide (i = i') && decide (k = k')
 | .place r, .place r' => decide (r = r')
 | .slice o z xs, .slice o' z' xs' => decide (o = o') && decide (z = z') && V.beqM xs xs'
 | .agg a, .agg b | .tuple a, .tuple b => V.beqL a b
 | .func f cs, .func f' cs' => decide (f = f') && V.beqL cs cs'
 | _, _ => false
def V.beqL : List V → List V → Bool
 | [], [] => true
 | a :: l, b :: m => V.beq a b && V.beqL l m
 | _, _ => false
def V.beqM : List (List V) → List (List V) → Bool
 | [], [] => true
 | a :: l, b :: m => V.beqL a b && V.beqM l m
 | _, _ => false
end
mutual
theorem V.beq_eq : ∀ {a b : V}, V.beq a b = true → a = b := by
 intro a b h
 cases a <;> cases b <;> simp only [V.beq, yae, yat, beq_iff_eq, yas] at h
 all_goals first
  | rfl
  | (subst h; rfl)
  | (obtain ⟨h1, h2⟩ := h; subst h1 h2; rfl)
  | (obtain ⟨⟨⟨h1, h2⟩, h3⟩, h4⟩ := h; subst h1 h2 h3 h4; rfl)
  | (obtain ⟨h1, h2⟩ := h; have := V.beqL_eq h1; subst this h2; rfl)
  | (obtain ⟨⟨h1, h2⟩, h3⟩ := h; have := V.beqM_eq h3; subst h1 h2 this; rfl)
  | (have := V.beqL_eq h; subst this; rfl)
  | (obtain ⟨h1, h2⟩ := h; have := V.beqL_eq h2; subst h1 this; rfl)
theorem V.beqL_eq : ∀ {a b : List V}, V.beqL a b = true → a = b
 | [], [], _ => rfl
 | x :: l, y :: m, h => by
  simp only [V.beqL, yae] at h
  rw [V.beq_eq h.1, V.beqL_eq h.2]
 | [], _ :: _, h => by cases h
 | _ :: _, [], h => by cases h
theorem V.beqM_eq : ∀ {a b : List (List V)}, V.beqM a b = true → a = b
 | [], [], _ => rfl
 | x :: l, y :: m, h => by
  simp only [V.beqM, yae] at h
  rw [V.beqL_eq h.1, V.beqM_eq h.2]
 | [], _ :: _, h => by cases h
 | _ :: _, [], h => by cases h
end
def zoU : AOp → Bool
 | .callF _ _ | .callV _ _ => true
 | _ => false
def zpB (o : AOper) (st st' : St) : Bool :=
 match o.mark with
 | .none => true
 | .cool => match o.op.ptr? with
  | none => (slots o.op.opds).all fun s => zgD (st.σ s)
  | some _ => false
 | .quiet => zoU o.op && V.beqM st'.m st.m
 | .fa j => (slots o.op.opds).all fun s => zkf j (st.σ s)
 | mk => match o.op.ptr? with
  | none => true
  | some p => match getC st p with
   | some (.loc i _) => mk == .loc i
   | some (.ptr _ _) => mk == .mem
   | some (.ro _ _) => mk == .free
   | _ => false
def putE (o : AOper) (st : St) (p : V × St) : Option St := if zeY o p.1 && zpB o st p.2 then zdv o p else none
def zlq (cf : CF) (o : AOper) (st : St) : Option St :=
 if o.op.isT then (evalOp cf st o.op).bind (zdv o) else if (slots o.op.opds).all fun s => rootOk o.lean (st.σ s) then (evalOp cf st o.op).bind (putE o st) else none
def znd (cf : CF) (o : AOper) (st : St) : Option St :=
 match o.guard with
 | none => zlq cf o st
 | some (g, want) => match st.σ g with
  | .bool b => if b = want then zlq cf o st else some (st.put o.kt o.dst (.tuple []))
  | .tuple [] => some (st.put o.kt o.dst (.tuple []))
  | _ => none
def zpg (cf : CF) : List AOper → St → Option St
 | [], st => some st
 | o :: os, st => (znd cf o st).bind (zpg cf os)
theorem zkN {st : St} : ∀ {xs : List Opd} {p : List V × St}, getOs st xs = some p → p.2.l = st.l
 | [], p, h => by
  simp only [getOs, yaa] at h; subst h; rfl
 | x :: xs, p, h => by
  simp only [getOs, yab, yaa] at h
  obtain ⟨q, hq, r, hr, rfl⟩ := h
  have h1 := zkN hr
  simp only
  rw [h1]
  unfold getO at hq
  split at hq
  ·cases hq; rfl
  ·split at hq
   ·cases hq
   ·cases hq; rfl
  ·cases hq; rfl
  ·cases hq; rfl
  ·cases hq; rfl
  ·split at hq
   ·cases hq
   ·cases hq; rfl
theorem zpC {cf : CF} {st : St} {op : AOp} {v : V} {st' : St} (hc : zoU op = true) (h : evalOp cf st op = some (v, st')) : st'.l = st.l := by
 cases op with
 | callF f args =>
  simp only [evalOp, yab] at h
  obtain ⟨p, hp, h⟩ := h
  split at h
  ·simp only [yab, yaa, yac] at h
   obtain ⟨r, _, _, rfl⟩ := h
   exact zkN hp
  ·cases h
 | callV f args =>
  simp only [evalOp, yab] at h
  obtain ⟨fv, _, h⟩ := h
  cases fv with
  | func g cap =>
   simp only [yab] at h
   obtain ⟨p, hp, h⟩ := h
   split at h
   ·simp only [yab, yaa, yac] at h
    obtain ⟨r, _, _, rfl⟩ := h
    exact zkN hp
   ·cases h
  | _ => cases h
 | _ => cases hc
theorem zjG {cf : CF} {o : AOper} {st st' : St} (h : zlq cf o st = some st') : zay cf o st = some st' := by
 unfold zlq at h
 unfold zay
 by_cases hT : o.op.isT = true
 ·rw [if_pos hT] at h ⊢; exact h
 rw [if_neg hT] at h ⊢
 split at h
 ·rename_i hr
  rw [if_pos hr]
  simp only [yab] at h ⊢
  obtain ⟨p, hp, h⟩ := h
  refine ⟨p, hp, ?_⟩
  unfold putE at h
  unfold putD
  split at h
  ·rename_i hm
   simp only [yae] at hm
   have : zbg o st p.2 = true := by
    have h2 := hm.2
    unfold zpB at h2
    unfold zbg
    cases hmk : o.mark with
    | quiet =>
     rw [hmk] at h2
     simp only [yae] at h2
     simp only
     exact @decide_eq_true _ (_) ⟨V.beqM_eq h2.2, zpC h2.1 hp⟩
    | none => rfl
    | _ => rw [hmk] at h2; exact h2
   rw [if_pos (by rw [hm.1, this]; rfl)]
   exact h
  ·cases h
 ·cases h
theorem zne {cf : CF} {o : AOper} {st st' : St} (h : znd cf o st = some st') : zc8 cf o st = some st' := by
 unfold znd at h
 unfold zc8
 cases hg : o.guard with
 | none => rw [hg] at h; exact zjG h
 | some gw =>
  obtain ⟨g, want⟩ := gw
  rw [hg] at h
  simp only at h ⊢
  cases hs : st.σ g with
  | bool b =>
   rw [hs] at h
   simp only at h ⊢
   split at h
   ·rename_i hc; rw [if_pos hc]; exact zjG h
   ·rename_i hc; rw [if_neg hc]; exact h
  | tuple vs =>
   rw [hs] at h
   cases vs with
   | nil => exact h
   | cons _ _ => cases h
  | _ => rw [hs] at h; cases h
theorem zlr {cf : CF} : ∀ {os : List AOper} {st st' : St}, zpg cf os st = some st' → runD cf os st = some st'
 | [], _, _, h => h
 | _ :: _, _, _, h => za3 (fun _ h => zne h) (fun _ _ h => zlr h) h
def zfX (cf : CF) (nl n : Nat) : ACode → St → Option (Ex × St)
 | .skip, st => some (.normal, st)
 | .region false ops, st => (zbG cf ops st).bind fun st => some (.normal, st)
 | .region true ops, st => (zpg cf ops st).bind fun st => some (.normal, st)
 | .seq a b, st => (zfX cf nl n a st).bind fun r => match r.1 with
  | .normal => zfX cf nl n b r.2
  | e => some (e, r.2)
 | .cond c t e, st => (getC st c).bind fun v => match v with
  | .bool true => zfX cf nl n t st
  | .bool false => zfX cf nl n e st
  | _ => none
 | .block id b, st => (zfX cf nl n b st).bind fun r => match r.1 with
  | .exit i => if i = id then some (.normal, r.2) else some (.exit i, r.2)
  | e => some (e, r.2)
 | .loop live b, st => zce (fun st => zpf nl live st fun st => zfX cf nl n b st) n st
 | .exit id, st => some (.exit id, st)
 | .ret, st => some (.ret, st)
theorem zos {cf : CF} {nl n : Nat} : ∀ {c : ACode} {st : St} {x : Ex × St}, zfX cf nl n c st = some x → exec cf c st = some x := by
 intro c
 induction c with
 | skip => intro st x he; exact he
 | region d ops =>
  intro st x he
  cases d with
  | true => simp only [zfX] at he; simp only [exec]; exact za3 (fun _ h => zlr h) (fun _ _ h => h) he
  | false => exact he
 | seq a b iha ihb =>
  intro st x he
  simp only [zfX] at he
  simp only [exec]
  refine za3 (fun _ => iha) (fun q y hq => ?_) he
  obtain ⟨e, st1⟩ := q
  cases e with
  | normal => exact ihb hq
  | _ => exact hq
 | cond c t e iht ihe =>
  intro st x he
  simp only [zfX] at he
  simp only [exec]
  refine za3 (fun _ h => h) (fun v y hq => ?_) he
  cases v with
  | bool b =>
   cases b with
   | true => exact iht hq
   | false => exact ihe hq
  | _ => cases hq
 | block i b ih =>
  intro st x he
  simp only [zfX] at he
  simp only [exec]
  exact za3 (fun _ => ih) (fun _ _ h => h) he
 | loop live b ih =>
  intro st x he
  simp only [zfX] at he
  simp only [exec]
  refine zcl.2 ⟨n, zeA (fun st x h => ?_) he⟩
  rw [zor] at h
  exact ih h
 | exit i => intro st x he; exact he
 | ret => intro st x he; exact he
def runE (cf : CF) (n : Nat) (f : AFunc) (args : List V) (m : List (List V)) : Option (V × List (List V)) :=
 if args.length = f.np then
  zfW args fun args => zha m fun m => (zfX cf f.nl n f.body ⟨fun i => args.getD i .undef, fun _ => [], m⟩).bind fun r => match r.1 with
   | .exit _ => none
   | _ => (zhN r.2 f.results).bind fun q =>
    if m.length ≤ q.2.m.length then znb q.1 fun v => zha q.2.m fun m' => some (v, if v.top2 ≤ m.length then m'.take m.length else m') else none
 else none
theorem zph {cf : CF} {n : Nat} {f : AFunc} {args : List V} {m : List (List V)} {x : V × List (List V)} (h : runE cf n f args m = some x) : runF cf f args m = some x := by
 unfold runE at h
 unfold runF
 split at h
 ·rename_i hc
  rw [if_pos hc]
  rw [zeT, zeB] at h
  refine za3 (fun _ => zos) (fun q y hq => ?_) h
  obtain ⟨e, st1⟩ := q
  simp only [zjF, zeB] at hq
  exact hq
 ·cases h
def evF (T : Table) (n : Nat) : Nat → CF
 | 0 => fun _ _ _ => none
 | k + 1 => fun f args m => match T.code f with
  | some fn => runE (evF T n k) n fn args m
  | none => T.ext f args m
theorem znf {T : Table} {n : Nat} : ∀ {k f : Nat} {args : List V} {m : List (List V)} {r : V} {m' : List (List V)}, evF T n k f args m = some (r, m') → Ret T f args m r m'
 | 0, f, args, m, r, m', h => by cases h
 | k + 1, f, args, m, r, m', h => by
  unfold evF at h
  split at h
  ·rename_i fn hf
   exact .mk (evF T n k) f fn args m r m' hf (zph h) fun f a m r m' hh => znf hh
  ·rename_i hf
   exact .ext f args m r m' hf h
def ziB : Option (V × List (List V)) → Bool
 | some (.bool true, []) => true
 | _ => false
theorem zot {T : Table} {n k f : Nat} (h : ziB (evF T n k f [] []) = true) : Ret T f [] [] (.bool true) [] := by
 refine znf (n := n) (k := k) ?_
 revert h
 cases evF T n k f [] [] with
 | none => intro h; cases h
 | some x =>
  obtain ⟨v, m⟩ := x
  intro h
  unfold ziB at h
  split at h
  ·rename_i e; exact e
  ·cases h
theorem zc7.anyMem {P : Program} [Lay P] {f : Nat} {b : Bool} (hcall : zc7 P f [] [] (.bool b) []) (m : List (List V)) : zc7 P f [] m (.bool b) m := by
 intro g w fr vs hsz hok hL h
 have hvs : vs = #[] := Array.eq_empty_of_size_eq_zero hsz
 subst hvs
 have h : SR g w 0 fr (fun _ => false) ⟨fun _ => .undef, fun _ => [], m⟩ #[] [] := h
 obtain ⟨fr', hfr'⟩ : ∃ fr' : Nat → Nat, fr' = fun c => cntM g w c m + fr c := ⟨_, rfl⟩
 have hT : ∀ c, zal g w 0 fr' ⟨fun _ => .undef, fun _ => [], []⟩ #[] [] c = zal g w 0 fr ⟨fun _ => .undef, fun _ => [], m⟩ #[] [] c := fun c => by
  subst hfr'
  have e3 : cntM g w c [] = 0 := rfl
  unfold zal
  simp only [e3]
  omega
 have hS : SR g w 0 fr' (fun _ => false) ⟨fun _ => .undef, fun _ => [], []⟩ #[] [] :=
  ⟨fun s => trivial, fun s _ => rfl, fun s d hd => (by cases hd), fun p hp => (by cases hp), fun p hp => (by cases hp), h.lvs, fun j hj => absurd rfl hj, fun b hb => absurd hb (Nat.not_lt_zero _), fun c => by rw [hT]; exact h.one c, fun c hc => by rw [hT]; exact h.out c hc⟩
 refine (hcall g w fr' #[] rfl rfl hL hS).mono fun e w' => ?_
 rintro ⟨v, g2, rfl, hS2, hE, hml, hnr, hnl⟩
 obtain ⟨g3, hg3⟩ : ∃ g3 : G, g3 = { g2 with mb := g.mb } := ⟨_, rfl⟩
 have hfrm : ∀ c, 0 < cntM g w c m ∨ 0 < fr c → Same w w' c := fun c hc => hE.frame c (by subst hfr'; simp only; omega)
 have hmem : ∀ b, b < m.length → ∀ c, 0 < zaU g w c m b → Same w w' c := fun b hb c hc => hfrm c (.inl (by
  have := za9 (f := fun i => zaU g w c m i) hb
  unfold cntM; omega))
 have hmbs : ∀ b, b < m.length → Same w w' (g.mb b) := fun b hb => hmem b hb _ (by unfold zaU; rw [if_pos rfl]; omega)
 have hcM : ∀ c, cntM g3 w' c m = cntM g w c m := fun c => by
  subst hg3
  refine zaq fun b hb => ?_
  unfold zaU
  rw [(hmbs b hb).cellsOf]
 have hpers : ∀ c, g.pers c → g3.pers c ∧ Same w w' c := fun c hc => by
  subst hg3
  exact hE.pers c hc
 have hR : R3 g2 w' 0 (tsAt #[]) (.bool b) v := hS2.pend (.bool b, v) (.head _)
 have hv : v = .bool b := by cases hR; rfl
 subst hv
 have hT2 : ∀ c, zal g3 w' 0 fr ⟨fun _ => .undef, fun _ => [], m⟩ #[] [(.bool b, .bool b)] c = zal g2 w' 0 fr' ⟨fun _ => .undef, fun _ => [], []⟩ #[] [(.bool b, .bool b)] c := fun c => by
  have e3 : cntM g2 w' c [] = 0 := rfl
  have e2 : cntB g3 w' c 0 (fun _ => []) = 0 := rfl
  have e2' : cntB g2 w' c 0 (fun _ => []) = 0 := rfl
  have e4 : za0 g3 c = za0 g2 c := by subst hg3; rfl
  unfold zal
  simp only [e2, e2', e3, e4, hcM]
  subst hfr'
  simp only
  omega
 refine ⟨.bool b, g3, rfl, ?_, ⟨hE.os, hE.tape, hE.output, hE.size, hpers, fun c hc => hfrm c (.inr hc), fun b _ => by subst hg3; rfl⟩, Nat.le_refl _, hnr, hnl⟩
 refine ⟨fun s => trivial, fun s _ => rfl, fun s d hd => (by cases hd), fun p hp => ?_, fun p hp d hd => ?_, fun j => ?_, fun j hj => absurd rfl hj, fun b hb => ?_, fun c => by rw [hT2]; exact hS2.one c, fun c hc => by rw [hT2]; exact hS2.out c hc⟩
 ·simp only [yao] at hp
  subst hp
  exact RB.bool b
 ·simp only [yao] at hp
  subst hp
  cases hd
 ·have := hS2.lvs j
  subst hg3
  exact this
 ·have hgb : g3.mb b = g.mb b := by subst hg3; rfl
  rw [hgb]
  exact ⟨CBlk.mono (g := g) hpers (Nat.le_refl _) (fun b _ => by subst hg3; rfl) (hmbs b hb) (fun d (hd : 0 < cntL d (m.getD b []) (cellsOf w (g.mb b))) => hmem b hb d (by unfold zaU; omega)) (h.mem b hb).1, (h.mem b hb).2⟩
end Go.Proofs.YtakdnfneikbjjaaGreatDoor.Am

namespace Go.Proofs.YtakdnfneikbjjaaGreatDoor.Am.LayA
def p11 : Plan := ⟨[], 3, [((9, 69), { mode := .take, mark := (.loc 1) }),
 ((9, 65), { uses := [(109, .share)], mark := .free, pure := true }),
 ((9, 60), { uses := [(104, .share)], mark := .free, pure := true }),
 ((9, 47), hG),
 ((9, 46), hF),
 ((9, 44), hF),
 ((9, 40), hF),
 ((9, 38), hF),
 ((9, 33), hF),
 ((9, 28), hG),
 ((9, 27), hF),
 ((9, 25), hF),
 ((9, 20), hG),
 ((9, 19), hF),
 ((9, 17), hF),
 ((9, 12), hG),
 ((9, 11), hF),
 ((9, 9), hF),
 ((9, 4), hF),
 ((7, 5), hG),
 ((7, 4), { uses := [(36, .take)], mark := .free }),
 ((7, 3), { uses := [(33, .share), (34, .share), (35, .share)], mark := .free }),
 ((7, 2), hM 2),
 ((7, 1), hM 2),
 ((7, 0), hM 2),
 ((5, 1), hG),
 ((5, 0), { mode := .take, mark := (.loc 1) }),
 ((1, 4), hB 0),
 ((1, 5), hS 12),
 ((4, 3), hS 25),
 ((4, 7), hB 1),
 ((4, 8), hT 27),
 ((5, 2), hS 29),
 ((5, 3), hS 31),
 ((6, 1), hB 2),
 ((6, 2), hT 32),
 ((7, 6), hS 37),
 ((7, 7), hS 39),
 ((8, 0), hA),
 ((8, 1), hS 41),
 ((9, 70), hS 114)],
 []⟩
def a11 : AFunc := ⟨0, 118, 3, [.tmp 0],
 .seq (.region false [o_ 0 (.mv (.c (.bool false)))])
 (.seq (.region false [o_ 11 (.callF 22 [(.c (.str [108, 97, 121, 111, 117, 116, 32, 123, 32, 99, 111, 108, 115, 32, 123, 32, 112, 97, 110, 101, 32, 115, 105, 122, 101, 61, 52, 59, 32, 114, 111, 119, 115, 32, 123, 32, 112, 97, 110, 101, 59, 32, 112, 97, 110, 101, 32, 125, 32, 125, 32, 125]))]),
 m_ 10 11,
 o_ 12 (.extract (.t 10) 0),
 o_ 13 (.extract (.t 10) 1),
 o_ 2 (.allocL 0 [(.int .i64 0), (.int .i64 0)]),
 o_ 1 (.mv (.u 12 .share)),
 ⟨none, none, false, .store 2 (.t 2) (.t 13), .none⟩])
 (.seq (.seq (.region false [f_ 14 0 2,
 l_ 15 14,
 c_ 16 .neq 15 0,
 m_ 17 16,
 g_ 18 17 false (.mv (.t 1)),
 g_ 19 17 false (.lenSl (.t 18)),
 g_ 20 17 false (.bin .neq (.t 19) (.c (.int .i64 1))),
 o_ 21 (.pick (.t 17) (.c (.bool true)) (.t 20))])
 (.cond (.t 21)
 (.seq (.region false [o_ 0 (.mv (.c (.bool false)))])
 (.ret))
 (.skip)))
 (.seq (.region false [m_ 23 1,
 o_ 24 (.indexSl 4 (.t 23) (.c (.int .i64 0))),
 o_ 25 (.load true 4 (.t 24) .copy),
 o_ 26 (.callF 19 [(.u 25 .share)]),
 m_ 22 26,
 o_ 27 (.extract (.t 22) 0),
 o_ 28 (.extract (.t 22) 1),
 o_ 3 (.allocL 1 [(.int .i64 0), (.int .i64 0), (.int .i64 0), (.str []), .nils, .nils]),
 ⟨none, none, false, .store 6 (.t 3) (.u 27 .take), .none⟩,
 m_ 4 28])
 (.seq (.region true [⟨(some 29), none, false, .load true 6 (.t 3) .take, (.loc 1)⟩,
 ⟨(some 30), none, false, .callP 26 [(.c (.int .i64 0)), (.c (.int .i64 0)), (.c (.int .i64 10)), (.c (.int .i64 5))], .free⟩,
 o_ 31 (.callF 13 [(.u 29 .share), (.t 30)]),
 o_ 5 (.mv (.u 31 .share))])
 (.seq (.region false [o_ 32 (.build [(.int .i64 0), (.int .i64 0), (.int .i64 0), (.str []), .nils, .nils] [(0, 1, (.c (.int .i64 1)))]),
 o_ 6 (.allocL 2 [(.int .i64 0), (.int .i64 0), (.int .i64 0), (.str []), .nils, .nils]),
 ⟨none, none, false, .store 6 (.t 6) (.u 32 .take), .none⟩])
 (.seq (.region true [⟨(some 33), none, false, .load true 6 (.t 6) .copy, (.loc 2)⟩,
 ⟨(some 34), none, false, .load true 6 (.t 6) .copy, (.loc 2)⟩,
 ⟨(some 35), none, false, .load true 6 (.t 6) .copy, (.loc 2)⟩,
 ⟨(some 36), none, false, .buildSlice 6 [(.int .i64 0), (.int .i64 0), (.int .i64 0), (.str []), .nils, .nils] 3 [(0, (.u 33 .share)), (1, (.u 34 .share)), (2, (.u 35 .share))], .free⟩,
 ⟨(some 37), none, false, .build [(.int .i64 0), (.int .i64 0), (.int .i64 0), (.str []), .nils, .nils] [(0, 1, (.c (.int .i64 4))), (4, 1, (.u 36 .take))], .free⟩,
 ⟨(some 38), none, false, .callP 26 [(.c (.int .i64 0)), (.c (.int .i64 0)), (.c (.int .i64 9)), (.c (.int .i64 5))], .free⟩,
 o_ 39 (.callF 13 [(.u 37 .share), (.t 38)]),
 o_ 7 (.mv (.u 39 .share))])
 (.seq (.region false [o_ 41 (.load true 6 (.t 3) .take),
 o_ 42 (.callF 12 [(.u 41 .share)]),
 m_ 40 42,
 o_ 43 (.extract (.t 40) 0),
 o_ 44 (.extract (.t 40) 1),
 m_ 8 43,
 m_ 9 44])
 (.seq (.region true [m_ 45 4,
 c_ 46 .eql 45 0,
 m_ 47 46,
 g_ 48 47 true (.mv (.t 5)),
 ⟨(some 49), (some (47, true)), false, .lenSl (.t 48), .free⟩,
 g_ 50 47 true (.bin .eql (.t 49) (.c (.int .i64 3))),
 o_ 51 (.pick (.t 47) (.t 50) (.c (.bool false))),
 m_ 52 51,
 g_ 53 52 true (.mv (.t 5)),
 ⟨(some 54), (some (52, true)), false, .indexSl 7 (.t 53) (.c (.int .i64 0)), .free⟩,
 g_ 55 52 true (.fieldAddr 1 (.t 54)),
 ⟨(some 56), (some (52, true)), false, .load true 4 (.t 55) .copy, .free⟩,
 ⟨(some 57), (some (52, true)), false, .callP 26 [(.c (.int .i64 0)), (.c (.int .i64 0)), (.c (.int .i64 4)), (.c (.int .i64 5))], .free⟩,
 g_ 58 52 true (.eq false (.plain [.int, .int, .int, .int]) (.t 56) (.t 57)),
 o_ 59 (.pick (.t 52) (.t 58) (.c (.bool false))),
 m_ 60 59,
 g_ 61 60 true (.mv (.t 5)),
 ⟨(some 62), (some (60, true)), false, .indexSl 7 (.t 61) (.c (.int .i64 1)), .free⟩,
 g_ 63 60 true (.fieldAddr 1 (.t 62)),
 ⟨(some 64), (some (60, true)), false, .load true 4 (.t 63) .copy, .free⟩,
 ⟨(some 65), (some (60, true)), false, .callP 26 [(.c (.int .i64 4)), (.c (.int .i64 0)), (.c (.int .i64 6)), (.c (.int .i64 3))], .free⟩,
 g_ 66 60 true (.eq false (.plain [.int, .int, .int, .int]) (.t 64) (.t 65)),
 o_ 67 (.pick (.t 60) (.t 66) (.c (.bool false))),
 m_ 68 67,
 g_ 69 68 true (.mv (.t 5)),
 ⟨(some 70), (some (68, true)), false, .indexSl 7 (.t 69) (.c (.int .i64 2)), .free⟩,
 g_ 71 68 true (.fieldAddr 1 (.t 70)),
 ⟨(some 72), (some (68, true)), false, .load true 4 (.t 71) .copy, .free⟩,
 ⟨(some 73), (some (68, true)), false, .callP 26 [(.c (.int .i64 4)), (.c (.int .i64 3)), (.c (.int .i64 6)), (.c (.int .i64 2))], .free⟩,
 g_ 74 68 true (.eq false (.plain [.int, .int, .int, .int]) (.t 72) (.t 73)),
 o_ 75 (.pick (.t 68) (.t 74) (.c (.bool false))),
 m_ 76 75,
 g_ 77 76 true (.mv (.t 7)),
 ⟨(some 78), (some (76, true)), false, .lenSl (.t 77), .free⟩,
 g_ 79 76 true (.bin .eql (.t 78) (.c (.int .i64 3))),
 o_ 80 (.pick (.t 76) (.t 79) (.c (.bool false))),
 m_ 81 80,
 g_ 82 81 true (.mv (.t 7)),
 ⟨(some 83), (some (81, true)), false, .indexSl 7 (.t 82) (.c (.int .i64 1)), .free⟩,
 g_ 84 81 true (.fieldAddr 6 (.t 83)),
 ⟨(some 85), (some (81, true)), false, .load false 1 (.t 84) .copy, .free⟩,
 o_ 86 (.pick (.t 81) (.t 85) (.c (.bool false))),
 m_ 87 86,
 g_ 88 87 true (.mv (.t 7)),
 ⟨(some 89), (some (87, true)), false, .indexSl 7 (.t 88) (.c (.int .i64 2)), .free⟩,
 g_ 90 87 true (.fieldAddr 1 (.t 89)),
 ⟨(some 91), (some (87, true)), false, .load true 4 (.t 90) .copy, .free⟩,
 ⟨(some 92), (some (87, true)), false, .callP 26 [(.c (.int .i64 0)), (.c (.int .i64 2)), (.c (.int .i64 9)), (.c (.int .i64 3))], .free⟩,
 g_ 93 87 true (.eq false (.plain [.int, .int, .int, .int]) (.t 91) (.t 92)),
 o_ 94 (.pick (.t 87) (.t 93) (.c (.bool false))),
 m_ 95 94,
 g_ 96 95 true (.mv (.t 8)),
 g_ 97 95 true (.bin .eql (.t 96) (.c (.int .i64 3))),
 o_ 98 (.pick (.t 95) (.t 97) (.c (.bool false))),
 m_ 99 98,
 g_ 100 99 true (.mv (.t 9)),
 g_ 101 99 true (.bin .eql (.t 100) (.c (.int .i64 0))),
 o_ 102 (.pick (.t 99) (.t 101) (.c (.bool false))),
 m_ 103 102,
 g_ 104 103 true (.mv (.t 5)),
 ⟨(some 105), (some (103, true)), false, .callP 23 [(.u 104 .share), (.c (.int .i64 5)), (.c (.int .i64 4))], .free⟩,
 g_ 106 103 true (.bin .eql (.t 105) (.c (.int .i64 2))),
 o_ 107 (.pick (.t 103) (.t 106) (.c (.bool false))),
 m_ 108 107,
 g_ 109 108 true (.mv (.t 5)),
 ⟨(some 110), (some (108, true)), false, .callP 23 [(.u 109 .share), (.c (.int .i64 50)), (.c (.int .i64 4))], .free⟩,
 g_ 111 108 true (.bin .eql (.t 110) (.c (.int .i64 (-1)))),
 o_ 112 (.pick (.t 108) (.t 111) (.c (.bool false))),
 m_ 113 112,
 ⟨(some 114), (some (113, true)), false, .load true 6 (.t 3) .take, (.loc 1)⟩,
 g_ 115 113 true (.callF 15 [(.u 114 .share)]),
 g_ 116 113 true (.bin .eql (.t 115) (.c (.int .i64 0))),
 o_ 117 (.pick (.t 113) (.t 116) (.c (.bool false))),
 m_ 0 117])
 (.ret)))))))))⟩
theorem c11 : zat Go.Proofs.Tryz.prog p11 11 = some a11 := by decide +kernel
def p12 : Plan := ⟨[], 1, [((0, 0), hB 0),
 ((1, 1), hS 5),
 ((4, 1), hS 8)],
 []⟩
def a12 : AFunc := ⟨1, 14, 1, [.tmp 2, .tmp 3],
 .seq (.region false [o_ 1 (.boxL 0 (.t 0)),
 i_ 2 0,
 i_ 3 0])
 (.seq (.seq (.region false [o_ 5 (.load true 6 (.t 1) .copy),
 o_ 6 (.callF 15 [(.u 5 .share)]),
 c_ 7 .neq 6 0])
 (.cond (.t 7)
 (.seq (.region false [i_ 2 0,
 i_ 3 0])
 (.ret))
 (.skip)))
 (.seq (.region false [o_ 4 (.allocM [(.int .i64 0)]),
 ⟨none, none, false, .store 1 (.t 4) (.c (.int .i64 0)), .none⟩])
 (.seq (.region false [o_ 8 (.load true 6 (.t 1) .copy),
 o_ 9 (.callF 34 [(.u 8 .share), (.c (.int .i64 1)), (.t 4)])])
 (.seq (.region true [l_ 10 4,
 f_ 11 5 1,
 l_ 12 11,
 o_ 13 (.lenSl (.t 12)),
 m_ 2 10,
 m_ 3 13])
 (.ret)))))⟩
theorem c12 : zat Go.Proofs.Tryz.prog p12 12 = some a12 := by decide +kernel
def p13 : Plan := ⟨[], 3, [((9, 8), hG),
 ((9, 7), hM 1),
 ((9, 6), hG),
 ((9, 5), hM 1),
 ((9, 3), hM 1),
 ((9, 1), hM 2),
 ((0, 0), hB 0),
 ((0, 1), hB 1),
 ((1, 1), hS 8),
 ((3, 1), hP),
 ((4, 1), hT 13),
 ((5, 3), hS 16),
 ((8, 3), hB 2),
 ((11, 3), hA),
 ((11, 4), hT 43)],
 [[3, 5, 20, 21, 22]]⟩
def a13 : AFunc := ⟨2, 44, 3, [.tmp 4],
 .seq (.region false [o_ 2 (.boxL 0 (.t 0)),
 o_ 3 (.boxL 1 (.t 1)),
 o_ 4 (.mv (.c .nils))])
 (.seq (.seq (.region false [o_ 8 (.load true 6 (.t 2) .copy),
 o_ 9 (.callF 15 [(.u 8 .share)]),
 c_ 10 .neq 9 0])
 (.cond (.t 10)
 (.seq (.region false [o_ 4 (.mv (.c .nils))])
 (.ret))
 (.skip)))
 (.seq (.region false [o_ 11 (.load true 4 (.t 3) .copy),
 o_ 12 (.callP 25 [(.t 11)]),
 ⟨none, none, false, .store 4 (.t 3) (.t 12), .none⟩])
 (.seq (.region false [o_ 13 (.build [.nils] []),
 o_ 14 (.boxM (.u 13 .take)),
 m_ 5 14])
 (.seq (.region false [m_ 15 5,
 o_ 16 (.load true 6 (.t 2) .copy),
 o_ 17 (.load true 4 (.t 3) .copy),
 o_ 18 (.callF 35 [(.t 15), (.u 16 .share), (.t 17)])])
 (.seq (.seq (.region false [f_ 19 5 2,
 l_ 20 19,
 o_ 21 (.lenSl (.t 20)),
 i_ 22 0])
 (.block 0 (.loop [3, 5, 20, 21, 22] (.seq (.region false [b_ 23 .lss 22 21])
 (.seq (.cond (.t 23)
 (.skip)
 (.exit 0))
 (.seq (.block 1 (.seq (.region false [m_ 24 22,
 o_ 25 (.indexSl 4 (.t 20) (.t 22)),
 o_ 26 (.load true 4 (.t 25) .copy),
 o_ 7 (.allocL 2 [(.int .i64 0), (.int .i64 0), (.int .i64 0), (.int .i64 0)]),
 m_ 6 24,
 ⟨none, none, false, .store 4 (.t 7) (.t 26), .none⟩])
 (.region true [m_ 27 5,
 ⟨(some 28), none, false, .load true 4 (.t 7) .copy, (.loc 2)⟩,
 f_ 29 0 3,
 ⟨(some 30), none, false, .load false 1 (.t 29) .copy, (.loc 1)⟩,
 f_ 31 1 3,
 ⟨(some 32), none, false, .load false 1 (.t 31) .copy, (.loc 1)⟩,
 ⟨(some 33), none, false, .callP 28 [(.t 28), (.t 30), (.t 32)], .free⟩,
 ⟨(some 34), none, false, .load true 4 (.t 3) .copy, (.loc 1)⟩,
 ⟨(some 35), none, false, .callP 37 [(.t 33), (.t 34)], .free⟩,
 m_ 36 6,
 c_ 37 .add 36 1,
 o_ 38 (.callF 36 [(.t 27), (.t 35), (.t 37), (.c (.bool false))])])))
 (.region false [c_ 39 .add 22 1,
 m_ 22 39])))))))
 (.seq (.region false [m_ 40 5,
 o_ 41 (.nilCheck (.t 40)),
 f_ 42 0 41,
 o_ 43 (.load false 1 (.t 42) .take),
 o_ 4 (.mv (.u 43 .take))])
 (.ret)))))))⟩
theorem c13 : zat Go.Proofs.Tryz.prog p13 13 = some a13 := by decide +kernel
def p15 : Plan := ⟨[], 1, [((0, 0), hB 0),
 ((2, 1), hS 4)],
 []⟩
def a15 : AFunc := ⟨1, 15, 1, [.tmp 2],
 .seq (.region false [o_ 1 (.boxL 0 (.t 0)),
 i_ 2 0])
 (.seq (.region false [o_ 3 (.allocM [(.int .i64 0)]),
 ⟨none, none, false, .store 1 (.t 3) (.c (.int .i64 0)), .none⟩])
 (.seq (.seq (.region false [o_ 4 (.load true 6 (.t 1) .copy),
 o_ 5 (.callF 34 [(.u 4 .share), (.c (.int .i64 1)), (.t 3)]),
 o_ 6 (.un .not (.t 5)),
 m_ 7 6,
 g_ 8 7 false (.fieldAddr 5 (.t 1)),
 g_ 9 7 false (.load false 1 (.t 8) .copy),
 g_ 10 7 false (.lenSl (.t 9)),
 g_ 11 7 false (.load false 1 (.t 3) .copy),
 g_ 12 7 false (.bin .sub (.c (.int .i64 24)) (.t 11)),
 g_ 13 7 false (.bin .gtr (.t 10) (.t 12)),
 o_ 14 (.pick (.t 7) (.c (.bool true)) (.t 13))])
 (.cond (.t 14)
 (.seq (.region false [i_ 2 100])
 (.ret))
 (.skip)))
 (.seq (.region false [i_ 2 0])
 (.ret))))⟩
theorem c15 : zat Go.Proofs.Tryz.prog p15 15 = some a15 := by decide +kernel
def p19 : Plan := ⟨[], 4, [((10, 11), hF),
 ((10, 10), hG),
 ((10, 9), hF),
 ((10, 7), hM 2),
 ((10, 5), hM 2),
 ((10, 3), hM 2),
 ((10, 1), hM 2),
 ((0, 0), hB 0),
 ((0, 1), hB 1),
 ((2, 1), hS 20),
 ((3, 2), hT 21),
 ((8, 2), hB 2),
 ((8, 3), hT 28),
 ((10, 0), hT 5),
 ((10, 2), hS 33),
 ((10, 4), hS 35),
 ((10, 6), hS 37),
 ((10, 8), hS 39),
 ((10, 12), hT2 32 43),
 ((10, 13), hT 44),
 ((11, 0), hA),
 ((11, 1), hS 46),
 ((11, 5), hB 3),
 ((11, 6), hT 48),
 ((13, 1), hS 52),
 ((14, 1), hA),
 ((14, 2), hA),
 ((14, 3), hS 55),
 ((14, 4), hT2 54 56),
 ((14, 6), hT 57),
 ((16, 1), { mode := .share }),
 ((17, 4), hT 67),
 ((18, 0), hT 5),
 ((18, 2), hS 68),
 ((19, 1), hS 70),
 ((20, 1), hS 73),
 ((21, 1), hT 74)],
 [[2, 4, 5, 6, 23, 24, 25]]⟩
def a19 : AFunc := ⟨1, 75, 4, [.cell 2 true 6, .tmp 3],
 .seq (.region false [o_ 1 (.boxL 0 (.t 0)),
 o_ 2 (.allocL 1 [(.int .i64 0), (.int .i64 0), (.int .i64 0), (.str []), .nils, .nils]),
 i_ 3 0])
 (.seq (.seq (.region false [f_ 11 0 1,
 l_ 12 11,
 o_ 13 (.bin .neq (.t 12) (.c (.str [108, 97, 121, 111, 117, 116]))),
 m_ 14 13,
 g_ 15 14 false (.fieldAddr 3 (.t 1)),
 g_ 16 14 false (.load false 1 (.t 15) .copy),
 g_ 17 14 false (.lenSl (.t 16)),
 g_ 18 14 false (.bin .gtr (.t 17) (.c (.int .i64 40))),
 o_ 19 (.pick (.t 14) (.c (.bool true)) (.t 18))])
 (.cond (.t 19)
 (.seq (.region false [o_ 20 (.build [(.int .i64 0), (.int .i64 0), (.int .i64 0), (.str []), .nils, .nils] []),
 ⟨none, none, false, .store 6 (.t 2) (.u 20 .share), .none⟩,
 i_ 3 100])
 (.ret))
 (.skip)))
 (.seq (.region false [o_ 21 (.build [(.int .i64 0), (.int .i64 0), (.int .i64 0), (.str []), .nils, .nils] [(0, 1, (.c (.int .i64 3)))]),
 o_ 4 (.allocM [(.int .i64 0), (.int .i64 0), (.int .i64 0), (.str []), .nils, .nils]),
 ⟨none, none, false, .store 6 (.t 4) (.u 21 .take), .none⟩])
 (.seq (.region false [o_ 5 (.mv (.c .nils))])
 (.seq (.region false [o_ 6 (.allocM [(.int .i64 0)]),
 ⟨none, none, false, .store 1 (.t 6) (.c (.int .i64 0)), .none⟩])
 (.seq (.seq (.region false [f_ 22 3 1,
 l_ 23 22,
 o_ 24 (.lenSl (.t 23)),
 i_ 25 0])
 (.block 0 (.loop [2, 4, 5, 6, 23, 24, 25] (.seq (.region false [b_ 26 .lss 25 24])
 (.seq (.cond (.t 26)
 (.skip)
 (.exit 0))
 (.seq (.block 1 (.seq (.region false [o_ 27 (.indexSl 4 (.t 23) (.t 25)),
 o_ 28 (.load true 4 (.t 27) .copy),
 o_ 8 (.allocL 2 [(.str []), .nils, .nils, .nils]),
 ⟨none, none, false, .store 4 (.t 8) (.u 28 .take), .none⟩])
 (.seq (.seq (.region false [f_ 29 0 8,
 l_ 30 29,
 o_ 31 (.bin .eql (.t 30) (.c (.str [102, 108, 111, 97, 116])))])
 (.cond (.t 31)
 (.seq (.region true [o_ 32 (.mv (.u 5 .take)),
 ⟨(some 33), none, false, .load true 4 (.t 8) .copy, (.loc 2)⟩,
 o_ 34 (.callF 44 [(.u 33 .share), (.c (.str [120]))]),
 ⟨(some 35), none, false, .load true 4 (.t 8) .copy, (.loc 2)⟩,
 o_ 36 (.callF 44 [(.u 35 .share), (.c (.str [121]))]),
 ⟨(some 37), none, false, .load true 4 (.t 8) .copy, (.loc 2)⟩,
 o_ 38 (.callF 44 [(.u 37 .share), (.c (.str [119]))]),
 ⟨(some 39), none, false, .load true 4 (.t 8) .copy, (.loc 2)⟩,
 o_ 40 (.callF 44 [(.u 39 .share), (.c (.str [104]))]),
 ⟨(some 41), none, false, .build [(.int .i64 0), (.int .i64 0), (.int .i64 0), (.int .i64 0)] [(0, 1, (.t 34)), (1, 1, (.t 36)), (2, 1, (.t 38)), (3, 1, (.t 40))], .free⟩,
 ⟨(some 42), none, false, .callP 25 [(.t 41)], .free⟩,
 ⟨(some 43), none, false, .buildSlice 4 [(.int .i64 0), (.int .i64 0), (.int .i64 0), (.int .i64 0)] 1 [(0, (.t 42))], .free⟩,
 o_ 44 (.append 4 (.u 32 .take) (.u 43 .take)),
 o_ 5 (.mv (.u 44 .take))])
 (.exit 1))
 (.skip)))
 (.seq (.region false [o_ 46 (.load true 4 (.t 8) .take),
 o_ 47 (.callF 45 [(.u 46 .share), (.c (.int .i64 1)), (.t 6)]),
 m_ 45 47,
 o_ 48 (.extract (.t 45) 0),
 o_ 49 (.extract (.t 45) 1),
 o_ 9 (.allocL 3 [(.int .i64 0), (.int .i64 0), (.int .i64 0), (.str []), .nils, .nils]),
 ⟨none, none, false, .store 6 (.t 9) (.u 48 .take), .none⟩,
 m_ 10 49])
 (.seq (.seq (.region false [m_ 50 10,
 o_ 51 (.un .not (.t 50))])
 (.cond (.t 51)
 (.seq (.region false [o_ 52 (.build [(.int .i64 0), (.int .i64 0), (.int .i64 0), (.str []), .nils, .nils] []),
 ⟨none, none, false, .store 6 (.t 2) (.u 52 .share), .none⟩,
 i_ 3 100])
 (.ret))
 (.skip)))
 (.region false [f_ 53 4 4,
 o_ 54 (.load false 1 (.t 53) .take),
 o_ 55 (.load true 6 (.t 9) .take),
 o_ 56 (.buildSlice 6 [(.int .i64 0), (.int .i64 0), (.int .i64 0), (.str []), .nils, .nils] 1 [(0, (.u 55 .share))]),
 o_ 57 (.append 6 (.u 54 .take) (.u 56 .take)),
 f_ 58 4 4,
 ⟨none, none, false, .store 1 (.t 58) (.u 57 .take), .none⟩]))))))
 (.region false [c_ 59 .add 25 1,
 m_ 25 59])))))))
 (.seq (.seq (.region false [f_ 60 4 4,
 o_ 61 (.load false 1 (.t 60) .share),
 o_ 62 (.lenSl (.t 61)),
 c_ 63 .eql 62 1])
 (.cond (.t 63)
 (.region false [f_ 64 4 4,
 l_ 65 64,
 o_ 66 (.indexSl 6 (.t 65) (.c (.int .i64 0))),
 o_ 67 (.load true 6 (.t 66) .copy),
 ⟨none, none, false, .store 6 (.t 4) (.u 67 .take), .none⟩])
 (.skip)))
 (.seq (.region false [o_ 68 (.mv (.u 5 .take)),
 f_ 69 5 4,
 ⟨none, none, false, .store 1 (.t 69) (.u 68 .share), .none⟩])
 (.seq (.seq (.region false [o_ 70 (.load true 6 (.t 4) .copy),
 o_ 71 (.callF 15 [(.u 70 .share)]),
 c_ 72 .neq 71 0])
 (.cond (.t 72)
 (.seq (.region false [o_ 73 (.build [(.int .i64 0), (.int .i64 0), (.int .i64 0), (.str []), .nils, .nils] []),
 ⟨none, none, false, .store 6 (.t 2) (.u 73 .share), .none⟩,
 i_ 3 100])
 (.ret))
 (.skip)))
 (.seq (.region false [o_ 74 (.load true 6 (.t 4) .copy),
 ⟨none, none, false, .store 6 (.t 2) (.u 74 .take), .none⟩,
 i_ 3 0])
 (.ret))))))))))⟩
theorem c19 : zat Go.Proofs.Tryz.prog p19 19 = some a19 := by decide +kernel
def p22 : Plan := ⟨[], 2, [((0, 1), hB 0),
 ((1, 1), hP),
 ((1, 5), hB 1),
 ((1, 6), hS 11),
 ((4, 3), hS 17),
 ((4, 4), hS 20),
 ((5, 2), hS 23),
 ((10, 2), hS 43)],
 []⟩
def a22 : AFunc := ⟨1, 45, 2, [.tmp 2, .cell 3 true 2],
 .seq (.region false [o_ 2 (.mv (.c .nils)),
 o_ 3 (.allocL 0 [(.int .i64 0), (.int .i64 0)])])
 (.seq (.region false [m_ 9 0,
 o_ 10 (.callP 50 [(.t 9)]),
 m_ 8 10,
 o_ 11 (.extract (.t 8) 0),
 o_ 12 (.extract (.t 8) 1),
 o_ 5 (.allocL 1 [(.int .i64 0), (.int .i64 0)]),
 o_ 4 (.mv (.u 11 .share)),
 ⟨none, none, false, .store 2 (.t 5) (.t 12), .none⟩])
 (.seq (.seq (.region false [f_ 13 0 5,
 l_ 14 13,
 c_ 15 .neq 14 0])
 (.cond (.t 15)
 (.seq (.region true [o_ 16 (.load true 2 (.t 5) .copy),
 o_ 2 (.mv (.c .nils)),
 ⟨none, none, false, .store 2 (.t 3) (.t 16), .none⟩])
 (.ret))
 (.skip)))
 (.seq (.region false [m_ 17 4,
 m_ 18 0,
 o_ 19 (.lenStr (.t 18)),
 o_ 20 (.build [.nils, (.int .i64 0), (.int .i64 0), (.int .i64 0), (.int .i64 0), (.int .i64 0)] [(0, 1, (.u 17 .share)), (2, 1, (.t 19))]),
 o_ 21 (.boxM (.u 20 .share)),
 m_ 6 21])
 (.seq (.region false [m_ 22 6,
 o_ 23 (.callF 51 [(.t 22), (.c (.int .i64 0))]),
 o_ 7 (.mv (.u 23 .share))])
 (.seq (.seq (.region false [m_ 24 6,
 o_ 25 (.nilCheck (.t 24)),
 f_ 26 1 25,
 l_ 27 26,
 m_ 28 4,
 o_ 29 (.lenSl (.t 28)),
 b_ 30 .lss 27 29])
 (.cond (.t 30)
 (.region false [m_ 31 6,
 o_ 32 (.callF 52 [(.t 31)])])
 (.skip)))
 (.seq (.seq (.region false [m_ 33 6,
 o_ 34 (.nilCheck (.t 33)),
 f_ 35 4 34,
 f_ 36 0 35,
 l_ 37 36,
 c_ 38 .neq 37 0])
 (.cond (.t 38)
 (.seq (.region true [m_ 39 6,
 o_ 40 (.nilCheck (.t 39)),
 f_ 41 4 40,
 o_ 42 (.load true 2 (.t 41) .copy),
 o_ 2 (.mv (.c .nils)),
 ⟨none, none, false, .store 2 (.t 3) (.t 42), .none⟩])
 (.ret))
 (.skip)))
 (.seq (.region false [m_ 43 7,
 o_ 44 (.build [(.int .i64 0), (.int .i64 0)] []),
 o_ 2 (.mv (.u 43 .share)),
 ⟨none, none, false, .store 2 (.t 3) (.t 44), .none⟩])
 (.ret))))))))⟩
theorem c22 : zat Go.Proofs.Tryz.prog p22 22 = some a22 := by decide +kernel
def p23 : Plan := ⟨[], 1, [((4, 3), hB 0),
 ((5, 4), hP)],
 [[0, 1, 2, 7, 14, 15, 16]]⟩
def a23 : AFunc := ⟨3, 49, 1, [.tmp 6],
 .seq (.region false [i_ 6 0])
 (.seq (.region false [i_ 7 (-1)])
 (.seq (.seq (.region false [m_ 10 0,
 m_ 11 0,
 o_ 12 (.lenSl (.t 11)),
 o_ 13 (.minMax false (.t 12) [(.c (.int .i64 24))]),
 o_ 14 (.sliceV 7 (.t 10) none (some (.t 13))),
 o_ 15 (.lenSl (.t 14)),
 i_ 16 0])
 (.block 0 (.loop [0, 1, 2, 7, 14, 15, 16] (.seq (.region false [b_ 17 .lss 16 15])
 (.seq (.cond (.t 17)
 (.skip)
 (.exit 0))
 (.seq (.block 1 (.seq (.region false [m_ 18 16,
 o_ 19 (.indexSl 7 (.t 14) (.t 16)),
 o_ 20 (.load true 7 (.t 19) .copy),
 o_ 9 (.allocL 0 [(.int .i64 0), (.int .i64 0), (.int .i64 0), (.int .i64 0), (.int .i64 0), (.int .i64 0), (.bool false)]),
 m_ 8 18,
 ⟨none, none, false, .store 7 (.t 9) (.t 20), .none⟩])
 (.seq (.region true [f_ 21 1 9,
 o_ 22 (.load true 4 (.t 21) .copy),
 m_ 23 1,
 m_ 24 2,
 o_ 25 (.callP 53 [(.t 22), (.t 23), (.t 24)]),
 m_ 26 25,
 g_ 27 26 true (.mv (.t 7)),
 g_ 28 26 true (.bin .lss (.t 27) (.c (.int .i64 0))),
 g_ 29 26 true (.mv (.t 28)),
 g_ 30 29 false (.fieldAddr 5 (.t 9)),
 g_ 31 29 false (.load false 1 (.t 30) .copy),
 g_ 32 29 false (.mv (.t 0)),
 g_ 33 29 false (.mv (.t 7)),
 g_ 34 29 false (.indexSl 7 (.t 32) (.t 33)),
 g_ 35 29 false (.fieldAddr 5 (.t 34)),
 g_ 36 29 false (.load false 1 (.t 35) .copy),
 g_ 37 29 false (.bin .geq (.t 31) (.t 36)),
 g_ 38 26 true (.pick (.t 29) (.c (.bool true)) (.t 37)),
 o_ 39 (.pick (.t 26) (.t 38) (.c (.bool false)))])
 (.cond (.t 39)
 (.region false [m_ 40 8,
 m_ 7 40])
 (.skip)))))
 (.region false [c_ 41 .add 16 1,
 m_ 16 41])))))))
 (.seq (.seq (.region false [m_ 42 7,
 c_ 43 .lss 42 0])
 (.cond (.t 43)
 (.seq (.region false [i_ 6 (-1)])
 (.ret))
 (.skip)))
 (.seq (.region false [m_ 44 0,
 m_ 45 7,
 o_ 46 (.indexSl 7 (.t 44) (.t 45)),
 f_ 47 0 46,
 l_ 48 47,
 m_ 6 48])
 (.ret)))))⟩
theorem c23 : zat Go.Proofs.Tryz.prog p23 23 = some a23 := by decide +kernel
def p25 : Plan := ⟨[], 2, [((2, 17), hM 0),
 ((2, 15), hM 0),
 ((2, 13), hG),
 ((2, 12), hF),
 ((2, 10), hM 0),
 ((2, 8), hM 0),
 ((2, 6), hG),
 ((2, 5), hF),
 ((2, 3), hM 0),
 ((2, 1), hM 0),
 ((1, 9), hM 0),
 ((1, 7), hM 0),
 ((1, 5), hG),
 ((1, 4), hM 0),
 ((1, 2), hG),
 ((1, 1), hM 0),
 ((0, 0), hB 0),
 ((0, 1), hB 1)],
 []⟩
def a25 : AFunc := ⟨1, 37, 2, [.cell 2 true 4],
 .seq (.region false [o_ 1 (.boxL 0 (.t 0)),
 o_ 2 (.allocL 1 [(.int .i64 0), (.int .i64 0), (.int .i64 0), (.int .i64 0)])])
 (.seq (.region true [f_ 3 0 1,
 ⟨(some 4), none, false, .load false 1 (.t 3) .copy, (.loc 0)⟩,
 ⟨(some 5), none, false, .callP 55 [(.t 4), (.c (.int .i64 (-5000))), (.c (.int .i64 5000))], .free⟩,
 f_ 6 1 1,
 ⟨(some 7), none, false, .load false 1 (.t 6) .copy, (.loc 0)⟩,
 ⟨(some 8), none, false, .callP 55 [(.t 7), (.c (.int .i64 (-5000))), (.c (.int .i64 5000))], .free⟩,
 f_ 9 0 1,
 ⟨none, none, false, .store 1 (.t 9) (.t 5), (.loc 0)⟩,
 f_ 10 1 1,
 ⟨none, none, false, .store 1 (.t 10) (.t 8), (.loc 0)⟩])
 (.seq (.region true [f_ 11 2 1,
 ⟨(some 12), none, false, .load false 1 (.t 11) .copy, (.loc 0)⟩,
 f_ 13 0 1,
 ⟨(some 14), none, false, .load false 1 (.t 13) .copy, (.loc 0)⟩,
 o_ 15 (.bin .sub (.c (.int .i64 5000)) (.t 14)),
 ⟨(some 16), none, false, .minMax false (.c (.int .i64 200)) [(.t 15)], .free⟩,
 ⟨(some 17), none, false, .callP 55 [(.t 12), (.c (.int .i64 0)), (.t 16)], .free⟩,
 f_ 18 3 1,
 ⟨(some 19), none, false, .load false 1 (.t 18) .copy, (.loc 0)⟩,
 f_ 20 1 1,
 ⟨(some 21), none, false, .load false 1 (.t 20) .copy, (.loc 0)⟩,
 o_ 22 (.bin .sub (.c (.int .i64 5000)) (.t 21)),
 ⟨(some 23), none, false, .minMax false (.c (.int .i64 200)) [(.t 22)], .free⟩,
 ⟨(some 24), none, false, .callP 55 [(.t 19), (.c (.int .i64 0)), (.t 23)], .free⟩,
 f_ 25 2 1,
 ⟨none, none, false, .store 1 (.t 25) (.t 17), (.loc 0)⟩,
 f_ 26 3 1,
 ⟨none, none, false, .store 1 (.t 26) (.t 24), (.loc 0)⟩])
 (.seq (.seq (.region false [f_ 27 2 1,
 l_ 28 27,
 c_ 29 .eql 28 0,
 m_ 30 29,
 g_ 31 30 false (.fieldAddr 3 (.t 1)),
 g_ 32 30 false (.load false 1 (.t 31) .copy),
 g_ 33 30 false (.bin .eql (.t 32) (.c (.int .i64 0))),
 o_ 34 (.pick (.t 30) (.c (.bool true)) (.t 33))])
 (.cond (.t 34)
 (.seq (.region false [o_ 35 (.build [(.int .i64 0), (.int .i64 0), (.int .i64 0), (.int .i64 0)] []),
 ⟨none, none, false, .store 4 (.t 2) (.t 35), .none⟩])
 (.ret))
 (.skip)))
 (.seq (.region false [o_ 36 (.load true 4 (.t 1) .copy),
 ⟨none, none, false, .store 4 (.t 2) (.t 36), .none⟩])
 (.ret)))))⟩
theorem c25 : zat Go.Proofs.Tryz.prog p25 25 = some a25 := by decide +kernel
def p26 : Plan := ⟨[], 1, [((0, 0), hB 0)],
 []⟩
def a26 : AFunc := ⟨4, 14, 1, [.cell 8 true 4],
 .seq (.region false [o_ 8 (.allocL 0 [(.int .i64 0), (.int .i64 0), (.int .i64 0), (.int .i64 0)])])
 (.seq (.region false [m_ 9 0,
 m_ 10 1,
 m_ 11 2,
 m_ 12 3,
 o_ 13 (.build [(.int .i64 0), (.int .i64 0), (.int .i64 0), (.int .i64 0)] [(0, 1, (.t 9)), (1, 1, (.t 10)), (2, 1, (.t 11)), (3, 1, (.t 12))]),
 ⟨none, none, false, .store 4 (.t 8) (.t 13), .none⟩])
 (.ret))⟩
theorem c26 : zat Go.Proofs.Tryz.prog p26 26 = some a26 := by decide +kernel
def p27 : Plan := ⟨[6, 7], 1, [((1, 9), hS 24),
 ((11, 3), hB 0),
 ((12, 0), hT 6),
 ((12, 3), hP),
 ((12, 5), hT2 44 48),
 ((12, 6), hT 49),
 ((13, 1), hK 6),
 ((15, 0), hT 7),
 ((15, 3), hT2 59 61),
 ((15, 4), hT 62),
 ((17, 0), hK 6),
 ((20, 0), hK 6),
 ((21, 0), hK 6),
 ((23, 0), hK 7),
 ((24, 0), hK 6),
 ((24, 1), hK 6),
 ((25, 0), hT 6),
 ((25, 1), hS 101),
 ((26, 0), hK 7),
 ((29, 0), { uses := [(6, .peek)], name := some 6 }),
 ((29, 2), { name := some 6 }),
 ((29, 3), { name := some 6 }),
 ((29, 5), { uses := [(7, .peek)], name := some 7 }),
 ((29, 6), { name := some 7 }),
 ((29, 9), { name := some 6 }),
 ((29, 10), { name := some 6 }),
 ((30, 2), hK 7),
 ((31, 0), hK 6),
 ((33, 0), hT 6),
 ((33, 1), hS 132)],
 [[0, 6, 7, 8, 37, 38, 39], [6, 7, 8, 11], [6, 7, 8, 102, 103, 104]]⟩
def a27 : AFunc := ⟨2, 133, 1, [.tmp 4, .tmp 5],
 .seq (.region false [o_ 4 (.mv (.c .nils)),
 i_ 5 0])
 (.seq (.block 0 (.seq (.region false [m_ 16 1,
 o_ 17 (.lenSl (.t 16)),
 c_ 18 .eql 17 0,
 m_ 19 18,
 g_ 20 19 false (.mv (.t 0)),
 g_ 21 19 false (.bin .gtr (.t 20) (.c (.int .i64 200))),
 o_ 22 (.pick (.t 19) (.c (.bool true)) (.t 21)),
 m_ 23 22,
 g_ 24 23 false (.mv (.t 1)),
 g_ 25 23 false (.callF 56 [(.u 24 .share), (.c (.func 57 []))]),
 o_ 26 (.pick (.t 23) (.c (.bool true)) (.t 25)),
 m_ 15 26])
 (.cond (.t 15)
 (.seq (.region false [o_ 4 (.mv (.c .nils)),
 i_ 5 1])
 (.ret))
 (.seq (.region false [m_ 28 1,
 o_ 29 (.lenSl (.t 28)),
 c_ 30 .gtr 29 16,
 m_ 27 30])
 (.cond (.t 27)
 (.seq (.region false [o_ 4 (.mv (.c .nils)),
 i_ 5 3])
 (.ret))
 (.seq (.region false [m_ 32 0,
 m_ 33 1,
 o_ 34 (.lenSl (.t 33)),
 b_ 35 .lss 32 34,
 m_ 31 35])
 (.cond (.t 31)
 (.seq (.region false [o_ 4 (.mv (.c .nils)),
 i_ 5 90])
 (.ret))
 (.skip))))))))
 (.seq (.region false [⟨(some 6), none, true, .mv (.c .nils), .none⟩,
 ⟨(some 7), none, true, .mv (.c .nils), .none⟩])
 (.seq (.region false [m_ 36 0,
 m_ 8 36])
 (.seq (.seq (.region false [m_ 37 1,
 o_ 38 (.lenSl (.t 37)),
 i_ 39 0])
 (.block 1 (.loop [0, 6, 7, 8, 37, 38, 39] (.seq (.region false [b_ 40 .lss 39 38])
 (.seq (.cond (.t 40)
 (.skip)
 (.exit 1))
 (.seq (.block 2 (.seq (.region false [m_ 41 39,
 o_ 42 (.indexSl 2 (.t 37) (.t 39)),
 o_ 43 (.load true 2 (.t 42) .copy),
 o_ 10 (.allocL 0 [(.int .i64 0), (.int .i64 0)]),
 m_ 9 41,
 ⟨none, none, false, .store 2 (.t 10) (.t 43), .none⟩])
 (.seq (.region false [o_ 44 (.mv (.u 6 .take)),
 m_ 45 0,
 o_ 46 (.load true 2 (.t 10) .copy),
 o_ 47 (.callP 59 [(.t 45), (.t 46)]),
 o_ 48 (.buildSlice 1 [(.int .i64 0)] 1 [(0, (.t 47))]),
 o_ 49 (.append 1 (.u 44 .take) (.u 48 .take)),
 k_ 6 49])
 (.seq (.region false [m_ 50 8,
 o_ 51 (.mv (.u 6 .peek)),
 m_ 52 9,
 o_ 53 (.indexSl 1 (.t 51) (.t 52)),
 l_ 54 53,
 b_ 55 .sub 50 54,
 m_ 8 55])
 (.seq (.region false [f_ 56 0 10,
 l_ 57 56,
 c_ 58 .eql 57 0])
 (.cond (.t 58)
 (.region false [o_ 59 (.mv (.u 7 .take)),
 m_ 60 9,
 o_ 61 (.buildSlice 1 [(.int .i64 0)] 1 [(0, (.t 60))]),
 o_ 62 (.append 1 (.u 59 .take) (.u 61 .take)),
 k_ 7 62])
 (.skip)))))))
 (.region false [c_ 63 .add 39 1,
 m_ 39 63])))))))
 (.seq (.seq (.region false [o_ 64 (.mv (.u 6 .peek)),
 o_ 65 (.lenSl (.t 64)),
 c_ 66 .sub 65 1,
 m_ 11 66])
 (.block 3 (.loop [6, 7, 8, 11] (.seq (.seq (.region false [m_ 67 8,
 c_ 68 .lss 67 0])
 (.cond (.t 68)
 (.skip)
 (.exit 3)))
 (.seq (.block 4 (.seq (.region false [o_ 71 (.mv (.u 6 .peek)),
 m_ 72 11,
 o_ 73 (.indexSl 1 (.t 71) (.t 72)),
 l_ 74 73,
 c_ 75 .sub 74 1,
 m_ 76 8,
 o_ 77 (.un .neg (.t 76)),
 o_ 78 (.minMax false (.t 75) [(.t 77)]),
 m_ 12 78])
 (.seq (.region false [o_ 79 (.mv (.u 6 .peek)),
 m_ 80 11,
 o_ 81 (.indexSl 1 (.t 79) (.t 80)),
 l_ 82 81,
 m_ 83 12,
 b_ 84 .sub 82 83,
 o_ 85 (.indexSl 1 (.t 79) (.t 80)),
 s_ 85 84])
 (.region false [m_ 86 8,
 m_ 87 12,
 b_ 88 .add 86 87,
 m_ 8 88]))))
 (.region false [m_ 69 11,
 c_ 70 .sub 69 1,
 m_ 11 70]))))))
 (.seq (.seq (.region false [o_ 89 (.mv (.u 7 .peek)),
 o_ 90 (.lenSl (.t 89)),
 c_ 91 .eql 90 0])
 (.cond (.t 91)
 (.seq (.region false [o_ 92 (.mv (.u 6 .peek)),
 o_ 93 (.mv (.u 6 .peek)),
 o_ 94 (.lenSl (.t 93)),
 c_ 95 .sub 94 1,
 o_ 96 (.indexSl 1 (.t 92) (.t 95)),
 l_ 97 96,
 m_ 98 8,
 b_ 99 .add 97 98,
 o_ 100 (.indexSl 1 (.t 92) (.t 95)),
 s_ 100 99])
 (.seq (.region false [o_ 101 (.mv (.u 6 .take)),
 o_ 4 (.mv (.u 101 .share)),
 i_ 5 0])
 (.ret)))
 (.skip)))
 (.seq (.seq (.region false [o_ 102 (.mv (.u 7 .peek)),
 o_ 103 (.lenSl (.t 102)),
 i_ 104 0])
 (.block 5 (.loop [6, 7, 8, 102, 103, 104] (.seq (.region false [b_ 105 .lss 104 103])
 (.seq (.cond (.t 105)
 (.skip)
 (.exit 5))
 (.seq (.block 6 (.seq (.region false [m_ 106 104,
 o_ 107 (.indexSl 1 (.t 102) (.t 104)),
 l_ 108 107,
 m_ 13 106,
 m_ 14 108])
 (.seq (.region true [o_ 109 (.tOp 6 .place),
 m_ 110 14,
 o_ 111 (.tOp 6 (.index 1 109 (.t 110))),
 o_ 112 (.tOp 6 (.load false 1 111)),
 m_ 113 8,
 o_ 114 (.tOp 7 .place),
 o_ 115 (.tOp 7 (.len 114)),
 b_ 116 .quo 113 115,
 b_ 117 .add 112 116,
 o_ 118 (.tOp 6 (.index 1 109 (.t 110))),
 ⟨none, none, false, .tOp 6 (.store 1 118 (.t 117)), .none⟩])
 (.seq (.region false [m_ 119 13,
 m_ 120 8,
 o_ 121 (.mv (.u 7 .peek)),
 o_ 122 (.lenSl (.t 121)),
 b_ 123 .rem 120 122,
 b_ 124 .lss 119 123])
 (.cond (.t 124)
 (.region false [o_ 125 (.mv (.u 6 .peek)),
 m_ 126 14,
 o_ 127 (.indexSl 1 (.t 125) (.t 126)),
 l_ 128 127,
 c_ 129 .add 128 1,
 o_ 130 (.indexSl 1 (.t 125) (.t 126)),
 s_ 130 129])
 (.skip))))))
 (.region false [c_ 131 .add 104 1,
 m_ 104 131])))))))
 (.seq (.region false [o_ 132 (.mv (.u 6 .take)),
 o_ 4 (.mv (.u 132 .share)),
 i_ 5 0])
 (.ret)))))))))⟩
theorem c27 : zat Go.Proofs.Tryz.prog p27 27 = some a27 := by decide +kernel
def p28 : Plan := ⟨[], 2, [((2, 11), hM 0),
 ((2, 9), hM 0),
 ((2, 7), hG),
 ((2, 5), hM 0),
 ((2, 3), hG),
 ((2, 1), hM 0),
 ((0, 0), hB 0),
 ((0, 1), hB 1),
 ((1, 1), hP),
 ((3, 1), hP)],
 []⟩
def a28 : AFunc := ⟨3, 21, 2, [.cell 6 true 4],
 .seq (.region false [o_ 3 (.boxL 0 (.t 0)),
 o_ 6 (.allocL 1 [(.int .i64 0), (.int .i64 0), (.int .i64 0), (.int .i64 0)])])
 (.seq (.region false [o_ 7 (.load true 4 (.t 3) .copy),
 o_ 8 (.callP 25 [(.t 7)]),
 ⟨none, none, false, .store 4 (.t 3) (.t 8), .none⟩])
 (.seq (.region true [f_ 9 0 3,
 ⟨(some 10), none, false, .load false 1 (.t 9) .copy, (.loc 0)⟩,
 m_ 11 1,
 ⟨(some 12), none, false, .callP 60 [(.t 10), (.t 11)], .free⟩,
 f_ 13 1 3,
 ⟨(some 14), none, false, .load false 1 (.t 13) .copy, (.loc 0)⟩,
 m_ 15 2,
 ⟨(some 16), none, false, .callP 60 [(.t 14), (.t 15)], .free⟩,
 f_ 17 0 3,
 ⟨none, none, false, .store 1 (.t 17) (.t 12), (.loc 0)⟩,
 f_ 18 1 3,
 ⟨none, none, false, .store 1 (.t 18) (.t 16), (.loc 0)⟩])
 (.seq (.region false [o_ 19 (.load true 4 (.t 3) .copy),
 o_ 20 (.callP 25 [(.t 19)]),
 ⟨none, none, false, .store 4 (.t 6) (.t 20), .none⟩])
 (.ret))))⟩
theorem c28 : zat Go.Proofs.Tryz.prog p28 28 = some a28 := by decide +kernel
def p34 : Plan := ⟨[], 2, [((0, 0), hB 0),
 ((1, 5), hP),
 ((11, 1), hL),
 ((11, 6), hL),
 ((15, 2), hB 1),
 ((15, 3), hT 50),
 ((16, 9), hA),
 ((16, 13), hS 60)],
 [[1, 2, 3, 45, 46, 47]]⟩
def a34 : AFunc := ⟨3, 68, 2, [.tmp 6],
 .seq (.region false [o_ 3 (.boxL 0 (.t 0)),
 o_ 6 (.mv (.c (.bool false)))])
 (.seq (.seq (.region false [m_ 9 1,
 c_ 10 .gtr 9 12,
 m_ 11 10,
 g_ 12 11 false (.fieldAddr 1 (.t 3)),
 g_ 13 11 false (.load true 2 (.t 12) .copy),
 g_ 14 11 false (.callP 58 [(.t 13)]),
 g_ 15 11 false (.bin .neq (.t 14) (.c (.int .i64 0))),
 o_ 16 (.pick (.t 11) (.c (.bool true)) (.t 15))])
 (.cond (.t 16)
 (.seq (.region false [o_ 6 (.mv (.c (.bool false)))])
 (.ret))
 (.skip)))
 (.seq (.seq (.region false [f_ 17 0 3,
 l_ 18 17])
 (.block 0 (.seq (.region false [c_ 20 .eql 18 1,
 m_ 19 20])
 (.cond (.t 19)
 (.seq (.region false [m_ 21 2,
 o_ 22 (.nilCheck (.t 21)),
 l_ 23 22,
 c_ 24 .add 23 1,
 o_ 25 (.nilCheck (.t 21)),
 s_ 25 24])
 (.seq (.region false [m_ 26 2,
 o_ 27 (.nilCheck (.t 26)),
 l_ 28 27,
 c_ 29 .leq 28 24,
 m_ 6 29])
 (.ret)))
 (.seq (.seq (.region false [c_ 31 .eql 18 2,
 m_ 30 31])
 (.cond (.t 30)
 (.skip)
 (.seq (.region false [c_ 32 .eql 18 3,
 m_ 30 32])
 (.cond (.t 30)
 (.skip)
 (.region false [c_ 33 .eql 18 4,
 m_ 30 33])))))
 (.cond (.t 30)
 (.skip)
 (.seq (.region false [o_ 6 (.mv (.c (.bool false)))])
 (.ret))))))))
 (.seq (.seq (.region false [f_ 34 4 3,
 o_ 35 (.load false 1 (.t 34) .peek),
 o_ 36 (.lenSl (.t 35)),
 c_ 37 .lss 36 1,
 m_ 38 37,
 g_ 39 38 false (.fieldAddr 4 (.t 3)),
 g_ 40 38 false (.load false 1 (.t 39) .peek),
 g_ 41 38 false (.lenSl (.t 40)),
 g_ 42 38 false (.bin .gtr (.t 41) (.c (.int .i64 16))),
 o_ 43 (.pick (.t 38) (.c (.bool true)) (.t 42))])
 (.cond (.t 43)
 (.seq (.region false [o_ 6 (.mv (.c (.bool false)))])
 (.ret))
 (.skip)))
 (.seq (.seq (.region false [f_ 44 4 3,
 l_ 45 44,
 o_ 46 (.lenSl (.t 45)),
 i_ 47 0])
 (.block 1 (.loop [1, 2, 3, 45, 46, 47] (.seq (.region false [b_ 48 .lss 47 46])
 (.seq (.cond (.t 48)
 (.skip)
 (.exit 1))
 (.seq (.block 2 (.seq (.region false [o_ 49 (.indexSl 6 (.t 45) (.t 47)),
 o_ 50 (.load true 6 (.t 49) .copy),
 o_ 8 (.allocL 1 [(.int .i64 0), (.int .i64 0), (.int .i64 0), (.str []), .nils, .nils]),
 ⟨none, none, false, .store 6 (.t 8) (.u 50 .take), .none⟩])
 (.seq (.region false [f_ 51 0 3,
 l_ 52 51,
 c_ 53 .eql 52 4,
 m_ 54 53,
 g_ 55 54 true (.fieldAddr 0 (.t 8)),
 g_ 56 54 true (.load false 1 (.t 55) .copy),
 g_ 57 54 true (.bin .neq (.t 56) (.c (.int .i64 1))),
 o_ 58 (.pick (.t 54) (.t 57) (.c (.bool false))),
 m_ 59 58,
 g_ 60 59 false (.load true 6 (.t 8) .take),
 g_ 61 59 false (.mv (.t 1)),
 g_ 62 59 false (.bin .add (.t 61) (.c (.int .i64 1))),
 g_ 63 59 false (.mv (.t 2)),
 g_ 64 59 false (.callF 34 [(.u 60 .share), (.t 62), (.t 63)]),
 g_ 65 59 false (.un .not (.t 64)),
 o_ 66 (.pick (.t 59) (.c (.bool true)) (.t 65))])
 (.cond (.t 66)
 (.seq (.region false [o_ 6 (.mv (.c (.bool false)))])
 (.ret))
 (.skip)))))
 (.region false [c_ 67 .add 47 1,
 m_ 47 67])))))))
 (.seq (.region false [o_ 6 (.mv (.c (.bool true)))])
 (.ret))))))⟩
theorem c34 : zat Go.Proofs.Tryz.prog p34 34 = some a34 := by decide +kernel
def p35 : Plan := ⟨[], 3, [((10, 13), hM 1),
 ((10, 11), hM 1),
 ((10, 8), hM 2),
 ((10, 6), hM 1),
 ((10, 3), hM 2),
 ((10, 1), hM 1),
 ((0, 0), hB 0),
 ((0, 1), hB 1),
 ((6, 1), hA),
 ((6, 2), hT 21),
 ((8, 1), hB 2),
 ((11, 2), hP),
 ((13, 2), hP),
 ((2, 3), hS 10)],
 [[0, 5, 23, 24]]⟩
def a35 : AFunc := ⟨3, 54, 3, [],
 .seq (.region false [o_ 4 (.boxL 0 (.t 1)),
 o_ 5 (.boxL 1 (.t 2))])
 (.seq (.region false [f_ 7 0 4,
 l_ 8 7])
 (.block 0 (.seq (.region false [c_ 14 .eql 8 1,
 m_ 13 14])
 (.cond (.t 13)
 (.region false [m_ 15 0,
 o_ 16 (.load true 4 (.t 5) .copy),
 o_ 17 (.callF 36 [(.t 15), (.t 16), (.c (.int .i64 0)), (.c (.bool false))])])
 (.seq (.region false [c_ 19 .eql 8 4,
 m_ 18 19])
 (.cond (.t 18)
 (.seq (.seq (.region false [f_ 20 4 4,
 o_ 21 (.load false 1 (.t 20) .take),
 o_ 22 (.sliceV 6 (.u 21 .take) (some (.c (.int .i64 1))) none),
 o_ 23 (.lenSl (.t 22)),
 i_ 24 0])
 (.block 1 (.loop [0, 5, 23, 24] (.seq (.region false [b_ 25 .lss 24 23])
 (.seq (.cond (.t 25)
 (.skip)
 (.exit 1))
 (.seq (.block 2 (.seq (.region false [o_ 26 (.load true 4 (.t 5) .copy),
 o_ 6 (.allocL 2 [(.int .i64 0), (.int .i64 0), (.int .i64 0), (.int .i64 0)]),
 ⟨none, none, false, .store 4 (.t 6) (.t 26), .none⟩])
 (.seq (.region false [f_ 27 3 5,
 l_ 28 27,
 c_ 29 .sub 28 1,
 o_ 30 (.minMax true (.t 29) [(.c (.int .i64 0))]),
 o_ 31 (.minMax false (.c (.int .i64 1)) [(.t 30)]),
 f_ 32 3 6,
 s_ 32 31])
 (.seq (.region true [f_ 33 1 5,
 ⟨(some 34), none, false, .load false 1 (.t 33) .copy, (.loc 1)⟩,
 f_ 35 3 6,
 ⟨(some 36), none, false, .load false 1 (.t 35) .copy, (.loc 2)⟩,
 b_ 37 .add 34 36,
 f_ 38 3 5,
 ⟨(some 39), none, false, .load false 1 (.t 38) .copy, (.loc 1)⟩,
 f_ 40 3 6,
 ⟨(some 41), none, false, .load false 1 (.t 40) .copy, (.loc 2)⟩,
 b_ 42 .sub 39 41,
 f_ 43 1 5,
 ⟨none, none, false, .store 1 (.t 43) (.t 37), (.loc 1)⟩,
 f_ 44 3 5,
 ⟨none, none, false, .store 1 (.t 44) (.t 42), (.loc 1)⟩])
 (.region false [m_ 45 0,
 o_ 46 (.load true 4 (.t 6) .copy),
 o_ 47 (.callP 25 [(.t 46)]),
 o_ 48 (.callF 36 [(.t 45), (.t 47), (.c (.int .i64 0)), (.c (.bool true))])])))))
 (.region false [c_ 49 .add 24 1,
 m_ 24 49])))))))
 (.region false [m_ 50 0,
 o_ 51 (.load true 4 (.t 5) .copy),
 o_ 52 (.callP 25 [(.t 51)]),
 o_ 53 (.callF 36 [(.t 50), (.t 52), (.c (.int .i64 0)), (.c (.bool false))])]))
 (.region false [m_ 9 0,
 o_ 10 (.load true 6 (.t 4) .copy),
 o_ 11 (.load true 4 (.t 5) .copy),
 o_ 12 (.callF 62 [(.t 9), (.u 10 .share), (.t 11)])])))))))⟩
theorem c35 : zat Go.Proofs.Tryz.prog p35 35 = some a35 := by decide +kernel
def p36 : Plan := ⟨[], 1, [((1, 18), { uses := [(23, .take)], mark := .mem }),
 ((1, 14), hF),
 ((1, 13), hF),
 ((1, 10), hM 0),
 ((0, 0), hB 0),
 ((1, 4), hL),
 ((1, 8), hL),
 ((1, 15), hT2 12 22)],
 []⟩
def a36 : AFunc := ⟨4, 26, 1, [],
 .seq (.region false [o_ 5 (.boxL 0 (.t 1))])
 (.region true [m_ 8 0,
 m_ 9 0,
 o_ 10 (.nilCheck (.t 9)),
 f_ 11 0 10,
 o_ 12 (.load false 1 (.t 11) .peek),
 m_ 13 0,
 o_ 14 (.nilCheck (.t 13)),
 f_ 15 0 14,
 o_ 16 (.load false 1 (.t 15) .peek),
 o_ 17 (.lenSl (.t 16)),
 ⟨(some 18), none, false, .load true 4 (.t 5) .copy, (.loc 0)⟩,
 m_ 19 2,
 m_ 20 3,
 ⟨(some 21), none, false, .build [(.int .i64 0), (.int .i64 0), (.int .i64 0), (.int .i64 0), (.int .i64 0), (.int .i64 0), (.bool false)] [(0, 1, (.t 17)), (1, 4, (.t 18)), (5, 1, (.t 19)), (6, 1, (.t 20))], .free⟩,
 ⟨(some 22), none, false, .buildSlice 7 [(.int .i64 0), (.int .i64 0), (.int .i64 0), (.int .i64 0), (.int .i64 0), (.int .i64 0), (.bool false)] 1 [(0, (.t 21))], .free⟩,
 o_ 23 (.append 7 (.u 12 .take) (.u 22 .take)),
 o_ 24 (.nilCheck (.t 8)),
 f_ 25 0 24,
 ⟨none, none, false, .store 1 (.t 25) (.u 23 .take), .mem⟩])⟩
theorem c36 : zat Go.Proofs.Tryz.prog p36 36 = some a36 := by decide +kernel
def p37 : Plan := ⟨[], 3, [((2, 13), hM 0),
 ((2, 11), hM 0),
 ((2, 9), hF),
 ((2, 8), hM 1),
 ((2, 6), hM 0),
 ((2, 4), hF),
 ((2, 3), hM 1),
 ((2, 1), hM 0),
 ((1, 5), hM 1),
 ((1, 4), hM 0),
 ((1, 3), hG),
 ((1, 2), hM 1),
 ((1, 1), hG),
 ((1, 0), hM 0),
 ((0, 0), hB 0),
 ((0, 1), hB 1),
 ((0, 2), hB 2),
 ((3, 12), hP),
 ((4, 12), hP),
 ((5, 1), hP)],
 []⟩
def a37 : AFunc := ⟨2, 51, 3, [.cell 4 true 4],
 .seq (.region false [o_ 2 (.boxL 0 (.t 0)),
 o_ 3 (.boxL 1 (.t 1)),
 o_ 4 (.allocL 2 [(.int .i64 0), (.int .i64 0), (.int .i64 0), (.int .i64 0)])])
 (.seq (.region true [⟨(some 5), none, false, .load true 4 (.t 2) .copy, (.loc 0)⟩,
 ⟨(some 6), none, false, .callP 25 [(.t 5)], .free⟩,
 ⟨(some 7), none, false, .load true 4 (.t 3) .copy, (.loc 1)⟩,
 ⟨(some 8), none, false, .callP 25 [(.t 7)], .free⟩,
 ⟨none, none, false, .store 4 (.t 2) (.t 6), (.loc 0)⟩,
 ⟨none, none, false, .store 4 (.t 3) (.t 8), (.loc 1)⟩])
 (.seq (.region true [f_ 9 2 2,
 ⟨(some 10), none, false, .load false 1 (.t 9) .copy, (.loc 0)⟩,
 f_ 11 2 3,
 ⟨(some 12), none, false, .load false 1 (.t 11) .copy, (.loc 1)⟩,
 ⟨(some 13), none, false, .minMax false (.t 10) [(.t 12)], .free⟩,
 f_ 14 3 2,
 ⟨(some 15), none, false, .load false 1 (.t 14) .copy, (.loc 0)⟩,
 f_ 16 3 3,
 ⟨(some 17), none, false, .load false 1 (.t 16) .copy, (.loc 1)⟩,
 ⟨(some 18), none, false, .minMax false (.t 15) [(.t 17)], .free⟩,
 f_ 19 2 2,
 ⟨none, none, false, .store 1 (.t 19) (.t 13), (.loc 0)⟩,
 f_ 20 3 2,
 ⟨none, none, false, .store 1 (.t 20) (.t 18), (.loc 0)⟩])
 (.seq (.region false [f_ 21 0 2,
 l_ 22 21,
 f_ 23 0 3,
 l_ 24 23,
 f_ 25 0 3,
 l_ 26 25,
 f_ 27 2 3,
 l_ 28 27,
 b_ 29 .add 26 28,
 f_ 30 2 2,
 l_ 31 30,
 b_ 32 .sub 29 31,
 o_ 33 (.callP 55 [(.t 22), (.t 24), (.t 32)]),
 f_ 34 0 2,
 s_ 34 33])
 (.seq (.region false [f_ 35 1 2,
 l_ 36 35,
 f_ 37 1 3,
 l_ 38 37,
 f_ 39 1 3,
 l_ 40 39,
 f_ 41 3 3,
 l_ 42 41,
 b_ 43 .add 40 42,
 f_ 44 3 2,
 l_ 45 44,
 b_ 46 .sub 43 45,
 o_ 47 (.callP 55 [(.t 36), (.t 38), (.t 46)]),
 f_ 48 1 2,
 s_ 48 47])
 (.seq (.region false [o_ 49 (.load true 4 (.t 2) .copy),
 o_ 50 (.callP 25 [(.t 49)]),
 ⟨none, none, false, .store 4 (.t 4) (.t 50), .none⟩])
 (.ret))))))⟩
def v37 : List Nat := [0, 1, 2, 3, 4]
theorem c37 : zat Go.Proofs.Tryz.prog p37 37 = some a37 := by decide +kernel
def p44 : Plan := ⟨[], 2, [((0, 0), hB 0),
 ((1, 2), hS 6),
 ((1, 3), hB 1)],
 []⟩
def a44 : AFunc := ⟨2, 14, 2, [.tmp 4],
 .seq (.region false [o_ 2 (.boxL 0 (.t 0)),
 i_ 4 0])
 (.seq (.region false [o_ 6 (.load true 4 (.t 2) .copy),
 m_ 7 1,
 o_ 8 (.callF 69 [(.u 6 .share), (.t 7)]),
 o_ 5 (.allocL 1 [(.int .i64 0), (.str []), (.int .i64 0), (.bool false)]),
 ⟨none, none, false, .store 4 (.t 5) (.t 8), .none⟩])
 (.seq (.seq (.region false [f_ 9 0 5,
 l_ 10 9,
 c_ 11 .neq 10 2])
 (.cond (.t 11)
 (.seq (.region false [i_ 4 0])
 (.ret))
 (.skip)))
 (.seq (.region false [f_ 12 2 5,
 l_ 13 12,
 m_ 4 13])
 (.ret))))⟩
theorem c44 : zat Go.Proofs.Tryz.prog p44 44 = some a44 := by decide +kernel
def p45 : Plan := ⟨[], 6, [((2, 6), { uses := [(24, .take)], mark := (.loc 3) }),
 ((2, 4), { mark := .cool }),
 ((2, 3), hM 2),
 ((2, 2), { mark := .cool, pure := true }),
 ((2, 1), hM 0),
 ((2, 0), { mark := (.fa 0) }),
 ((0, 0), hB 0),
 ((0, 1), hB 1),
 ((1, 1), hS 16),
 ((1, 5), hB 2),
 ((2, 5), hB 3),
 ((5, 0), hA),
 ((5, 1), hS 47),
 ((7, 1), hL),
 ((7, 6), hL),
 ((8, 1), hL),
 ((9, 0), hA),
 ((9, 1), hS 69),
 ((11, 0), hA),
 ((11, 1), hS 74),
 ((14, 2), hB 4),
 ((14, 3), hT 81),
 ((15, 0), hA),
 ((15, 4), hS 83),
 ((15, 8), hB 5),
 ((15, 9), hT 88),
 ((17, 0), hA),
 ((17, 1), hS 92),
 ((18, 1), hA),
 ((18, 2), hA),
 ((18, 3), hS 95),
 ((18, 4), hT2 94 96),
 ((18, 6), hT 97),
 ((20, 0), hA),
 ((20, 1), hS 100)],
 [[1, 2, 6, 10, 76, 77, 78]]⟩
def a45 : AFunc := ⟨3, 101, 6, [.cell 6 true 6, .tmp 7],
 .seq (.region false [o_ 3 (.boxL 0 (.t 0)),
 o_ 6 (.allocL 1 [(.int .i64 0), (.int .i64 0), (.int .i64 0), (.str []), .nils, .nils]),
 o_ 7 (.mv (.c (.bool false)))])
 (.seq (.region false [o_ 16 (.load true 4 (.t 3) .copy),
 o_ 17 (.callF 70 [(.u 16 .share)]),
 m_ 15 17,
 o_ 18 (.extract (.t 15) 0),
 o_ 19 (.extract (.t 15) 1),
 o_ 8 (.allocL 2 [(.int .i64 0), (.int .i64 0)]),
 ⟨none, none, false, .store 2 (.t 8) (.t 18), .none⟩,
 m_ 9 19])
 (.seq (.region true [⟨(some 20), none, false, .fieldAddr 0 (.t 3), (.fa 0)⟩,
 ⟨(some 21), none, false, .load false 1 (.t 20) .copy, (.loc 0)⟩,
 ⟨(some 22), none, false, .callP 71 [(.t 21)], .cool⟩,
 ⟨(some 23), none, false, .load true 2 (.t 8) .copy, (.loc 2)⟩,
 ⟨(some 24), none, false, .build [(.int .i64 0), (.int .i64 0), (.int .i64 0), (.str []), .nils, .nils] [(0, 1, (.t 22)), (1, 2, (.t 23))], .cool⟩,
 o_ 10 (.allocL 3 [(.int .i64 0), (.int .i64 0), (.int .i64 0), (.str []), .nils, .nils]),
 ⟨none, none, false, .store 6 (.t 10) (.u 24 .take), (.loc 3)⟩])
 (.seq (.region false [m_ 25 2,
 o_ 26 (.nilCheck (.t 25)),
 l_ 27 26,
 c_ 28 .add 27 1,
 o_ 29 (.nilCheck (.t 25)),
 s_ 29 28])
 (.seq (.seq (.region false [m_ 30 9,
 o_ 31 (.un .not (.t 30)),
 m_ 32 31,
 g_ 33 32 false (.fieldAddr 0 (.t 10)),
 g_ 34 32 false (.load false 1 (.t 33) .copy),
 g_ 35 32 false (.bin .eql (.t 34) (.c (.int .i64 0))),
 o_ 36 (.pick (.t 32) (.c (.bool true)) (.t 35)),
 m_ 37 36,
 g_ 38 37 false (.mv (.t 1)),
 g_ 39 37 false (.bin .gtr (.t 38) (.c (.int .i64 12))),
 o_ 40 (.pick (.t 37) (.c (.bool true)) (.t 39)),
 m_ 41 40,
 g_ 42 41 false (.mv (.t 2)),
 g_ 43 41 false (.nilCheck (.t 42)),
 g_ 44 41 false (.load false 1 (.t 43) .copy),
 g_ 45 41 false (.bin .gtr (.t 44) (.c (.int .i64 288))),
 o_ 46 (.pick (.t 41) (.c (.bool true)) (.t 45))])
 (.cond (.t 46)
 (.seq (.region false [o_ 47 (.load true 6 (.t 10) .take),
 ⟨none, none, false, .store 6 (.t 6) (.u 47 .share), .none⟩,
 o_ 7 (.mv (.c (.bool false)))])
 (.ret))
 (.skip)))
 (.seq (.seq (.region false [f_ 48 0 10,
 l_ 49 48,
 c_ 50 .eql 49 1])
 (.cond (.t 50)
 (.seq (.seq (.region false [f_ 51 1 3,
 o_ 52 (.load false 1 (.t 51) .peek),
 o_ 53 (.lenSl (.t 52)),
 c_ 54 .gtr 53 0,
 m_ 55 54,
 g_ 56 55 true (.fieldAddr 1 (.t 3)),
 g_ 57 55 true (.load false 1 (.t 56) .peek),
 g_ 58 55 true (.indexSl 4 (.t 57) (.c (.int .i64 0))),
 g_ 59 55 true (.fieldAddr 0 (.t 58)),
 g_ 60 55 true (.load false 1 (.t 59) .copy),
 g_ 61 55 true (.bin .eql (.t 60) (.c (.int .i64 1))),
 o_ 62 (.pick (.t 55) (.t 61) (.c (.bool false)))])
 (.cond (.t 62)
 (.region false [f_ 63 1 3,
 o_ 64 (.load false 1 (.t 63) .peek),
 o_ 65 (.indexSl 4 (.t 64) (.c (.int .i64 0))),
 f_ 66 1 65,
 l_ 67 66,
 f_ 68 3 10,
 s_ 68 67])
 (.skip)))
 (.seq (.region false [o_ 69 (.load true 6 (.t 10) .take),
 ⟨none, none, false, .store 6 (.t 6) (.u 69 .share), .none⟩,
 o_ 7 (.mv (.c (.bool true)))])
 (.ret)))
 (.skip)))
 (.seq (.seq (.region false [f_ 70 3 3,
 l_ 71 70,
 o_ 72 (.lenSl (.t 71)),
 c_ 73 .gtr 72 16])
 (.cond (.t 73)
 (.seq (.region false [o_ 74 (.load true 6 (.t 10) .take),
 ⟨none, none, false, .store 6 (.t 6) (.u 74 .share), .none⟩,
 o_ 7 (.mv (.c (.bool false)))])
 (.ret))
 (.skip)))
 (.seq (.seq (.region false [f_ 75 3 3,
 l_ 76 75,
 o_ 77 (.lenSl (.t 76)),
 i_ 78 0])
 (.block 0 (.loop [1, 2, 6, 10, 76, 77, 78] (.seq (.region false [b_ 79 .lss 78 77])
 (.seq (.cond (.t 79)
 (.skip)
 (.exit 0))
 (.seq (.block 1 (.seq (.region false [o_ 80 (.indexSl 4 (.t 76) (.t 78)),
 o_ 81 (.load true 4 (.t 80) .copy),
 o_ 12 (.allocL 4 [(.str []), .nils, .nils, .nils]),
 ⟨none, none, false, .store 4 (.t 12) (.u 81 .take), .none⟩])
 (.seq (.region false [o_ 83 (.load true 4 (.t 12) .take),
 m_ 84 1,
 c_ 85 .add 84 1,
 m_ 86 2,
 o_ 87 (.callF 45 [(.u 83 .share), (.t 85), (.t 86)]),
 m_ 82 87,
 o_ 88 (.extract (.t 82) 0),
 o_ 89 (.extract (.t 82) 1),
 o_ 13 (.allocL 5 [(.int .i64 0), (.int .i64 0), (.int .i64 0), (.str []), .nils, .nils]),
 ⟨none, none, false, .store 6 (.t 13) (.u 88 .take), .none⟩,
 m_ 14 89])
 (.seq (.seq (.region false [m_ 90 14,
 o_ 91 (.un .not (.t 90))])
 (.cond (.t 91)
 (.seq (.region false [o_ 92 (.load true 6 (.t 10) .take),
 ⟨none, none, false, .store 6 (.t 6) (.u 92 .share), .none⟩,
 o_ 7 (.mv (.c (.bool false)))])
 (.ret))
 (.skip)))
 (.region false [f_ 93 4 10,
 o_ 94 (.load false 1 (.t 93) .take),
 o_ 95 (.load true 6 (.t 13) .take),
 o_ 96 (.buildSlice 6 [(.int .i64 0), (.int .i64 0), (.int .i64 0), (.str []), .nils, .nils] 1 [(0, (.u 95 .share))]),
 o_ 97 (.append 6 (.u 94 .take) (.u 96 .take)),
 f_ 98 4 10,
 ⟨none, none, false, .store 1 (.t 98) (.u 97 .take), .none⟩])))))
 (.region false [c_ 99 .add 78 1,
 m_ 78 99])))))))
 (.seq (.region false [o_ 100 (.load true 6 (.t 10) .take),
 ⟨none, none, false, .store 6 (.t 6) (.u 100 .share), .none⟩,
 o_ 7 (.mv (.c (.bool true)))])
 (.ret)))))))))⟩
theorem c45 : zat Go.Proofs.Tryz.prog p45 45 = some a45 := by decide +kernel
def p50 : Plan := ⟨[], 1, [((0, 1), hB 0),
 ((8, 0), hT 5),
 ((8, 4), hT2 32 35),
 ((8, 5), hT 36),
 ((12, 0), hT 5),
 ((12, 2), hS 53)],
 [[0, 3, 4, 5]]⟩
def a50 : AFunc := ⟨1, 55, 1, [.tmp 2, .cell 3 true 2],
 .seq (.region false [o_ 2 (.mv (.c .nils)),
 o_ 3 (.allocL 0 [(.int .i64 0), (.int .i64 0)])])
 (.seq (.seq (.region false [m_ 6 0,
 o_ 7 (.lenStr (.t 6)),
 c_ 8 .gtr 7 4096])
 (.cond (.t 8)
 (.seq (.region false [o_ 9 (.build [(.int .i64 0), (.int .i64 0)] [(0, 1, (.c (.int .i64 2)))]),
 o_ 2 (.mv (.c .nils)),
 ⟨none, none, false, .store 2 (.t 3) (.t 9), .none⟩])
 (.ret))
 (.skip)))
 (.seq (.region false [m_ 10 0,
 o_ 11 (.build [(.str []), (.int .i64 0), (.int .i64 0), (.int .i64 0)] [(0, 1, (.t 10))]),
 o_ 12 (.boxM (.t 11)),
 m_ 4 12])
 (.seq (.region false [o_ 5 (.mv (.c .nils))])
 (.seq (.seq (.region false [m_ 13 4,
 o_ 14 (.callF 74 [(.t 13)])])
 (.block 0 (.loop [0, 3, 4, 5] (.seq (.seq (.region false [m_ 15 4,
 o_ 16 (.nilCheck (.t 15)),
 f_ 17 1 16,
 l_ 18 17,
 m_ 19 0,
 o_ 20 (.lenStr (.t 19)),
 b_ 21 .lss 18 20,
 m_ 22 21,
 g_ 23 22 true (.mv (.t 4)),
 g_ 24 22 true (.nilCheck (.t 23)),
 g_ 25 22 true (.fieldAddr 2 (.t 24)),
 g_ 26 22 true (.fieldAddr 0 (.t 25)),
 g_ 27 22 true (.load false 1 (.t 26) .copy),
 g_ 28 22 true (.bin .eql (.t 27) (.c (.int .i64 0))),
 o_ 29 (.pick (.t 22) (.t 28) (.c (.bool false)))])
 (.cond (.t 29)
 (.skip)
 (.exit 0)))
 (.seq (.block 1 (.seq (.region false [o_ 32 (.mv (.u 5 .take)),
 m_ 33 4,
 o_ 34 (.callF 75 [(.t 33)]),
 o_ 35 (.buildSlice 4 [(.int .i64 0), (.str []), (.int .i64 0), (.int .i64 0)] 1 [(0, (.t 34))]),
 o_ 36 (.append 4 (.u 32 .take) (.u 35 .take)),
 o_ 5 (.mv (.u 36 .take))])
 (.seq (.region false [m_ 37 4,
 o_ 38 (.nilCheck (.t 37)),
 f_ 39 2 38,
 f_ 40 0 39,
 l_ 41 40,
 c_ 42 .neq 41 0])
 (.cond (.t 42)
 (.exit 0)
 (.skip)))))
 (.region false [m_ 30 4,
 o_ 31 (.callF 74 [(.t 30)])]))))))
 (.seq (.seq (.region false [m_ 43 4,
 o_ 44 (.nilCheck (.t 43)),
 f_ 45 2 44,
 f_ 46 0 45,
 l_ 47 46,
 c_ 48 .neq 47 0])
 (.cond (.t 48)
 (.seq (.region true [m_ 49 4,
 o_ 50 (.nilCheck (.t 49)),
 f_ 51 2 50,
 o_ 52 (.load true 2 (.t 51) .copy),
 o_ 2 (.mv (.c .nils)),
 ⟨none, none, false, .store 2 (.t 3) (.t 52), .none⟩])
 (.ret))
 (.skip)))
 (.seq (.region false [o_ 53 (.mv (.u 5 .take)),
 o_ 54 (.build [(.int .i64 0), (.int .i64 0)] []),
 o_ 2 (.mv (.u 53 .share)),
 ⟨none, none, false, .store 2 (.t 3) (.t 54), .none⟩])
 (.ret)))))))⟩
theorem c50 : zat Go.Proofs.Tryz.prog p50 50 = some a50 := by decide +kernel
def p51 : Plan := ⟨[], 1, [((3, 2), hB 0),
 ((7, 1), hP),
 ((8, 0), hT 5),
 ((8, 4), hS 33),
 ((8, 5), hT2 30 34),
 ((8, 6), hT 35),
 ((4, 0), hT 5),
 ((4, 1), hT 15)],
 [[0, 1, 5]]⟩
def a51 : AFunc := ⟨2, 36, 1, [.tmp 4],
 .seq (.region false [o_ 4 (.mv (.c .nils))])
 (.seq (.region false [o_ 5 (.mv (.c .nils))])
 (.seq (.block 0 (.loop [0, 1, 5] (.seq (.seq (.region false [m_ 7 0,
 o_ 8 (.nilCheck (.t 7)),
 f_ 9 4 8,
 f_ 10 0 9,
 l_ 11 10,
 c_ 12 .eql 11 0])
 (.cond (.t 12)
 (.skip)
 (.exit 0)))
 (.block 1 (.seq (.region false [m_ 13 0,
 o_ 14 (.callF 76 [(.t 13), (.c (.int .i64 0))]),
 o_ 6 (.allocL 0 [(.int .i64 0), (.str []), (.int .i64 0), (.int .i64 0)]),
 ⟨none, none, false, .store 4 (.t 6) (.t 14), .none⟩])
 (.block 2 (.seq (.region false [f_ 17 0 6,
 l_ 18 17,
 c_ 19 .eql 18 5,
 m_ 16 19])
 (.cond (.t 16)
 (.region false [m_ 20 0,
 o_ 21 (.nilCheck (.t 20)),
 f_ 22 1 21,
 l_ 23 22,
 c_ 24 .add 23 1,
 o_ 25 (.nilCheck (.t 20)),
 f_ 26 1 25,
 s_ 26 24])
 (.seq (.region false [o_ 28 (.load true 4 (.t 6) .copy),
 o_ 29 (.callP 77 [(.t 28)]),
 m_ 27 29])
 (.cond (.t 27)
 (.region false [o_ 30 (.mv (.u 5 .take)),
 m_ 31 0,
 m_ 32 1,
 o_ 33 (.callF 78 [(.t 31), (.t 32)]),
 o_ 34 (.buildSlice 4 [(.str []), .nils, .nils, .nils] 1 [(0, (.u 33 .share))]),
 o_ 35 (.append 4 (.u 30 .take) (.u 34 .take)),
 o_ 5 (.mv (.u 35 .take))])
 (.seq (.region false [o_ 15 (.mv (.u 5 .take)),
 o_ 4 (.mv (.u 15 .take))])
 (.ret))))))))))))
 (.seq (.region false [o_ 4 (.mv (.c .nils))])
 (.ret))))⟩
def v51 : List Nat := [0, 1, 4, 5, 6, 12, 16, 27]
theorem c51 : zat Go.Proofs.Tryz.prog p51 51 = some a51 := by decide +kernel
def p52 : Plan := ⟨[], 0, [],
 []⟩
def a52 : AFunc := ⟨1, 23, 0, [],
 .seq (.seq (.region true [m_ 2 0,
 o_ 3 (.nilCheck (.t 2)),
 f_ 4 1 3,
 l_ 5 4,
 m_ 6 0,
 o_ 7 (.nilCheck (.t 6)),
 f_ 8 0 7,
 l_ 9 8,
 o_ 10 (.lenSl (.t 9)),
 b_ 11 .geq 5 10])
 (.cond (.t 11)
 (.seq (.region false [m_ 12 0,
 m_ 13 0,
 o_ 14 (.nilCheck (.t 13)),
 f_ 15 2 14,
 l_ 16 15,
 o_ 17 (.callF 79 [(.t 12), (.c (.int .i64 82)), (.t 16)])])
 (.ret))
 (.skip)))
 (.region false [m_ 18 0,
 m_ 19 0,
 o_ 20 (.callF 76 [(.t 19), (.c (.int .i64 0))]),
 o_ 21 (.field false 1 3 (.t 20)),
 o_ 22 (.callF 79 [(.t 18), (.c (.int .i64 80)), (.t 21)])])⟩
theorem c52 : zat Go.Proofs.Tryz.prog p52 52 = some a52 := by decide +kernel
def p53 : Plan := ⟨[], 1, [((0, 0), hB 0),
 ((1, 1), hP)],
 []⟩
def a53 : AFunc := ⟨3, 37, 1, [.tmp 6],
 .seq (.region false [o_ 3 (.boxL 0 (.t 0)),
 o_ 6 (.mv (.c (.bool false)))])
 (.seq (.region false [o_ 7 (.load true 4 (.t 3) .copy),
 o_ 8 (.callP 25 [(.t 7)]),
 ⟨none, none, false, .store 4 (.t 3) (.t 8), .none⟩])
 (.seq (.region false [m_ 9 1,
 f_ 10 0 3,
 l_ 11 10,
 b_ 12 .geq 9 11,
 m_ 13 12,
 g_ 14 13 true (.mv (.t 1)),
 g_ 15 13 true (.fieldAddr 0 (.t 3)),
 g_ 16 13 true (.load false 1 (.t 15) .copy),
 g_ 17 13 true (.fieldAddr 2 (.t 3)),
 g_ 18 13 true (.load false 1 (.t 17) .copy),
 g_ 19 13 true (.bin .add (.t 16) (.t 18)),
 g_ 20 13 true (.bin .lss (.t 14) (.t 19)),
 o_ 21 (.pick (.t 13) (.t 20) (.c (.bool false))),
 m_ 22 21,
 g_ 23 22 true (.mv (.t 2)),
 g_ 24 22 true (.fieldAddr 1 (.t 3)),
 g_ 25 22 true (.load false 1 (.t 24) .copy),
 g_ 26 22 true (.bin .geq (.t 23) (.t 25)),
 o_ 27 (.pick (.t 22) (.t 26) (.c (.bool false))),
 m_ 28 27,
 g_ 29 28 true (.mv (.t 2)),
 g_ 30 28 true (.fieldAddr 1 (.t 3)),
 g_ 31 28 true (.load false 1 (.t 30) .copy),
 g_ 32 28 true (.fieldAddr 3 (.t 3)),
 g_ 33 28 true (.load false 1 (.t 32) .copy),
 g_ 34 28 true (.bin .add (.t 31) (.t 33)),
 g_ 35 28 true (.bin .lss (.t 29) (.t 34)),
 o_ 36 (.pick (.t 28) (.t 35) (.c (.bool false))),
 m_ 6 36])
 (.ret)))⟩
def v53 : List Nat := [0, 1, 2, 3, 6]
theorem c53 : zat Go.Proofs.Tryz.prog p53 53 = some a53 := by decide +kernel
def p55 : Plan := ⟨[], 0, [],
 []⟩
def a55 : AFunc := ⟨3, 12, 0, [.tmp 6],
 .seq (.region false [i_ 6 0])
 (.seq (.region false [m_ 7 1,
 m_ 8 0,
 m_ 9 2,
 o_ 10 (.minMax false (.t 8) [(.t 9)]),
 o_ 11 (.minMax true (.t 7) [(.t 10)]),
 m_ 6 11])
 (.ret))⟩
theorem c55 : zat Go.Proofs.Tryz.prog p55 55 = some a55 := by decide +kernel
def p56 : Plan := ⟨[], 0, [((1, 2), hS 5)],
 []⟩
def a56 : AFunc := ⟨2, 9, 0, [.tmp 4],
 .seq (.region false [o_ 4 (.mv (.c (.bool false)))])
 (.seq (.region false [m_ 5 0,
 m_ 6 1,
 o_ 7 (.callF 80 [(.u 5 .share), (.t 6)]),
 c_ 8 .geq 7 0,
 m_ 4 8])
 (.ret))⟩
theorem c56 : zat Go.Proofs.Tryz.prog p56 56 = some a56 := by decide +kernel
def p57 : Plan := ⟨[], 1, [((0, 0), hB 0),
 ((1, 1), hP)],
 []⟩
def a57 : AFunc := ⟨1, 6, 1, [.tmp 2],
 .seq (.region false [o_ 1 (.boxL 0 (.t 0)),
 o_ 2 (.mv (.c (.bool false)))])
 (.seq (.region false [o_ 3 (.load true 2 (.t 1) .copy),
 o_ 4 (.callP 58 [(.t 3)]),
 c_ 5 .neq 4 0,
 m_ 2 5])
 (.ret))⟩
theorem c57 : zat Go.Proofs.Tryz.prog p57 57 = some a57 := by decide +kernel
def p58 : Plan := ⟨[], 1, [((0, 0), hB 0)],
 []⟩
def a58 : AFunc := ⟨1, 35, 1, [.tmp 2],
 .seq (.region false [o_ 1 (.boxL 0 (.t 0)),
 i_ 2 0])
 (.seq (.block 0 (.seq (.region false [f_ 4 0 1,
 l_ 5 4,
 c_ 6 .eql 5 0,
 m_ 3 6])
 (.cond (.t 3)
 (.skip)
 (.seq (.region false [f_ 8 0 1,
 l_ 9 8,
 c_ 10 .eql 9 1,
 m_ 11 10,
 g_ 12 11 true (.fieldAddr 1 (.t 1)),
 g_ 13 11 true (.load false 1 (.t 12) .copy),
 g_ 14 11 true (.bin .geq (.t 13) (.c (.int .i64 1))),
 o_ 15 (.pick (.t 11) (.t 14) (.c (.bool false))),
 m_ 16 15,
 g_ 17 16 true (.fieldAddr 1 (.t 1)),
 g_ 18 16 true (.load false 1 (.t 17) .copy),
 g_ 19 16 true (.bin .leq (.t 18) (.c (.int .i64 200))),
 o_ 20 (.pick (.t 16) (.t 19) (.c (.bool false))),
 m_ 7 20])
 (.cond (.t 7)
 (.skip)
 (.seq (.region false [f_ 22 0 1,
 l_ 23 22,
 c_ 24 .eql 23 2,
 m_ 25 24,
 g_ 26 25 true (.fieldAddr 1 (.t 1)),
 g_ 27 25 true (.load false 1 (.t 26) .copy),
 g_ 28 25 true (.bin .geq (.t 27) (.c (.int .i64 1))),
 o_ 29 (.pick (.t 25) (.t 28) (.c (.bool false))),
 m_ 30 29,
 g_ 31 30 true (.fieldAddr 1 (.t 1)),
 g_ 32 30 true (.load false 1 (.t 31) .copy),
 g_ 33 30 true (.bin .leq (.t 32) (.c (.int .i64 100))),
 o_ 34 (.pick (.t 30) (.t 33) (.c (.bool false))),
 m_ 21 34])
 (.cond (.t 21)
 (.skip)
 (.seq (.region false [i_ 2 1])
 (.ret)))))))))
 (.seq (.region false [i_ 2 0])
 (.ret)))⟩
theorem c58 : zat Go.Proofs.Tryz.prog p58 58 = some a58 := by decide +kernel
def p59 : Plan := ⟨[], 1, [((0, 0), hB 0)],
 []⟩
def a59 : AFunc := ⟨2, 19, 1, [.tmp 4],
 .seq (.region false [o_ 3 (.boxL 0 (.t 1)),
 i_ 4 0])
 (.seq (.seq (.region false [f_ 5 0 3,
 l_ 6 5])
 (.block 0 (.seq (.region false [c_ 8 .eql 6 1,
 m_ 7 8])
 (.cond (.t 7)
 (.seq (.region false [f_ 9 1 3,
 l_ 10 9,
 m_ 4 10])
 (.ret))
 (.seq (.region false [c_ 12 .eql 6 2,
 m_ 11 12])
 (.cond (.t 11)
 (.seq (.region false [m_ 13 0,
 f_ 14 1 3,
 l_ 15 14,
 b_ 16 .mul 13 15,
 c_ 17 .quo 16 100,
 o_ 18 (.minMax true (.t 17) [(.c (.int .i64 1))]),
 m_ 4 18])
 (.ret))
 (.skip)))))))
 (.seq (.region false [i_ 4 1])
 (.ret)))⟩
theorem c59 : zat Go.Proofs.Tryz.prog p59 59 = some a59 := by decide +kernel
def p60 : Plan := ⟨[], 0, [],
 []⟩
def a60 : AFunc := ⟨2, 32, 0, [.tmp 4],
 .seq (.region false [i_ 4 0])
 (.seq (.region false [m_ 6 0,
 m_ 7 1,
 b_ 8 .add 6 7,
 m_ 5 8])
 (.block 0 (.seq (.region false [m_ 11 0,
 c_ 12 .gtr 11 0,
 m_ 13 12,
 g_ 14 13 true (.mv (.t 1)),
 g_ 15 13 true (.bin .gtr (.t 14) (.c (.int .i64 0))),
 o_ 16 (.pick (.t 13) (.t 15) (.c (.bool false))),
 m_ 17 16,
 g_ 18 17 true (.mv (.t 5)),
 g_ 19 17 true (.bin .lss (.t 18) (.c (.int .i64 0))),
 o_ 20 (.pick (.t 17) (.t 19) (.c (.bool false))),
 m_ 10 20])
 (.cond (.t 10)
 (.seq (.region false [i_ 4 9223372036854775807])
 (.ret))
 (.seq (.region false [m_ 22 0,
 c_ 23 .lss 22 0,
 m_ 24 23,
 g_ 25 24 true (.mv (.t 1)),
 g_ 26 24 true (.bin .lss (.t 25) (.c (.int .i64 0))),
 o_ 27 (.pick (.t 24) (.t 26) (.c (.bool false))),
 m_ 28 27,
 g_ 29 28 true (.mv (.t 5)),
 g_ 30 28 true (.bin .geq (.t 29) (.c (.int .i64 0))),
 o_ 31 (.pick (.t 28) (.t 30) (.c (.bool false))),
 m_ 21 31])
 (.cond (.t 21)
 (.seq (.region false [i_ 4 (-9223372036854775808)])
 (.ret))
 (.seq (.region false [m_ 9 5,
 m_ 4 9])
 (.ret))))))))⟩
theorem c60 : zat Go.Proofs.Tryz.prog p60 60 = some a60 := by decide +kernel
def p61 : Plan := ⟨[], 1, [((0, 0), hB 0),
 ((1, 9), hP)],
 []⟩
def a61 : AFunc := ⟨4, 19, 1, [.cell 8 true 4],
 .seq (.region false [o_ 8 (.allocL 0 [(.int .i64 0), (.int .i64 0), (.int .i64 0), (.int .i64 0)])])
 (.seq (.region false [m_ 9 0,
 m_ 10 1,
 m_ 11 2,
 m_ 12 0,
 b_ 13 .sub 11 12,
 m_ 14 3,
 m_ 15 1,
 b_ 16 .sub 14 15,
 o_ 17 (.build [(.int .i64 0), (.int .i64 0), (.int .i64 0), (.int .i64 0)] [(0, 1, (.t 9)), (1, 1, (.t 10)), (2, 1, (.t 13)), (3, 1, (.t 16))]),
 o_ 18 (.callP 25 [(.t 17)]),
 ⟨none, none, false, .store 4 (.t 8) (.t 18), .none⟩])
 (.ret))⟩
theorem c61 : zat Go.Proofs.Tryz.prog p61 61 = some a61 := by decide +kernel
def p62 : Plan := ⟨[11, 60], 4, [((0, 0), hB 0),
 ((0, 1), hB 1),
 ((7, 2), hB 2),
 ((7, 3), hT 30),
 ((8, 0), hT 8),
 ((8, 4), hT2 31 34),
 ((8, 5), hT 35),
 ((10, 1), { mode := .share }),
 ((10, 2), hU 39),
 ((10, 6), hT 41),
 ((12, 3), hT 47),
 ((13, 0), hK 11),
 ((16, 0), hK 11),
 ((18, 1), hT 11),
 ((18, 3), hU 58),
 ((18, 4), hK 60),
 ((20, 1), hK 60),
 ((20, 3), hB 3),
 ((21, 7), hS 72)],
 [[0, 4, 5, 6, 7, 8, 25, 26, 27], [0, 4, 5, 7, 11, 49, 50], [0, 4, 60, 61, 62]]⟩
def a62 : AFunc := ⟨3, 76, 4, [],
 .seq (.region false [o_ 4 (.boxL 0 (.t 1)),
 o_ 5 (.boxL 1 (.t 2))])
 (.seq (.region true [f_ 16 2 5,
 l_ 17 16,
 f_ 18 0 4,
 l_ 19 18,
 c_ 20 .eql 19 3,
 m_ 6 17,
 m_ 7 20])
 (.seq (.seq (.region false [m_ 21 7])
 (.cond (.t 21)
 (.region false [f_ 22 3 5,
 l_ 23 22,
 m_ 6 23])
 (.skip)))
 (.seq (.region false [o_ 8 (.mv (.c .nils))])
 (.seq (.seq (.region false [f_ 24 4 4,
 l_ 25 24,
 o_ 26 (.lenSl (.t 25)),
 i_ 27 0])
 (.block 0 (.loop [0, 4, 5, 6, 7, 8, 25, 26, 27] (.seq (.region false [b_ 28 .lss 27 26])
 (.seq (.cond (.t 28)
 (.skip)
 (.exit 0))
 (.seq (.block 1 (.seq (.region false [o_ 29 (.indexSl 6 (.t 25) (.t 27)),
 o_ 30 (.load true 6 (.t 29) .copy),
 o_ 10 (.allocL 2 [(.int .i64 0), (.int .i64 0), (.int .i64 0), (.str []), .nils, .nils]),
 ⟨none, none, false, .store 6 (.t 10) (.u 30 .take), .none⟩])
 (.region false [o_ 31 (.mv (.u 8 .take)),
 f_ 32 1 10,
 o_ 33 (.load true 2 (.t 32) .copy),
 o_ 34 (.buildSlice 2 [(.int .i64 0), (.int .i64 0)] 1 [(0, (.t 33))]),
 o_ 35 (.append 2 (.u 31 .take) (.u 34 .take)),
 o_ 8 (.mv (.u 35 .take))])))
 (.region false [c_ 36 .add 27 1,
 m_ 27 36])))))))
 (.seq (.region false [m_ 38 6,
 o_ 39 (.mvK 8),
 o_ 40 (.callP 27 [(.t 38), (.u 39 .share)]),
 m_ 37 40,
 o_ 41 (.extract (.t 37) 0),
 o_ 42 (.extract (.t 37) 1),
 k_ 11 41,
 m_ 12 42])
 (.seq (.seq (.region false [m_ 43 12,
 c_ 44 .neq 43 0])
 (.cond (.t 44)
 (.seq (.region false [m_ 45 8,
 o_ 46 (.lenSl (.t 45)),
 o_ 47 (.makeSlice 1 [(.int .i64 0)] (.t 46) (.t 46)),
 k_ 11 47])
 (.seq (.region false [o_ 48 (.mv (.u 11 .peek)),
 o_ 49 (.lenSl (.t 48)),
 i_ 50 0])
 (.block 2 (.loop [0, 4, 5, 7, 11, 49, 50] (.seq (.region false [b_ 51 .lss 50 49])
 (.seq (.cond (.t 51)
 (.skip)
 (.exit 2))
 (.seq (.block 3 (.seq (.region false [m_ 52 50,
 m_ 13 52])
 (.region false [o_ 53 (.mv (.u 11 .peek)),
 m_ 54 13,
 o_ 55 (.indexSl 1 (.t 53) (.t 54)),
 ⟨none, none, false, .store 1 (.t 55) (.c (.int .i64 1)), .none⟩])))
 (.region false [c_ 56 .add 50 1,
 m_ 50 56]))))))))
 (.skip)))
 (.seq (.region false [o_ 57 (.load true 4 (.t 5) .copy),
 o_ 58 (.mv (.u 11 .take)),
 m_ 59 7,
 ⟨(some 60), none, true, .callP 81 [(.t 57), (.u 58 .share), (.t 59)], .none⟩,
 o_ 61 (.lenSl (.u 60 .peek)),
 i_ 62 0])
 (.block 4 (.loop [0, 4, 60, 61, 62] (.seq (.region false [b_ 63 .lss 62 61])
 (.seq (.cond (.t 63)
 (.skip)
 (.exit 4))
 (.seq (.block 5 (.seq (.region false [m_ 64 62,
 o_ 65 (.indexSl 4 (.u 60 .peek) (.t 62)),
 o_ 66 (.load true 4 (.t 65) .copy),
 o_ 15 (.allocL 3 [(.int .i64 0), (.int .i64 0), (.int .i64 0), (.int .i64 0)]),
 m_ 14 64,
 ⟨none, none, false, .store 4 (.t 15) (.t 66), .none⟩])
 (.region true [m_ 67 0,
 f_ 68 4 4,
 l_ 69 68,
 m_ 70 14,
 o_ 71 (.indexSl 6 (.t 69) (.t 70)),
 o_ 72 (.load true 6 (.t 71) .copy),
 o_ 73 (.load true 4 (.t 15) .copy),
 o_ 74 (.callF 35 [(.t 67), (.u 72 .share), (.t 73)])])))
 (.region false [c_ 75 .add 62 1,
 m_ 62 75])))))))))))))⟩
theorem c62 : zat Go.Proofs.Tryz.prog p62 62 = some a62 := by decide +kernel
def p69 : Plan := ⟨[], 3, [((0, 0), hB 0),
 ((0, 1), hB 1),
 ((3, 2), hB 2)],
 [[1, 4, 8, 9, 10]]⟩
def a69 : AFunc := ⟨2, 22, 3, [.cell 4 true 4],
 .seq (.region false [o_ 2 (.boxL 0 (.t 0)),
 o_ 4 (.allocL 1 [(.int .i64 0), (.str []), (.int .i64 0), (.bool false)])])
 (.seq (.seq (.region false [f_ 7 2 2,
 l_ 8 7,
 o_ 9 (.lenSl (.t 8)),
 i_ 10 0])
 (.block 0 (.loop [1, 4, 8, 9, 10] (.seq (.region false [b_ 11 .lss 10 9])
 (.seq (.cond (.t 11)
 (.skip)
 (.exit 0))
 (.seq (.block 1 (.seq (.region false [o_ 12 (.indexSl 5 (.t 8) (.t 10)),
 o_ 13 (.load true 5 (.t 12) .copy),
 o_ 6 (.allocL 2 [(.str []), (.int .i64 0), (.str []), (.int .i64 0), (.bool false)]),
 ⟨none, none, false, .store 5 (.t 6) (.t 13), .none⟩])
 (.seq (.region false [f_ 14 0 6,
 l_ 15 14,
 m_ 16 1,
 b_ 17 .eql 15 16])
 (.cond (.t 17)
 (.seq (.region false [f_ 18 1 6,
 o_ 19 (.load true 4 (.t 18) .copy),
 ⟨none, none, false, .store 4 (.t 4) (.t 19), .none⟩])
 (.ret))
 (.skip)))))
 (.region false [c_ 20 .add 10 1,
 m_ 10 20])))))))
 (.seq (.region false [o_ 21 (.build [(.int .i64 0), (.str []), (.int .i64 0), (.bool false)] []),
 ⟨none, none, false, .store 4 (.t 4) (.t 21), .none⟩])
 (.ret)))⟩
theorem c69 : zat Go.Proofs.Tryz.prog p69 69 = some a69 := by decide +kernel
def p70 : Plan := ⟨[], 4, [((10, 4), hM 1),
 ((10, 2), hG),
 ((10, 1), hM 3),
 ((10, 0), hM 3),
 ((0, 0), hB 0),
 ((0, 1), hB 1),
 ((1, 1), hS 9),
 ((1, 2), hB 2),
 ((2, 0), hB 3),
 ((5, 6), hP),
 ((6, 2), hP)],
 []⟩
def a70 : AFunc := ⟨1, 49, 4, [.cell 2 true 2, .tmp 3],
 .seq (.region false [o_ 1 (.boxL 0 (.t 0)),
 o_ 2 (.allocL 1 [(.int .i64 0), (.int .i64 0)]),
 o_ 3 (.mv (.c (.bool false)))])
 (.seq (.region false [o_ 9 (.load true 4 (.t 1) .copy),
 o_ 10 (.callF 69 [(.u 9 .share), (.c (.str [115, 105, 122, 101]))]),
 o_ 4 (.allocL 2 [(.int .i64 0), (.str []), (.int .i64 0), (.bool false)]),
 ⟨none, none, false, .store 4 (.t 4) (.t 10), .none⟩])
 (.seq (.region false [o_ 5 (.allocL 3 [(.int .i64 0), (.int .i64 0)])])
 (.seq (.block 0 (.seq (.region false [f_ 12 0 4,
 l_ 13 12,
 c_ 14 .eql 13 2,
 m_ 11 14])
 (.cond (.t 11)
 (.region false [f_ 15 2 4,
 l_ 16 15,
 o_ 17 (.build [(.int .i64 0), (.int .i64 0)] [(0, 1, (.c (.int .i64 1))), (1, 1, (.t 16))]),
 ⟨none, none, false, .store 2 (.t 5) (.t 17), .none⟩])
 (.seq (.region false [f_ 19 0 4,
 l_ 20 19,
 c_ 21 .eql 20 1,
 m_ 22 21,
 g_ 23 22 true (.fieldAddr 1 (.t 4)),
 g_ 24 22 true (.load false 1 (.t 23) .copy),
 g_ 25 22 true (.callP 85 [(.t 24), (.c (.str [37]))]),
 o_ 26 (.pick (.t 22) (.t 25) (.c (.bool false))),
 m_ 18 26])
 (.cond (.t 18)
 (.seq (.region false [f_ 27 1 4,
 l_ 28 27,
 o_ 29 (.callP 86 [(.t 28), (.c (.str [37]))]),
 m_ 6 29])
 (.seq (.region false [m_ 31 6,
 o_ 32 (.callF 87 [(.t 31), (.c (.int .i64 10)), (.c (.int .i64 16))]),
 m_ 30 32,
 o_ 33 (.extract (.t 30) 0),
 o_ 34 (.extract (.t 30) 1),
 m_ 7 33,
 m_ 8 34])
 (.seq (.region false [m_ 35 8,
 o_ 36 (.eq false .iface (.t 35) (.c .nili)),
 m_ 37 36,
 g_ 38 37 true (.mv (.t 6)),
 g_ 39 37 true (.lenStr (.t 38)),
 g_ 40 37 true (.bin .leq (.t 39) (.c (.int .i64 3))),
 o_ 41 (.pick (.t 37) (.t 40) (.c (.bool false)))])
 (.cond (.t 41)
 (.region false [m_ 42 7,
 o_ 43 (.conv .i64 (.t 42)),
 o_ 44 (.build [(.int .i64 0), (.int .i64 0)] [(0, 1, (.c (.int .i64 2))), (1, 1, (.t 43))]),
 ⟨none, none, false, .store 2 (.t 5) (.t 44), .none⟩])
 (.skip)))))
 (.skip))))))
 (.seq (.region true [⟨(some 45), none, false, .load true 2 (.t 5) .copy, (.loc 3)⟩,
 ⟨(some 46), none, false, .load true 2 (.t 5) .copy, (.loc 3)⟩,
 ⟨(some 47), none, false, .callP 58 [(.t 46)], .free⟩,
 c_ 48 .eql 47 0,
 ⟨none, none, false, .store 2 (.t 2) (.t 45), (.loc 1)⟩,
 m_ 3 48])
 (.ret)))))⟩
theorem c70 : zat Go.Proofs.Tryz.prog p70 70 = some a70 := by decide +kernel
def p71 : Plan := ⟨[], 0, [],
 []⟩
def a71 : AFunc := ⟨1, 12, 0, [.tmp 2],
 .seq (.region false [i_ 2 0])
 (.seq (.seq (.region false [m_ 3 0])
 (.block 0 (.seq (.region false [o_ 5 (.bin .eql (.t 3) (.c (.str [112, 97, 110, 101]))),
 m_ 4 5])
 (.cond (.t 4)
 (.seq (.region false [i_ 2 1])
 (.ret))
 (.seq (.region false [o_ 7 (.bin .eql (.t 3) (.c (.str [99, 111, 108, 115]))),
 m_ 6 7])
 (.cond (.t 6)
 (.seq (.region false [i_ 2 2])
 (.ret))
 (.seq (.region false [o_ 9 (.bin .eql (.t 3) (.c (.str [114, 111, 119, 115]))),
 m_ 8 9])
 (.cond (.t 8)
 (.seq (.region false [i_ 2 3])
 (.ret))
 (.seq (.region false [o_ 11 (.bin .eql (.t 3) (.c (.str [115, 116, 97, 99, 107]))),
 m_ 10 11])
 (.cond (.t 10)
 (.seq (.region false [i_ 2 4])
 (.ret))
 (.skip)))))))))))
 (.seq (.region false [i_ 2 0])
 (.ret)))⟩
theorem c71 : zat Go.Proofs.Tryz.prog p71 71 = some a71 := by decide +kernel
def p74 : Plan := ⟨[], 0, [((2, 2), hP),
 ((4, 1), hP),
 ((5, 1), hP),
 ((9, 1), hP),
 ((10, 2), hP)],
 [[0]]⟩
def a74 : AFunc := ⟨1, 81, 0, [],
 .block 0 (.loop [0] (.seq (.seq (.region true [m_ 5 0,
 o_ 6 (.nilCheck (.t 5)),
 f_ 7 1 6,
 l_ 8 7,
 m_ 9 0,
 o_ 10 (.nilCheck (.t 9)),
 f_ 11 0 10,
 l_ 12 11,
 o_ 13 (.lenStr (.t 12)),
 b_ 14 .lss 8 13])
 (.cond (.t 14)
 (.skip)
 (.exit 0)))
 (.block 1 (.seq (.region true [m_ 15 0,
 o_ 16 (.nilCheck (.t 15)),
 f_ 17 0 16,
 l_ 18 17,
 m_ 19 0,
 o_ 20 (.nilCheck (.t 19)),
 f_ 21 1 20,
 l_ 22 21,
 o_ 23 (.sliceS (.t 18) (some (.t 22)) none),
 m_ 2 23])
 (.block 2 (.seq (.region false [m_ 25 2,
 o_ 26 (.indexStr (.t 25) (.c (.int .i64 0))),
 o_ 27 (.callP 88 [(.t 26)]),
 m_ 24 27])
 (.cond (.t 24)
 (.region false [m_ 28 0,
 o_ 29 (.nilCheck (.t 28)),
 f_ 30 1 29,
 l_ 31 30,
 c_ 32 .add 31 1,
 o_ 33 (.nilCheck (.t 28)),
 f_ 34 1 33,
 s_ 34 32])
 (.seq (.region false [m_ 36 2,
 o_ 37 (.callP 89 [(.t 36), (.c (.str [47, 47]))]),
 m_ 35 37])
 (.cond (.t 35)
 (.seq (.region false [m_ 38 2,
 o_ 39 (.callP 90 [(.t 38), (.c (.int .u8 10))]),
 m_ 3 39])
 (.seq (.region false [m_ 40 3,
 c_ 41 .geq 40 0])
 (.cond (.t 41)
 (.region false [m_ 42 0,
 o_ 43 (.nilCheck (.t 42)),
 f_ 44 1 43,
 l_ 45 44,
 m_ 46 3,
 b_ 47 .add 45 46,
 o_ 48 (.nilCheck (.t 42)),
 f_ 49 1 48,
 s_ 49 47])
 (.region false [m_ 50 0,
 m_ 51 0,
 o_ 52 (.nilCheck (.t 51)),
 f_ 53 0 52,
 l_ 54 53,
 o_ 55 (.lenStr (.t 54)),
 o_ 56 (.nilCheck (.t 50)),
 f_ 57 1 56,
 s_ 57 55]))))
 (.seq (.region false [m_ 59 2,
 o_ 60 (.callP 89 [(.t 59), (.c (.str [47, 42]))]),
 m_ 58 60])
 (.cond (.t 58)
 (.seq (.region false [m_ 61 2,
 o_ 62 (.sliceS (.t 61) (some (.c (.int .i64 2))) none),
 o_ 63 (.callP 91 [(.t 62), (.c (.str [42, 47]))]),
 m_ 4 63])
 (.seq (.seq (.region false [m_ 64 4,
 c_ 65 .lss 64 0])
 (.cond (.t 65)
 (.seq (.region false [m_ 66 0,
 m_ 67 0,
 o_ 68 (.nilCheck (.t 67)),
 f_ 69 1 68,
 l_ 70 69,
 o_ 71 (.callF 92 [(.t 66), (.c (.int .i64 71)), (.t 70)])])
 (.ret))
 (.skip)))
 (.region false [m_ 72 0,
 o_ 73 (.nilCheck (.t 72)),
 f_ 74 1 73,
 l_ 75 74,
 m_ 76 4,
 c_ 77 .add 76 4,
 b_ 78 .add 75 77,
 o_ 79 (.nilCheck (.t 72)),
 f_ 80 1 79,
 s_ 80 78])))
 (.ret))))))))))))⟩
theorem c74 : zat Go.Proofs.Tryz.prog p74 74 = some a74 := by decide +kernel
def p75 : Plan := ⟨[], 2, [((0, 0), hB 0),
 ((1, 5), hB 1),
 ((14, 1), hP),
 ((14, 8), hP),
 ((20, 5), hP),
 ((22, 1), hP)],
 []⟩
def a75 : AFunc := ⟨1, 129, 2, [.cell 2 true 4],
 .seq (.region false [o_ 2 (.allocL 0 [(.int .i64 0), (.str []), (.int .i64 0), (.int .i64 0)])])
 (.seq (.region false [m_ 6 0,
 o_ 7 (.nilCheck (.t 6)),
 f_ 8 1 7,
 l_ 9 8,
 o_ 10 (.build [(.int .i64 0), (.str []), (.int .i64 0), (.int .i64 0)] [(3, 1, (.t 9))]),
 o_ 3 (.allocL 1 [(.int .i64 0), (.str []), (.int .i64 0), (.int .i64 0)]),
 ⟨none, none, false, .store 4 (.t 3) (.t 10), .none⟩])
 (.seq (.seq (.region false [m_ 11 0,
 o_ 12 (.callF 93 [(.t 11), (.c (.int .i64 0))]),
 m_ 4 12])
 (.block 0 (.seq (.region false [m_ 20 4,
 o_ 21 (.bin .eql (.t 20) (.c (.int .u8 10))),
 m_ 22 21,
 g_ 23 22 false (.mv (.t 4)),
 g_ 24 22 false (.bin .eql (.t 23) (.c (.int .u8 59))),
 o_ 25 (.pick (.t 22) (.c (.bool true)) (.t 24)),
 m_ 19 25])
 (.cond (.t 19)
 (.seq (.region false [f_ 26 0 3,
 ⟨none, none, false, .store 1 (.t 26) (.c (.int .i64 5)), .none⟩])
 (.region false [m_ 27 0,
 o_ 28 (.nilCheck (.t 27)),
 f_ 29 1 28,
 l_ 30 29,
 c_ 31 .add 30 1,
 o_ 32 (.nilCheck (.t 27)),
 f_ 33 1 32,
 s_ 33 31]))
 (.seq (.region false [m_ 35 4,
 o_ 36 (.bin .eql (.t 35) (.c (.int .u8 123))),
 m_ 37 36,
 g_ 38 37 false (.mv (.t 4)),
 g_ 39 37 false (.bin .eql (.t 38) (.c (.int .u8 125))),
 o_ 40 (.pick (.t 37) (.c (.bool true)) (.t 39)),
 m_ 41 40,
 g_ 42 41 false (.mv (.t 4)),
 g_ 43 41 false (.bin .eql (.t 42) (.c (.int .u8 61))),
 o_ 44 (.pick (.t 41) (.c (.bool true)) (.t 43)),
 m_ 34 44])
 (.cond (.t 34)
 (.seq (.region false [f_ 45 0 3,
 ⟨none, none, false, .store 1 (.t 45) (.c (.int .i64 4)), .none⟩])
 (.region false [m_ 46 0,
 o_ 47 (.nilCheck (.t 46)),
 f_ 48 1 47,
 l_ 49 48,
 c_ 50 .add 49 1,
 o_ 51 (.nilCheck (.t 46)),
 f_ 52 1 51,
 s_ 52 50]))
 (.seq (.region false [m_ 54 4,
 o_ 55 (.bin .eql (.t 54) (.c (.int .u8 34))),
 m_ 53 55])
 (.cond (.t 53)
 (.seq (.region false [f_ 56 0 3,
 ⟨none, none, false, .store 1 (.t 56) (.c (.int .i64 2)), .none⟩])
 (.seq (.region false [m_ 57 0,
 o_ 58 (.callF 94 [(.t 57)]),
 f_ 59 1 3,
 s_ 59 58])
 (.seq (.region false [o_ 60 (.load true 4 (.t 3) .copy),
 ⟨none, none, false, .store 4 (.t 2) (.t 60), .none⟩])
 (.ret))))
 (.seq (.region false [m_ 62 4,
 o_ 63 (.callP 95 [(.t 62)]),
 m_ 64 63,
 g_ 65 64 false (.mv (.t 4)),
 g_ 66 64 false (.bin .eql (.t 65) (.c (.int .u8 45))),
 g_ 67 64 false (.mv (.t 66)),
 g_ 68 67 true (.mv (.t 0)),
 g_ 69 67 true (.callF 93 [(.t 68), (.c (.int .i64 1))]),
 g_ 70 67 true (.callP 95 [(.t 69)]),
 g_ 71 64 false (.pick (.t 67) (.t 70) (.c (.bool false))),
 o_ 72 (.pick (.t 64) (.c (.bool true)) (.t 71)),
 m_ 61 72])
 (.cond (.t 61)
 (.seq (.region false [f_ 73 0 3,
 ⟨none, none, false, .store 1 (.t 73) (.c (.int .i64 3)), .none⟩])
 (.seq (.region false [m_ 74 0,
 o_ 75 (.nilCheck (.t 74)),
 f_ 76 1 75,
 l_ 77 76,
 c_ 78 .add 77 1,
 o_ 79 (.nilCheck (.t 74)),
 f_ 80 1 79,
 s_ 80 78])
 (.seq (.region false [m_ 81 0,
 o_ 82 (.callF 96 [(.t 81), (.c (.func 95 []))])])
 (.seq (.region false [o_ 5 (.mv (.c .nili))])
 (.seq (.region true [m_ 84 0,
 o_ 85 (.nilCheck (.t 84)),
 f_ 86 0 85,
 l_ 87 86,
 f_ 88 3 3,
 l_ 89 88,
 m_ 90 0,
 o_ 91 (.nilCheck (.t 90)),
 f_ 92 1 91,
 l_ 93 92,
 o_ 94 (.sliceS (.t 87) (some (.t 89)) (some (.t 93))),
 o_ 95 (.callF 97 [(.t 94), (.c (.int .i64 10)), (.c (.int .i64 64))]),
 m_ 83 95,
 o_ 96 (.extract (.t 83) 0),
 o_ 97 (.extract (.t 83) 1),
 f_ 98 2 3,
 s_ 98 96,
 m_ 5 97])
 (.seq (.region false [m_ 99 5,
 o_ 100 (.eq true .iface (.t 99) (.c .nili)),
 m_ 101 100,
 g_ 102 101 false (.mv (.t 0)),
 g_ 103 101 false (.callF 93 [(.t 102), (.c (.int .i64 0))]),
 g_ 104 101 false (.callP 98 [(.t 103)]),
 o_ 105 (.pick (.t 101) (.c (.bool true)) (.t 104))])
 (.cond (.t 105)
 (.region false [m_ 106 0,
 f_ 107 3 3,
 l_ 108 107,
 o_ 109 (.callF 92 [(.t 106), (.c (.int .i64 73)), (.t 108)])])
 (.skip))))))))
 (.seq (.region false [m_ 111 4,
 o_ 112 (.callP 98 [(.t 111)]),
 m_ 110 112])
 (.cond (.t 110)
 (.seq (.region false [f_ 113 0 3,
 ⟨none, none, false, .store 1 (.t 113) (.c (.int .i64 1)), .none⟩])
 (.region false [m_ 114 0,
 o_ 115 (.callF 96 [(.t 114), (.c (.func 98 []))])]))
 (.region false [m_ 13 0,
 m_ 14 0,
 o_ 15 (.nilCheck (.t 14)),
 f_ 16 1 15,
 l_ 17 16,
 o_ 18 (.callF 92 [(.t 13), (.c (.int .i64 70)), (.t 17)])])))))))))))))
 (.seq (.region true [m_ 116 0,
 o_ 117 (.nilCheck (.t 116)),
 f_ 118 0 117,
 l_ 119 118,
 f_ 120 3 3,
 l_ 121 120,
 m_ 122 0,
 o_ 123 (.nilCheck (.t 122)),
 f_ 124 1 123,
 l_ 125 124,
 o_ 126 (.sliceS (.t 119) (some (.t 121)) (some (.t 125))),
 f_ 127 1 3,
 s_ 127 126])
 (.seq (.region false [o_ 128 (.load true 4 (.t 3) .copy),
 ⟨none, none, false, .store 4 (.t 2) (.t 128), .none⟩])
 (.ret)))))⟩
def v75 : List Nat := [0, 2, 3, 4, 5, 19, 34, 53, 61, 105, 110]
theorem c75 : zat Go.Proofs.Tryz.prog p75 75 = some a75 := by decide +kernel
def p76 : Plan := ⟨[], 1, [((0, 0), hB 0)],
 []⟩
def a76 : AFunc := ⟨2, 34, 1, [.cell 4 true 4],
 .seq (.region false [o_ 4 (.allocL 0 [(.int .i64 0), (.str []), (.int .i64 0), (.int .i64 0)])])
 (.seq (.seq (.region true [m_ 5 0,
 o_ 6 (.nilCheck (.t 5)),
 f_ 7 1 6,
 l_ 8 7,
 m_ 9 1,
 b_ 10 .add 8 9,
 m_ 11 0,
 o_ 12 (.nilCheck (.t 11)),
 f_ 13 0 12,
 l_ 14 13,
 o_ 15 (.lenSl (.t 14)),
 b_ 16 .lss 10 15])
 (.cond (.t 16)
 (.seq (.region true [m_ 17 0,
 o_ 18 (.nilCheck (.t 17)),
 f_ 19 0 18,
 l_ 20 19,
 m_ 21 0,
 o_ 22 (.nilCheck (.t 21)),
 f_ 23 1 22,
 l_ 24 23,
 m_ 25 1,
 b_ 26 .add 24 25,
 o_ 27 (.indexSl 4 (.t 20) (.t 26)),
 o_ 28 (.load true 4 (.t 27) .copy),
 ⟨none, none, false, .store 4 (.t 4) (.t 28), .none⟩])
 (.ret))
 (.skip)))
 (.seq (.region false [m_ 29 0,
 o_ 30 (.nilCheck (.t 29)),
 f_ 31 2 30,
 l_ 32 31,
 o_ 33 (.build [(.int .i64 0), (.str []), (.int .i64 0), (.int .i64 0)] [(3, 1, (.t 32))]),
 ⟨none, none, false, .store 4 (.t 4) (.t 33), .none⟩])
 (.ret)))⟩
theorem c76 : zat Go.Proofs.Tryz.prog p76 76 = some a76 := by decide +kernel
def p77 : Plan := ⟨[], 1, [((0, 0), hB 0)],
 []⟩
def a77 : AFunc := ⟨1, 11, 1, [.tmp 2],
 .seq (.region false [o_ 1 (.boxL 0 (.t 0)),
 o_ 2 (.mv (.c (.bool false)))])
 (.seq (.region false [f_ 3 0 1,
 l_ 4 3,
 c_ 5 .eql 4 1,
 m_ 6 5,
 g_ 7 6 false (.fieldAddr 0 (.t 1)),
 g_ 8 6 false (.load false 1 (.t 7) .copy),
 g_ 9 6 false (.bin .eql (.t 8) (.c (.int .i64 2))),
 o_ 10 (.pick (.t 6) (.c (.bool true)) (.t 9)),
 m_ 2 10])
 (.ret))⟩
theorem c77 : zat Go.Proofs.Tryz.prog p77 77 = some a77 := by decide +kernel
def p78 : Plan := ⟨[], 1, [((14, 7), { uses := [(69, .take)], mark := .mem }),
 ((14, 4), hF),
 ((4, 0), hA),
 ((4, 1), hT 23),
 ((8, 2), hB 0),
 ((11, 1), hP),
 ((11, 5), hP),
 ((13, 1), hP),
 ((14, 1), { mode := .take, past := [4] }),
 ((14, 3), { past := [4] }),
 ((14, 5), hT2 65 68),
 ((15, 1), hP),
 ((17, 0), hA),
 ((17, 1), hT 77),
 ((10, 0), hA),
 ((10, 1), hT 45),
 ((18, 0), hA),
 ((18, 1), hT 78)],
 [[0, 1, 4]]⟩
def a78 : AFunc := ⟨2, 79, 1, [.cell 4 true 4],
 .seq (.region false [o_ 4 (.allocM [(.str []), .nils, .nils, .nils])])
 (.seq (.seq (.region false [m_ 6 0,
 o_ 7 (.nilCheck (.t 6)),
 f_ 8 3 7,
 l_ 9 8,
 c_ 10 .add 9 1,
 o_ 11 (.nilCheck (.t 6)),
 f_ 12 3 11,
 s_ 12 10])
 (.seq (.region false [m_ 13 0,
 o_ 14 (.nilCheck (.t 13)),
 f_ 15 3 14,
 l_ 16 15,
 c_ 17 .gtr 16 300])
 (.cond (.t 17)
 (.seq (.region false [m_ 18 0,
 m_ 19 0,
 o_ 20 (.callF 76 [(.t 19), (.c (.int .i64 0))]),
 o_ 21 (.field false 1 3 (.t 20)),
 o_ 22 (.callF 79 [(.t 18), (.c (.int .i64 3)), (.t 21)])])
 (.seq (.region false [o_ 23 (.load true 4 (.t 4) .take),
 ⟨none, none, false, .store 4 (.t 4) (.u 23 .take), .none⟩])
 (.ret)))
 (.skip))))
 (.seq (.region false [m_ 24 0,
 o_ 25 (.callF 76 [(.t 24), (.c (.int .i64 0))]),
 o_ 26 (.field false 1 1 (.t 25)),
 f_ 27 0 4,
 s_ 27 26])
 (.seq (.region false [m_ 28 0,
 o_ 29 (.nilCheck (.t 28)),
 f_ 30 1 29,
 l_ 31 30,
 c_ 32 .add 31 1,
 o_ 33 (.nilCheck (.t 28)),
 f_ 34 1 33,
 s_ 34 32])
 (.seq (.block 0 (.loop [0, 1, 4] (.seq (.seq (.region false [m_ 35 0,
 o_ 36 (.nilCheck (.t 35)),
 f_ 37 4 36,
 f_ 38 0 37,
 l_ 39 38,
 c_ 40 .eql 39 0])
 (.cond (.t 40)
 (.skip)
 (.exit 0)))
 (.block 1 (.seq (.region false [m_ 41 0,
 o_ 42 (.callF 76 [(.t 41), (.c (.int .i64 0))]),
 o_ 5 (.allocL 0 [(.int .i64 0), (.str []), (.int .i64 0), (.int .i64 0)]),
 ⟨none, none, false, .store 4 (.t 5) (.t 42), .none⟩])
 (.block 2 (.seq (.region false [o_ 47 (.load true 4 (.t 5) .copy),
 o_ 48 (.callP 77 [(.t 47)]),
 m_ 49 48,
 g_ 50 49 true (.mv (.t 0)),
 g_ 51 49 true (.callF 76 [(.t 50), (.c (.int .i64 1))]),
 g_ 52 49 true (.callP 99 [(.t 51), (.c (.str [61]))]),
 o_ 53 (.pick (.t 49) (.t 52) (.c (.bool false))),
 m_ 46 53])
 (.cond (.t 46)
 (.region false [m_ 54 0,
 o_ 55 (.callF 100 [(.t 54), (.t 4)])])
 (.seq (.region false [o_ 57 (.load true 4 (.t 5) .copy),
 o_ 58 (.callP 77 [(.t 57)]),
 m_ 59 58,
 g_ 60 59 false (.fieldAddr 0 (.t 5)),
 g_ 61 59 false (.load false 1 (.t 60) .copy),
 g_ 62 59 false (.bin .eql (.t 61) (.c (.int .i64 3))),
 o_ 63 (.pick (.t 59) (.c (.bool true)) (.t 62)),
 m_ 56 63])
 (.cond (.t 56)
 (.region true [f_ 64 1 4,
 o_ 65 (.loadW .take false 1 (.t 64) (.t 4) []),
 m_ 66 0,
 o_ 67 (.callN 101 [(.t 66)] [(.t 4)]),
 ⟨(some 68), none, false, .buildSlice 4 [(.int .i64 0), (.str []), (.int .i64 0), (.bool false)] 1 [(0, (.t 67))], .free⟩,
 o_ 69 (.append 4 (.u 65 .take) (.u 68 .take)),
 f_ 70 1 4,
 ⟨none, none, false, .store 1 (.t 70) (.u 69 .take), .mem⟩])
 (.seq (.region false [o_ 72 (.load true 4 (.t 5) .copy),
 o_ 73 (.callP 99 [(.t 72), (.c (.str [123]))]),
 m_ 71 73])
 (.cond (.t 71)
 (.seq (.region false [m_ 74 0,
 m_ 75 1,
 o_ 76 (.callF 102 [(.t 74), (.t 4), (.t 75)])])
 (.seq (.region false [o_ 77 (.load true 4 (.t 4) .take),
 ⟨none, none, false, .store 4 (.t 4) (.u 77 .take), .none⟩])
 (.ret)))
 (.seq (.region false [m_ 43 0,
 o_ 44 (.callF 103 [(.t 43)])])
 (.seq (.region false [o_ 45 (.load true 4 (.t 4) .take),
 ⟨none, none, false, .store 4 (.t 4) (.u 45 .take), .none⟩])
 (.ret)))))))))))))))
 (.seq (.region false [o_ 78 (.load true 4 (.t 4) .take),
 ⟨none, none, false, .store 4 (.t 4) (.u 78 .take), .none⟩])
 (.ret))))))⟩
theorem c78 : zat Go.Proofs.Tryz.prog p78 78 = some a78 := by decide +kernel
def p79 : Plan := ⟨[], 0, [],
 []⟩
def a79 : AFunc := ⟨3, 18, 0, [],
 .seq (.region false [m_ 6 0,
 o_ 7 (.nilCheck (.t 6)),
 f_ 8 4 7,
 f_ 9 0 8,
 l_ 10 9,
 c_ 11 .eql 10 0])
 (.cond (.t 11)
 (.region false [m_ 12 0,
 m_ 13 1,
 m_ 14 2,
 o_ 15 (.build [(.int .i64 0), (.int .i64 0)] [(0, 1, (.t 13)), (1, 1, (.t 14))]),
 o_ 16 (.nilCheck (.t 12)),
 f_ 17 4 16,
 ⟨none, none, false, .store 2 (.t 17) (.t 15), .none⟩])
 (.skip))⟩
theorem c79 : zat Go.Proofs.Tryz.prog p79 79 = some a79 := by decide +kernel
def p80 : Plan := ⟨[], 0, [],
 [[0, 1, 7, 8]]⟩
def a80 : AFunc := ⟨2, 19, 0, [.tmp 4],
 .seq (.region false [i_ 4 0])
 (.seq (.seq (.region false [m_ 6 0,
 o_ 7 (.lenSl (.t 6)),
 i_ 8 0])
 (.block 0 (.loop [0, 1, 7, 8] (.seq (.region false [b_ 9 .lss 8 7])
 (.seq (.cond (.t 9)
 (.skip)
 (.exit 0))
 (.seq (.block 1 (.seq (.region false [m_ 10 8,
 m_ 5 10])
 (.seq (.region false [m_ 11 1,
 m_ 12 0,
 m_ 13 5,
 o_ 14 (.indexSl 2 (.t 12) (.t 13)),
 o_ 15 (.load true 2 (.t 14) .copy),
 o_ 16 (.callV (.t 11) [(.t 15)])])
 (.cond (.t 16)
 (.seq (.region false [m_ 17 5,
 m_ 4 17])
 (.ret))
 (.skip)))))
 (.region false [c_ 18 .add 8 1,
 m_ 8 18])))))))
 (.seq (.region false [i_ 4 (-1)])
 (.ret)))⟩
def v80 : List Nat := [0, 1, 4, 5, 7, 8, 9, 16]
theorem c80 : zat Go.Proofs.Tryz.prog p80 80 = some a80 := by decide +kernel
def p81 : Plan := ⟨[], 2, [((11, 13), hM 0),
 ((11, 11), hM 0),
 ((11, 8), hM 1),
 ((11, 6), hM 0),
 ((11, 3), hM 1),
 ((11, 1), hM 0),
 ((9, 13), hM 0),
 ((9, 11), hM 0),
 ((9, 8), hM 1),
 ((9, 6), hM 0),
 ((9, 3), hM 1),
 ((9, 1), hM 0),
 ((0, 0), hB 0),
 ((1, 1), hP),
 ((6, 1), hB 1),
 ((8, 3), hP),
 ((10, 3), hP),
 ((12, 0), hT 7),
 ((12, 2), hP),
 ((12, 4), hT2 59 62),
 ((12, 5), hT 63),
 ((14, 0), hT 7),
 ((14, 1), hT 65)],
 [[2, 3, 7, 17, 18, 19]]⟩
def a81 : AFunc := ⟨3, 66, 2, [.tmp 6],
 .seq (.region false [o_ 3 (.boxL 0 (.t 0)),
 o_ 6 (.mv (.c .nils))])
 (.seq (.region false [o_ 11 (.load true 4 (.t 3) .copy),
 o_ 12 (.callP 25 [(.t 11)]),
 ⟨none, none, false, .store 4 (.t 3) (.t 12), .none⟩])
 (.seq (.region false [o_ 7 (.mv (.c .nils))])
 (.seq (.seq (.region false [m_ 13 1,
 m_ 14 1,
 o_ 15 (.lenSl (.t 14)),
 o_ 16 (.minMax false (.t 15) [(.c (.int .i64 16))]),
 o_ 17 (.sliceV 1 (.t 13) none (some (.t 16))),
 o_ 18 (.lenSl (.t 17)),
 i_ 19 0])
 (.block 0 (.loop [2, 3, 7, 17, 18, 19] (.seq (.region false [b_ 20 .lss 19 18])
 (.seq (.cond (.t 20)
 (.skip)
 (.exit 0))
 (.seq (.block 1 (.seq (.region false [o_ 21 (.indexSl 1 (.t 17) (.t 19)),
 l_ 22 21,
 m_ 9 22])
 (.seq (.region false [o_ 23 (.load true 4 (.t 3) .copy),
 o_ 10 (.allocL 1 [(.int .i64 0), (.int .i64 0), (.int .i64 0), (.int .i64 0)]),
 ⟨none, none, false, .store 4 (.t 10) (.t 23), .none⟩])
 (.seq (.seq (.region false [m_ 24 2])
 (.cond (.t 24)
 (.seq (.region false [m_ 25 9,
 f_ 26 3 3,
 l_ 27 26,
 o_ 28 (.callP 55 [(.t 25), (.c (.int .i64 0)), (.t 27)]),
 f_ 29 3 10,
 s_ 29 28])
 (.region true [f_ 30 1 3,
 ⟨(some 31), none, false, .load false 1 (.t 30) .copy, (.loc 0)⟩,
 f_ 32 3 10,
 ⟨(some 33), none, false, .load false 1 (.t 32) .copy, (.loc 1)⟩,
 b_ 34 .add 31 33,
 f_ 35 3 3,
 ⟨(some 36), none, false, .load false 1 (.t 35) .copy, (.loc 0)⟩,
 f_ 37 3 10,
 ⟨(some 38), none, false, .load false 1 (.t 37) .copy, (.loc 1)⟩,
 b_ 39 .sub 36 38,
 f_ 40 1 3,
 ⟨none, none, false, .store 1 (.t 40) (.t 34), (.loc 0)⟩,
 f_ 41 3 3,
 ⟨none, none, false, .store 1 (.t 41) (.t 39), (.loc 0)⟩]))
 (.seq (.region false [m_ 42 9,
 f_ 43 2 3,
 l_ 44 43,
 o_ 45 (.callP 55 [(.t 42), (.c (.int .i64 0)), (.t 44)]),
 f_ 46 2 10,
 s_ 46 45])
 (.region true [f_ 47 0 3,
 ⟨(some 48), none, false, .load false 1 (.t 47) .copy, (.loc 0)⟩,
 f_ 49 2 10,
 ⟨(some 50), none, false, .load false 1 (.t 49) .copy, (.loc 1)⟩,
 b_ 51 .add 48 50,
 f_ 52 2 3,
 ⟨(some 53), none, false, .load false 1 (.t 52) .copy, (.loc 0)⟩,
 f_ 54 2 10,
 ⟨(some 55), none, false, .load false 1 (.t 54) .copy, (.loc 1)⟩,
 b_ 56 .sub 53 55,
 f_ 57 0 3,
 ⟨none, none, false, .store 1 (.t 57) (.t 51), (.loc 0)⟩,
 f_ 58 2 3,
 ⟨none, none, false, .store 1 (.t 58) (.t 56), (.loc 0)⟩]))))
 (.region false [o_ 59 (.mv (.u 7 .take)),
 o_ 60 (.load true 4 (.t 10) .copy),
 o_ 61 (.callP 25 [(.t 60)]),
 o_ 62 (.buildSlice 4 [(.int .i64 0), (.int .i64 0), (.int .i64 0), (.int .i64 0)] 1 [(0, (.t 61))]),
 o_ 63 (.append 4 (.u 59 .take) (.u 62 .take)),
 o_ 7 (.mv (.u 63 .take))])))))
 (.region false [c_ 64 .add 19 1,
 m_ 19 64])))))))
 (.seq (.region false [o_ 65 (.mv (.u 7 .take)),
 o_ 6 (.mv (.u 65 .take))])
 (.ret)))))⟩
theorem c81 : zat Go.Proofs.Tryz.prog p81 81 = some a81 := by decide +kernel
def p85 : Plan := ⟨[], 0, [((1, 2), hP)],
 []⟩
def a85 : AFunc := ⟨2, 8, 0, [.tmp 4],
 .seq (.region false [o_ 4 (.mv (.c (.bool false)))])
 (.seq (.region false [m_ 5 0,
 m_ 6 1,
 o_ 7 (.callP 104 [(.t 5), (.t 6)]),
 m_ 4 7])
 (.ret))⟩
def v85 : List Nat := [0, 1, 4]
theorem c85 : zat Go.Proofs.Tryz.prog p85 85 = some a85 := by decide +kernel
def p86 : Plan := ⟨[], 0, [((1, 2), hP)],
 []⟩
def a86 : AFunc := ⟨2, 8, 0, [.tmp 4],
 .seq (.region false [o_ 4 (.mv (.c (.str [])))])
 (.seq (.region false [m_ 5 0,
 m_ 6 1,
 o_ 7 (.callP 105 [(.t 5), (.t 6)]),
 m_ 4 7])
 (.ret))⟩
theorem c86 : zat Go.Proofs.Tryz.prog p86 86 = some a86 := by decide +kernel
def p88 : Plan := ⟨[], 0, [],
 []⟩
def a88 : AFunc := ⟨1, 13, 0, [.tmp 2],
 .seq (.region false [o_ 2 (.mv (.c (.bool false)))])
 (.seq (.region false [m_ 3 0,
 o_ 4 (.bin .eql (.t 3) (.c (.int .u8 9))),
 m_ 5 4,
 g_ 6 5 false (.mv (.t 0)),
 g_ 7 5 false (.bin .eql (.t 6) (.c (.int .u8 13))),
 o_ 8 (.pick (.t 5) (.c (.bool true)) (.t 7)),
 m_ 9 8,
 g_ 10 9 false (.mv (.t 0)),
 g_ 11 9 false (.bin .eql (.t 10) (.c (.int .u8 32))),
 o_ 12 (.pick (.t 9) (.c (.bool true)) (.t 11)),
 m_ 2 12])
 (.ret))⟩
theorem c88 : zat Go.Proofs.Tryz.prog p88 88 = some a88 := by decide +kernel
def p89 : Plan := ⟨[], 0, [((1, 2), hP)],
 []⟩
def a89 : AFunc := ⟨2, 8, 0, [.tmp 4],
 .seq (.region false [o_ 4 (.mv (.c (.bool false)))])
 (.seq (.region false [m_ 5 0,
 m_ 6 1,
 o_ 7 (.callP 108 [(.t 5), (.t 6)]),
 m_ 4 7])
 (.ret))⟩
theorem c89 : zat Go.Proofs.Tryz.prog p89 89 = some a89 := by decide +kernel
def p92 : Plan := ⟨[], 0, [],
 []⟩
def a92 : AFunc := ⟨3, 12, 0, [],
 .region false [m_ 6 0,
 m_ 7 1,
 m_ 8 2,
 o_ 9 (.build [(.int .i64 0), (.int .i64 0)] [(0, 1, (.t 7)), (1, 1, (.t 8))]),
 o_ 10 (.nilCheck (.t 6)),
 f_ 11 2 10,
 ⟨none, none, false, .store 2 (.t 11) (.t 9), .none⟩]⟩
theorem c92 : zat Go.Proofs.Tryz.prog p92 92 = some a92 := by decide +kernel
def p93 : Plan := ⟨[], 0, [],
 []⟩
def a93 : AFunc := ⟨2, 28, 0, [.tmp 4],
 .seq (.region false [o_ 4 (.mv (.c (.int .u8 0)))])
 (.seq (.seq (.region true [m_ 5 0,
 o_ 6 (.nilCheck (.t 5)),
 f_ 7 1 6,
 l_ 8 7,
 m_ 9 1,
 b_ 10 .add 8 9,
 m_ 11 0,
 o_ 12 (.nilCheck (.t 11)),
 f_ 13 0 12,
 l_ 14 13,
 o_ 15 (.lenStr (.t 14)),
 b_ 16 .geq 10 15])
 (.cond (.t 16)
 (.seq (.region false [o_ 4 (.mv (.c (.int .u8 0)))])
 (.ret))
 (.skip)))
 (.seq (.region true [m_ 17 0,
 o_ 18 (.nilCheck (.t 17)),
 f_ 19 0 18,
 l_ 20 19,
 m_ 21 0,
 o_ 22 (.nilCheck (.t 21)),
 f_ 23 1 22,
 l_ 24 23,
 m_ 25 1,
 b_ 26 .add 24 25,
 o_ 27 (.indexStr (.t 20) (.t 26)),
 m_ 4 27])
 (.ret)))⟩
theorem c93 : zat Go.Proofs.Tryz.prog p93 93 = some a93 := by decide +kernel
def p94 : Plan := ⟨[], 0, [((15, 2), hP)],
 [[0, 3, 4]]⟩
def a94 : AFunc := ⟨1, 104, 0, [.tmp 2],
 .seq (.region false [o_ 2 (.mv (.c (.str [])))])
 (.seq (.region false [o_ 3 (.allocM [.nilp, .nils])])
 (.seq (.region false [m_ 7 0,
 o_ 8 (.nilCheck (.t 7)),
 f_ 9 1 8,
 l_ 10 9,
 m_ 4 10])
 (.seq (.seq (.region false [m_ 11 0,
 o_ 12 (.nilCheck (.t 11)),
 f_ 13 1 12,
 l_ 14 13,
 c_ 15 .add 14 1,
 o_ 16 (.nilCheck (.t 11)),
 f_ 17 1 16,
 s_ 17 15])
 (.block 0 (.loop [0, 3, 4] (.seq (.seq (.region true [m_ 18 0,
 o_ 19 (.nilCheck (.t 18)),
 f_ 20 1 19,
 l_ 21 20,
 m_ 22 0,
 o_ 23 (.nilCheck (.t 22)),
 f_ 24 0 23,
 l_ 25 24,
 o_ 26 (.lenStr (.t 25)),
 b_ 27 .lss 21 26])
 (.cond (.t 27)
 (.skip)
 (.exit 0)))
 (.seq (.block 1 (.seq (.region false [m_ 35 0,
 o_ 36 (.callF 93 [(.t 35), (.c (.int .i64 0))]),
 m_ 5 36])
 (.block 2 (.seq (.region false [m_ 40 5,
 o_ 41 (.bin .eql (.t 40) (.c (.int .u8 34))),
 m_ 39 41])
 (.cond (.t 39)
 (.seq (.region false [m_ 42 0,
 o_ 43 (.nilCheck (.t 42)),
 f_ 44 1 43,
 l_ 45 44,
 c_ 46 .add 45 1,
 o_ 47 (.nilCheck (.t 42)),
 f_ 48 1 47,
 s_ 48 46])
 (.seq (.region false [o_ 49 (.callF 111 [(.t 3)]),
 m_ 2 49])
 (.ret)))
 (.seq (.region false [m_ 51 5,
 o_ 52 (.bin .eql (.t 51) (.c (.int .u8 92))),
 m_ 50 52])
 (.cond (.t 50)
 (.seq (.seq (.region true [m_ 53 0,
 o_ 54 (.nilCheck (.t 53)),
 f_ 55 1 54,
 l_ 56 55,
 c_ 57 .add 56 1,
 m_ 58 0,
 o_ 59 (.nilCheck (.t 58)),
 f_ 60 0 59,
 l_ 61 60,
 o_ 62 (.lenStr (.t 61)),
 b_ 63 .eql 57 62])
 (.cond (.t 63)
 (.seq (.region false [m_ 64 0,
 m_ 65 4,
 o_ 66 (.callF 92 [(.t 64), (.c (.int .i64 71)), (.t 65)])])
 (.seq (.region false [o_ 2 (.mv (.c (.str [])))])
 (.ret)))
 (.skip)))
 (.seq (.region false [m_ 67 0,
 o_ 68 (.callF 93 [(.t 67), (.c (.int .i64 1))]),
 o_ 69 (.callP 90 [(.c (.str [34, 92, 110, 116])), (.t 68)]),
 m_ 6 69])
 (.seq (.seq (.region false [m_ 70 6,
 c_ 71 .lss 70 0])
 (.cond (.t 71)
 (.seq (.region false [m_ 72 0,
 m_ 73 0,
 o_ 74 (.nilCheck (.t 73)),
 f_ 75 1 74,
 l_ 76 75,
 o_ 77 (.callF 92 [(.t 72), (.c (.int .i64 72)), (.t 76)])])
 (.seq (.region false [o_ 2 (.mv (.c (.str [])))])
 (.ret)))
 (.skip)))
 (.seq (.region false [m_ 78 6,
 o_ 79 (.indexStr (.c (.str [34, 92, 10, 9])) (.t 78)),
 o_ 80 (.callF 112 [(.t 3), (.t 79)])])
 (.region false [m_ 81 0,
 o_ 82 (.nilCheck (.t 81)),
 f_ 83 1 82,
 l_ 84 83,
 c_ 85 .add 84 1,
 o_ 86 (.nilCheck (.t 81)),
 f_ 87 1 86,
 s_ 87 85])))))
 (.seq (.region false [m_ 89 5,
 o_ 90 (.bin .lss (.t 89) (.c (.int .u8 32))),
 m_ 91 90,
 g_ 92 91 false (.mv (.t 5)),
 g_ 93 91 false (.bin .eql (.t 92) (.c (.int .u8 127))),
 o_ 94 (.pick (.t 91) (.c (.bool true)) (.t 93)),
 m_ 88 94])
 (.cond (.t 88)
 (.seq (.region false [m_ 95 0,
 m_ 96 0,
 o_ 97 (.nilCheck (.t 96)),
 f_ 98 1 97,
 l_ 99 98,
 o_ 100 (.callF 92 [(.t 95), (.c (.int .i64 70)), (.t 99)])])
 (.seq (.region false [o_ 2 (.mv (.c (.str [])))])
 (.ret)))
 (.region false [m_ 37 5,
 o_ 38 (.callF 112 [(.t 3), (.t 37)])]))))))))))
 (.region false [m_ 28 0,
 o_ 29 (.nilCheck (.t 28)),
 f_ 30 1 29,
 l_ 31 30,
 c_ 32 .add 31 1,
 o_ 33 (.nilCheck (.t 28)),
 f_ 34 1 33,
 s_ 34 32]))))))
 (.seq (.region false [m_ 101 0,
 m_ 102 4,
 o_ 103 (.callF 92 [(.t 101), (.c (.int .i64 71)), (.t 102)])])
 (.seq (.region false [o_ 2 (.mv (.c (.str [])))])
 (.ret))))))⟩
theorem c94 : zat Go.Proofs.Tryz.prog p94 94 = some a94 := by decide +kernel
def p95 : Plan := ⟨[], 0, [],
 []⟩
def a95 : AFunc := ⟨1, 9, 0, [.tmp 2],
 .seq (.region false [o_ 2 (.mv (.c (.bool false)))])
 (.seq (.region false [m_ 3 0,
 o_ 4 (.bin .geq (.t 3) (.c (.int .u8 48))),
 m_ 5 4,
 g_ 6 5 true (.mv (.t 0)),
 g_ 7 5 true (.bin .leq (.t 6) (.c (.int .u8 57))),
 o_ 8 (.pick (.t 5) (.t 7) (.c (.bool false))),
 m_ 2 8])
 (.ret))⟩
theorem c95 : zat Go.Proofs.Tryz.prog p95 95 = some a95 := by decide +kernel
def p96 : Plan := ⟨[], 0, [],
 [[0, 1]]⟩
def a96 : AFunc := ⟨2, 34, 0, [],
 .block 0 (.loop [0, 1] (.seq (.seq (.region true [m_ 4 0,
 o_ 5 (.nilCheck (.t 4)),
 f_ 6 1 5,
 l_ 7 6,
 m_ 8 0,
 o_ 9 (.nilCheck (.t 8)),
 f_ 10 0 9,
 l_ 11 10,
 o_ 12 (.lenStr (.t 11)),
 b_ 13 .lss 7 12,
 m_ 14 13,
 g_ 15 14 true (.mv (.t 1)),
 g_ 16 14 true (.mv (.t 0)),
 g_ 17 14 true (.nilCheck (.t 16)),
 g_ 18 14 true (.fieldAddr 0 (.t 17)),
 g_ 19 14 true (.load false 1 (.t 18) .copy),
 g_ 20 14 true (.mv (.t 0)),
 g_ 21 14 true (.nilCheck (.t 20)),
 g_ 22 14 true (.fieldAddr 1 (.t 21)),
 g_ 23 14 true (.load false 1 (.t 22) .copy),
 g_ 24 14 true (.indexStr (.t 19) (.t 23)),
 g_ 25 14 true (.callV (.t 15) [(.t 24)]),
 o_ 26 (.pick (.t 14) (.t 25) (.c (.bool false)))])
 (.cond (.t 26)
 (.skip)
 (.exit 0)))
 (.block 1 (.region false [m_ 27 0,
 o_ 28 (.nilCheck (.t 27)),
 f_ 29 1 28,
 l_ 30 29,
 c_ 31 .add 30 1,
 o_ 32 (.nilCheck (.t 27)),
 f_ 33 1 32,
 s_ 33 31]))))⟩
theorem c96 : zat Go.Proofs.Tryz.prog p96 96 = some a96 := by decide +kernel
def p98 : Plan := ⟨[], 0, [((1, 16), hP)],
 []⟩
def a98 : AFunc := ⟨1, 37, 0, [.tmp 2],
 .seq (.region false [o_ 2 (.mv (.c (.bool false)))])
 (.seq (.region false [m_ 3 0,
 o_ 4 (.bin .geq (.t 3) (.c (.int .u8 97))),
 m_ 5 4,
 g_ 6 5 true (.mv (.t 0)),
 g_ 7 5 true (.bin .leq (.t 6) (.c (.int .u8 122))),
 o_ 8 (.pick (.t 5) (.t 7) (.c (.bool false))),
 m_ 9 8,
 g_ 10 9 false (.mv (.t 0)),
 g_ 11 9 false (.bin .geq (.t 10) (.c (.int .u8 65))),
 g_ 12 9 false (.mv (.t 11)),
 g_ 13 12 true (.mv (.t 0)),
 g_ 14 12 true (.bin .leq (.t 13) (.c (.int .u8 90))),
 g_ 15 9 false (.pick (.t 12) (.t 14) (.c (.bool false))),
 o_ 16 (.pick (.t 9) (.c (.bool true)) (.t 15)),
 m_ 17 16,
 g_ 18 17 false (.mv (.t 0)),
 g_ 19 17 false (.callP 95 [(.t 18)]),
 o_ 20 (.pick (.t 17) (.c (.bool true)) (.t 19)),
 m_ 21 20,
 g_ 22 21 false (.mv (.t 0)),
 g_ 23 21 false (.bin .eql (.t 22) (.c (.int .u8 45))),
 o_ 24 (.pick (.t 21) (.c (.bool true)) (.t 23)),
 m_ 25 24,
 g_ 26 25 false (.mv (.t 0)),
 g_ 27 25 false (.bin .eql (.t 26) (.c (.int .u8 95))),
 o_ 28 (.pick (.t 25) (.c (.bool true)) (.t 27)),
 m_ 29 28,
 g_ 30 29 false (.mv (.t 0)),
 g_ 31 29 false (.bin .eql (.t 30) (.c (.int .u8 46))),
 o_ 32 (.pick (.t 29) (.c (.bool true)) (.t 31)),
 m_ 33 32,
 g_ 34 33 false (.mv (.t 0)),
 g_ 35 33 false (.bin .eql (.t 34) (.c (.int .u8 58))),
 o_ 36 (.pick (.t 33) (.c (.bool true)) (.t 35)),
 m_ 2 36])
 (.ret))⟩
theorem c98 : zat Go.Proofs.Tryz.prog p98 98 = some a98 := by decide +kernel
def p99 : Plan := ⟨[], 1, [((0, 0), hB 0)],
 []⟩
def a99 : AFunc := ⟨2, 14, 1, [.tmp 4],
 .seq (.region false [o_ 2 (.boxL 0 (.t 0)),
 o_ 4 (.mv (.c (.bool false)))])
 (.seq (.region false [f_ 5 0 2,
 l_ 6 5,
 c_ 7 .eql 6 4,
 m_ 8 7,
 g_ 9 8 true (.fieldAddr 1 (.t 2)),
 g_ 10 8 true (.load false 1 (.t 9) .copy),
 g_ 11 8 true (.mv (.t 1)),
 g_ 12 8 true (.bin .eql (.t 10) (.t 11)),
 o_ 13 (.pick (.t 8) (.t 12) (.c (.bool false))),
 m_ 4 13])
 (.ret))⟩
theorem c99 : zat Go.Proofs.Tryz.prog p99 99 = some a99 := by decide +kernel
def p100 : Plan := ⟨[], 0, [((4, 14), { uses := [(35, .take)], mark := .mem }),
 ((4, 10), hF),
 ((4, 9), hF),
 ((1, 3), hA),
 ((1, 5), hS 10),
 ((4, 4), { mode := .take, past := [1, 4] }),
 ((4, 6), { past := [4] }),
 ((4, 8), { past := [1, 4] }),
 ((4, 11), hT2 28 34)],
 []⟩
def a100 : AFunc := ⟨2, 38, 0, [],
 .seq (.region false [m_ 5 0,
 o_ 6 (.callF 76 [(.t 5), (.c (.int .i64 0))]),
 o_ 4 (.allocM [(.int .i64 0), (.str []), (.int .i64 0), (.int .i64 0)]),
 ⟨none, none, false, .store 4 (.t 4) (.t 6), .none⟩])
 (.seq (.seq (.region false [m_ 7 1,
 o_ 8 (.nilCheck (.t 7)),
 f_ 9 2 8,
 o_ 10 (.load false 1 (.t 9) .take),
 o_ 11 (.mkFunc 115 [(.t 4)]),
 o_ 12 (.callF 114 [(.u 10 .share), (.t 11)])])
 (.cond (.t 12)
 (.seq (.region false [m_ 13 0,
 f_ 14 3 4,
 l_ 15 14,
 o_ 16 (.callF 79 [(.t 13), (.c (.int .i64 81)), (.t 15)])])
 (.ret))
 (.skip)))
 (.seq (.region false [m_ 17 0,
 o_ 18 (.nilCheck (.t 17)),
 f_ 19 1 18,
 l_ 20 19,
 c_ 21 .add 20 2,
 o_ 22 (.nilCheck (.t 17)),
 f_ 23 1 22,
 s_ 23 21])
 (.region true [m_ 24 1,
 m_ 25 1,
 o_ 26 (.nilCheck (.t 25)),
 f_ 27 2 26,
 o_ 28 (.loadW .take false 1 (.t 27) (.t 1) [(.t 4)]),
 f_ 29 1 4,
 o_ 30 (.loadW .copy false 1 (.t 29) (.t 4) []),
 m_ 31 0,
 o_ 32 (.callN 101 [(.t 31)] [(.t 1), (.t 4)]),
 ⟨(some 33), none, false, .build [(.str []), (.int .i64 0), (.str []), (.int .i64 0), (.bool false)] [(0, 1, (.t 30)), (1, 4, (.t 32))], .free⟩,
 ⟨(some 34), none, false, .buildSlice 5 [(.str []), (.int .i64 0), (.str []), (.int .i64 0), (.bool false)] 1 [(0, (.t 33))], .free⟩,
 o_ 35 (.append 5 (.u 28 .take) (.u 34 .take)),
 o_ 36 (.nilCheck (.t 24)),
 f_ 37 2 36,
 ⟨none, none, false, .store 1 (.t 37) (.u 35 .take), .mem⟩])))⟩
theorem c100 : zat Go.Proofs.Tryz.prog p100 100 = some a100 := by decide +kernel
def p101 : Plan := ⟨[], 2, [((0, 0), hB 0),
 ((1, 2), hB 1),
 ((10, 1), hP)],
 []⟩
def a101 : AFunc := ⟨1, 58, 2, [.cell 2 true 4],
 .seq (.region false [o_ 2 (.allocL 0 [(.int .i64 0), (.str []), (.int .i64 0), (.bool false)])])
 (.seq (.seq (.region false [m_ 4 0,
 o_ 5 (.callF 76 [(.t 4), (.c (.int .i64 0))]),
 o_ 3 (.allocL 1 [(.int .i64 0), (.str []), (.int .i64 0), (.int .i64 0)]),
 ⟨none, none, false, .store 4 (.t 3) (.t 5), .none⟩])
 (.block 0 (.seq (.region false [f_ 10 0 3,
 l_ 11 10,
 c_ 12 .eql 11 3,
 m_ 9 12])
 (.cond (.t 9)
 (.region false [f_ 13 2 3,
 l_ 14 13,
 o_ 15 (.build [(.int .i64 0), (.str []), (.int .i64 0), (.bool false)] [(0, 1, (.c (.int .i64 2))), (2, 1, (.t 14))]),
 ⟨none, none, false, .store 4 (.t 2) (.t 15), .none⟩])
 (.seq (.region false [f_ 17 0 3,
 l_ 18 17,
 c_ 19 .eql 18 1,
 m_ 20 19,
 g_ 21 20 true (.fieldAddr 1 (.t 3)),
 g_ 22 20 true (.load false 1 (.t 21) .copy),
 g_ 23 20 true (.bin .eql (.t 22) (.c (.str [116, 114, 117, 101]))),
 g_ 24 20 true (.mv (.t 23)),
 g_ 25 24 false (.fieldAddr 1 (.t 3)),
 g_ 26 24 false (.load false 1 (.t 25) .copy),
 g_ 27 24 false (.bin .eql (.t 26) (.c (.str [102, 97, 108, 115, 101]))),
 g_ 28 20 true (.pick (.t 24) (.c (.bool true)) (.t 27)),
 o_ 29 (.pick (.t 20) (.t 28) (.c (.bool false))),
 m_ 16 29])
 (.cond (.t 16)
 (.region false [f_ 30 1 3,
 l_ 31 30,
 o_ 32 (.bin .eql (.t 31) (.c (.str [116, 114, 117, 101]))),
 o_ 33 (.build [(.int .i64 0), (.str []), (.int .i64 0), (.bool false)] [(0, 1, (.c (.int .i64 3))), (3, 1, (.t 32))]),
 ⟨none, none, false, .store 4 (.t 2) (.t 33), .none⟩])
 (.seq (.region false [f_ 35 0 3,
 l_ 36 35,
 c_ 37 .eql 36 1,
 m_ 38 37,
 g_ 39 38 true (.fieldAddr 1 (.t 3)),
 g_ 40 38 true (.load false 1 (.t 39) .copy),
 g_ 41 38 true (.bin .eql (.t 40) (.c (.str [110, 117, 108, 108]))),
 o_ 42 (.pick (.t 38) (.t 41) (.c (.bool false))),
 m_ 34 42])
 (.cond (.t 34)
 (.region false [o_ 43 (.build [(.int .i64 0), (.str []), (.int .i64 0), (.bool false)] [(0, 1, (.c (.int .i64 4)))]),
 ⟨none, none, false, .store 4 (.t 2) (.t 43), .none⟩])
 (.seq (.region false [o_ 45 (.load true 4 (.t 3) .copy),
 o_ 46 (.callP 77 [(.t 45)]),
 m_ 44 46])
 (.cond (.t 44)
 (.region false [f_ 47 1 3,
 l_ 48 47,
 o_ 49 (.build [(.int .i64 0), (.str []), (.int .i64 0), (.bool false)] [(0, 1, (.c (.int .i64 1))), (1, 1, (.t 48))]),
 ⟨none, none, false, .store 4 (.t 2) (.t 49), .none⟩])
 (.seq (.region false [m_ 6 0,
 o_ 7 (.callF 52 [(.t 6)])])
 (.seq (.region false [o_ 8 (.load true 4 (.t 2) .copy),
 ⟨none, none, false, .store 4 (.t 2) (.t 8), .none⟩])
 (.ret)))))))))))))
 (.seq (.region false [m_ 50 0,
 o_ 51 (.nilCheck (.t 50)),
 f_ 52 1 51,
 l_ 53 52,
 c_ 54 .add 53 1,
 o_ 55 (.nilCheck (.t 50)),
 f_ 56 1 55,
 s_ 56 54])
 (.seq (.region false [o_ 57 (.load true 4 (.t 2) .copy),
 ⟨none, none, false, .store 4 (.t 2) (.t 57), .none⟩])
 (.ret))))⟩
theorem c101 : zat Go.Proofs.Tryz.prog p101 101 = some a101 := by decide +kernel
def p102 : Plan := ⟨[], 0, [((3, 7), hS 24),
 ((4, 2), hP)],
 []⟩
def a102 : AFunc := ⟨3, 42, 0, [],
 .seq (.seq (.region false [m_ 6 2,
 c_ 7 .geq 6 12])
 (.cond (.t 7)
 (.seq (.region false [m_ 8 0,
 m_ 9 0,
 o_ 10 (.callF 76 [(.t 9), (.c (.int .i64 0))]),
 o_ 11 (.field false 1 3 (.t 10)),
 o_ 12 (.callF 79 [(.t 8), (.c (.int .i64 4)), (.t 11)])])
 (.ret))
 (.skip)))
 (.seq (.region false [m_ 13 0,
 o_ 14 (.nilCheck (.t 13)),
 f_ 15 1 14,
 l_ 16 15,
 c_ 17 .add 16 1,
 o_ 18 (.nilCheck (.t 13)),
 f_ 19 1 18,
 s_ 19 17])
 (.seq (.region false [m_ 20 1,
 m_ 21 0,
 m_ 22 2,
 c_ 23 .add 22 1,
 o_ 24 (.callF 51 [(.t 21), (.t 23)]),
 o_ 25 (.nilCheck (.t 20)),
 f_ 26 3 25,
 ⟨none, none, false, .store 1 (.t 26) (.u 24 .share), .none⟩])
 (.seq (.seq (.region false [m_ 27 0,
 o_ 28 (.callF 76 [(.t 27), (.c (.int .i64 0))]),
 o_ 29 (.callP 99 [(.t 28), (.c (.str [125]))]),
 o_ 30 (.un .not (.t 29))])
 (.cond (.t 30)
 (.seq (.region false [m_ 31 0,
 o_ 32 (.callF 52 [(.t 31)])])
 (.ret))
 (.skip)))
 (.seq (.region false [m_ 33 0,
 o_ 34 (.nilCheck (.t 33)),
 f_ 35 1 34,
 l_ 36 35,
 c_ 37 .add 36 1,
 o_ 38 (.nilCheck (.t 33)),
 f_ 39 1 38,
 s_ 39 37])
 (.region false [m_ 40 0,
 o_ 41 (.callF 103 [(.t 40)])])))))⟩
theorem c102 : zat Go.Proofs.Tryz.prog p102 102 = some a102 := by decide +kernel
def p103 : Plan := ⟨[], 1, [((0, 2), hB 0),
 ((1, 17), hP)],
 []⟩
def a103 : AFunc := ⟨1, 27, 1, [],
 .seq (.region false [m_ 3 0,
 o_ 4 (.callF 76 [(.t 3), (.c (.int .i64 0))]),
 o_ 2 (.allocL 0 [(.int .i64 0), (.str []), (.int .i64 0), (.int .i64 0)]),
 ⟨none, none, false, .store 4 (.t 2) (.t 4), .none⟩])
 (.seq (.region true [m_ 5 0,
 o_ 6 (.nilCheck (.t 5)),
 f_ 7 1 6,
 l_ 8 7,
 m_ 9 0,
 o_ 10 (.nilCheck (.t 9)),
 f_ 11 0 10,
 l_ 12 11,
 o_ 13 (.lenSl (.t 12)),
 b_ 14 .lss 8 13,
 m_ 15 14,
 g_ 16 15 true (.fieldAddr 0 (.t 2)),
 g_ 17 15 true (.load false 1 (.t 16) .copy),
 g_ 18 15 true (.bin .neq (.t 17) (.c (.int .i64 5))),
 o_ 19 (.pick (.t 15) (.t 18) (.c (.bool false))),
 m_ 20 19,
 g_ 21 20 true (.load true 4 (.t 2) .copy),
 g_ 22 20 true (.callP 99 [(.t 21), (.c (.str [125]))]),
 g_ 23 20 true (.un .not (.t 22)),
 o_ 24 (.pick (.t 20) (.t 23) (.c (.bool false)))])
 (.cond (.t 24)
 (.region false [m_ 25 0,
 o_ 26 (.callF 52 [(.t 25)])])
 (.skip)))⟩
theorem c103 : zat Go.Proofs.Tryz.prog p103 103 = some a103 := by decide +kernel
def p104 : Plan := ⟨[], 0, [],
 []⟩
def a104 : AFunc := ⟨2, 21, 0, [.tmp 4],
 .seq (.region false [o_ 4 (.mv (.c (.bool false)))])
 (.seq (.region false [m_ 5 0,
 o_ 6 (.lenStr (.t 5)),
 m_ 7 1,
 o_ 8 (.lenStr (.t 7)),
 b_ 9 .geq 6 8,
 m_ 10 9,
 g_ 11 10 true (.mv (.t 0)),
 g_ 12 10 true (.mv (.t 0)),
 g_ 13 10 true (.lenStr (.t 12)),
 g_ 14 10 true (.mv (.t 1)),
 g_ 15 10 true (.lenStr (.t 14)),
 g_ 16 10 true (.bin .sub (.t 13) (.t 15)),
 g_ 17 10 true (.sliceS (.t 11) (some (.t 16)) none),
 g_ 18 10 true (.mv (.t 1)),
 g_ 19 10 true (.bin .eql (.t 17) (.t 18)),
 o_ 20 (.pick (.t 10) (.t 19) (.c (.bool false))),
 m_ 4 20])
 (.ret))⟩
theorem c104 : zat Go.Proofs.Tryz.prog p104 104 = some a104 := by decide +kernel
def p105 : Plan := ⟨[], 0, [((1, 2), hP)],
 []⟩
def a105 : AFunc := ⟨2, 16, 0, [.tmp 4],
 .seq (.region false [o_ 4 (.mv (.c (.str [])))])
 (.seq (.seq (.region false [m_ 5 0,
 m_ 6 1,
 o_ 7 (.callP 104 [(.t 5), (.t 6)])])
 (.cond (.t 7)
 (.seq (.region false [m_ 8 0,
 m_ 9 0,
 o_ 10 (.lenStr (.t 9)),
 m_ 11 1,
 o_ 12 (.lenStr (.t 11)),
 b_ 13 .sub 10 12,
 o_ 14 (.sliceS (.t 8) none (some (.t 13))),
 m_ 4 14])
 (.ret))
 (.skip)))
 (.seq (.region false [m_ 15 0,
 m_ 4 15])
 (.ret)))⟩
theorem c105 : zat Go.Proofs.Tryz.prog p105 105 = some a105 := by decide +kernel
def p108 : Plan := ⟨[], 0, [],
 []⟩
def a108 : AFunc := ⟨2, 18, 0, [.tmp 4],
 .seq (.region false [o_ 4 (.mv (.c (.bool false)))])
 (.seq (.region false [m_ 5 0,
 o_ 6 (.lenStr (.t 5)),
 m_ 7 1,
 o_ 8 (.lenStr (.t 7)),
 b_ 9 .geq 6 8,
 m_ 10 9,
 g_ 11 10 true (.mv (.t 0)),
 g_ 12 10 true (.mv (.t 1)),
 g_ 13 10 true (.lenStr (.t 12)),
 g_ 14 10 true (.sliceS (.t 11) none (some (.t 13))),
 g_ 15 10 true (.mv (.t 1)),
 g_ 16 10 true (.bin .eql (.t 14) (.t 15)),
 o_ 17 (.pick (.t 10) (.t 16) (.c (.bool false))),
 m_ 4 17])
 (.ret))⟩
theorem c108 : zat Go.Proofs.Tryz.prog p108 108 = some a108 := by decide +kernel
def p114 : Plan := ⟨[], 0, [((1, 2), hS 5)],
 []⟩
def a114 : AFunc := ⟨2, 9, 0, [.tmp 4],
 .seq (.region false [o_ 4 (.mv (.c (.bool false)))])
 (.seq (.region false [m_ 5 0,
 m_ 6 1,
 o_ 7 (.callF 127 [(.u 5 .share), (.t 6)]),
 c_ 8 .geq 7 0,
 m_ 4 8])
 (.ret))⟩
theorem c114 : zat Go.Proofs.Tryz.prog p114 114 = some a114 := by decide +kernel
def p115 : Plan := ⟨[], 1, [((0, 0), hB 0)],
 []⟩
def a115 : AFunc := ⟨2, 9, 1, [.tmp 3],
 .seq (.region false [o_ 2 (.boxL 0 (.t 0)),
 o_ 3 (.mv (.c (.bool false)))])
 (.seq (.region false [f_ 4 0 2,
 l_ 5 4,
 f_ 6 1 1,
 l_ 7 6,
 b_ 8 .eql 5 7,
 m_ 3 8])
 (.ret))⟩
theorem c115 : zat Go.Proofs.Tryz.prog p115 115 = some a115 := by decide +kernel
def p127 : Plan := ⟨[], 0, [],
 [[0, 1, 7, 8]]⟩
def a127 : AFunc := ⟨2, 19, 0, [.tmp 4],
 .seq (.region false [i_ 4 0])
 (.seq (.seq (.region false [m_ 6 0,
 o_ 7 (.lenSl (.t 6)),
 i_ 8 0])
 (.block 0 (.loop [0, 1, 7, 8] (.seq (.region false [b_ 9 .lss 8 7])
 (.seq (.cond (.t 9)
 (.skip)
 (.exit 0))
 (.seq (.block 1 (.seq (.region false [m_ 10 8,
 m_ 5 10])
 (.seq (.region false [m_ 11 1,
 m_ 12 0,
 m_ 13 5,
 o_ 14 (.indexSl 5 (.t 12) (.t 13)),
 o_ 15 (.load true 5 (.t 14) .copy),
 o_ 16 (.callV (.t 11) [(.t 15)])])
 (.cond (.t 16)
 (.seq (.region false [m_ 17 5,
 m_ 4 17])
 (.ret))
 (.skip)))))
 (.region false [c_ 18 .add 8 1,
 m_ 8 18])))))))
 (.seq (.region false [i_ 4 (-1)])
 (.ret)))⟩
def v127 : List Nat := [0, 1, 4, 5, 7, 8, 9, 16]
theorem c127 : zat Go.Proofs.Tryz.prog p127 127 = some a127 := by decide +kernel
def zng : List (Nat × AFunc) := [(11, a11), (12, a12), (13, a13), (15, a15), (19, a19), (22, a22), (23, a23), (25, a25), (26, a26), (27, a27), (28, a28), (34, a34), (35, a35), (36, a36), (37, a37), (44, a44), (45, a45), (50, a50), (51, a51), (52, a52), (53, a53), (55, a55), (56, a56), (57, a57), (58, a58), (59, a59), (60, a60), (61, a61), (62, a62), (69, a69), (70, a70), (71, a71), (74, a74), (75, a75), (76, a76), (77, a77), (78, a78), (79, a79), (80, a80), (81, a81), (85, a85), (86, a86), (88, a88), (89, a89), (92, a92), (93, a93), (94, a94), (95, a95), (96, a96), (98, a98), (99, a99), (100, a100), (101, a101), (102, a102), (103, a103), (104, a104), (105, a105), (108, a108), (114, a114), (115, a115), (127, a127)]
def ET0 : Table := zkM zng lyA
theorem ziC : zna Go.Proofs.Tryz.prog zng := ⟨zae c11, zae c12, zae c13, zae c15, zae c19, zae c22, zae c23, zae c25, zae c26, zae c27, zae c28, zae c34, zae c35, zae c36, zae c37, zae c44, zae c45, zae c50, zae c51, zae c52, zae c53, zae c55, zae c56, zae c57, zae c58, zae c59, zae c60, zae c61, zae c62, zae c69, zae c70, zae c71, zae c74, zae c75, zae c76, zae c77, zae c78, zae c79, zae c80, zae c81, zae c85, zae c86, zae c88, zae c89, zae c92, zae c93, zae c94, zae c95, zae c96, zae c98, zae c99, zae c100, zae c101, zae c102, zae c103, zae c104, zae c105, zae c108, zae c114, zae c115, zae c127, trivial⟩
end Go.Proofs.YtakdnfneikbjjaaGreatDoor.Am.LayA

namespace Go.Proofs
open Go.Shelf
def Tryz.laysC174_ren : Go.Shelf.Ren := ⟨fun | 174 => 97 | 247 => 113 | 245 => 107 | 287 => 106 | 279 => 118 | 280 => 119 | 281 => 120 | 282 => 121 | 321 => 116 | 322 => 117 | 316 => 128 | 171 => 130 | 205 => 129 | 243 => 133 | 246 => 134 | 283 => 135 | 284 => 136 | 285 => 137 | 286 => 138 | 129 => 140 | 317 => 139 | 318 => 141 | 319 => 142 | 320 => 143 | 337 => 144 | 338 => 145 | n => n, fun | 9 => 9 | 3 => 3 | 2 => 2 | 75 => 136 | 85 => 145 | 4 => 4 | 167 => 160 | 5 => 5 | 53 => 134 | 175 => 137 | 46 => 162 | 168 => 164 | 37 => 154 | 0 => 0 | 210 => 172 | 21 => 21 | 127 => 168 | 145 => 182 | 143 => 180 | 171 => 184 | 173 => 187 | 212 => 190 | 51 => 175 | 20 => 20 | 213 => 191 | 232 => 195 | 233 => 196 | 80 => 143 | n => n, fun | 15 => 1 | 16 => 2 | 17 => 3 | 18 => 4 | 19 => 5 | n => n⟩
theorem Tryz.laysC174 : Go.Proofs.LaysC.n174 Tryz.prog Tryz.laysC174_ren := {
 mixed := by kernel_rfl
 f129 := Tryz.func140.trans (congrArg some (by kernel_rfl))
 f171 := Tryz.func130.trans (congrArg some (by kernel_rfl))
 f174 := Tryz.func97.trans (congrArg some (by kernel_rfl))
 f205 := Tryz.func129.trans (congrArg some (by kernel_rfl))
 f243 := Tryz.func133.trans (congrArg some (by kernel_rfl))
 f245 := Tryz.func107.trans (congrArg some (by kernel_rfl))
 f246 := Tryz.func134.trans (congrArg some (by kernel_rfl))
 f247 := Tryz.func113.trans (congrArg some (by kernel_rfl))
 f279 := Tryz.func118.trans (congrArg some (by kernel_rfl))
 f280 := Tryz.func119.trans (congrArg some (by kernel_rfl))
 f281 := Tryz.func120.trans (congrArg some (by kernel_rfl))
 f282 := Tryz.func121.trans (congrArg some (by kernel_rfl))
 f283 := Tryz.func135.trans (congrArg some (by kernel_rfl))
 f284 := Tryz.func136.trans (congrArg some (by kernel_rfl))
 f285 := Tryz.func137.trans (congrArg some (by kernel_rfl))
 f286 := Tryz.func138.trans (congrArg some (by kernel_rfl))
 f287 := Tryz.func106.trans (congrArg some (by kernel_rfl))
 f316 := Tryz.func128.trans (congrArg some (by kernel_rfl))
 f317 := Tryz.func139.trans (congrArg some (by kernel_rfl))
 f318 := Tryz.func141.trans (congrArg some (by kernel_rfl))
 f319 := Tryz.func142.trans (congrArg some (by kernel_rfl))
 f320 := Tryz.func143.trans (congrArg some (by kernel_rfl))
 f321 := Tryz.func116.trans (congrArg some (by kernel_rfl))
 f322 := Tryz.func117.trans (congrArg some (by kernel_rfl))
 f337 := Tryz.func144.trans (congrArg some (by kernel_rfl))
 f338 := Tryz.func145.trans (congrArg some (by kernel_rfl))
 t0 := Tryz.underlying0
 a0 := Tryz.isAgg0
 z0 := Tryz.sizeOf0
 v0 := Tryz.zeroValue0
 t2 := Tryz.underlying2
 a2 := Tryz.isAgg2
 z2 := Tryz.sizeOf2
 v2 := Tryz.zeroValue2
 t3 := Tryz.underlying3
 a3 := Tryz.isAgg3
 z3 := Tryz.sizeOf3
 v3 := Tryz.zeroValue3
 t4 := Tryz.underlying4
 a4 := Tryz.isAgg4
 z4 := Tryz.sizeOf4
 v4 := Tryz.zeroValue4
 t5 := Tryz.underlying5
 a5 := Tryz.isAgg5
 z5 := Tryz.sizeOf5
 v5 := Tryz.zeroValue5
 t9 := Tryz.underlying9
 a9 := Tryz.isAgg9
 z9 := Tryz.sizeOf9
 v9 := Tryz.zeroValue9
 t20 := Tryz.underlying20
 a20 := Tryz.isAgg20
 z20 := Tryz.sizeOf20
 v20 := Tryz.zeroValue20
 t21 := Tryz.underlying21
 a21 := Tryz.isAgg21
 z21 := Tryz.sizeOf21
 v21 := Tryz.zeroValue21
 t37 := Tryz.underlying154
 a37 := Tryz.isAgg154
 z37 := Tryz.sizeOf154
 v37 := Tryz.zeroValue154
 t46 := Tryz.underlying162
 a46 := Tryz.isAgg162
 z46 := Tryz.sizeOf162
 v46 := Tryz.zeroValue162
 t51 := Tryz.underlying175
 a51 := Tryz.isAgg175
 z51 := Tryz.sizeOf175
 v51 := Tryz.zeroValue175
 t53 := Tryz.underlying134
 a53 := Tryz.isAgg134
 z53 := Tryz.sizeOf134
 v53 := Tryz.zeroValue134
 t75 := Tryz.underlying136
 a75 := Tryz.isAgg136
 z75 := Tryz.sizeOf136
 v75 := Tryz.zeroValue136
 t85 := Tryz.underlying145
 a85 := Tryz.isAgg145
 z85 := Tryz.sizeOf145
 v85 := Tryz.zeroValue145
 t127 := Tryz.underlying168
 a127 := Tryz.isAgg168
 z127 := Tryz.sizeOf168
 v127 := Tryz.zeroValue168
 t143 := Tryz.underlying180
 a143 := Tryz.isAgg180
 z143 := Tryz.sizeOf180
 v143 := Tryz.zeroValue180
 t145 := Tryz.underlying182
 a145 := Tryz.isAgg182
 z145 := Tryz.sizeOf182
 v145 := Tryz.zeroValue182
 t167 := Tryz.underlying160
 a167 := Tryz.isAgg160
 z167 := Tryz.sizeOf160
 v167 := Tryz.zeroValue160
 t168 := Tryz.underlying164
 a168 := Tryz.isAgg164
 z168 := Tryz.sizeOf164
 v168 := Tryz.zeroValue164
 t171 := Tryz.underlying184
 a171 := Tryz.isAgg184
 z171 := Tryz.sizeOf184
 v171 := Tryz.zeroValue184
 t173 := Tryz.underlying187
 a173 := Tryz.isAgg187
 z173 := Tryz.sizeOf187
 v173 := Tryz.zeroValue187
 t175 := Tryz.underlying137
 a175 := Tryz.isAgg137
 z175 := Tryz.sizeOf137
 v175 := Tryz.zeroValue137
 t210 := Tryz.underlying172
 a210 := Tryz.isAgg172
 z210 := Tryz.sizeOf172
 v210 := Tryz.zeroValue172
 t212 := Tryz.underlying190
 a212 := Tryz.isAgg190
 z212 := Tryz.sizeOf190
 v212 := Tryz.zeroValue190
 t213 := Tryz.underlying191
 a213 := Tryz.isAgg191
 z213 := Tryz.sizeOf191
 t232 := Tryz.underlying195
 a232 := Tryz.isAgg195
 z232 := Tryz.sizeOf195
 v232 := Tryz.zeroValue195
 t233 := Tryz.underlying196
 a233 := Tryz.isAgg196
 z233 := Tryz.sizeOf196
 v233 := Tryz.zeroValue196
 g15 := by kernel_rfl
 g16 := by kernel_rfl
 g17 := by kernel_rfl
 g18 := by kernel_rfl
 g19 := by kernel_rfl
 t80 := Tryz.underlying143
 a80 := Tryz.isAgg143
 z80 := Tryz.sizeOf143
 v80 := Tryz.zeroValue143
 i0 := by kernel_rfl
 i2 := by kernel_rfl
 i3 := by kernel_rfl
 i4 := by kernel_rfl
 i5 := by kernel_rfl
 i9 := by kernel_rfl
 i20 := by kernel_rfl
 i21 := by kernel_rfl
 i37 := by kernel_rfl
 i46 := by kernel_rfl
 i51 := by kernel_rfl
 i53 := by kernel_rfl
 i75 := by kernel_rfl
 i80 := by kernel_rfl
 i85 := by kernel_rfl
 i127 := by kernel_rfl
 i143 := by kernel_rfl
 i145 := by kernel_rfl
 i167 := by kernel_rfl
 i168 := by kernel_rfl
 i171 := by kernel_rfl
 i173 := by kernel_rfl
 i175 := by kernel_rfl
 i210 := by kernel_rfl
 i212 := by kernel_rfl
 i232 := by kernel_rfl
 i233 := by kernel_rfl
 m15 := by kernel_rfl
 m16 := by kernel_rfl
 m17 := by kernel_rfl
 m18 := by kernel_rfl
 m19 := by kernel_rfl
 c0 := by kernel_rfl
 c2 := by kernel_rfl
 c3 := by kernel_rfl
 c4 := by kernel_rfl
 c5 := by kernel_rfl
 c9 := by kernel_rfl
 c20 := by kernel_rfl
 c21 := by kernel_rfl
 c37 := by kernel_rfl
 c46 := by kernel_rfl
 c51 := by kernel_rfl
 c53 := by kernel_rfl
 c75 := by kernel_rfl
 c80 := by kernel_rfl
 c85 := by kernel_rfl
 c127 := by kernel_rfl
 c143 := by kernel_rfl
 c145 := by kernel_rfl
 c167 := by kernel_rfl
 c168 := by kernel_rfl
 c171 := by kernel_rfl
 c173 := by kernel_rfl
 c175 := by kernel_rfl
 c210 := by kernel_rfl
 c212 := by kernel_rfl
 c213 := by kernel_rfl
 c232 := by kernel_rfl
 c233 := by kernel_rfl }
end Go.Proofs
