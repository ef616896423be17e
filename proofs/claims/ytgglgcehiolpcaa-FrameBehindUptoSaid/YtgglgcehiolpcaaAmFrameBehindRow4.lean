/-
A part of the proof of a law: tw c, tw pure, tw law, am tab, frame ext, frame code, frame p.
-/
import Derived.Test.YtgglgcehiolpcaaAmFrameBehindRow3
import Derived.Test.YtgglgcehiolpcaaProg
namespace Go.Proofs.Ytgglgcehiolpcaa.Am.T
open Go.Proofs.Ytgglgcehiolpcaa.Am
section
variable {ρ : List Nat} {cf : CF} {L : Ts} {B : Bs} {M : Ms} {st : St}
theorem putW_sound {σ : Nat → V} (h : Ag ρ L σ) {o : AOper} {t : TV} {v : V} (hd : Den ρ t v) {l : Nat → List V} {m : Am.Ms} {k : Ts → Prop} (hk : putW o t L k) : ∃ σ', putOp o (v, ⟨σ, l, m⟩) = some ⟨σ', l, m⟩ ∧ ∃ L', Ag ρ L' σ' ∧ k L' := by
  unfold putW at hk
  unfold putOp
  cases hdst : o.dst with
  | none =>
    simp only [hdst] at hk
    cases hkt : o.kt with
    | false =>
      rw [hkt] at hk
      exact ⟨σ, rfl, L, h, hk⟩
    | true =>
      rw [hkt] at hk
      simp only [cond_true] at hk
      obtain ⟨hs, hk⟩ := bifF hk
      have hu : t ≠ .undef := by rintro rfl; exact hk
      have hk2 : k L := by cases t <;> first | exact hk | exact absurd rfl hu
      exact ⟨σ, by simp [St.put, hd.selfPlace hu hs], L, h, hk2⟩
  | some d =>
    simp only [hdst] at hk
    cases hkt : o.kt with
    | false =>
      rw [hkt] at hk
      exact ⟨upd σ d v, by simp [St.put], _, h.upd d hd, hk⟩
    | true =>
      rw [hkt] at hk
      simp only [cond_true] at hk
      obtain ⟨hs, hk⟩ := bifF hk
      have hu : t ≠ .undef := by rintro rfl; exact hk
      have hk2 : mapK (killTV d) L fun L' => k ((d, t) :: L') := by cases t <;> first | exact hk | exact absurd rfl hu
      obtain ⟨L', h1, h2⟩ := mapK_sound h (fun _ _ h => Den.killTV d h) hk2
      exact ⟨upd (killT d σ) d v, by simp [St.put, hd.selfPlace hu hs], _, Ag.upd h1 d hd, h2⟩
theorem skipW_sound {σ : Nat → V} (h : Ag ρ L σ) {o : AOper} {l : Nat → List V} {m : Am.Ms} {k : Ts → Prop} (hk : skipW o L k) : ∃ σ', St.put ⟨σ, l, m⟩ o.kt o.dst (.tuple []) = ⟨σ', l, m⟩ ∧ ∃ L', Ag ρ L' σ' ∧ k L' := by
  unfold skipW at hk
  cases hdst : o.dst with
  | none => simp only [hdst] at hk; exact ⟨σ, rfl, L, h, hk⟩
  | some d =>
    simp only [hdst] at hk
    cases hkt : o.kt with
    | false => rw [hkt] at hk; exact ⟨_, rfl, _, h.upd d (.tuple .nil), hk⟩
    | true =>
      rw [hkt] at hk
      simp only [cond_true] at hk
      obtain ⟨L', h1, h2⟩ := mapK_sound h (fun _ _ h => Den.killTV d h) hk
      exact ⟨_, rfl, _, Ag.upd h1 d (.tuple .nil), h2⟩
structure WPO (d : Bool) (cf : CF) (os : List AOper) (L : Ts) (B : Bs) (M : Ms) (K : Ts → Bs → Ms → Prop) : Prop where
  go : ∀ ρ st, Rel ρ L B M st → ∃ st', (if d then runD cf os st else runOps cf os st) = some st' ∧ ∃ ρ' L' B' M', Rel ρ' L' B' M' st' ∧ Fr ρ st.m ρ' st'.m ∧ K L' B' M'
theorem wpOps_sound : ∀ {os : List AOper} {ρ : List Nat} {L : Ts} {B : Bs} {M : Ms} {st : St} {k : Ts → Bs → Ms → Prop} (_ : Rel ρ L B M st) (_ : wpOps cf os L B M k),
    ∃ st', runOps cf os st = some st' ∧ ∃ ρ' L' B' M', Rel ρ' L' B' M' st' ∧ Fr ρ st.m ρ' st'.m ∧ k L' B' M'
  | [], ρ, L, B, M, st, k, h, hk => ⟨st, rfl, ρ, L, B, M, h, .refl _ _, hk⟩
  | o :: os, ρ, L, B, M, st, k, h, hk => by
    have doit : (wpOp false cf o.op L B M fun v L1 B1 m1 => putW o v L1 fun L2 => wpOps cf os L2 B1 m1 k) → ∃ st1, (evalOp cf st o.op).bind (putOp o) = some st1 ∧ ∃ st', runOps cf os st1 = some st' ∧ ∃ ρ' L' B' M', Rel ρ' L' B' M' st' ∧ Fr ρ st.m ρ' st'.m ∧ k L' B' M' := fun hk => by
      obtain ⟨v, st1, e, _, ρ1, t, L1, B1, M1, hd, h1, hf1, hk⟩ := wpOp_sound h hk
      obtain ⟨σ', e2, L2, h2, hk⟩ := putW_sound (l := st1.l) (m := st1.m) h1.a hd hk
      obtain ⟨st', e3, ρ', L', B', M', h3, hf3, hk⟩ := wpOps_sound (st := ⟨σ', st1.l, st1.m⟩) ⟨h2, h1.b, h1.m⟩ hk
      exact ⟨_, by rw [e]; exact e2, st', e3, ρ', L', B', M', h3, hf1.trans hf3, hk⟩
    have skip : ∀ {b want : Bool} {g : Nat}, (skipW o L fun L2 => wpOps cf os L2 B M k) → ∃ st', runOps cf os (st.put o.kt o.dst (.tuple [])) = some st' ∧ ∃ ρ' L' B' M', Rel ρ' L' B' M' st' ∧ Fr ρ st.m ρ' st'.m ∧ k L' B' M' := fun {b want g} hk => by
      obtain ⟨σ', e2, L2, h2, hk⟩ := skipW_sound (l := st.l) (m := st.m) h.a hk
      obtain ⟨st', e3, r⟩ := wpOps_sound (st := ⟨σ', st.l, st.m⟩) ⟨h2, h.b, h.m⟩ hk
      exact ⟨st', by rw [e2]; exact e3, r⟩
    unfold wpOps at hk
    cases hg : o.guard with
    | none =>
      rw [hg] at hk
      obtain ⟨st1, e, st', e2, r⟩ := doit hk
      exact ⟨st', by simp only [runOps, stepOp, hg, e, Option.bind_some, e2], r⟩
    | some q =>
      obtain ⟨g, want⟩ := q
      rw [hg] at hk
      simp only at hk
      split at hk
      · rename_i b hf
        have hv := (h.a g _ hf).bool_inv
        by_cases hbw : b = want
        · subst hbw
          simp only [beq_self_eq_true, cond_true] at hk
          obtain ⟨st1, e, st', e2, r⟩ := doit hk
          exact ⟨st', by simp only [runOps, stepOp, hg, hv, if_true, e, Option.bind_some, e2], r⟩
        · have : (b == want) = false := by simpa using hbw
          rw [this] at hk
          simp only [cond_false] at hk
          obtain ⟨st', e3, r⟩ := skip (b := b) (want := want) (g := g) hk
          exact ⟨st', by simp only [runOps, stepOp, hg, hv]; rw [if_neg hbw]; exact e3, r⟩
      · rename_i hf
        obtain ⟨cs', hv, hcs⟩ := (h.a g _ hf).tuple_inv
        cases hcs
        obtain ⟨st', e3, r⟩ := skip (b := true) (want := want) (g := g) hk
        exact ⟨st', by simp only [runOps, stepOp, hg, hv]; exact e3, r⟩
      · exact hk.elim
theorem rootsW_sound (h : Ag ρ L st.σ) {lean : Bool} : ∀ {r : List Nat}, rootsW lean L r = true → (r.all fun s => rootOk lean (st.σ s)) = true
  | [], _ => rfl
  | s :: r, hr => by
    unfold rootsW at hr
    cases hf : fnd L s with
    | none => simp only [hf] at hr; cases hr
    | some v =>
      simp only [hf, Bool.and_eq_true] at hr
      rw [List.all_cons, Bool.and_eq_true]
      exact ⟨(h s v hf).rootOk hr.1, rootsW_sound h hr.2⟩
theorem notLoc_den {t : TV} {v : V} (h : Den ρ t v) (hn : notLocT t = true) : notLoc v = true := by
  cases h with
  | base h0 => cases h0 <;> first | rfl | cases hn
  | loc j o => cases hn
  | _ => rfl
theorem coolW_sound (h : Ag ρ L st.σ) : ∀ {r : List Nat}, coolW L r = true → (r.all fun s => notLoc (st.σ s)) = true
  | [], _ => rfl
  | s :: r, hr => by
    unfold coolW at hr
    cases hf : fnd L s with
    | none => simp only [hf] at hr; cases hr
    | some v =>
      simp only [hf, Bool.and_eq_true] at hr
      rw [List.all_cons, Bool.and_eq_true]
      exact ⟨notLoc_den (h s v hf) hr.1, coolW_sound h hr.2⟩
theorem resOk_den {o : AOper} {t : TV} {v : V} (h : Den ρ t v) (hr : resOkT o t = true) : resOk o v = true := by
  simp only [resOkT, Bool.and_eq_true] at hr
  obtain ⟨h1, h2⟩ := hr
  simp only [resOk, Bool.and_eq_true]
  refine ⟨h.rootOk h1, ?_⟩
  cases hm : o.mark with
  | none => rfl
  | quiet =>
    rw [hm] at h2
    simp only [Bool.and_eq_true] at h2
    simp only [Bool.and_eq_true]
    refine ⟨notLoc_den h h2.1, ?_⟩
    cases h with
    | base h0 => cases h0 <;> first | rfl | cases h2.1
    | place _ => exact absurd h2.2 (by simp)
    | el _ _ _ _ => exact absurd h2.2 (by simp)
    | _ => rfl
  | _ => rw [hm] at h2; exact notLoc_den h h2
theorem markW_sound (h : Ag ρ L st.σ) {o : AOper} {st' : St} {k : Prop} (hl : o.op.isCall = true → st'.l = st.l ∧ (isQuiet o.mark = true → st'.m = st.m)) (hk : markW o L k) : markOk o st st' = true ∧ k := by
  unfold markW at hk
  unfold markOk
  have ptr : ∀ mk, (match o.op.ptr? with
      | none => k
      | some p => rdC L p fun v => match v with
        | .loc i _ => bif mk == Mark.loc i then k else False
        | .ptr _ _ => bif mk == Mark.mem then k else False
        | .ro _ _ => bif mk == Mark.free then k else False
        | _ => False) → (match o.op.ptr? with
      | none => true
      | some p => match getC st p with
        | some (.loc i _) => mk == .loc i
        | some (.ptr _ _) => mk == .mem
        | some (.ro _ _) => mk == .free
        | _ => false) = true ∧ k := fun mk hk => by
    cases hp : o.op.ptr? with
    | none => rw [hp] at hk; exact ⟨rfl, hk⟩
    | some p =>
      rw [hp] at hk
      obtain ⟨v, t, e, hd, hk⟩ := rdC_sound h hk
      simp only [e]
      cases t with
      | loc i o => rw [hd.loc_inv]; exact bifT hk
      | ptr i o => obtain ⟨b, rfl, _⟩ := hd.ptr_inv; exact bifT hk
      | ro i o => obtain ⟨b, rfl, _⟩ := hd.ro_inv; exact bifT hk
      | _ => exact hk.elim
  cases hm : o.mark with
  | none => rw [hm] at hk; exact ⟨rfl, hk⟩
  | cool =>
    rw [hm] at hk
    simp only at hk ⊢
    cases hp : o.op.ptr? with
    | some p => rw [hp] at hk; exact hk.elim
    | none =>
      rw [hp] at hk
      obtain ⟨h1, h2⟩ := bifT hk
      exact ⟨coolW_sound h h1, h2⟩
  | quiet =>
    rw [hm] at hk
    obtain ⟨hc, hk⟩ := bifT hk
    obtain ⟨h1, h2⟩ := hl hc
    have hp : st'.m = st.m ∧ st'.l = st.l := ⟨h2 (by rw [hm]; rfl), h1⟩
    exact ⟨by simp only [hp, and_self, decide_true], hk⟩
  | loc j => rw [hm] at hk; exact ptr _ hk
  | mem => rw [hm] at hk; exact ptr _ hk
  | free => rw [hm] at hk; exact ptr _ hk
theorem store_lean {o : AOper} (h : isStore o.op = true) : o.lean = false := by
  cases ho : o.op <;> rw [ho] at h <;> first | (cases h; done) | skip
  unfold AOper.lean
  rw [ho]
  simp [AOp.pure, AOp.still, AOp.builds]
theorem store_val {o : AOper} (h : isStore o.op = true) {v : V} {st st' : St} (he : evalOp cf st o.op = some (v, st')) : v = .undef := by
  cases ho : o.op <;> rw [ho] at h he <;> first | (cases h; done) | skip
  simp only [evalOp, Option.bind_eq_some_iff] at he
  obtain ⟨_, _, _, _, he⟩ := he
  split at he
  · simp only [Option.bind_eq_some_iff, Option.some.injEq, Prod.mk.injEq] at he
    obtain ⟨_, _, he, _⟩ := he
    exact he.symm
  · cases he
theorem doD_sound (h : Rel ρ L B M st) {o : AOper} {k : Ts → Bs → Ms → Prop} (hk : doD cf o L B M k) : ∃ st', stepU cf o st = some st' ∧ ∃ ρ' L' B' M', Rel ρ' L' B' M' st' ∧ Fr ρ st.m ρ' st'.m ∧ k L' B' M' := by
  obtain ⟨hr, hk⟩ := bifT hk
  obtain ⟨v, st1, e, hl, ρ1, t, L1, B1, M1, hd, h1, hf1, hk⟩ := wpOp_sound h hk
  obtain ⟨hro, hk⟩ := bifT hk
  obtain ⟨hm, hk⟩ := markW_sound h.a hl hk
  obtain ⟨σ', e2, L2, h2, hk⟩ := putW_sound (l := st1.l) (m := st1.m) h1.a hd hk
  refine ⟨⟨σ', st1.l, st1.m⟩, ?_, ρ1, L2, B1, M1, ⟨h2, h1.b, h1.m⟩, hf1, hk⟩
  have hro2 : resOk o v = true := by
    rw [Bool.or_eq_true] at hro
    rcases hro with hro | hro
    · have h1 := store_lean hro
      rw [store_val hro e]
      unfold resOk
      rw [h1]
      cases o.mark <;> rfl
    · exact resOk_den hd hro
  unfold stepU
  rw [if_pos (rootsW_sound h.a hr), e]
  simp only [Option.bind_some, putD, hro2, hm, Bool.and_self, if_true]
  exact e2
theorem wpD_sound : ∀ {os : List AOper} {ρ : List Nat} {L : Ts} {B : Bs} {M : Ms} {st : St} {k : Ts → Bs → Ms → Prop} (_ : Rel ρ L B M st) (_ : wpD cf os L B M k),
    ∃ st', runD cf os st = some st' ∧ ∃ ρ' L' B' M', Rel ρ' L' B' M' st' ∧ Fr ρ st.m ρ' st'.m ∧ k L' B' M'
  | [], ρ, L, B, M, st, k, h, hk => ⟨st, rfl, ρ, L, B, M, h, .refl _ _, hk⟩
  | o :: os, ρ, L, B, M, st, k, h, hk => by
    have doit : (doD cf o L B M fun L2 B1 m1 => wpD cf os L2 B1 m1 k) → ∃ st1, stepU cf o st = some st1 ∧ ∃ st', runD cf os st1 = some st' ∧ ∃ ρ' L' B' M', Rel ρ' L' B' M' st' ∧ Fr ρ st.m ρ' st'.m ∧ k L' B' M' := fun hk => by
      obtain ⟨st1, e, ρ1, L1, B1, M1, h1, hf1, hk⟩ := doD_sound h hk
      obtain ⟨st', e3, ρ', L', B', M', h3, hf3, hk⟩ := wpD_sound h1 hk
      exact ⟨_, e, st', e3, ρ', L', B', M', h3, hf1.trans hf3, hk⟩
    have skip : ∀ {b want : Bool} {g : Nat}, (skipW o L fun L2 => wpD cf os L2 B M k) → ∃ st', runD cf os (st.put o.kt o.dst (.tuple [])) = some st' ∧ ∃ ρ' L' B' M', Rel ρ' L' B' M' st' ∧ Fr ρ st.m ρ' st'.m ∧ k L' B' M' := fun {b want g} hk => by
      obtain ⟨σ', e2, L2, h2, hk⟩ := skipW_sound (l := st.l) (m := st.m) h.a hk
      obtain ⟨st', e3, r⟩ := wpD_sound (st := ⟨σ', st.l, st.m⟩) ⟨h2, h.b, h.m⟩ hk
      exact ⟨st', by rw [e2]; exact e3, r⟩
    unfold wpD at hk
    cases hg : o.guard with
    | none =>
      rw [hg] at hk
      obtain ⟨st1, e, st', e2, r⟩ := doit hk
      exact ⟨st', by simp only [runD, stepD, hg, e, Option.bind_some, e2], r⟩
    | some q =>
      obtain ⟨g, want⟩ := q
      rw [hg] at hk
      simp only at hk
      split at hk
      · rename_i b hf
        have hv := (h.a g _ hf).bool_inv
        by_cases hbw : b = want
        · subst hbw
          simp only [beq_self_eq_true, cond_true] at hk
          obtain ⟨st1, e, st', e2, r⟩ := doit hk
          exact ⟨st', by simp only [runD, stepD, hg, hv, if_true, e, Option.bind_some, e2], r⟩
        · have : (b == want) = false := by simpa using hbw
          rw [this] at hk
          simp only [cond_false] at hk
          obtain ⟨st', e3, r⟩ := skip (b := b) (want := want) (g := g) hk
          exact ⟨st', by simp only [runD, stepD, hg, hv]; rw [if_neg hbw]; exact e3, r⟩
      · rename_i hf
        obtain ⟨cs', hv, hcs⟩ := (h.a g _ hf).tuple_inv
        cases hcs
        obtain ⟨st', e3, r⟩ := skip (b := true) (want := want) (g := g) hk
        exact ⟨st', by simp only [runD, stepD, hg, hv]; exact e3, r⟩
      · exact hk.elim
theorem WPO_f {os : List AOper} {K : Ts → Bs → Ms → Prop} (h : wpOps cf os L B M K) : WPO false cf os L B M K := ⟨fun _ _ hr => wpOps_sound hr h⟩
theorem WPO_t {os : List AOper} {K : Ts → Bs → Ms → Prop} (h : wpD cf os L B M K) : WPO true cf os L B M K := ⟨fun _ _ hr => wpD_sound hr h⟩
theorem prune_sound {σ : Nat → V} (h : Ag ρ L σ) : ∀ {r : List Nat} {k : Ts → Prop}, pruneK L r k → ∃ L', Ag ρ L' σ ∧ (∀ s v, fnd L' s = some v → s ∈ r) ∧ k L'
  | [], k, hk => ⟨[], fun s v hv => (nomatch hv), fun s v hv => (nomatch hv), hk⟩
  | s :: r, k, hk => by
    unfold pruneK at hk
    cases hs : fnd L s with
    | none =>
      rw [hs] at hk
      obtain ⟨L', h1, h2, h3⟩ := prune_sound h hk
      exact ⟨L', h1, fun t v hv => .tail _ (h2 t v hv), h3⟩
    | some v =>
      rw [hs] at hk
      obtain ⟨L', h1, h2, h3⟩ := prune_sound h (k := fun r' => k ((s, v) :: r')) hk
      refine ⟨_, fun t x hx => ?_, fun t x hx => ?_, h3⟩
      · rw [fnd_cons] at hx
        split at hx
        · rename_i e; subst e; cases hx; exact h _ _ hs
        · exact h1 t x hx
      · rw [fnd_cons] at hx
        split at hx
        · rename_i e; subst e; exact .head _
        · exact .tail _ (h2 t x hx)
theorem pruneB_sound {l : Nat → List V} (h : AgB ρ B l) : ∀ {r : List Nat} {k : Bs → Prop}, pruneK B r k → ∃ B', AgB ρ B' l ∧ k B'
  | [], k, hk => ⟨[], fun s v hv => (nomatch hv), hk⟩
  | s :: r, k, hk => by
    unfold pruneK at hk
    cases hs : fnd B s with
    | none => rw [hs] at hk; exact pruneB_sound h hk
    | some v =>
      rw [hs] at hk
      obtain ⟨L', h1, h3⟩ := pruneB_sound h (k := fun r' => k ((s, v) :: r')) hk
      refine ⟨_, fun t x hx => ?_, h3⟩
      rw [fnd_cons] at hx
      split at hx
      · rename_i e; subst e; cases hx; exact h _ _ hs
      · exact h1 t x hx
theorem runOps_append : ∀ {a b : List AOper} {st : St}, runOps cf (a ++ b) st = (runOps cf a st).bind (runOps cf b)
  | [], b, st => rfl
  | o :: a, b, st => by
    show (stepOp cf o st).bind (runOps cf (a ++ b)) = ((stepOp cf o st).bind (runOps cf a)).bind (runOps cf b)
    rw [Option.bind_assoc]
    congr 1
    funext st1
    exact runOps_append
theorem runD_append : ∀ {a b : List AOper} {st : St}, runD cf (a ++ b) st = (runD cf a st).bind (runD cf b)
  | [], b, st => rfl
  | o :: a, b, st => by
    show (stepD cf o st).bind (runD cf (a ++ b)) = ((stepD cf o st).bind (runD cf a)).bind (runD cf b)
    rw [Option.bind_assoc]
    congr 1
    funext st1
    exact runD_append
def pruneF {α : Type} (L : List (Nat × α)) : List Nat → List (Nat × α)
  | [] => []
  | s :: r => match fnd L s with
    | some v => (s, v) :: pruneF L r
    | none => pruneF L r
theorem pruneF_iff {α : Type} {L : List (Nat × α)} : ∀ {r : List Nat} {k : List (Nat × α) → Prop}, pruneK L r k ↔ k (pruneF L r)
  | [], k => Iff.rfl
  | s :: r, k => by
    unfold pruneK pruneF
    cases fnd L s with
    | none => exact pruneF_iff
    | some v => exact pruneF_iff (k := fun r' => k ((s, v) :: r'))
theorem WPO_grp {d : Bool} {os : List AOper} {K : Ts → Bs → Ms → Prop} (n s : Nat) (lv : List Nat) (y : Bool)
    (h : WPO d cf (os.take n) L B M fun L1 B1 M1 => pruneK L1 lv fun L' => L' = pruneF ((s, .bool y) :: L) lv ∧ B1 = B ∧ M1 = M)
    (g : pruneK ((s, .bool y) :: L) lv fun L2 => WPO d cf (os.drop n) L2 B M K) : WPO d cf os L B M K := by
  refine ⟨fun ρ st hr => ?_⟩
  obtain ⟨st1, e1, ρ1, L1, B1, M1, h1, hf1, hk⟩ := h.go ρ st hr
  obtain ⟨L', h2, _, rfl, rfl, rfl⟩ := prune_sound h1.a hk
  obtain ⟨st2, e2, ρ2, L3, B3, M3, h4, hf2, hk⟩ := (pruneF_iff.1 g).go ρ1 st1 ⟨h2, h1.b, h1.m⟩
  refine ⟨st2, ?_, ρ2, L3, B3, M3, h4, hf1.trans hf2, hk⟩
  rw [← List.take_append_drop n os]
  cases d with
  | false => simp only [Bool.false_eq_true, if_false] at e1 e2 ⊢; rw [runOps_append, e1]; exact e2
  | true => simp only [if_true] at e1 e2 ⊢; rw [runD_append, e1]; exact e2
variable {Q : Ex → Ts → Bs → Ms → Prop}
theorem WP_reg {d : Bool} {os : List AOper} (lv lb : List Nat) (h : WPO d cf os L B M fun L1 B1 M1 => pruneK L1 lv fun L2 => pruneK B1 lb fun B2 => Q .normal L2 B2 M1) : WP cf (.region d os) L B M Q := by
  refine ⟨fun ρ st hr => ?_⟩
  obtain ⟨st1, e1, ρ1, L1, B1, M1, h1, hf1, hk⟩ := h.go ρ st hr
  obtain ⟨L', h2, _, hk⟩ := prune_sound h1.a hk
  obtain ⟨B', h3, hk⟩ := pruneB_sound h1.b hk
  refine ⟨.normal, st1, ?_, ρ1, L', B', M1, ⟨h2, h3, h1.m⟩, hf1, hk⟩
  cases d with
  | false => simp only [Bool.false_eq_true, if_false] at e1; simp only [exec, e1, Option.bind_some]
  | true => simp only [if_true] at e1; simp only [exec, e1, Option.bind_some]
theorem WP_skip (h : Q .normal L B M) : WP cf .skip L B M Q := ⟨fun ρ st hr => ⟨_, st, rfl, ρ, L, B, M, hr, .refl _ _, h⟩⟩
theorem WP_ret (h : Q .ret L B M) : WP cf .ret L B M Q := ⟨fun ρ st hr => ⟨_, st, rfl, ρ, L, B, M, hr, .refl _ _, h⟩⟩
theorem WP_exit {i : Nat} (h : Q (.exit i) L B M) : WP cf (.exit i) L B M Q := ⟨fun ρ st hr => ⟨_, st, rfl, ρ, L, B, M, hr, .refl _ _, h⟩⟩
theorem WP_seq {a b : ACode} (h : WP cf a L B M fun e L1 B1 M1 => match e with
    | .normal => WP cf b L1 B1 M1 Q
    | .exit i => Q (.exit i) L1 B1 M1
    | .ret => Q .ret L1 B1 M1) : WP cf (.seq a b) L B M Q := by
  refine ⟨fun ρ st hr => ?_⟩
  obtain ⟨e, st1, h1, ρ1, L1, B1, M1, h2, hf, hk⟩ := h.go ρ st hr
  cases e with
  | normal =>
    obtain ⟨e, st2, h4, ρ2, L2, B2, M2, h5, hf2, hk⟩ := hk.go ρ1 st1 h2
    exact ⟨e, st2, by simp only [exec, h1, Option.bind_some, h4], ρ2, L2, B2, M2, h5, hf.trans hf2, hk⟩
  | exit i => exact ⟨_, st1, by simp only [exec, h1, Option.bind_some], ρ1, L1, B1, M1, h2, hf, hk⟩
  | ret => exact ⟨_, st1, by simp only [exec, h1, Option.bind_some], ρ1, L1, B1, M1, h2, hf, hk⟩
theorem WP_cond {s : Nat} {t e : ACode} {b : Bool} (hs : fnd L s = some (.bool b)) (ht : b = true → WP cf t L B M Q) (he : b = false → WP cf e L B M Q) : WP cf (.cond (.t s) t e) L B M Q := by
  refine ⟨fun ρ st hr => ?_⟩
  have hv := (hr.a s _ hs).bool_inv
  cases b with
  | true =>
    obtain ⟨e1, st1, h1, r⟩ := (ht rfl).go ρ st hr
    exact ⟨e1, st1, by simp only [exec, getC, hv, V.hasOwn, V.own1, V.own0]; exact h1, r⟩
  | false =>
    obtain ⟨e1, st1, h1, r⟩ := (he rfl).go ρ st hr
    exact ⟨e1, st1, by simp only [exec, getC, hv, V.hasOwn, V.own1, V.own0]; exact h1, r⟩
theorem WP_block {i : Nat} {b : ACode} (h : WP cf b L B M fun e L1 B1 M1 => match e with
    | .normal => Q .normal L1 B1 M1
    | .exit j => bif Nat.beq j i then Q .normal L1 B1 M1 else Q (.exit j) L1 B1 M1
    | .ret => Q .ret L1 B1 M1) : WP cf (.block i b) L B M Q := by
  refine ⟨fun ρ st hr => ?_⟩
  obtain ⟨e, st1, h1, ρ1, L1, B1, M1, h2, hf, hk⟩ := h.go ρ st hr
  cases e with
  | normal => exact ⟨.normal, st1, by simp only [exec, h1, Option.bind_some], ρ1, L1, B1, M1, h2, hf, hk⟩
  | exit j =>
    simp only at hk
    by_cases hj : j = i
    · subst hj
      have : Nat.beq j j = true := by simp
      rw [this] at hk
      exact ⟨.normal, st1, by simp only [exec, h1, Option.bind_some, if_true], ρ1, L1, B1, M1, h2, hf, hk⟩
    · have : Nat.beq j i = false := by
        cases hb : Nat.beq j i with
        | false => rfl
        | true => exact absurd (Nat.eq_of_beq_eq_true hb) hj
      rw [this] at hk
      exact ⟨.exit j, st1, by simp only [exec, h1, Option.bind_some]; rw [if_neg hj], ρ1, L1, B1, M1, h2, hf, hk⟩
  | ret => exact ⟨.ret, st1, by simp only [exec, h1, Option.bind_some], ρ1, L1, B1, M1, h2, hf, hk⟩
theorem WP_cut {R : Type} {c : ACode} (r : R) (X : R → Ex × Ts × Bs × Ms) (lv lb : Ex → List Nat)
    (h : WP cf c L B M fun e L1 B1 M1 => pruneK L1 (lv e) fun L2 => pruneK B1 (lb e) fun B2 => X r = (e, L2, B2, M1)) (g : Q (X r).1 (X r).2.1 (X r).2.2.1 (X r).2.2.2) : WP cf c L B M Q := by
  refine ⟨fun ρ st hr => ?_⟩
  obtain ⟨e, st1, h1, ρ1, L1, B1, M1, h2, hf, hk⟩ := h.go ρ st hr
  obtain ⟨L', h3, _, hk⟩ := prune_sound h2.a hk
  obtain ⟨B', h4, hk⟩ := pruneB_sound h2.b hk
  rw [hk] at g
  exact ⟨e, st1, h1, ρ1, L', B', M1, ⟨h3, h4, h2.m⟩, hf, g⟩
end
section
variable {S R : Type}
def iterN (step : S → Option (S ⊕ R)) : Nat → S → Option R
  | 0, _ => none
  | n + 1, s => match step s with
    | none => none
    | some (.inl s') => iterN step n s'
    | some (.inr r) => some r
open Classical in
noncomputable def iter (step : S → Option (S ⊕ R)) (s : S) : Option R :=
  if h : ∃ n r, iterN step n s = some r then some h.choose_spec.choose else none
theorem iterN_mono {step : S → Option (S ⊕ R)} : ∀ {n : Nat} {s : S} {r : R}, iterN step n s = some r → iterN step (n + 1) s = some r
  | 0, _, _, h => by cases h
  | n + 1, s, r, h => by
    simp only [iterN] at h
    rw [iterN]
    cases hs : step s with
    | none => rw [hs] at h; cases h
    | some x =>
      rw [hs] at h
      cases x with
      | inl s' => exact iterN_mono h
      | inr r => exact h
theorem iterN_le {step : S → Option (S ⊕ R)} {n m : Nat} (hm : n ≤ m) {s : S} {r : R} (h : iterN step n s = some r) : iterN step m s = some r := by
  induction m with
  | zero => have : n = 0 := by omega
            subst this; exact h
  | succ m ih =>
    by_cases e : n = m + 1
    · subst e; exact h
    · exact iterN_mono (ih (by omega))
theorem iter_iff {step : S → Option (S ⊕ R)} {s : S} {r : R} : iter step s = some r ↔ ∃ n, iterN step n s = some r := by
  unfold iter
  constructor
  · intro h
    split at h
    · rename_i hx
      have := hx.choose_spec.choose_spec
      simp only [Option.some.injEq] at h
      rw [← h]
      exact ⟨_, this⟩
    · cases h
  · rintro ⟨n, h⟩
    have hx : ∃ n r, iterN step n s = some r := ⟨n, r, h⟩
    rw [dif_pos hx]
    have h1 := hx.choose_spec.choose_spec
    have h2 := iterN_le (Nat.le_max_left hx.choose n) h1
    have h3 := iterN_le (Nat.le_max_right hx.choose n) h
    rw [h2] at h3
    exact h3
theorem iter_inl {step : S → Option (S ⊕ R)} {s s' : S} (h : step s = some (.inl s')) : iter step s = iter step s' := by
  apply Option.ext
  intro r
  rw [iter_iff, iter_iff]
  constructor
  · rintro ⟨n, hn⟩
    cases n with
    | zero => cases hn
    | succ n => simp only [iterN, h] at hn; exact ⟨n, hn⟩
  · rintro ⟨n, hn⟩
    exact ⟨n + 1, by simp only [iterN, h]; exact hn⟩
theorem iter_inr {step : S → Option (S ⊕ R)} {s : S} {r : R} (h : step s = some (.inr r)) : iter step s = some r :=
  iter_iff.2 ⟨1, by simp only [iterN, h]⟩
theorem WP_iter {cf : CF} {L : Ts} {B : Bs} {M : Ms} {Q : Ex → Ts → Bs → Ms → Prop} {live : List Nat} {b : ACode} {step : S → Option (S ⊕ R)} {s0 : S} {r0 : R} (h : iter step s0 = some r0)
    (lb : List Nat) (I : S → Ts × Bs × Ms) (lv lb2 : Ex → List Nat) (X : R → Ex × Ts × Bs × Ms)
    (h0 : pruneK L live fun L0 => pruneK B lb fun B0 => I s0 = (L0, B0, M))
    (hs : ∀ s x, step s = some x → WP cf b (I s).1 (I s).2.1 (I s).2.2 fun e L1 B1 M1 => match e with
      | .normal => pruneK L1 live fun L2 => pruneK B1 lb fun B2 => ∃ s', x = .inl s' ∧ I s' = (L2, B2, M1)
      | .exit i => pruneK L1 (lv (.exit i)) fun L2 => pruneK B1 (lb2 (.exit i)) fun B2 => ∃ r, x = .inr r ∧ X r = (.exit i, L2, B2, M1)
      | .ret => pruneK L1 (lv .ret) fun L2 => pruneK B1 (lb2 .ret) fun B2 => ∃ r, x = .inr r ∧ X r = (.ret, L2, B2, M1))
    (g : Q (X r0).1 (X r0).2.1 (X r0).2.2.1 (X r0).2.2.2) : WP cf (.loop live b) L B M Q := by
  have key : ∀ n s r, iterN step n s = some r → ∀ ρ st, (∀ t v, fnd (I s).1 t = some v → t ∈ live) → Rel ρ (I s).1 (I s).2.1 (I s).2.2 st →
      ∃ e st', exec cf (.loop live b) st = some (e, st') ∧ ∃ ρ' L' B' M', Rel ρ' L' B' M' st' ∧ Fr ρ st.m ρ' st'.m ∧ X r = (e, L', B', M') := by
    intro n
    induction n with
    | zero => intro s r hn; cases hn
    | succ n ih =>
      intro s r hn ρ st hlive hR
      have hL' : Ag ρ (I s).1 (keep live st.σ) := fun t v hv => by
        unfold keep
        rw [if_pos (hlive t v hv)]; exact hR.a t v hv
      simp only [iterN] at hn
      cases hst : step s with
      | none => rw [hst] at hn; cases hn
      | some x =>
        rw [hst] at hn
        obtain ⟨e, st1, h1, ρ1, L1, B1, M1, h2, hf, hk⟩ := (hs s x hst).go ρ { st with σ := keep live st.σ } ⟨hL', hR.b, hR.m⟩
        have hstep := loopRes_step (round := fun st => exec cf b { st with σ := keep live st.σ }) (st := st)
        cases e with
        | normal =>
          obtain ⟨L2, h4, h5, hk⟩ := prune_sound h2.a hk
          obtain ⟨B2, h7, s', rfl, hI⟩ := pruneB_sound h2.b hk
          simp only at hn
          obtain ⟨e, st2, h6, ρ2, L3, B3, M3, h8, hf2, hX⟩ := ih s' r hn ρ1 st1 (by rw [hI]; exact h5) (by rw [hI]; exact ⟨h4, h7, h2.m⟩)
          refine ⟨e, st2, ?_, ρ2, L3, B3, M3, h8, hf.trans hf2, hX⟩
          simp only [exec] at h6 ⊢
          rw [hstep, h1]
          exact h6
        | exit i =>
          obtain ⟨L2, h4, h5, hk⟩ := prune_sound h2.a hk
          obtain ⟨B2, h7, r', rfl, hI⟩ := pruneB_sound h2.b hk
          simp only [Option.some.injEq] at hn
          subst hn
          refine ⟨.exit i, st1, ?_, ρ1, L2, B2, M1, ⟨h4, h7, h2.m⟩, hf, hI⟩
          simp only [exec]
          rw [hstep, h1]; rfl
        | ret =>
          obtain ⟨L2, h4, h5, hk⟩ := prune_sound h2.a hk
          obtain ⟨B2, h7, r', rfl, hI⟩ := pruneB_sound h2.b hk
          simp only [Option.some.injEq] at hn
          subst hn
          refine ⟨.ret, st1, ?_, ρ1, L2, B2, M1, ⟨h4, h7, h2.m⟩, hf, hI⟩
          simp only [exec]
          rw [hstep, h1]; rfl
  refine ⟨fun ρ st hR => ?_⟩
  obtain ⟨n, hn⟩ := iter_iff.1 h
  obtain ⟨L0, h1, h2, hk⟩ := prune_sound hR.a h0
  obtain ⟨B0, h3, hI⟩ := pruneB_sound hR.b hk
  obtain ⟨e, st', h4, ρ', L', B', M', h5, hf, hX⟩ := key n s0 r0 hn ρ st (by rw [hI]; exact h2) (by rw [hI]; exact ⟨h1, h3, hR.m⟩)
  rw [hX] at g
  exact ⟨e, st', h4, ρ', L', B', M', h5, hf, g⟩
end
def resW : List ARes → Ts → Bs → Ms → (List TV → Ms → Prop) → Prop
  | [], _, _, m, k => k [] m
  | .tmp s :: r, L, B, m, k => match fnd L s with
    | some v => resW r ((s, .undef) :: L) B m fun vs m' => k (v :: vs) m'
    | none => False
  | .cell s agg n :: r, L, B, m, k => match fnd L s with
    | some a => loadW agg n .take L B m a fun v B' m' => resW r L B' m' fun vs m'' => k (v :: vs) m''
    | none => False
def tupledT : List TV → TV
  | [v] => v
  | vs => .tuple vs
def argsT : Nat → List TV → Ts
  | _, [] => []
  | i, v :: r => (i, v) :: argsT (i + 1) r
def TV.flat0 : TV → Bool
  | .bool _ | .int _ _ | .str _ | .nilp | .nils | .sl _ _ _ | .nilf | .nili | .undef => true
  | .func _ cs => cs.isEmpty
  | _ => false
def TV.flat1 : TV → Bool
  | .agg cs => cs.all TV.flat0
  | v => v.flat0
def flatM (M : Ms) : Bool := M.all fun cs => cs.all TV.flat0
section
variable {ρ : List Nat} {cf : CF} {L : Ts} {B : Bs} {M : Ms} {st : St}
theorem resW_sound : ∀ {rs : List ARes} {ρ : List Nat} {L : Ts} {B : Bs} {M : Ms} {st : St} {k : List TV → Ms → Prop} (_ : Rel ρ L B M st) (_ : resW rs L B M k), ∃ vs st', getRes st rs = some (vs, st') ∧ ∃ ts M', Pw (Den ρ) ts vs ∧ Mg ρ M' st'.m ∧ Fr ρ st.m ρ st'.m ∧ k ts M'
  | [], ρ, L, B, M, st, k, h, hk => ⟨[], st, rfl, [], M, .nil, h.m, .refl _ _, hk⟩
  | .tmp s :: r, ρ, L, B, M, st, k, h, hk => by
    unfold resW at hk
    cases hs : fnd L s with
    | none => simp only [hs] at hk
    | some v =>
      simp only [hs] at hk
      obtain ⟨vs, st', e, ts, M', h1, h2, hf, hk⟩ := resW_sound (st := { st with σ := upd st.σ s .undef }) (h.sig (h.a.upd s (.undef' _))) hk
      exact ⟨st.σ s :: vs, st', by simp only [getRes, e, Option.bind_some], v :: ts, M', .cons (h.a s v hs) h1, h2, hf, hk⟩
  | .cell s agg n :: r, ρ, L, B, M, st, k, h, hk => by
    unfold resW at hk
    cases hs : fnd L s with
    | none => simp only [hs] at hk
    | some a =>
      simp only [hs] at hk
      obtain ⟨v, st1, e, t, B1, M1, hd, h1, hf1, hk⟩ := loadW_sound h (h.a s a hs) hk
      obtain ⟨vs, st', e3, ts, M', h2, h3, hf2, hk⟩ := resW_sound h1 hk
      exact ⟨v :: vs, st', by simp only [getRes, e, Option.bind_some, e3], t :: ts, M', .cons hd h2, h3, hf1.trans hf2, hk⟩
theorem argsT_den : ∀ {args : List TV} {args' : List V} (_ : Pw (Den ρ) args args') {i s : Nat} {t : TV}, fnd (argsT i args) s = some t → i ≤ s ∧ Den ρ t (args'.getD (s - i) .undef)
  | [], _, _, i, s, v, h => by cases h
  | x :: args, y :: args', .cons h1 h2, i, s, v, h => by
    unfold argsT at h
    rw [fnd_cons] at h
    split at h
    · rename_i e; subst e; cases h; simpa using h1
    · obtain ⟨h3, h4⟩ := argsT_den h2 h
      refine ⟨by omega, ?_⟩
      rw [show s - i = (s - (i + 1)) + 1 from by omega]
      simpa using h4
theorem Den.flat0 {t : TV} {v : V} (h : Den ρ t v) (hf : t.flat0 = true) : Den0 t v := by
  cases h with
  | base h => exact h
  | func f h =>
    cases h with
    | nil => exact .func f
    | cons _ _ => cases hf
  | _ => cases hf
theorem Den.low0' {t : TV} {v : V} (h : Den ρ t v) (hf : t.low0 = true) : Den0 t v := by
  cases h with
  | base h => exact h
  | func f h =>
    cases h with
    | nil => exact .func f
    | cons _ _ => cases hf
  | _ => cases hf
theorem Pw.all_imp {α β : Type} {R R' : α → β → Prop} {p : α → Bool} (hm : ∀ x y, R x y → p x = true → R' x y) {l : List α} {l' : List β} (h : Pw R l l') (ha : l.all p = true) : Pw R' l l' := by
  induction h with
  | nil => exact .nil
  | cons hr _ ih =>
    simp only [List.all_cons, Bool.and_eq_true] at ha
    exact .cons (hm _ _ hr ha.1) (ih ha.2)
theorem Den.flat1 {t : TV} {v : V} (h : Den ρ t v) (hf : t.flat1 = true) (ρ' : List Nat) : Den ρ' t v := by
  cases h with
  | agg h => exact .agg (Pw.all_imp (p := TV.flat0) (fun _ _ h hf => .base (h.flat0 hf)) h hf)
  | base h => exact .base h
  | func f h =>
    cases h with
    | nil => exact .func f .nil
    | cons _ _ => cases hf
  | _ => cases hf
theorem Den.lower1 {t : TV} {v : V} (h : Den ρ t v) (hf : t.low1 = true) (ρ' : List Nat) : Den ρ' t v := by
  cases h with
  | agg h => exact .agg (Pw.all_imp (p := TV.low0) (fun _ _ h hf => .base (h.low0' hf)) h hf)
  | base h => exact .base h
  | func f h =>
    cases h with
    | nil => exact .func f .nil
    | cons _ _ => cases hf
  | _ => cases hf
theorem Den.lower {t : TV} {v : V} (h : Den ρ t v) (hf : t.low2 = true) (ρ' : List Nat) : Den ρ' t v := by
  cases h with
  | tuple h => exact .tuple (Pw.all_imp (p := TV.low1) (fun _ _ h hf => h.lower1 hf ρ') h hf)
  | agg h => exact (Den.agg h).lower1 hf ρ'
  | base h => exact .base h
  | func f h =>
    cases h with
    | nil => exact .func f .nil
    | cons _ _ => cases hf
  | _ => cases hf
theorem tupled_den {ts : List TV} {vs : List V} (h : Pw (Den ρ) ts vs) : Den ρ (tupledT ts) (tupled vs) := by
  cases h with
  | nil => exact .tuple .nil
  | cons h t =>
    cases t with
    | nil => exact h
    | cons h2 t2 => exact .tuple (.cons h (.cons h2 t2))
theorem run_of {af : AFunc} {args : List TV} {K : List TV → Ms → Prop} (hl : Nat.beq args.length af.np = true)
    (h : WP cf af.body (argsT 0 args) [] M fun e L B M1 => match e with
      | .exit _ => False
      | _ => resW af.results L B M1 fun vs M2 => vs.all TV.ok1 = true ∧ K vs M2) {m : Am.Ms} {args' : List V} (hm : Mg ρ M m) (ha : Pw (Den ρ) args args') :
    ∃ vs m2 ρ' ts M2, runF cf af args' m = some (tupled vs, if (tupled vs).top2 ≤ m.length then m2.take m.length else m2) ∧ Pw (Den ρ') ts vs ∧ Mg ρ' M2 m2 ∧ Fr ρ m ρ' m2 ∧ K ts M2 := by
  obtain ⟨e, st, h1, ρ1, L, B, M1, hR, hf, hk⟩ := h.go ρ ⟨fun i => args'.getD i .undef, fun _ => [], m⟩ ⟨fun s v hv => by have := (argsT_den ha hv).2; simpa using this, fun s v hv => (nomatch hv), hm⟩
  have hlen : args'.length = af.np := by rw [← ha.length]; exact Nat.eq_of_beq_eq_true hl
  have fin : (resW af.results L B M1 fun vs M2 => vs.all TV.ok1 = true ∧ K vs M2) → (e = .normal ∨ e = .ret) → ∃ vs m2 ρ' ts M2, runF cf af args' m = some (tupled vs, if (tupled vs).top2 ≤ m.length then m2.take m.length else m2) ∧ Pw (Den ρ') ts vs ∧ Mg ρ' M2 m2 ∧ Fr ρ m ρ' m2 ∧ K ts M2 := fun hk he => by
    obtain ⟨vs, st', e2, ts, M2, h2, h3, hf2, ho, hK⟩ := resW_sound hR hk
    have hf3 := hf.trans hf2
    refine ⟨vs, st'.m, ρ1, ts, M2, ?_, h2, h3, hf3, hK⟩
    have er : result st af.results = some (tupled vs, st') := by
      unfold result
      rw [e2]
      simp only [Option.bind_some]
      rw [if_pos (Pw.all (p := TV.ok1) (q := V.ok1) (fun _ _ h ho => Den.ok1 h ho) h2 ho)]
      match vs with
      | [] => rfl
      | [v] => rfl
      | v :: w :: r => rfl
    unfold runF
    rw [if_pos hlen, h1]
    rcases he with rfl | rfl
    · simp only [Option.bind_some, er]; rw [if_pos hf3.2.1]
    · simp only [Option.bind_some, er]; rw [if_pos hf3.2.1]
  cases e with
  | normal => exact fin hk (.inl rfl)
  | ret => exact fin hk (.inr rfl)
  | exit i => exact hk.elim
theorem Fr.take {m m2 : Am.Ms} {e : List Nat} (h : Fr ρ m (ρ ++ e) m2) : Fr ρ m ρ (m2.take m.length) ∧ (m2.take m.length).length = m.length := by
  obtain ⟨_, h2, h3⟩ := h
  have hl : (m2.take m.length).length = m.length := by rw [List.length_take]; omega
  exact ⟨⟨⟨[], by simp, by simp⟩, by omega, fun c hc hn => by rw [List.getElem?_take, if_pos hc]; exact h3 c hc hn⟩, hl⟩
theorem Mg.take {m m2 : Am.Ms} {e : List Nat} {M2 : Ms} (h0 : Mg ρ M m) (h : Mg (ρ ++ e) M2 m2) (hd : ∀ (i b : Nat) (cs : List TV) (cs' : List V), ρ[i]? = some b → M2[i]? = some cs → Pw (Den (ρ ++ e)) cs cs' → Pw (Den ρ) cs cs') : Mg ρ (M2.take M.length) (m2.take m.length) := by
  have hl := h.2.1
  have hl0 := h0.2.1
  rw [List.length_append] at hl
  refine ⟨h0.1, by rw [List.length_take]; omega, fun i b hi => ?_⟩
  obtain ⟨cs, cs', h1, h2, h3⟩ := h.2.2 i b (by rw [List.getElem?_append_left (lt_of_get hi)]; exact hi)
  have hlt := lt_of_get hi
  refine ⟨cs, cs', ?_, ?_, hd i b cs cs' hi h1 h3⟩
  · rw [List.getElem?_take, if_pos (by omega)]; exact h1
  · rw [List.getElem?_take, if_pos (h0.lt (List.mem_of_getElem? hi))]; exact h2
theorem con_low {T : Table} {f : Nat} {af : AFunc} (hf : T.code f = some af) {args : List TV} {r : TV} {M' : Ms} (hl : Nat.beq args.length af.np = true)
    (h : WP (RF T) af.body (argsT 0 args) [] M fun e L B M1 => match e with
      | .exit _ => False
      | _ => resW af.results L B M1 fun vs M2 => vs.all TV.ok1 = true ∧ tupledT vs = r ∧ r.low2 = true ∧ M2.take M.length = M' ∧ flatM M' = true) : CallT false (RF T) f args M r M' := by
  intro ρ m args' hm ha
  obtain ⟨vs, m2, ρ', ts, M2, h1, h2, h3, hfr, rfl, hr, rfl, hfl⟩ := run_of hl h hm ha
  obtain ⟨e, rfl, _⟩ := hfr.1
  have hd := (tupled_den h2).lower hr ρ
  have ht : (tupled vs).top2 = 0 := hd.low2 hr
  rw [if_pos (by omega)] at h1
  obtain ⟨hf1, hf2⟩ := hfr.take
  refine ⟨_, _, ρ, RF_of hf h1, hd, hm.take h3 fun i b cs cs' hi hM hp => ?_, hf1, fun _ => hf2, fun hh => by cases hh⟩
  have hlt : i < M.length := by rw [← hm.2.1]; exact lt_of_get hi
  have hmem : cs ∈ M2.take M.length := List.mem_of_getElem? (i := i) (by rw [List.getElem?_take, if_pos hlt]; exact hM)
  have := List.all_eq_true.1 hfl cs hmem
  exact Pw.all_imp (p := TV.flat0) (fun _ _ h hf => .base (h.flat0 hf)) hp this
end
section
variable {cf : CF} {f : Nat} {args : List TV} {r : TV}
theorem CallT.quiet (h : CallT false cf f args [] r []) (hr : r.low2 = true) : CallT true cf f args [] r [] := by
  intro ρ m args' hm ha
  obtain ⟨r', m', ρ', h1, h2, h3, h4, h5, _⟩ := h ρ m args' hm ha
  refine ⟨r', m', ρ', h1, h2, h3, h4, h5, fun _ => ?_⟩
  have hρ : ρ = [] := List.length_eq_zero_iff.1 hm.2.1
  subst hρ
  refine List.ext_getElem? fun i => ?_
  by_cases hi : i < m.length
  · exact h4.2.2 i hi (by simp)
  · rw [List.getElem?_eq_none (by rw [h5 hr]; omega), List.getElem?_eq_none (by omega)]
theorem CallT.any {q : Bool} (h : CallT true cf f args [] r []) (hr : r.low2 = true) (M : Ms) (ha : args.all TV.flat1 = true) : CallT q cf f args M r M := by
  intro ρ m args' hm hd
  obtain ⟨r', m', ρ', h1, h2, _, _, _, h6⟩ := h [] m args' ⟨List.nodup_nil, rfl, fun i b hi => by simp at hi⟩ (Pw.all_imp (p := TV.flat1) (fun _ _ h hf => h.flat1 hf []) hd ha)
  have := h6 rfl
  subst this
  exact ⟨r', m', ρ, h1, h2.lower hr ρ, hm, .refl _ _, fun _ => rfl, fun _ => rfl⟩
def renT (π : List Nat) : TV → TV
  | .ptr i o => .ptr (π.getD i 0) o
  | t => t
def TV.argP : TV → Bool
  | .ptr j _ => Nat.beq j 0
  | t => t.flat1
theorem CallT.sub {q : Bool} {i : Nat} {c c' : List TV} (h : CallT q cf f args [c] r [c']) (hr : r.low2 = true) (M : Ms) (hi : M[i]? = some c) (ha : args.all TV.argP = true) (hc : c.all TV.flat0 = true) (hc' : c'.all TV.flat0 = true) : CallT q cf f (args.map (renT [i])) M r (M.set i c') := by
  intro ρ m args' hm hd
  obtain ⟨b, cs', hb, hcs, hpw⟩ := hm.has hi
  have hm0 : Mg [b] [c] m := ⟨by simp, rfl, fun j d hj => by
    match j, hj with
    | 0, hj =>
      simp only [List.getElem?_cons_zero, Option.some.injEq] at hj
      subst hj
      exact ⟨c, cs', rfl, hcs, Pw.all_imp (p := TV.flat0) (fun _ _ h hf => .base (h.flat0 hf)) hpw hc⟩
    | j + 1, hj => simp at hj⟩
  have hargs : Pw (Den [b]) args args' := by
    clear h
    induction args generalizing args' with
    | nil => cases hd; exact .nil
    | cons t ts ih =>
      rw [List.map_cons] at hd
      simp only [List.all_cons, Bool.and_eq_true] at ha
      cases hd with
      | cons hd1 hd2 =>
        refine .cons ?_ (ih ha.2 _ hd2)
        have flat : ∀ {t : TV} {v : V}, Den ρ t v → t.flat1 = true → Den [b] t v := fun h hf => h.flat1 hf _
        cases t with
        | ptr j o =>
          have hj : j = 0 := Nat.eq_of_beq_eq_true ha.1
          subst hj
          obtain ⟨b2, rfl, hb2⟩ := Den.ptr_inv (show Den ρ (.ptr i o) _ from hd1)
          rw [hb] at hb2
          cases hb2
          exact .ptr o rfl
        | _ => exact flat hd1 ha.1
  obtain ⟨r', m', ρ', h1, h2, h3, h4, h5, h6⟩ := h [b] m args' hm0 hargs
  obtain ⟨⟨e, rfl, heb⟩, h7, h8⟩ := h4
  have he : e = [] := by
    have := h3.2.1
    simp only [List.length_append, List.length_cons, List.length_nil] at this
    exact List.length_eq_zero_iff.1 (by omega)
  subst he
  obtain ⟨d, d', g1, g2, g3⟩ := h3.2.2 0 b rfl
  simp only [List.getElem?_cons_zero, Option.some.injEq] at g1
  subst g1
  refine ⟨r', m', ρ, h1, h2.lower hr ρ, ⟨hm.1, by rw [List.length_set]; exact hm.2.1, fun j x hj => ?_⟩, ⟨⟨[], by simp, by simp⟩, h7, fun x hx hn => h8 x hx (fun hh => hn ?_)⟩, h5, h6⟩
  · obtain ⟨y, y', k1, k2, k3⟩ := hm.2.2 j x hj
    by_cases hij : i = j
    · subst hij
      rw [hb] at hj; cases hj
      exact ⟨_, d', List.getElem?_set_self (lt_of_get k1), g2, Pw.all_imp (p := TV.flat0) (fun _ _ h hf => .base (h.flat0 hf)) g3 hc'⟩
    · have hne : x ∉ [b] := fun hh => by
        rw [List.mem_singleton.1 hh] at hj
        exact hij (nodup_inj hm.1 hb hj)
      exact ⟨y, y', by rw [List.getElem?_set_ne hij]; exact k1, by rw [h8 x (lt_of_get k2) hne]; exact k2, k3⟩
  · rw [List.mem_singleton.1 hh]; exact List.mem_of_getElem? hb
end
end Go.Proofs.Ytgglgcehiolpcaa.Am.T

namespace Go.Proofs.Ytgglgcehiolpcaa.Am.T
open Go.Proofs.Ytgglgcehiolpcaa.Am
abbrev w64 (n : Int) : Int := IntKind.wrap .i64 n
abbrev w8 (n : Int) : Int := IntKind.wrap .u8 n
abbrev iOr (k : IntKind) (n p : Int) : Int := k.wrap ((BitVec.ofInt k.bits n ||| BitVec.ofInt k.bits p).toNat)
abbrev iShl (k : IntKind) (n p : Int) : Int := k.wrap (n * 2 ^ min p.toNat k.bits)
abbrev iShr (k : IntKind) (n p : Int) : Int := n.fdiv (2 ^ min p.toNat k.bits)
def letB {α : Type} (b : Bool) (f : Bool → Option α) : Option α := f b
theorem letB_inv {α : Type} {b c : Bool} {f : Bool → Option α} {r : α} (hc : b = c) (h : letB b f = some r) : f c = some r := by subst hc; exact h
theorem bind_inv {α β : Type} {o : Option α} {f : α → Option β} {r : β} (h : o.bind f = some r) : ∃ x, o = some x ∧ f x = some r := Option.bind_eq_some_iff.1 h
theorem bif_t {α : Type} {b : Bool} {x y : α} {r : α} (hb : b = true) (h : (bif b then x else y) = r) : x = r := by subst hb; exact h
theorem bif_f {α : Type} {b : Bool} {x y : α} {r : α} (hb : b = false) (h : (bif b then x else y) = r) : y = r := by subst hb; exact h
section
variable {α : Type}
def idx (l : List α) (i : Int) : Option α := if 0 ≤ i then l[i.toNat]? else none
theorem idx_nn {l : List α} {i : Int} {x : α} (h : idx l i = some x) : 0 ≤ i := by
  unfold idx at h; split at h
  · assumption
  · cases h
theorem idx_at {l : List α} {i : Int} {x : α} (h : idx l i = some x) : l[i.toNat]? = some x := by
  unfold idx at h; split at h
  · exact h
  · cases h
theorem idx_get {l : List α} {i : Int} {x : α} (e : α → List TV) (h : idx l i = some x) : (l.map e)[i.toNat]? = some (e x) := by
  rw [List.getElem?_map, idx_at h]; rfl
theorem idx_of {l : List α} {i : Int} {x : α} (h0 : 0 ≤ i) (h : l[i.toNat]? = some x) : idx l i = some x := by unfold idx; rw [if_pos h0]; exact h
def app (a b : List α) : Option (List α) := if a.length + b.length ≤ most then some (a ++ b) else none
theorem app_le {a b y : List α} (e : α → List TV) (h : app a b = some y) : (a.map e).length + (b.map e).length ≤ most := by
  unfold app at h; split at h
  · simpa using ‹_›
  · cases h
theorem app_eq {a b y : List α} (e : α → List TV) (h : app a b = some y) : y.map e = a.map e ++ b.map e := by
  unfold app at h; split at h
  · cases h; exact List.map_append
  · cases h
theorem app_is {a b y : List α} (h : app a b = some y) : y = a ++ b := by
  unfold app at h; split at h
  · cases h; rfl
  · cases h
theorem app_some {a b : List α} (h : a.length + b.length ≤ most) : app a b = some (a ++ b) := by unfold app; rw [if_pos h]
def subL (l : List α) (a b : Int) : Option (List α) := if 0 ≤ a ∧ a ≤ b ∧ b ≤ l.length then some ((l.drop a.toNat).take (b.toNat - a.toNat)) else none
def subA (l : List α) (a : Int) : Option (List α) := if 0 ≤ a ∧ a ≤ l.length then some (l.drop a.toNat) else none
theorem subL_inv {l y : List α} {a b : Int} (h : subL l a b = some y) : 0 ≤ a ∧ a ≤ b ∧ b ≤ l.length ∧ y = (l.drop a.toNat).take (b.toNat - a.toNat) := by
  unfold subL at h; split at h
  · cases h; rename_i hh; exact ⟨hh.1, hh.2.1, hh.2.2, rfl⟩
  · cases h
theorem subA_inv {l y : List α} {a : Int} (h : subA l a = some y) : 0 ≤ a ∧ a ≤ l.length ∧ y = l.drop a.toNat := by
  unfold subA at h; split at h
  · cases h; rename_i hh; exact ⟨hh.1, hh.2, rfl⟩
  · cases h
theorem subL_b {l y : List α} {a b : Int} (h : subL l a b = some y) : 0 ≤ b := by have := subL_inv h; omega
theorem subL_a {l y : List α} {a b : Int} (h : subL l a b = some y) : 0 ≤ a := (subL_inv h).1
theorem subL_le {l y : List α} {a b : Int} (e : α → List TV) (h : subL l a b = some y) : a.toNat ≤ b.toNat ∧ b.toNat ≤ (l.map e).length := by
  have := subL_inv h; rw [List.length_map]; omega
theorem subL_eq {l y : List α} {a b : Int} (e : α → List TV) (h : subL l a b = some y) : y.map e = ((l.map e).drop a.toNat).take (b.toNat - a.toNat) := by
  obtain ⟨_, _, _, rfl⟩ := subL_inv h; rw [List.map_take, List.map_drop]
theorem subA_a {l y : List α} {a : Int} (h : subA l a = some y) : 0 ≤ a := (subA_inv h).1
theorem subA_le {l y : List α} {a : Int} (e : α → List TV) (h : subA l a = some y) : a.toNat ≤ (l.map e).length ∧ (l.map e).length ≤ (l.map e).length := by
  have := subA_inv h; rw [List.length_map]; omega
theorem subA_eq {l y : List α} {a : Int} (e : α → List TV) (h : subA l a = some y) : y.map e = ((l.map e).drop a.toNat).take ((l.map e).length - a.toNat) := by
  obtain ⟨_, _, rfl⟩ := subA_inv h; rw [List.map_drop, List.take_of_length_le (by rw [List.length_drop]; omega)]
end
theorem WPO_then {cf : CF} {L : Ts} {B : Bs} {M : Ms} {d : Bool} {os : List AOper} {K : Ts → Bs → Ms → Prop} (n : Nat)
    (h : WPO d cf (os.take n) L B M fun L1 B1 M1 => WPO d cf (os.drop n) L1 B1 M1 K) : WPO d cf os L B M K := by
  refine ⟨fun ρ st hr => ?_⟩
  obtain ⟨st1, e1, ρ1, L1, B1, M1, h1, hf1, hk⟩ := h.go ρ st hr
  obtain ⟨st2, e2, ρ2, L3, B3, M3, h4, hf2, hk⟩ := hk.go ρ1 st1 h1
  refine ⟨st2, ?_, ρ2, L3, B3, M3, h4, hf1.trans hf2, hk⟩
  rw [← List.take_append_drop n os]
  cases d with
  | false => simp only [Bool.false_eq_true, if_false] at e1 e2 ⊢; rw [runOps_append, e1]; exact e2
  | true => simp only [if_true] at e1 e2 ⊢; rw [runD_append, e1]; exact e2
def lendA {α : Type} (b : List α) (lo : Nat) : Option (List α) := if lo < b.length then some (b.drop lo) else none
theorem lendA_lt {α β : Type} {b x : List α} {lo : Nat} (e : α → β) (h : lendA b lo = some x) : lo < (b.map e).length := by
  unfold lendA at h; split at h
  · rename_i hh; simpa using hh
  · cases h
theorem lendA_eq {α β : Type} {b x : List α} {lo : Nat} (e : α → β) (h : lendA b lo = some x) : x.map e = (b.map e).drop lo := by
  unfold lendA at h; split at h
  · cases h; rw [List.map_drop]
  · cases h
end Go.Proofs.Ytgglgcehiolpcaa.Am.T

namespace Go.Proofs.Ytgglgcehiolpcaa.Am.T
variable {ρ : List Nat} {cf : CF} {f : Nat} {args : List TV} {M : Ms} {r : TV}
theorem fr_refl (ρ : List Nat) (m : Am.Ms) : Fr ρ m ρ m := ⟨⟨[], (List.append_nil _).symm, fun _ h => by cases h⟩, Nat.le_refl _, fun _ _ _ => rfl⟩
theorem CallT.pure (h : ∀ ρ m args', Pw (Den ρ) args args' → ∃ r', cf f args' m = some (r', m) ∧ Den ρ r r') : CallT true cf f args M r M := fun ρ m a hM ha =>
  let ⟨r', e, hd⟩ := h ρ m a ha
  ⟨r', m, ρ, e, hd, hM, fr_refl ρ m, fun _ => rfl, fun _ => rfl⟩
theorem CallT.law {q : Bool} {b : Bool} {args' : List V} (h : CallT q cf f args [] (.bool b) []) (ha : Pw (Den []) args args') : ∃ m', cf f args' [] = some (.bool b, m') := by
  obtain ⟨r', m', ρ', e, hd, _, _, _, _⟩ := h [] [] args' ⟨List.nodup_nil, rfl, fun i b h => by cases h⟩ ha
  cases hd with
  | base hd => cases hd; exact ⟨m', e⟩
theorem pw_nil {α β : Type} {R : α → β → Prop} {l : List β} (h : Pw R [] l) : l = [] := by cases h; rfl
theorem pw_cons {α β : Type} {R : α → β → Prop} {a : α} {s : List α} {l : List β} (h : Pw R (a :: s) l) : ∃ b l', l = b :: l' ∧ R a b ∧ Pw R s l' := by cases h with | cons h t => exact ⟨_, _, rfl, h, t⟩
theorem pw_bytes {xs : List Int} {ys : List (List V)} (h : Pw (Pw Den0) (xs.map by8) ys) : ys = xs.map fun n => [V.int .u8 n] := by
  induction xs generalizing ys with
  | nil => exact pw_nil h
  | cons x xs ih =>
    obtain ⟨b, l', rfl, hb, ht⟩ := pw_cons h
    obtain ⟨c, l2, rfl, hc, hn⟩ := pw_cons hb
    cases hc
    rw [pw_nil hn, ih ht]; rfl
theorem den_sl {w : Bool} {z : Nat} {xs : List (List TV)} {v : V} (h : Den ρ (.sl w z xs) v) : (v = .nils ∧ xs = []) ∨ ∃ ys, v = .slice w z ys ∧ Pw (Pw Den0) xs ys := by
  cases h with
  | base h =>
    cases h with
    | sl _ _ h => exact .inr ⟨_, rfl, h⟩
    | sln => exact .inl ⟨rfl, rfl⟩
end Go.Proofs.Ytgglgcehiolpcaa.Am.T

namespace Go.Proofs.Ytgglgcehiolpcaa.Am
def tableOf (l : List (Nat × AFunc)) (x : CF) : Table := ⟨fun f => l.lookup f, x⟩
def allOK (P : Program) : List (Nat × AFunc) → Prop
  | [] => True
  | p :: l => FuncOK P p.1 p.2 ∧ allOK P l
theorem tableOf_ok {P : Program} {l : List (Nat × AFunc)} {x : CF} (h : allOK P l) (hx : Good P x) : TableOK P (tableOf l x) where
  code f af hf := by
    have key : ∀ l : List (Nat × AFunc), allOK P l → l.lookup f = some af → FuncOK P f af := by
      intro l
      induction l with
      | nil => intro _ hl; cases hl
      | cons p l ih =>
        intro h hl
        obtain ⟨g, b⟩ := p
        rw [List.lookup_cons] at hl
        cases hb : f == g with
        | true =>
          rw [hb] at hl
          have := beq_iff_eq.1 hb
          subst this
          cases hl
          exact h.1
        | false => rw [hb] at hl; exact ih h.2 hl
    exact key l h hf
  ext := hx
end Go.Proofs.Ytgglgcehiolpcaa.Am

namespace Go.Proofs.Ytgglgcehiolpcaa.Am.Frame
def sumB (l : List Int) : Int := l.foldl (fun n c => IntKind.wrap .u8 (n + c)) 0
def showB (p : List Int) : List Int :=
  let h : List Int := [6, IntKind.wrap .u8 p.length, IntKind.wrap .u8 (Int.fdiv p.length 256)]
  197 :: (h ++ p ++ [sumB (h ++ p)])
def screenN : Nat → List Int → List Int
  | 0, _ => []
  | n + 1, l => if l = [] then [] else showB (l.take 512) ++ screenN n (l.drop 512)
def screenB (l : List Int) : List Int := screenN l.length l
def intsB : List (List V) → Option (List Int)
  | [] => some []
  | [V.int .u8 n] :: r => (intsB r).map fun s => n :: s
  | _ => none
def bytesV (l : List Int) : List (List V) := l.map fun n => [V.int .u8 n]
def scrX : CF := fun f args m => match f, args with
  | 18, [.nils] => some (.nils, m)
  | 18, [.slice false 1 xs] => match intsB xs with
    | some l => if l.all (fun b => decide (0 ≤ b ∧ b < 256)) ∧ l.length * 2 ≤ most then (match l with
      | [] => some (.nils, m)
      | l => some (.slice true 1 (bytesV (screenB l)), m)) else none
    | none => none
  | _, _ => none
end Go.Proofs.Ytgglgcehiolpcaa.Am.Frame

namespace Go.Proofs.Ytgglgcehiolpcaa.Am.Frame
def p4 : Plan := ⟨[59], 2, [((10, 7), { mark := (.loc 0) }),
    ((10, 6), { mark := .free }),
    ((10, 5), { mark := .free }),
    ((10, 1), { mark := .free }),
    ((0, 0), { box := some 0 }),
    ((3, 1), { uses := [(17, .share)] }),
    ((3, 5), { uses := [(19, .share)] }),
    ((4, 1), { uses := [(22, .share)] }),
    ((4, 2), { uses := [(23, .share)] }),
    ((4, 6), { uses := [(25, .share)] }),
    ((5, 6), { uses := [(31, .share), (32, .share)] }),
    ((9, 1), { uses := [(38, .share)] }),
    ((9, 2), { uses := [(39, .share)] }),
    ((10, 8), { uses := [(47, .share)] }),
    ((10, 9), { uses := [(46, .share), (48, .share)] }),
    ((12, 1), { uses := [(56, .take)] }),
    ((13, 1), { uses := [(57, .share)] }),
    ((13, 2), { uses := [(58, .share)] }),
    ((13, 3), { uses := [(59, .peek)] }),
    ((15, 1), { uses := [(59, .peek)] }),
    ((15, 3), { box := some 1 }),
    ((15, 5), { uses := [(65, .share)] }),
    ((18, 0), { uses := [(11, .take)] }),
    ((18, 4), { uses := [(83, .take), (86, .take)] }),
    ((18, 5), { uses := [(87, .take)] }),
    ((20, 3), { uses := [(11, .take)] }),
    ((20, 5), { uses := [(92, .share), (93, .share)] })],
  [[1, 9, 11, 59, 60, 61]]⟩
def a4 : AFunc := ⟨2, 96, 2, [.tmp 4],
  .seq (.region false [⟨(some 2), none, false, .boxL 0 (.t 0), .none⟩,
    ⟨(some 4), none, false, .mv (.c (.bool false)), .none⟩])
  (.seq (.seq (.region false [⟨(some 14), none, false, .callF 9 [], .none⟩,
    ⟨(some 15), none, false, .un .not (.t 14), .none⟩])
  (.cond (.t 15)
   (.seq (.region false [⟨(some 4), none, false, .mv (.c (.bool false)), .none⟩])
   (.ret))
   (.skip)))
  (.seq (.region false [⟨(some 17), none, false, .load true 5 (.t 2) .copy, .none⟩,
    ⟨(some 18), none, false, .callF 14 [(.u 17 .share)], .none⟩,
    ⟨(some 16), none, false, .mv (.t 18), .none⟩,
    ⟨(some 19), none, false, .extract (.t 16) 0, .none⟩,
    ⟨(some 20), none, false, .extract (.t 16) 1, .none⟩,
    ⟨(some 5), none, false, .mv (.u 19 .share), .none⟩,
    ⟨(some 6), none, false, .mv (.t 20), .none⟩])
  (.seq (.region false [⟨(some 22), none, false, .load true 5 (.t 2) .copy, .none⟩,
    ⟨(some 23), none, false, .callF 16 [(.u 22 .share)], .none⟩,
    ⟨(some 24), none, false, .callF 15 [(.u 23 .share)], .none⟩,
    ⟨(some 21), none, false, .mv (.t 24), .none⟩,
    ⟨(some 25), none, false, .extract (.t 21) 0, .none⟩,
    ⟨(some 26), none, false, .extract (.t 21) 1, .none⟩,
    ⟨(some 7), none, false, .mv (.u 25 .share), .none⟩,
    ⟨(some 8), none, false, .mv (.t 26), .none⟩])
  (.seq (.seq (.region false [⟨(some 27), none, false, .mv (.t 6), .none⟩,
    ⟨(some 28), none, false, .mv (.t 8), .none⟩,
    ⟨(some 29), none, false, .bin .neq (.t 27) (.t 28), .none⟩,
    ⟨(some 30), none, false, .mv (.t 29), .none⟩,
    ⟨(some 31), (some (30, false)), false, .mv (.t 5), .none⟩,
    ⟨(some 32), (some (30, false)), false, .mv (.t 7), .none⟩,
    ⟨(some 33), (some (30, false)), false, .callF 17 [(.u 31 .share), (.u 32 .share)], .none⟩,
    ⟨(some 34), (some (30, false)), false, .un .not (.t 33), .none⟩,
    ⟨(some 35), none, false, .pick (.t 30) (.c (.bool true)) (.t 34), .none⟩])
  (.cond (.t 35)
   (.seq (.region false [⟨(some 4), none, false, .mv (.c (.bool false)), .none⟩])
   (.ret))
   (.skip)))
  (.seq (.region false [⟨(some 9), none, false, .allocM [.nils], .none⟩])
  (.seq (.seq (.region false [⟨(some 36), none, false, .mv (.t 6), .none⟩,
    ⟨(some 37), none, false, .bin .eql (.t 36) (.c (.int .i64 0)), .none⟩])
  (.cond (.t 37)
   (.seq (.region false [⟨(some 38), none, false, .mv (.t 5), .none⟩,
     ⟨(some 39), none, false, .callF 11 [(.t 9), (.u 38 .share)], .none⟩,
     ⟨(some 10), none, false, .mv (.u 39 .share), .none⟩])
   (.seq (.region true [⟨(some 40), none, false, .mv (.t 10), .none⟩,
     ⟨(some 41), none, false, .lenSl (.t 40), .free⟩,
     ⟨(some 42), none, false, .bin .neq (.t 41) (.c (.int .i64 1)), .none⟩,
     ⟨(some 43), none, false, .mv (.t 42), .none⟩,
     ⟨(some 44), (some (43, false)), false, .mv (.t 10), .none⟩,
     ⟨(some 45), (some (43, false)), false, .indexSl 6 (.t 44) (.c (.int .i64 0)), .free⟩,
     ⟨(some 46), (some (43, false)), false, .load true 6 (.t 45) .copy, .free⟩,
     ⟨(some 47), (some (43, false)), false, .load true 5 (.t 2) .copy, (.loc 0)⟩,
     ⟨(some 48), (some (43, false)), false, .callF 16 [(.u 47 .share)], .none⟩,
     ⟨(some 49), (some (43, false)), false, .callF 13 [(.u 46 .share), (.u 48 .share)], .none⟩,
     ⟨(some 50), (some (43, false)), false, .un .not (.t 49), .none⟩,
     ⟨(some 51), none, false, .pick (.t 43) (.c (.bool true)) (.t 50), .none⟩,
     ⟨(some 52), none, false, .mv (.t 51), .none⟩,
     ⟨(some 53), (some (52, false)), false, .callF 12 [(.t 9)], .none⟩,
     ⟨(some 54), (some (52, false)), false, .bin .neq (.t 53) (.c (.int .i64 0)), .none⟩,
     ⟨(some 55), none, false, .pick (.t 52) (.c (.bool true)) (.t 54), .none⟩])
   (.cond (.t 55)
    (.seq (.region false [⟨(some 4), none, false, .mv (.c (.bool false)), .none⟩])
    (.ret))
    (.skip))))
   (.skip)))
  (.seq (.region false [⟨(some 56), none, false, .buildSlice 1 [(.int .u8 0)] 0 [], .none⟩,
    ⟨(some 11), none, false, .mv (.u 56 .take), .none⟩])
  (.seq (.seq (.region false [⟨(some 57), none, false, .mv (.t 1), .none⟩,
    ⟨(some 58), none, false, .callF 18 [(.u 57 .share)], .none⟩,
    ⟨(some 59), none, true, .callF 11 [(.t 9), (.u 58 .share)], .none⟩,
    ⟨(some 60), none, false, .lenSl (.u 59 .peek), .none⟩,
    ⟨(some 61), none, false, .mv (.c (.int .i64 0)), .none⟩])
  (.block 0 (.loop [1, 9, 11, 59, 60, 61] (.seq (.region false [⟨(some 62), none, false, .bin .lss (.t 61) (.t 60), .none⟩])
   (.seq (.cond (.t 62)
    (.skip)
    (.exit 0))
   (.seq (.block 1 (.seq (.region false [⟨(some 63), none, false, .mv (.t 61), .none⟩,
     ⟨(some 64), none, false, .indexSl 6 (.u 59 .peek) (.t 61), .none⟩,
     ⟨(some 65), none, false, .load true 6 (.t 64) .copy, .none⟩,
     ⟨(some 13), none, false, .allocL 1 [(.int .i64 0), (.int .i64 0), (.int .i64 0), (.int .i64 0), .nils, (.int .i64 0)], .none⟩,
     ⟨(some 12), none, false, .mv (.t 63), .none⟩,
     ⟨none, none, false, .store 6 (.t 13) (.u 65 .share), .none⟩])
   (.seq (.seq (.region false [⟨(some 66), none, false, .fieldAddr 0 (.t 13), .none⟩,
     ⟨(some 67), none, false, .fieldAddr 0 (.t 66), .none⟩,
     ⟨(some 68), none, false, .load false 1 (.t 67) .copy, .none⟩,
     ⟨(some 69), none, false, .bin .neq (.t 68) (.c (.int .i64 6)), .none⟩,
     ⟨(some 70), none, false, .mv (.t 69), .none⟩,
     ⟨(some 71), (some (70, false)), false, .fieldAddr 0 (.t 13), .none⟩,
     ⟨(some 72), (some (70, false)), false, .fieldAddr 4 (.t 71), .none⟩,
     ⟨(some 73), (some (70, false)), false, .load false 1 (.t 72) .copy, .none⟩,
     ⟨(some 74), (some (70, false)), false, .lenSl (.t 73), .none⟩,
     ⟨(some 75), (some (70, false)), false, .mv (.t 1), .none⟩,
     ⟨(some 76), (some (70, false)), false, .lenSl (.t 75), .none⟩,
     ⟨(some 77), (some (70, false)), false, .mv (.t 12), .none⟩,
     ⟨(some 78), (some (70, false)), false, .bin .mul (.c (.int .i64 512)) (.t 77), .none⟩,
     ⟨(some 79), (some (70, false)), false, .bin .sub (.t 76) (.t 78), .none⟩,
     ⟨(some 80), (some (70, false)), false, .minMax false (.c (.int .i64 512)) [(.t 79)], .none⟩,
     ⟨(some 81), (some (70, false)), false, .bin .neq (.t 74) (.t 80), .none⟩,
     ⟨(some 82), none, false, .pick (.t 70) (.c (.bool true)) (.t 81), .none⟩])
   (.cond (.t 82)
    (.seq (.region false [⟨(some 4), none, false, .mv (.c (.bool false)), .none⟩])
    (.ret))
    (.skip)))
   (.region false [⟨(some 83), none, false, .mv (.u 11 .take), .none⟩,
     ⟨(some 84), none, false, .fieldAddr 0 (.t 13), .none⟩,
     ⟨(some 85), none, false, .fieldAddr 4 (.t 84), .none⟩,
     ⟨(some 86), none, false, .load false 1 (.t 85) .copy, .none⟩,
     ⟨(some 87), none, false, .append 1 (.u 83 .take) (.u 86 .take), .none⟩,
     ⟨(some 11), none, false, .mv (.u 87 .take), .none⟩]))))
   (.region false [⟨(some 88), none, false, .bin .add (.t 61) (.c (.int .i64 1)), .none⟩,
     ⟨(some 61), none, false, .mv (.t 88), .none⟩])))))))
  (.seq (.region false [⟨(some 89), none, false, .callF 12 [(.t 9)], .none⟩,
    ⟨(some 90), none, false, .bin .eql (.t 89) (.c (.int .i64 0)), .none⟩,
    ⟨(some 91), none, false, .mv (.t 90), .none⟩,
    ⟨(some 92), (some (91, true)), false, .mv (.u 11 .take), .none⟩,
    ⟨(some 93), (some (91, true)), false, .mv (.t 1), .none⟩,
    ⟨(some 94), (some (91, true)), false, .callF 17 [(.u 92 .share), (.u 93 .share)], .none⟩,
    ⟨(some 95), none, false, .pick (.t 91) (.t 94) (.c (.bool false)), .none⟩,
    ⟨(some 4), none, false, .mv (.t 95), .none⟩])
  (.ret))))))))))⟩
def b4 : List Nat := [0, 1]
theorem c4 : cFunc Proofs.Try.prog p4 4 = some a4 := by decide +kernel
def p5 : Plan := ⟨[8], 1, [((24, 10), { mark := .free }),
    ((24, 8), { mark := .free }),
    ((24, 5), { mark := (.loc 0) }),
    ((24, 2), { mark := .free }),
    ((4, 1), { uses := [(19, .share)] }),
    ((4, 2), { uses := [(20, .share)] }),
    ((5, 1), { uses := [(21, .take)] }),
    ((11, 0), { uses := [(8, .take)] }),
    ((11, 7), { uses := [(41, .share)] }),
    ((11, 8), { uses := [(35, .take), (42, .take)] }),
    ((11, 9), { uses := [(43, .take)] }),
    ((14, 0), { uses := [(8, .take)] }),
    ((14, 4), { uses := [(51, .share)] }),
    ((14, 5), { uses := [(48, .take), (52, .take)] }),
    ((14, 6), { uses := [(53, .take)] }),
    ((16, 0), { uses := [(8, .peek)] }),
    ((18, 2), { box := some 0 }),
    ((18, 3), { uses := [(59, .share)] }),
    ((24, 11), { uses := [(100, .share)] }),
    ((24, 12), { uses := [(95, .share), (101, .share)] })],
  [[0, 5, 6, 7, 8, 9, 22, 23, 24], [5, 6, 7, 8, 13, 14, 54, 55, 56], [5, 6, 7, 8, 13, 14, 16, 54, 55, 56], [5, 6, 7, 13, 14]]⟩
def a5 : AFunc := ⟨2, 135, 1, [.tmp 4],
  .seq (.region false [⟨(some 4), none, false, .mv (.c (.bool false)), .none⟩])
  (.seq (.seq (.region false [⟨(some 17), none, false, .callF 9 [], .none⟩,
    ⟨(some 18), none, false, .un .not (.t 17), .none⟩])
  (.cond (.t 18)
   (.seq (.region false [⟨(some 4), none, false, .mv (.c (.bool false)), .none⟩])
   (.ret))
   (.skip)))
  (.seq (.region false [⟨(some 5), none, false, .allocM [.nils], .none⟩,
    ⟨(some 6), none, false, .allocM [.nils], .none⟩])
  (.seq (.region false [⟨(some 19), none, false, .mv (.t 0), .none⟩,
    ⟨(some 20), none, false, .callF 11 [(.t 6), (.u 19 .share)], .none⟩,
    ⟨(some 7), none, false, .mv (.u 20 .share), .none⟩])
  (.seq (.region false [⟨(some 21), none, false, .buildSlice 6 [(.int .i64 0), (.int .i64 0), (.int .i64 0), (.int .i64 0), .nils, (.int .i64 0)] 0 [], .none⟩,
    ⟨(some 8), none, true, .mv (.u 21 .take), .none⟩])
  (.seq (.region false [⟨(some 9), none, false, .mv (.c (.int .i64 0)), .none⟩])
  (.seq (.seq (.region false [⟨(some 22), none, false, .mv (.t 1), .none⟩,
    ⟨(some 23), none, false, .lenSl (.t 22), .none⟩,
    ⟨(some 24), none, false, .mv (.c (.int .i64 0)), .none⟩])
  (.block 0 (.loop [0, 5, 6, 7, 8, 9, 22, 23, 24] (.seq (.region false [⟨(some 25), none, false, .bin .lss (.t 24) (.t 23), .none⟩])
   (.seq (.cond (.t 25)
    (.skip)
    (.exit 0))
   (.seq (.block 1 (.seq (.region false [⟨(some 26), none, false, .indexSl 1 (.t 22) (.t 24), .none⟩,
     ⟨(some 27), none, false, .load false 1 (.t 26) .copy, .none⟩,
     ⟨(some 11), none, false, .mv (.t 27), .none⟩])
   (.seq (.region false [⟨(some 28), none, false, .mv (.t 11), .none⟩,
     ⟨(some 29), none, false, .bin .and (.t 28) (.c (.int .i64 31)), .none⟩,
     ⟨(some 30), none, false, .mv (.t 0), .none⟩,
     ⟨(some 31), none, false, .lenSl (.t 30), .none⟩,
     ⟨(some 32), none, false, .mv (.t 9), .none⟩,
     ⟨(some 33), none, false, .bin .sub (.t 31) (.t 32), .none⟩,
     ⟨(some 34), none, false, .minMax false (.t 29) [(.t 33)], .none⟩,
     ⟨(some 12), none, false, .mv (.t 34), .none⟩])
   (.seq (.region false [⟨(some 35), none, false, .mv (.u 8 .take), .none⟩,
     ⟨(some 36), none, false, .mv (.t 0), .none⟩,
     ⟨(some 37), none, false, .mv (.t 9), .none⟩,
     ⟨(some 38), none, false, .mv (.t 9), .none⟩,
     ⟨(some 39), none, false, .mv (.t 12), .none⟩,
     ⟨(some 40), none, false, .bin .add (.t 38) (.t 39), .none⟩,
     ⟨(some 41), none, false, .sliceV 1 (.t 36) (some (.t 37)) (some (.t 40)), .none⟩,
     ⟨(some 42), none, false, .callF 11 [(.t 5), (.u 41 .share)], .none⟩,
     ⟨(some 43), none, false, .append 6 (.u 35 .take) (.u 42 .take), .none⟩,
     ⟨(some 8), none, true, .mv (.u 43 .take), .none⟩])
   (.region false [⟨(some 44), none, false, .mv (.t 9), .none⟩,
     ⟨(some 45), none, false, .mv (.t 12), .none⟩,
     ⟨(some 46), none, false, .bin .add (.t 44) (.t 45), .none⟩,
     ⟨(some 9), none, false, .mv (.t 46), .none⟩])))))
   (.region false [⟨(some 47), none, false, .bin .add (.t 24) (.c (.int .i64 1)), .none⟩,
     ⟨(some 24), none, false, .mv (.t 47), .none⟩])))))))
  (.seq (.region false [⟨(some 48), none, false, .mv (.u 8 .take), .none⟩,
    ⟨(some 49), none, false, .mv (.t 0), .none⟩,
    ⟨(some 50), none, false, .mv (.t 9), .none⟩,
    ⟨(some 51), none, false, .sliceV 1 (.t 49) (some (.t 50)) none, .none⟩,
    ⟨(some 52), none, false, .callF 11 [(.t 5), (.u 51 .share)], .none⟩,
    ⟨(some 53), none, false, .append 6 (.u 48 .take) (.u 52 .take), .none⟩,
    ⟨(some 8), none, true, .mv (.u 53 .take), .none⟩])
  (.seq (.region false [⟨(some 13), none, false, .mv (.c (.int .i64 0)), .none⟩,
    ⟨(some 14), none, false, .mv (.c (.int .i64 0)), .none⟩])
  (.seq (.seq (.region false [⟨(some 54), none, false, .mv (.u 8 .peek), .none⟩,
    ⟨(some 55), none, false, .lenSl (.t 54), .none⟩,
    ⟨(some 56), none, false, .mv (.c (.int .i64 0)), .none⟩])
  (.block 2 (.loop [5, 6, 7, 8, 13, 14, 54, 55, 56] (.seq (.region false [⟨(some 57), none, false, .bin .lss (.t 56) (.t 55), .none⟩])
   (.seq (.cond (.t 57)
    (.skip)
    (.exit 2))
   (.seq (.block 3 (.seq (.region false [⟨(some 58), none, false, .indexSl 6 (.t 54) (.t 56), .none⟩,
     ⟨(some 59), none, false, .load true 6 (.t 58) .copy, .none⟩,
     ⟨(some 16), none, false, .allocL 0 [(.int .i64 0), (.int .i64 0), (.int .i64 0), (.int .i64 0), .nils, (.int .i64 0)], .none⟩,
     ⟨none, none, false, .store 6 (.t 16) (.u 59 .share), .none⟩])
   (.seq (.region false [⟨(some 60), none, false, .mv (.t 13), .none⟩,
     ⟨(some 61), none, false, .fieldAddr 5 (.t 16), .none⟩,
     ⟨(some 62), none, false, .load false 1 (.t 61) .copy, .none⟩,
     ⟨(some 63), none, false, .bin .add (.t 60) (.t 62), .none⟩,
     ⟨(some 13), none, false, .mv (.t 63), .none⟩])
   (.seq (.seq (.region false [⟨(some 64), none, false, .fieldAddr 0 (.t 16), .none⟩,
     ⟨(some 65), none, false, .fieldAddr 0 (.t 64), .none⟩,
     ⟨(some 66), none, false, .load false 1 (.t 65) .copy, .none⟩,
     ⟨(some 67), none, false, .bin .eql (.t 66) (.c (.int .i64 0)), .none⟩])
   (.cond (.t 67)
    (.exit 3)
    (.skip)))
   (.seq (.block 4 (.loop [5, 6, 7, 8, 13, 14, 16, 54, 55, 56] (.seq (.seq (.region false [⟨(some 68), none, false, .mv (.t 14), .none⟩,
      ⟨(some 69), none, false, .mv (.t 7), .none⟩,
      ⟨(some 70), none, false, .lenSl (.t 69), .none⟩,
      ⟨(some 71), none, false, .bin .lss (.t 68) (.t 70), .none⟩,
      ⟨(some 72), none, false, .mv (.t 71), .none⟩,
      ⟨(some 73), (some (72, true)), false, .mv (.t 7), .none⟩,
      ⟨(some 74), (some (72, true)), false, .mv (.t 14), .none⟩,
      ⟨(some 75), (some (72, true)), false, .indexSl 6 (.t 73) (.t 74), .none⟩,
      ⟨(some 76), (some (72, true)), false, .fieldAddr 0 (.t 75), .none⟩,
      ⟨(some 77), (some (72, true)), false, .fieldAddr 0 (.t 76), .none⟩,
      ⟨(some 78), (some (72, true)), false, .load false 1 (.t 77) .copy, .none⟩,
      ⟨(some 79), (some (72, true)), false, .bin .eql (.t 78) (.c (.int .i64 0)), .none⟩,
      ⟨(some 80), none, false, .pick (.t 72) (.t 79) (.c (.bool false)), .none⟩])
    (.cond (.t 80)
     (.skip)
     (.exit 4)))
    (.block 5 (.seq (.region false [⟨(some 81), none, false, .mv (.t 13), .none⟩,
      ⟨(some 82), none, false, .mv (.t 7), .none⟩,
      ⟨(some 83), none, false, .mv (.t 14), .none⟩,
      ⟨(some 84), none, false, .indexSl 6 (.t 82) (.t 83), .none⟩,
      ⟨(some 85), none, false, .fieldAddr 5 (.t 84), .none⟩,
      ⟨(some 86), none, false, .load false 1 (.t 85) .copy, .none⟩,
      ⟨(some 87), none, false, .bin .sub (.t 81) (.t 86), .none⟩,
      ⟨(some 13), none, false, .mv (.t 87), .none⟩])
    (.region false [⟨(some 88), none, false, .mv (.t 14), .none⟩,
      ⟨(some 89), none, false, .bin .add (.t 88) (.c (.int .i64 1)), .none⟩,
      ⟨(some 14), none, false, .mv (.t 89), .none⟩]))))))
   (.seq (.seq (.region true [⟨(some 90), none, false, .mv (.t 14), .none⟩,
     ⟨(some 91), none, false, .mv (.t 7), .none⟩,
     ⟨(some 92), none, false, .lenSl (.t 91), .free⟩,
     ⟨(some 93), none, false, .bin .geq (.t 90) (.t 92), .none⟩,
     ⟨(some 94), none, false, .mv (.t 93), .none⟩,
     ⟨(some 95), (some (94, false)), false, .load true 6 (.t 16) .copy, (.loc 0)⟩,
     ⟨(some 96), (some (94, false)), false, .mv (.t 7), .none⟩,
     ⟨(some 97), (some (94, false)), false, .mv (.t 14), .none⟩,
     ⟨(some 98), (some (94, false)), false, .indexSl 6 (.t 96) (.t 97), .free⟩,
     ⟨(some 99), (some (94, false)), false, .fieldAddr 0 (.t 98), .none⟩,
     ⟨(some 100), (some (94, false)), false, .load true 5 (.t 99) .copy, .free⟩,
     ⟨(some 101), (some (94, false)), false, .callF 16 [(.u 100 .share)], .none⟩,
     ⟨(some 102), (some (94, false)), false, .callF 13 [(.u 95 .share), (.u 101 .share)], .none⟩,
     ⟨(some 103), (some (94, false)), false, .un .not (.t 102), .none⟩,
     ⟨(some 104), none, false, .pick (.t 94) (.c (.bool true)) (.t 103), .none⟩])
   (.cond (.t 104)
    (.seq (.region false [⟨(some 4), none, false, .mv (.c (.bool false)), .none⟩])
    (.ret))
    (.skip)))
   (.region false [⟨(some 105), none, false, .mv (.t 14), .none⟩,
     ⟨(some 106), none, false, .bin .add (.t 105) (.c (.int .i64 1)), .none⟩,
     ⟨(some 14), none, false, .mv (.t 106), .none⟩])))))))
   (.region false [⟨(some 107), none, false, .bin .add (.t 56) (.c (.int .i64 1)), .none⟩,
     ⟨(some 56), none, false, .mv (.t 107), .none⟩])))))))
  (.seq (.block 6 (.loop [5, 6, 7, 13, 14] (.seq (.seq (.region false [⟨(some 108), none, false, .mv (.t 14), .none⟩,
     ⟨(some 109), none, false, .mv (.t 7), .none⟩,
     ⟨(some 110), none, false, .lenSl (.t 109), .none⟩,
     ⟨(some 111), none, false, .bin .lss (.t 108) (.t 110), .none⟩])
   (.cond (.t 111)
    (.skip)
    (.exit 6)))
   (.seq (.block 7 (.seq (.seq (.region false [⟨(some 114), none, false, .mv (.t 7), .none⟩,
     ⟨(some 115), none, false, .mv (.t 14), .none⟩,
     ⟨(some 116), none, false, .indexSl 6 (.t 114) (.t 115), .none⟩,
     ⟨(some 117), none, false, .fieldAddr 0 (.t 116), .none⟩,
     ⟨(some 118), none, false, .fieldAddr 0 (.t 117), .none⟩,
     ⟨(some 119), none, false, .load false 1 (.t 118) .copy, .none⟩,
     ⟨(some 120), none, false, .bin .neq (.t 119) (.c (.int .i64 0)), .none⟩])
   (.cond (.t 120)
    (.seq (.region false [⟨(some 4), none, false, .mv (.c (.bool false)), .none⟩])
    (.ret))
    (.skip)))
   (.region false [⟨(some 121), none, false, .mv (.t 13), .none⟩,
     ⟨(some 122), none, false, .mv (.t 7), .none⟩,
     ⟨(some 123), none, false, .mv (.t 14), .none⟩,
     ⟨(some 124), none, false, .indexSl 6 (.t 122) (.t 123), .none⟩,
     ⟨(some 125), none, false, .fieldAddr 5 (.t 124), .none⟩,
     ⟨(some 126), none, false, .load false 1 (.t 125) .copy, .none⟩,
     ⟨(some 127), none, false, .bin .sub (.t 121) (.t 126), .none⟩,
     ⟨(some 13), none, false, .mv (.t 127), .none⟩])))
   (.region false [⟨(some 112), none, false, .mv (.t 14), .none⟩,
     ⟨(some 113), none, false, .bin .add (.t 112) (.c (.int .i64 1)), .none⟩,
     ⟨(some 14), none, false, .mv (.t 113), .none⟩])))))
  (.seq (.region false [⟨(some 128), none, false, .mv (.t 13), .none⟩,
    ⟨(some 129), none, false, .bin .eql (.t 128) (.c (.int .i64 0)), .none⟩,
    ⟨(some 130), none, false, .mv (.t 129), .none⟩,
    ⟨(some 131), (some (130, true)), false, .callF 12 [(.t 5)], .none⟩,
    ⟨(some 132), (some (130, true)), false, .callF 12 [(.t 6)], .none⟩,
    ⟨(some 133), (some (130, true)), false, .bin .eql (.t 131) (.t 132), .none⟩,
    ⟨(some 134), none, false, .pick (.t 130) (.t 133) (.c (.bool false)), .none⟩,
    ⟨(some 4), none, false, .mv (.t 134), .none⟩])
  (.ret))))))))))))⟩
theorem c5 : cFunc Proofs.Try.prog p5 5 = some a5 := by decide +kernel
def p6 : Plan := ⟨[], 1, [((23, 7), { mark := .free }),
    ((23, 6), { mark := .free }),
    ((23, 3), { mark := .free }),
    ((23, 2), { mark := .free }),
    ((4, 1), { uses := [(16, .share)] }),
    ((7, 1), { uses := [(20, .take)] }),
    ((8, 1), { uses := [(21, .take)] }),
    ((11, 2), { box := some 0 }),
    ((11, 3), { uses := [(27, .share)] }),
    ((12, 1), { uses := [(29, .share)] }),
    ((12, 5), { uses := [(31, .share)] }),
    ((14, 0), { uses := [(6, .take)] }),
    ((14, 2), { uses := [(35, .take), (36, .take)] }),
    ((14, 3), { uses := [(37, .take)] }),
    ((15, 0), { uses := [(7, .take)] }),
    ((15, 2), { uses := [(39, .share)] }),
    ((15, 3), { uses := [(38, .take), (40, .take)] }),
    ((15, 4), { uses := [(41, .take)] }),
    ((17, 0), { uses := [(6, .take)] }),
    ((17, 1), { uses := [(43, .share)] }),
    ((17, 2), { uses := [(44, .share)] }),
    ((18, 2), { mode := .share }),
    ((23, 8), { uses := [(66, .share)] }),
    ((23, 9), { uses := [(62, .share), (67, .share)] })],
  [[5, 6, 7, 22, 23, 24], [7, 12, 55, 56]]⟩
def a6 : AFunc := ⟨2, 71, 1, [.tmp 4],
  .seq (.region false [⟨(some 4), none, false, .mv (.c (.bool false)), .none⟩])
  (.seq (.seq (.region false [⟨(some 14), none, false, .callF 9 [], .none⟩,
    ⟨(some 15), none, false, .un .not (.t 14), .none⟩])
  (.cond (.t 15)
   (.seq (.region false [⟨(some 4), none, false, .mv (.c (.bool false)), .none⟩])
   (.ret))
   (.skip)))
  (.seq (.region false [⟨(some 5), none, false, .allocM [.nils], .none⟩])
  (.seq (.region false [⟨(some 16), none, false, .mv (.t 0), .none⟩,
    ⟨(some 17), none, false, .callF 11 [(.t 5), (.u 16 .share)], .none⟩])
  (.seq (.seq (.region false [⟨(some 18), none, false, .callF 12 [(.t 5)], .none⟩,
    ⟨(some 19), none, false, .bin .gtr (.t 18) (.c (.int .i64 0)), .none⟩])
  (.cond (.t 19)
   (.seq (.region false [⟨(some 4), none, false, .mv (.c (.bool true)), .none⟩])
   (.ret))
   (.skip)))
  (.seq (.region false [⟨(some 20), none, false, .buildSlice 1 [(.int .u8 0)] 0 [], .none⟩,
    ⟨(some 6), none, false, .mv (.u 20 .take), .none⟩])
  (.seq (.region false [⟨(some 21), none, false, .buildSlice 5 [(.int .i64 0), (.int .i64 0), (.int .i64 0), (.int .i64 0), .nils] 0 [], .none⟩,
    ⟨(some 7), none, false, .mv (.u 21 .take), .none⟩])
  (.seq (.seq (.region false [⟨(some 22), none, false, .mv (.t 1), .none⟩,
    ⟨(some 23), none, false, .lenSl (.t 22), .none⟩,
    ⟨(some 24), none, false, .mv (.c (.int .i64 0)), .none⟩])
  (.block 0 (.loop [5, 6, 7, 22, 23, 24] (.seq (.region false [⟨(some 25), none, false, .bin .lss (.t 24) (.t 23), .none⟩])
   (.seq (.cond (.t 25)
    (.skip)
    (.exit 0))
   (.seq (.block 1 (.seq (.region false [⟨(some 26), none, false, .indexSl 5 (.t 22) (.t 24), .none⟩,
     ⟨(some 27), none, false, .load true 5 (.t 26) .copy, .none⟩,
     ⟨(some 9), none, false, .allocL 0 [(.int .i64 0), (.int .i64 0), (.int .i64 0), (.int .i64 0), .nils], .none⟩,
     ⟨none, none, false, .store 5 (.t 9) (.u 27 .share), .none⟩])
   (.seq (.region false [⟨(some 29), none, false, .load true 5 (.t 9) .copy, .none⟩,
     ⟨(some 30), none, false, .callF 14 [(.u 29 .share)], .none⟩,
     ⟨(some 28), none, false, .mv (.t 30), .none⟩,
     ⟨(some 31), none, false, .extract (.t 28) 0, .none⟩,
     ⟨(some 32), none, false, .extract (.t 28) 1, .none⟩,
     ⟨(some 10), none, false, .mv (.u 31 .share), .none⟩,
     ⟨(some 11), none, false, .mv (.t 32), .none⟩])
   (.seq (.region false [⟨(some 33), none, false, .mv (.t 11), .none⟩,
     ⟨(some 34), none, false, .bin .eql (.t 33) (.c (.int .i64 0)), .none⟩])
   (.cond (.t 34)
    (.seq (.region false [⟨(some 35), none, false, .mv (.u 6 .take), .none⟩,
      ⟨(some 36), none, false, .mv (.t 10), .none⟩,
      ⟨(some 37), none, false, .append 1 (.u 35 .take) (.u 36 .take), .none⟩,
      ⟨(some 6), none, false, .mv (.u 37 .take), .none⟩])
    (.region false [⟨(some 38), none, false, .mv (.u 7 .take), .none⟩,
      ⟨(some 39), none, false, .load true 5 (.t 9) .copy, .none⟩,
      ⟨(some 40), none, false, .buildSlice 5 [(.int .i64 0), (.int .i64 0), (.int .i64 0), (.int .i64 0), .nils] 1 [(0, (.u 39 .share))], .none⟩,
      ⟨(some 41), none, false, .append 5 (.u 38 .take) (.u 40 .take), .none⟩,
      ⟨(some 7), none, false, .mv (.u 41 .take), .none⟩]))
    (.skip))))))
   (.region false [⟨(some 42), none, false, .bin .add (.t 24) (.c (.int .i64 1)), .none⟩,
     ⟨(some 24), none, false, .mv (.t 42), .none⟩])))))))
  (.seq (.region false [⟨(some 43), none, false, .mv (.u 6 .take), .none⟩,
    ⟨(some 44), none, false, .callF 11 [(.t 5), (.u 43 .share)], .none⟩,
    ⟨(some 12), none, false, .mv (.u 44 .share), .none⟩])
  (.seq (.seq (.region false [⟨(some 45), none, false, .mv (.t 12), .none⟩,
    ⟨(some 46), none, false, .lenSl (.t 45), .none⟩,
    ⟨(some 47), none, false, .mvK 7, .none⟩,
    ⟨(some 48), none, false, .lenSl (.t 47), .none⟩,
    ⟨(some 49), none, false, .bin .neq (.t 46) (.t 48), .none⟩,
    ⟨(some 50), none, false, .mv (.t 49), .none⟩,
    ⟨(some 51), (some (50, false)), false, .callF 12 [(.t 5)], .none⟩,
    ⟨(some 52), (some (50, false)), false, .bin .neq (.t 51) (.c (.int .i64 0)), .none⟩,
    ⟨(some 53), none, false, .pick (.t 50) (.c (.bool true)) (.t 52), .none⟩])
  (.cond (.t 53)
   (.seq (.region false [⟨(some 4), none, false, .mv (.c (.bool false)), .none⟩])
   (.ret))
   (.skip)))
  (.seq (.seq (.region false [⟨(some 54), none, false, .mv (.t 12), .none⟩,
    ⟨(some 55), none, false, .lenSl (.t 54), .none⟩,
    ⟨(some 56), none, false, .mv (.c (.int .i64 0)), .none⟩])
  (.block 2 (.loop [7, 12, 55, 56] (.seq (.region false [⟨(some 57), none, false, .bin .lss (.t 56) (.t 55), .none⟩])
   (.seq (.cond (.t 57)
    (.skip)
    (.exit 2))
   (.seq (.block 3 (.seq (.region false [⟨(some 58), none, false, .mv (.t 56), .none⟩,
     ⟨(some 13), none, false, .mv (.t 58), .none⟩])
   (.seq (.region true [⟨(some 59), none, false, .mv (.t 12), .none⟩,
     ⟨(some 60), none, false, .mv (.t 13), .none⟩,
     ⟨(some 61), none, false, .indexSl 6 (.t 59) (.t 60), .free⟩,
     ⟨(some 62), none, false, .load true 6 (.t 61) .copy, .free⟩,
     ⟨(some 63), none, false, .mv (.t 7), .none⟩,
     ⟨(some 64), none, false, .mv (.t 13), .none⟩,
     ⟨(some 65), none, false, .indexSl 5 (.t 63) (.t 64), .free⟩,
     ⟨(some 66), none, false, .load true 5 (.t 65) .copy, .free⟩,
     ⟨(some 67), none, false, .callF 16 [(.u 66 .share)], .none⟩,
     ⟨(some 68), none, false, .callF 13 [(.u 62 .share), (.u 67 .share)], .none⟩,
     ⟨(some 69), none, false, .un .not (.t 68), .none⟩])
   (.cond (.t 69)
    (.seq (.region false [⟨(some 4), none, false, .mv (.c (.bool false)), .none⟩])
    (.ret))
    (.skip)))))
   (.region false [⟨(some 70), none, false, .bin .add (.t 56) (.c (.int .i64 1)), .none⟩,
     ⟨(some 56), none, false, .mv (.t 70), .none⟩])))))))
  (.seq (.region false [⟨(some 4), none, false, .mv (.c (.bool true)), .none⟩])
  (.ret))))))))))))⟩
theorem c6 : cFunc Proofs.Try.prog p6 6 = some a6 := by decide +kernel
def p7 : Plan := ⟨[10, 44], 2, [((0, 0), { box := some 0 }),
    ((3, 1), { uses := [(19, .share)] }),
    ((3, 5), { uses := [(21, .share)] }),
    ((9, 2), { uses := [(36, .take), (37, .take)] }),
    ((9, 3), { uses := [(38, .take)] }),
    ((10, 0), { uses := [(10, .peek)] }),
    ((12, 0), { uses := [(10, .take)] }),
    ((12, 1), { uses := [(43, .share)] }),
    ((12, 2), { uses := [(44, .peek)] }),
    ((14, 0), { uses := [(44, .peek)] }),
    ((14, 2), { box := some 1 }),
    ((14, 3), { uses := [(49, .share)] }),
    ((16, 2), { uses := [(72, .share)] }),
    ((16, 6), { uses := [(74, .share)] })],
  [[3, 7, 9, 44, 45, 46]]⟩
def a7 : AFunc := ⟨3, 82, 2, [.tmp 6],
  .seq (.region false [⟨(some 3), none, false, .boxL 0 (.t 0), .none⟩,
    ⟨(some 6), none, false, .mv (.c (.bool false)), .none⟩])
  (.seq (.seq (.region false [⟨(some 16), none, false, .callF 9 [], .none⟩,
    ⟨(some 17), none, false, .un .not (.t 16), .none⟩])
  (.cond (.t 17)
   (.seq (.region false [⟨(some 6), none, false, .mv (.c (.bool false)), .none⟩])
   (.ret))
   (.skip)))
  (.seq (.region false [⟨(some 19), none, false, .load true 5 (.t 3) .copy, .none⟩,
    ⟨(some 20), none, false, .callF 14 [(.u 19 .share)], .none⟩,
    ⟨(some 18), none, false, .mv (.t 20), .none⟩,
    ⟨(some 21), none, false, .extract (.t 18) 0, .none⟩,
    ⟨(some 22), none, false, .extract (.t 18) 1, .none⟩,
    ⟨(some 7), none, false, .mv (.u 21 .share), .none⟩,
    ⟨(some 8), none, false, .mv (.t 22), .none⟩])
  (.seq (.seq (.region false [⟨(some 23), none, false, .mv (.t 8), .none⟩,
    ⟨(some 24), none, false, .bin .neq (.t 23) (.c (.int .i64 0)), .none⟩])
  (.cond (.t 24)
   (.seq (.region false [⟨(some 6), none, false, .mv (.c (.bool true)), .none⟩])
   (.ret))
   (.skip)))
  (.seq (.region false [⟨(some 25), none, false, .mv (.t 1), .none⟩,
    ⟨(some 26), none, false, .bin .and (.t 25) (.c (.int .i64 1023)), .none⟩,
    ⟨(some 27), none, false, .mv (.t 7), .none⟩,
    ⟨(some 28), none, false, .lenSl (.t 27), .none⟩,
    ⟨(some 29), none, false, .bin .rem (.t 26) (.t 28), .none⟩,
    ⟨(some 9), none, false, .mv (.t 29), .none⟩])
  (.seq (.seq (.region false [⟨(some 30), none, false, .mv (.t 7), .none⟩,
    ⟨(some 31), none, false, .mv (.t 9), .none⟩,
    ⟨(some 32), none, false, .indexSl 1 (.t 30) (.t 31), .none⟩,
    ⟨(some 33), none, false, .load false 1 (.t 32) .copy, .none⟩,
    ⟨(some 34), none, false, .mv (.t 2), .none⟩,
    ⟨(some 35), none, false, .bin .eql (.t 33) (.t 34), .none⟩])
  (.cond (.t 35)
   (.seq (.region false [⟨(some 6), none, false, .mv (.c (.bool true)), .none⟩])
   (.ret))
   (.skip)))
  (.seq (.region false [⟨(some 36), none, false, .buildSlice 1 [(.int .u8 0)] 0 [], .none⟩,
    ⟨(some 37), none, false, .mv (.t 7), .none⟩,
    ⟨(some 38), none, false, .append 1 (.u 36 .take) (.u 37 .take), .none⟩,
    ⟨(some 10), none, true, .mv (.u 38 .take), .none⟩])
  (.seq (.region false [⟨(some 39), none, false, .mv (.u 10 .peek), .none⟩,
    ⟨(some 40), none, false, .mv (.t 9), .none⟩,
    ⟨(some 41), none, false, .mv (.t 2), .none⟩,
    ⟨(some 42), none, false, .indexSl 1 (.t 39) (.t 40), .none⟩,
    ⟨none, none, false, .store 1 (.t 42) (.t 41), .none⟩])
  (.seq (.region false [⟨(some 11), none, false, .allocM [.nils], .none⟩])
  (.seq (.seq (.region false [⟨(some 43), none, false, .mv (.u 10 .take), .none⟩,
    ⟨(some 44), none, true, .callF 11 [(.t 11), (.u 43 .share)], .none⟩,
    ⟨(some 45), none, false, .lenSl (.u 44 .peek), .none⟩,
    ⟨(some 46), none, false, .mv (.c (.int .i64 0)), .none⟩])
  (.block 0 (.loop [3, 7, 9, 44, 45, 46] (.seq (.region false [⟨(some 47), none, false, .bin .lss (.t 46) (.t 45), .none⟩])
   (.seq (.cond (.t 47)
    (.skip)
    (.exit 0))
   (.seq (.block 1 (.seq (.region false [⟨(some 48), none, false, .indexSl 6 (.u 44 .peek) (.t 46), .none⟩,
     ⟨(some 49), none, false, .load true 6 (.t 48) .copy, .none⟩,
     ⟨(some 13), none, false, .allocL 1 [(.int .i64 0), (.int .i64 0), (.int .i64 0), (.int .i64 0), .nils, (.int .i64 0)], .none⟩,
     ⟨none, none, false, .store 6 (.t 13) (.u 49 .share), .none⟩])
   (.seq (.region false [⟨(some 50), none, false, .fieldAddr 0 (.t 13), .none⟩,
     ⟨(some 51), none, false, .fieldAddr 0 (.t 50), .none⟩,
     ⟨(some 52), none, false, .load false 1 (.t 51) .copy, .none⟩,
     ⟨(some 53), none, false, .fieldAddr 0 (.t 3), .none⟩,
     ⟨(some 54), none, false, .load false 1 (.t 53) .copy, .none⟩,
     ⟨(some 55), none, false, .bin .eql (.t 52) (.t 54), .none⟩,
     ⟨(some 56), none, false, .mv (.t 55), .none⟩,
     ⟨(some 57), (some (56, true)), false, .fieldAddr 0 (.t 13), .none⟩,
     ⟨(some 58), (some (56, true)), false, .fieldAddr 4 (.t 57), .none⟩,
     ⟨(some 59), (some (56, true)), false, .load false 1 (.t 58) .copy, .none⟩,
     ⟨(some 60), (some (56, true)), false, .lenSl (.t 59), .none⟩,
     ⟨(some 61), (some (56, true)), false, .fieldAddr 4 (.t 3), .none⟩,
     ⟨(some 62), (some (56, true)), false, .load false 1 (.t 61) .copy, .none⟩,
     ⟨(some 63), (some (56, true)), false, .lenSl (.t 62), .none⟩,
     ⟨(some 64), (some (56, true)), false, .bin .eql (.t 60) (.t 63), .none⟩,
     ⟨(some 65), none, false, .pick (.t 56) (.t 64) (.c (.bool false)), .none⟩,
     ⟨(some 66), none, false, .mv (.t 65), .none⟩,
     ⟨(some 67), (some (66, true)), false, .mv (.t 9), .none⟩,
     ⟨(some 68), (some (66, true)), false, .bin .neq (.t 67) (.c (.int .i64 1)), .none⟩,
     ⟨(some 69), none, false, .pick (.t 66) (.t 68) (.c (.bool false)), .none⟩])
   (.cond (.t 69)
    (.seq (.region false [⟨(some 71), none, false, .fieldAddr 0 (.t 13), .none⟩,
      ⟨(some 72), none, false, .load true 5 (.t 71) .copy, .none⟩,
      ⟨(some 73), none, false, .callF 14 [(.u 72 .share)], .none⟩,
      ⟨(some 70), none, false, .mv (.t 73), .none⟩,
      ⟨(some 74), none, false, .extract (.t 70) 0, .none⟩,
      ⟨(some 75), none, false, .extract (.t 70) 1, .none⟩,
      ⟨(some 14), none, false, .mv (.u 74 .share), .none⟩,
      ⟨(some 15), none, false, .mv (.t 75), .none⟩])
    (.seq (.region false [⟨(some 76), none, false, .mv (.t 14), .none⟩,
      ⟨(some 77), none, false, .lenSl (.t 76), .none⟩,
      ⟨(some 78), none, false, .mv (.t 7), .none⟩,
      ⟨(some 79), none, false, .lenSl (.t 78), .none⟩,
      ⟨(some 80), none, false, .bin .eql (.t 77) (.t 79), .none⟩])
    (.cond (.t 80)
     (.seq (.region false [⟨(some 6), none, false, .mv (.c (.bool false)), .none⟩])
     (.ret))
     (.skip))))
    (.skip)))))
   (.region false [⟨(some 81), none, false, .bin .add (.t 46) (.c (.int .i64 1)), .none⟩,
     ⟨(some 46), none, false, .mv (.t 81), .none⟩])))))))
  (.seq (.region false [⟨(some 6), none, false, .mv (.c (.bool true)), .none⟩])
  (.ret)))))))))))⟩
theorem c7 : cFunc Proofs.Try.prog p7 7 = some a7 := by decide +kernel
def p8 : Plan := ⟨[], 1, [((12, 14), { mark := (.loc 0) }),
    ((12, 13), { mark := .free }),
    ((12, 12), { mark := .free }),
    ((12, 7), { mark := .free }),
    ((12, 5), { mark := .free }),
    ((12, 1), { mark := .free }),
    ((0, 0), { box := some 0 }),
    ((3, 1), { uses := [(14, .share)] }),
    ((3, 5), { uses := [(16, .share)] }),
    ((8, 3), { uses := [(34, .share)] }),
    ((8, 4), { uses := [(35, .share)] }),
    ((11, 3), { uses := [(46, .share)] }),
    ((11, 4), { uses := [(47, .share)] }),
    ((12, 15), { uses := [(62, .share)] }),
    ((12, 16), { uses := [(61, .share), (63, .share)] })],
  []⟩
def a8 : AFunc := ⟨2, 70, 1, [.tmp 4],
  .seq (.region false [⟨(some 2), none, false, .boxL 0 (.t 0), .none⟩,
    ⟨(some 4), none, false, .mv (.c (.bool false)), .none⟩])
  (.seq (.seq (.region false [⟨(some 11), none, false, .callF 9 [], .none⟩,
    ⟨(some 12), none, false, .un .not (.t 11), .none⟩])
  (.cond (.t 12)
   (.seq (.region false [⟨(some 4), none, false, .mv (.c (.bool false)), .none⟩])
   (.ret))
   (.skip)))
  (.seq (.region false [⟨(some 14), none, false, .load true 5 (.t 2) .copy, .none⟩,
    ⟨(some 15), none, false, .callF 14 [(.u 14 .share)], .none⟩,
    ⟨(some 13), none, false, .mv (.t 15), .none⟩,
    ⟨(some 16), none, false, .extract (.t 13) 0, .none⟩,
    ⟨(some 17), none, false, .extract (.t 13) 1, .none⟩,
    ⟨(some 5), none, false, .mv (.u 16 .share), .none⟩,
    ⟨(some 6), none, false, .mv (.t 17), .none⟩])
  (.seq (.seq (.region false [⟨(some 18), none, false, .mv (.t 6), .none⟩,
    ⟨(some 19), none, false, .bin .neq (.t 18) (.c (.int .i64 0)), .none⟩])
  (.cond (.t 19)
   (.seq (.region false [⟨(some 20), none, false, .mv (.t 5), .none⟩,
     ⟨(some 21), none, false, .lenSl (.t 20), .none⟩,
     ⟨(some 22), none, false, .bin .eql (.t 21) (.c (.int .i64 0)), .none⟩,
     ⟨(some 23), none, false, .mv (.t 22), .none⟩,
     ⟨(some 24), (some (23, true)), false, .mv (.t 6), .none⟩,
     ⟨(some 25), (some (23, true)), false, .bin .eql (.t 24) (.c (.int .i64 200)), .none⟩,
     ⟨(some 26), none, false, .pick (.t 23) (.t 25) (.c (.bool false)), .none⟩,
     ⟨(some 4), none, false, .mv (.t 26), .none⟩])
   (.ret))
   (.skip)))
  (.seq (.region false [⟨(some 27), none, false, .mv (.t 1), .none⟩,
    ⟨(some 28), none, false, .bin .and (.t 27) (.c (.int .i64 1023)), .none⟩,
    ⟨(some 29), none, false, .mv (.t 5), .none⟩,
    ⟨(some 30), none, false, .lenSl (.t 29), .none⟩,
    ⟨(some 31), none, false, .bin .rem (.t 28) (.t 30), .none⟩,
    ⟨(some 7), none, false, .mv (.t 31), .none⟩])
  (.seq (.region false [⟨(some 8), none, false, .allocM [.nils], .none⟩])
  (.seq (.region false [⟨(some 32), none, false, .mv (.t 5), .none⟩,
    ⟨(some 33), none, false, .mv (.t 7), .none⟩,
    ⟨(some 34), none, false, .sliceV 1 (.t 32) none (some (.t 33)), .none⟩,
    ⟨(some 35), none, false, .callF 11 [(.t 8), (.u 34 .share)], .none⟩,
    ⟨(some 9), none, false, .mv (.u 35 .share), .none⟩])
  (.seq (.seq (.region false [⟨(some 36), none, false, .mv (.t 9), .none⟩,
    ⟨(some 37), none, false, .lenSl (.t 36), .none⟩,
    ⟨(some 38), none, false, .bin .neq (.t 37) (.c (.int .i64 0)), .none⟩,
    ⟨(some 39), none, false, .mv (.t 38), .none⟩,
    ⟨(some 40), (some (39, false)), false, .callF 12 [(.t 8)], .none⟩,
    ⟨(some 41), (some (39, false)), false, .mv (.t 7), .none⟩,
    ⟨(some 42), (some (39, false)), false, .bin .neq (.t 40) (.t 41), .none⟩,
    ⟨(some 43), none, false, .pick (.t 39) (.c (.bool true)) (.t 42), .none⟩])
  (.cond (.t 43)
   (.seq (.region false [⟨(some 4), none, false, .mv (.c (.bool false)), .none⟩])
   (.ret))
   (.skip)))
  (.seq (.region false [⟨(some 44), none, false, .mv (.t 5), .none⟩,
    ⟨(some 45), none, false, .mv (.t 7), .none⟩,
    ⟨(some 46), none, false, .sliceV 1 (.t 44) (some (.t 45)) none, .none⟩,
    ⟨(some 47), none, false, .callF 11 [(.t 8), (.u 46 .share)], .none⟩,
    ⟨(some 10), none, false, .mv (.u 47 .share), .none⟩])
  (.seq (.region true [⟨(some 48), none, false, .mv (.t 10), .none⟩,
    ⟨(some 49), none, false, .lenSl (.t 48), .free⟩,
    ⟨(some 50), none, false, .bin .eql (.t 49) (.c (.int .i64 1)), .none⟩,
    ⟨(some 51), none, false, .mv (.t 50), .none⟩,
    ⟨(some 52), (some (51, true)), false, .mv (.t 10), .none⟩,
    ⟨(some 53), (some (51, true)), false, .indexSl 6 (.t 52) (.c (.int .i64 0)), .free⟩,
    ⟨(some 54), (some (51, true)), false, .fieldAddr 5 (.t 53), .none⟩,
    ⟨(some 55), (some (51, true)), false, .load false 1 (.t 54) .copy, .free⟩,
    ⟨(some 56), (some (51, true)), false, .bin .eql (.t 55) (.c (.int .i64 0)), .none⟩,
    ⟨(some 57), none, false, .pick (.t 51) (.t 56) (.c (.bool false)), .none⟩,
    ⟨(some 58), none, false, .mv (.t 57), .none⟩,
    ⟨(some 59), (some (58, true)), false, .mv (.t 10), .none⟩,
    ⟨(some 60), (some (58, true)), false, .indexSl 6 (.t 59) (.c (.int .i64 0)), .free⟩,
    ⟨(some 61), (some (58, true)), false, .load true 6 (.t 60) .copy, .free⟩,
    ⟨(some 62), (some (58, true)), false, .load true 5 (.t 2) .copy, (.loc 0)⟩,
    ⟨(some 63), (some (58, true)), false, .callF 16 [(.u 62 .share)], .none⟩,
    ⟨(some 64), (some (58, true)), false, .callF 13 [(.u 61 .share), (.u 63 .share)], .none⟩,
    ⟨(some 65), none, false, .pick (.t 58) (.t 64) (.c (.bool false)), .none⟩,
    ⟨(some 66), none, false, .mv (.t 65), .none⟩,
    ⟨(some 67), (some (66, true)), false, .callF 12 [(.t 8)], .none⟩,
    ⟨(some 68), (some (66, true)), false, .bin .eql (.t 67) (.c (.int .i64 0)), .none⟩,
    ⟨(some 69), none, false, .pick (.t 66) (.t 68) (.c (.bool false)), .none⟩,
    ⟨(some 4), none, false, .mv (.t 69), .none⟩])
  (.ret))))))))))⟩
theorem c8 : cFunc Proofs.Try.prog p8 8 = some a8 := by decide +kernel
def p9 : Plan := ⟨[71], 0, [((2, 1), { uses := [(9, .share)] }),
    ((2, 2), { uses := [(10, .share)] }),
    ((3, 1), { uses := [(11, .share)] }),
    ((3, 2), { uses := [(12, .share)] }),
    ((4, 1), { uses := [(13, .share)] }),
    ((4, 2), { uses := [(14, .share)] }),
    ((5, 1), { uses := [(16, .share)] }),
    ((5, 5), { uses := [(18, .share)] }),
    ((6, 42), { uses := [(60, .share), (61, .share)] }),
    ((6, 50), { uses := [(69, .take)] }),
    ((6, 51), { uses := [(70, .share)] }),
    ((6, 52), { uses := [(71, .peek)] })],
  []⟩
def a9 : AFunc := ⟨0, 75, 0, [.tmp 0],
  .seq (.region false [⟨(some 0), none, false, .mv (.c (.bool false)), .none⟩])
  (.seq (.region false [⟨(some 1), none, false, .allocM [.nils], .none⟩,
    ⟨(some 2), none, false, .allocM [.nils], .none⟩,
    ⟨(some 3), none, false, .allocM [.nils], .none⟩])
  (.seq (.region false [⟨(some 9), none, false, .buildSlice 1 [(.int .u8 0)] 7 [(0, (.c (.int .u8 1))), (1, (.c (.int .u8 2))), (2, (.c (.int .u8 197))), (3, (.c (.int .u8 4))), (4, (.c (.int .u8 0))), (5, (.c (.int .u8 0))), (6, (.c (.int .u8 4)))], .none⟩,
    ⟨(some 10), none, false, .callF 11 [(.t 1), (.u 9 .share)], .none⟩,
    ⟨(some 4), none, false, .mv (.u 10 .share), .none⟩])
  (.seq (.region false [⟨(some 11), none, false, .buildSlice 1 [(.int .u8 0)] 2 [(0, (.c (.int .u8 197))), (1, (.c (.int .u8 9)))], .none⟩,
    ⟨(some 12), none, false, .callF 11 [(.t 2), (.u 11 .share)], .none⟩,
    ⟨(some 5), none, false, .mv (.u 12 .share), .none⟩])
  (.seq (.region false [⟨(some 13), none, false, .buildSlice 1 [(.int .u8 0)] 3 [(0, (.c (.int .u8 197))), (1, (.c (.int .u8 4))), (2, (.c (.int .u8 0)))], .none⟩,
    ⟨(some 14), none, false, .callF 11 [(.t 3), (.u 13 .share)], .none⟩,
    ⟨(some 6), none, false, .mv (.u 14 .share), .none⟩])
  (.seq (.region false [⟨(some 16), none, false, .build [(.int .i64 0), (.int .i64 0), (.int .i64 0), (.int .i64 0), .nils] [(0, 1, (.c (.int .i64 4)))], .none⟩,
    ⟨(some 17), none, false, .callF 14 [(.u 16 .share)], .none⟩,
    ⟨(some 15), none, false, .mv (.t 17), .none⟩,
    ⟨(some 18), none, false, .extract (.t 15) 0, .none⟩,
    ⟨(some 19), none, false, .extract (.t 15) 1, .none⟩,
    ⟨(some 7), none, false, .mv (.u 18 .share), .none⟩,
    ⟨(some 8), none, false, .mv (.t 19), .none⟩])
  (.seq (.region false [⟨(some 20), none, false, .mv (.t 4), .none⟩,
    ⟨(some 21), none, false, .lenSl (.t 20), .none⟩,
    ⟨(some 22), none, false, .bin .eql (.t 21) (.c (.int .i64 2)), .none⟩,
    ⟨(some 23), none, false, .mv (.t 22), .none⟩,
    ⟨(some 24), (some (23, true)), false, .mv (.t 4), .none⟩,
    ⟨(some 25), (some (23, true)), false, .indexSl 6 (.t 24) (.c (.int .i64 0)), .none⟩,
    ⟨(some 26), (some (23, true)), false, .fieldAddr 5 (.t 25), .none⟩,
    ⟨(some 27), (some (23, true)), false, .load false 1 (.t 26) .copy, .none⟩,
    ⟨(some 28), (some (23, true)), false, .bin .eql (.t 27) (.c (.int .i64 2)), .none⟩,
    ⟨(some 29), none, false, .pick (.t 23) (.t 28) (.c (.bool false)), .none⟩,
    ⟨(some 30), none, false, .mv (.t 29), .none⟩,
    ⟨(some 31), (some (30, true)), false, .mv (.t 4), .none⟩,
    ⟨(some 32), (some (30, true)), false, .indexSl 6 (.t 31) (.c (.int .i64 1)), .none⟩,
    ⟨(some 33), (some (30, true)), false, .fieldAddr 0 (.t 32), .none⟩,
    ⟨(some 34), (some (30, true)), false, .fieldAddr 0 (.t 33), .none⟩,
    ⟨(some 35), (some (30, true)), false, .load false 1 (.t 34) .copy, .none⟩,
    ⟨(some 36), (some (30, true)), false, .bin .eql (.t 35) (.c (.int .i64 4)), .none⟩,
    ⟨(some 37), none, false, .pick (.t 30) (.t 36) (.c (.bool false)), .none⟩,
    ⟨(some 38), none, false, .mv (.t 37), .none⟩,
    ⟨(some 39), (some (38, true)), false, .mv (.t 5), .none⟩,
    ⟨(some 40), (some (38, true)), false, .lenSl (.t 39), .none⟩,
    ⟨(some 41), (some (38, true)), false, .bin .eql (.t 40) (.c (.int .i64 1)), .none⟩,
    ⟨(some 42), none, false, .pick (.t 38) (.t 41) (.c (.bool false)), .none⟩,
    ⟨(some 43), none, false, .mv (.t 42), .none⟩,
    ⟨(some 44), (some (43, true)), false, .mv (.t 5), .none⟩,
    ⟨(some 45), (some (43, true)), false, .indexSl 6 (.t 44) (.c (.int .i64 0)), .none⟩,
    ⟨(some 46), (some (43, true)), false, .fieldAddr 5 (.t 45), .none⟩,
    ⟨(some 47), (some (43, true)), false, .load false 1 (.t 46) .copy, .none⟩,
    ⟨(some 48), (some (43, true)), false, .bin .eql (.t 47) (.c (.int .i64 2)), .none⟩,
    ⟨(some 49), none, false, .pick (.t 43) (.t 48) (.c (.bool false)), .none⟩,
    ⟨(some 50), none, false, .mv (.t 49), .none⟩,
    ⟨(some 51), (some (50, true)), false, .mv (.t 6), .none⟩,
    ⟨(some 52), (some (50, true)), false, .lenSl (.t 51), .none⟩,
    ⟨(some 53), (some (50, true)), false, .bin .eql (.t 52) (.c (.int .i64 0)), .none⟩,
    ⟨(some 54), none, false, .pick (.t 50) (.t 53) (.c (.bool false)), .none⟩,
    ⟨(some 55), none, false, .mv (.t 54), .none⟩,
    ⟨(some 56), (some (55, true)), false, .callF 12 [(.t 3)], .none⟩,
    ⟨(some 57), (some (55, true)), false, .bin .eql (.t 56) (.c (.int .i64 3)), .none⟩,
    ⟨(some 58), none, false, .pick (.t 55) (.t 57) (.c (.bool false)), .none⟩,
    ⟨(some 59), none, false, .mv (.t 58), .none⟩,
    ⟨(some 60), (some (59, true)), false, .mv (.t 7), .none⟩,
    ⟨(some 61), (some (59, true)), false, .buildSlice 1 [(.int .u8 0)] 5 [(0, (.c (.int .u8 197))), (1, (.c (.int .u8 4))), (2, (.c (.int .u8 0))), (3, (.c (.int .u8 0))), (4, (.c (.int .u8 4)))], .none⟩,
    ⟨(some 62), (some (59, true)), false, .callF 17 [(.u 60 .share), (.u 61 .share)], .none⟩,
    ⟨(some 63), none, false, .pick (.t 59) (.t 62) (.c (.bool false)), .none⟩,
    ⟨(some 64), none, false, .mv (.t 63), .none⟩,
    ⟨(some 65), (some (64, true)), false, .mv (.t 8), .none⟩,
    ⟨(some 66), (some (64, true)), false, .bin .eql (.t 65) (.c (.int .i64 0)), .none⟩,
    ⟨(some 67), none, false, .pick (.t 64) (.t 66) (.c (.bool false)), .none⟩,
    ⟨(some 68), none, false, .mv (.t 67), .none⟩,
    ⟨(some 69), (some (68, true)), false, .buildSlice 1 [(.int .u8 0)] 1 [(0, (.c (.int .u8 120)))], .none⟩,
    ⟨(some 70), (some (68, true)), false, .convB (.u 69 .take), .none⟩,
    ⟨(some 71), (some (68, true)), true, .callF 18 [(.u 70 .share)], .none⟩,
    ⟨(some 72), (some (68, true)), false, .lenSl (.u 71 .peek), .none⟩,
    ⟨(some 73), (some (68, true)), false, .bin .eql (.t 72) (.c (.int .i64 6)), .none⟩,
    ⟨(some 74), none, false, .pick (.t 68) (.t 73) (.c (.bool false)), .none⟩,
    ⟨(some 0), none, false, .mv (.t 74), .none⟩])
  (.ret)))))))⟩
theorem c9 : cFunc Proofs.Try.prog p9 9 = some a9 := by decide +kernel
def p10 : Plan := ⟨[], 1, [((1, 1), { uses := [(10, .take)] }),
    ((5, 3), { uses := [(18, .share)] }),
    ((5, 8), { box := some 0 }),
    ((5, 9), { uses := [(20, .share)] }),
    ((11, 0), { uses := [(4, .take)] }),
    ((11, 3), { uses := [(38, .share)] }),
    ((11, 4), { uses := [(36, .take), (39, .take)] }),
    ((11, 5), { uses := [(40, .take)] }),
    ((13, 0), { uses := [(4, .take)] }),
    ((13, 2), { uses := [(42, .share)] }),
    ((13, 3), { uses := [(41, .take), (43, .take)] }),
    ((13, 4), { uses := [(44, .take)] }),
    ((16, 0), { uses := [(4, .take)] }),
    ((16, 3), { uses := [(52, .share)] }),
    ((16, 4), { uses := [(50, .take), (53, .take)] }),
    ((16, 5), { uses := [(54, .take)] }),
    ((17, 0), { uses := [(4, .take)] }),
    ((17, 4), { uses := [(55, .share)] }),
    ((17, 5), { uses := [(58, .share)] })],
  [[0, 4, 5, 6]]⟩
def a10 : AFunc := ⟨1, 59, 1, [.tmp 2, .tmp 3],
  .seq (.region false [⟨(some 2), none, false, .mv (.c .nils), .none⟩,
    ⟨(some 3), none, false, .mv (.c .nils), .none⟩])
  (.seq (.region false [⟨(some 10), none, false, .buildSlice 6 [(.int .i64 0), (.int .i64 0), (.int .i64 0), (.int .i64 0), (.int .i64 0), .nils] 0 [], .none⟩,
    ⟨(some 4), none, false, .mv (.u 10 .take), .none⟩])
  (.seq (.region false [⟨(some 5), none, false, .mv (.c (.int .i64 0)), .none⟩])
  (.seq (.region false [⟨(some 6), none, false, .mv (.c (.int .i64 0)), .none⟩])
  (.seq (.block 0 (.loop [0, 4, 5, 6] (.seq (.seq (.region false [⟨(some 11), none, false, .mv (.t 6), .none⟩,
     ⟨(some 12), none, false, .mv (.t 0), .none⟩,
     ⟨(some 13), none, false, .lenSl (.t 12), .none⟩,
     ⟨(some 14), none, false, .bin .lss (.t 11) (.t 13), .none⟩])
   (.cond (.t 14)
    (.skip)
    (.exit 0)))
   (.block 1 (.seq (.region false [⟨(some 16), none, false, .mv (.t 0), .none⟩,
     ⟨(some 17), none, false, .mv (.t 6), .none⟩,
     ⟨(some 18), none, false, .sliceV 1 (.t 16) (some (.t 17)) none, .none⟩,
     ⟨(some 19), none, false, .callF 19 [(.u 18 .share)], .none⟩,
     ⟨(some 15), none, false, .mv (.t 19), .none⟩,
     ⟨(some 20), none, false, .extract (.t 15) 0, .none⟩,
     ⟨(some 21), none, false, .extract (.t 15) 1, .none⟩,
     ⟨(some 22), none, false, .extract (.t 15) 2, .none⟩,
     ⟨(some 7), none, false, .allocL 0 [(.int .i64 0), (.int .i64 0), (.int .i64 0), (.int .i64 0), (.int .i64 0), .nils], .none⟩,
     ⟨none, none, false, .store 6 (.t 7) (.u 20 .share), .none⟩,
     ⟨(some 8), none, false, .mv (.t 21), .none⟩,
     ⟨(some 9), none, false, .mv (.t 22), .none⟩])
   (.seq (.seq (.region false [⟨(some 23), none, false, .mv (.t 8), .none⟩,
     ⟨(some 24), none, false, .bin .eql (.t 23) (.c (.int .i64 0)), .none⟩,
     ⟨(some 25), none, false, .mv (.t 24), .none⟩,
     ⟨(some 26), (some (25, true)), false, .mv (.t 9), .none⟩,
     ⟨(some 27), none, false, .pick (.t 25) (.t 26) (.c (.bool false)), .none⟩])
   (.cond (.t 27)
    (.exit 0)
    (.skip)))
   (.seq (.seq (.region false [⟨(some 28), none, false, .mv (.t 8), .none⟩,
     ⟨(some 29), none, false, .bin .eql (.t 28) (.c (.int .i64 0)), .none⟩])
   (.cond (.t 29)
    (.seq (.region false [⟨(some 30), none, false, .mv (.t 5), .none⟩,
      ⟨(some 31), none, false, .bin .add (.t 30) (.c (.int .i64 1)), .none⟩,
      ⟨(some 5), none, false, .mv (.t 31), .none⟩])
    (.seq (.region false [⟨(some 32), none, false, .mv (.t 6), .none⟩,
      ⟨(some 33), none, false, .bin .add (.t 32) (.c (.int .i64 1)), .none⟩,
      ⟨(some 6), none, false, .mv (.t 33), .none⟩])
    (.exit 1)))
    (.skip)))
   (.seq (.seq (.region false [⟨(some 34), none, false, .mv (.t 5), .none⟩,
     ⟨(some 35), none, false, .bin .gtr (.t 34) (.c (.int .i64 0)), .none⟩])
   (.cond (.t 35)
    (.region false [⟨(some 36), none, false, .mv (.u 4 .take), .none⟩,
      ⟨(some 37), none, false, .mv (.t 5), .none⟩,
      ⟨(some 38), none, false, .build [(.int .i64 0), (.int .i64 0), (.int .i64 0), (.int .i64 0), (.int .i64 0), .nils] [(4, 1, (.t 37))], .none⟩,
      ⟨(some 39), none, false, .buildSlice 6 [(.int .i64 0), (.int .i64 0), (.int .i64 0), (.int .i64 0), (.int .i64 0), .nils] 1 [(0, (.u 38 .share))], .none⟩,
      ⟨(some 40), none, false, .append 6 (.u 36 .take) (.u 39 .take), .none⟩,
      ⟨(some 4), none, false, .mv (.u 40 .take), .none⟩])
    (.skip)))
   (.seq (.region false [⟨(some 5), none, false, .mv (.c (.int .i64 0)), .none⟩])
   (.seq (.region false [⟨(some 41), none, false, .mv (.u 4 .take), .none⟩,
     ⟨(some 42), none, false, .load true 6 (.t 7) .copy, .none⟩,
     ⟨(some 43), none, false, .buildSlice 6 [(.int .i64 0), (.int .i64 0), (.int .i64 0), (.int .i64 0), (.int .i64 0), .nils] 1 [(0, (.u 42 .share))], .none⟩,
     ⟨(some 44), none, false, .append 6 (.u 41 .take) (.u 43 .take), .none⟩,
     ⟨(some 4), none, false, .mv (.u 44 .take), .none⟩])
   (.region false [⟨(some 45), none, false, .mv (.t 6), .none⟩,
     ⟨(some 46), none, false, .mv (.t 8), .none⟩,
     ⟨(some 47), none, false, .bin .add (.t 45) (.t 46), .none⟩,
     ⟨(some 6), none, false, .mv (.t 47), .none⟩])))))))))))
  (.seq (.seq (.region false [⟨(some 48), none, false, .mv (.t 5), .none⟩,
    ⟨(some 49), none, false, .bin .gtr (.t 48) (.c (.int .i64 0)), .none⟩])
  (.cond (.t 49)
   (.region false [⟨(some 50), none, false, .mv (.u 4 .take), .none⟩,
     ⟨(some 51), none, false, .mv (.t 5), .none⟩,
     ⟨(some 52), none, false, .build [(.int .i64 0), (.int .i64 0), (.int .i64 0), (.int .i64 0), (.int .i64 0), .nils] [(4, 1, (.t 51))], .none⟩,
     ⟨(some 53), none, false, .buildSlice 6 [(.int .i64 0), (.int .i64 0), (.int .i64 0), (.int .i64 0), (.int .i64 0), .nils] 1 [(0, (.u 52 .share))], .none⟩,
     ⟨(some 54), none, false, .append 6 (.u 50 .take) (.u 53 .take), .none⟩,
     ⟨(some 4), none, false, .mv (.u 54 .take), .none⟩])
   (.skip)))
  (.seq (.region true [⟨(some 55), none, false, .mv (.u 4 .take), .none⟩,
    ⟨(some 56), none, false, .mv (.t 0), .none⟩,
    ⟨(some 57), none, false, .mv (.t 6), .none⟩,
    ⟨(some 58), none, false, .sliceV 1 (.t 56) (some (.t 57)) none, .none⟩,
    ⟨(some 2), none, false, .mv (.u 55 .share), .none⟩,
    ⟨(some 3), none, false, .mv (.u 58 .share), .none⟩])
  (.ret)))))))⟩
theorem c10 : cFunc Proofs.Try.prog p10 10 = some a10 := by decide +kernel
def p11 : Plan := ⟨[], 1, [((10, 5), { uses := [(69, .share)], mark := .free }),
    ((10, 4), { uses := [(68, .share)], mark := .free }),
    ((10, 3), { mark := (.loc 0) }),
    ((9, 11), { mark := .free }),
    ((9, 10), { mark := .free }),
    ((8, 14), { mark := .cool }),
    ((8, 13), { uses := [(49, .share)], mark := (.loc 0) }),
    ((8, 11), { mark := .cool }),
    ((8, 10), { mark := .cool }),
    ((8, 9), { mark := .cool }),
    ((8, 8), { uses := [(47, .share)], mark := .quiet }),
    ((8, 7), { mark := .cool }),
    ((8, 6), { mark := .cool }),
    ((8, 5), { mark := .cool }),
    ((8, 4), { mark := .cool }),
    ((8, 3), { mark := .cool }),
    ((8, 2), { mark := .free }),
    ((8, 1), { mark := .cool }),
    ((8, 0), { mark := .cool }),
    ((2, 4), { uses := [(15, .share)] }),
    ((2, 6), { uses := [(16, .take), (17, .take)] }),
    ((2, 7), { uses := [(18, .share)] }),
    ((5, 1), { uses := [(23, .share)] }),
    ((8, 12), { box := some 0 }),
    ((9, 6), { uses := [(56, .share)] }),
    ((10, 0), { uses := [(5, .take)] }),
    ((10, 2), { uses := [(65, .take)] }),
    ((10, 6), { uses := [(67, .take), (70, .take)] }),
    ((10, 7), { uses := [(71, .take)] }),
    ((11, 4), { uses := [(74, .share)] }),
    ((13, 2), { uses := [(78, .share)] }),
    ((14, 2), { uses := [(80, .share)] }),
    ((14, 5), { uses := [(81, .share)] }),
    ((15, 0), { uses := [(5, .take)] }),
    ((15, 2), { uses := [(84, .take)] }),
    ((15, 3), { uses := [(86, .take)] })],
  [[0, 5, 6, 7]]⟩
def a11 : AFunc := ⟨2, 87, 1, [.tmp 4],
  .seq (.region false [⟨(some 4), none, false, .mv (.c .nils), .none⟩])
  (.seq (.region false [⟨(some 5), none, false, .mv (.c .nils), .none⟩])
  (.seq (.region false [⟨(some 12), none, false, .mv (.t 0), .none⟩,
    ⟨(some 13), none, false, .nilCheck (.t 12), .none⟩,
    ⟨(some 14), none, false, .fieldAddr 0 (.t 13), .none⟩,
    ⟨(some 15), none, false, .load false 1 (.t 14) .copy, .none⟩,
    ⟨(some 16), none, false, .callF 20 [(.u 15 .share)], .none⟩,
    ⟨(some 17), none, false, .mv (.t 1), .none⟩,
    ⟨(some 18), none, false, .append 1 (.u 16 .take) (.u 17 .take), .none⟩,
    ⟨(some 6), none, false, .mv (.u 18 .share), .none⟩])
  (.seq (.region false [⟨(some 7), none, false, .mv (.c (.int .i64 0)), .none⟩])
  (.seq (.block 0 (.loop [0, 5, 6, 7] (.seq (.seq (.region false [⟨(some 19), none, false, .mv (.t 6), .none⟩,
     ⟨(some 20), none, false, .lenSl (.t 19), .none⟩,
     ⟨(some 21), none, false, .bin .gtr (.t 20) (.c (.int .i64 0)), .none⟩])
   (.cond (.t 21)
    (.skip)
    (.exit 0)))
   (.block 1 (.seq (.region false [⟨(some 23), none, false, .mv (.t 6), .none⟩,
     ⟨(some 24), none, false, .callF 21 [(.u 23 .share)], .none⟩,
     ⟨(some 22), none, false, .mv (.t 24), .none⟩,
     ⟨(some 25), none, false, .extract (.t 22) 0, .none⟩,
     ⟨(some 26), none, false, .extract (.t 22) 1, .none⟩,
     ⟨(some 8), none, false, .mv (.t 25), .none⟩,
     ⟨(some 9), none, false, .mv (.t 26), .none⟩])
   (.seq (.seq (.region false [⟨(some 27), none, false, .mv (.t 9), .none⟩,
     ⟨(some 28), none, false, .mv (.t 27), .none⟩,
     ⟨(some 29), (some (28, true)), false, .mv (.t 8), .none⟩,
     ⟨(some 30), (some (28, true)), false, .bin .eql (.t 29) (.c (.int .i64 0)), .none⟩,
     ⟨(some 31), (some (28, true)), false, .mv (.t 30), .none⟩,
     ⟨(some 32), (some (31, false)), false, .mv (.t 8), .none⟩,
     ⟨(some 33), (some (31, false)), false, .mv (.t 6), .none⟩,
     ⟨(some 34), (some (31, false)), false, .lenSl (.t 33), .none⟩,
     ⟨(some 35), (some (31, false)), false, .bin .gtr (.t 32) (.t 34), .none⟩,
     ⟨(some 36), (some (28, true)), false, .pick (.t 31) (.c (.bool true)) (.t 35), .none⟩,
     ⟨(some 37), none, false, .pick (.t 28) (.t 36) (.c (.bool false)), .none⟩])
   (.cond (.t 37)
    (.exit 0)
    (.skip)))
   (.seq (.seq (.region false [⟨(some 38), none, false, .mv (.t 9), .none⟩])
   (.cond (.t 38)
    (.seq (.region true [⟨(some 40), none, false, .mv (.t 6), .cool⟩,
      ⟨(some 41), none, false, .indexSl 1 (.t 40) (.c (.int .i64 1)), .cool⟩,
      ⟨(some 42), none, false, .load false 1 (.t 41) .copy, .free⟩,
      ⟨(some 43), none, false, .conv .i64 (.t 42), .cool⟩,
      ⟨(some 44), none, false, .mv (.t 6), .cool⟩,
      ⟨(some 45), none, false, .mv (.t 8), .cool⟩,
      ⟨(some 46), none, false, .bin .sub (.t 45) (.c (.int .i64 1)), .cool⟩,
      ⟨(some 47), none, false, .sliceV 1 (.t 44) (some (.c (.int .i64 4))) (some (.t 46)), .cool⟩,
      ⟨(some 48), none, false, .callF 22 [(.t 43), (.u 47 .share)], .quiet⟩,
      ⟨(some 39), none, false, .mv (.t 48), .cool⟩,
      ⟨(some 49), none, false, .extract (.t 39) 0, .cool⟩,
      ⟨(some 50), none, false, .extract (.t 39) 1, .cool⟩,
      ⟨(some 10), none, false, .allocL 0 [(.int .i64 0), (.int .i64 0), (.int .i64 0), (.int .i64 0), .nils], .none⟩,
      ⟨none, none, false, .store 5 (.t 10) (.u 49 .share), (.loc 0)⟩,
      ⟨(some 11), none, false, .mv (.t 50), .cool⟩])
    (.seq (.region true [⟨(some 51), none, false, .mv (.t 11), .none⟩,
      ⟨(some 52), none, false, .mv (.t 51), .none⟩,
      ⟨(some 53), (some (52, true)), false, .mv (.t 6), .none⟩,
      ⟨(some 54), (some (52, true)), false, .mv (.t 8), .none⟩,
      ⟨(some 55), (some (52, true)), false, .bin .sub (.t 54) (.c (.int .i64 1)), .none⟩,
      ⟨(some 56), (some (52, true)), false, .sliceV 1 (.t 53) (some (.c (.int .i64 1))) (some (.t 55)), .none⟩,
      ⟨(some 57), (some (52, true)), false, .callF 23 [(.u 56 .share)], .none⟩,
      ⟨(some 58), (some (52, true)), false, .mv (.t 6), .none⟩,
      ⟨(some 59), (some (52, true)), false, .mv (.t 8), .none⟩,
      ⟨(some 60), (some (52, true)), false, .bin .sub (.t 59) (.c (.int .i64 1)), .none⟩,
      ⟨(some 61), (some (52, true)), false, .indexSl 1 (.t 58) (.t 60), .free⟩,
      ⟨(some 62), (some (52, true)), false, .load false 1 (.t 61) .copy, .free⟩,
      ⟨(some 63), (some (52, true)), false, .bin .eql (.t 57) (.t 62), .none⟩,
      ⟨(some 64), none, false, .pick (.t 52) (.t 63) (.c (.bool false)), .none⟩])
    (.cond (.t 64)
     (.seq (.region true [⟨(some 65), none, false, .mv (.u 5 .take), .none⟩,
       ⟨(some 66), none, false, .mv (.t 7), .none⟩,
       ⟨(some 67), none, false, .callF 24 [(.u 65 .take), (.t 66)], .none⟩,
       ⟨(some 68), none, false, .load true 5 (.t 10) .copy, (.loc 0)⟩,
       ⟨(some 69), none, false, .build [(.int .i64 0), (.int .i64 0), (.int .i64 0), (.int .i64 0), .nils, (.int .i64 0)] [(0, 5, (.u 68 .share))], .free⟩,
       ⟨(some 70), none, false, .buildSlice 6 [(.int .i64 0), (.int .i64 0), (.int .i64 0), (.int .i64 0), .nils, (.int .i64 0)] 1 [(0, (.u 69 .share))], .free⟩,
       ⟨(some 71), none, false, .append 6 (.u 67 .take) (.u 70 .take), .none⟩,
       ⟨(some 5), none, false, .mv (.u 71 .take), .none⟩])
     (.seq (.region true [⟨(some 72), none, false, .mv (.t 6), .none⟩,
       ⟨(some 73), none, false, .mv (.t 8), .none⟩,
       ⟨(some 74), none, false, .sliceV 1 (.t 72) (some (.t 73)) none, .none⟩,
       ⟨(some 7), none, false, .mv (.c (.int .i64 0)), .none⟩,
       ⟨(some 6), none, false, .mv (.u 74 .share), .none⟩])
     (.exit 1)))
     (.skip))))
    (.skip)))
   (.seq (.region false [⟨(some 75), none, false, .mv (.t 7), .none⟩,
     ⟨(some 76), none, false, .bin .add (.t 75) (.c (.int .i64 1)), .none⟩,
     ⟨(some 7), none, false, .mv (.t 76), .none⟩])
   (.region false [⟨(some 77), none, false, .mv (.t 6), .none⟩,
     ⟨(some 78), none, false, .sliceV 1 (.t 77) (some (.c (.int .i64 1))) none, .none⟩,
     ⟨(some 6), none, false, .mv (.u 78 .share), .none⟩])))))))))
  (.seq (.region false [⟨(some 79), none, false, .mv (.t 0), .none⟩,
    ⟨(some 80), none, false, .mv (.t 6), .none⟩,
    ⟨(some 81), none, false, .callF 20 [(.u 80 .share)], .none⟩,
    ⟨(some 82), none, false, .nilCheck (.t 79), .none⟩,
    ⟨(some 83), none, false, .fieldAddr 0 (.t 82), .none⟩,
    ⟨none, none, false, .store 1 (.t 83) (.u 81 .share), .none⟩])
  (.seq (.region false [⟨(some 84), none, false, .mv (.u 5 .take), .none⟩,
    ⟨(some 85), none, false, .mv (.t 7), .none⟩,
    ⟨(some 86), none, false, .callF 24 [(.u 84 .take), (.t 85)], .none⟩,
    ⟨(some 4), none, false, .mv (.u 86 .take), .none⟩])
  (.ret)))))))⟩
theorem c11 : cFunc Proofs.Try.prog p11 11 = some a11 := by decide +kernel
def p12 : Plan := ⟨[], 0, [],
  []⟩
def a12 : AFunc := ⟨1, 8, 0, [.tmp 2],
  .seq (.region false [⟨(some 2), none, false, .mv (.c (.int .i64 0)), .none⟩])
  (.seq (.region false [⟨(some 3), none, false, .mv (.t 0), .none⟩,
    ⟨(some 4), none, false, .nilCheck (.t 3), .none⟩,
    ⟨(some 5), none, false, .fieldAddr 0 (.t 4), .none⟩,
    ⟨(some 6), none, false, .load false 1 (.t 5) .copy, .none⟩,
    ⟨(some 7), none, false, .lenSl (.t 6), .none⟩,
    ⟨(some 2), none, false, .mv (.t 7), .none⟩])
  (.ret))⟩
theorem c12 : cFunc Proofs.Try.prog p12 12 = some a12 := by decide +kernel
def p13 : Plan := ⟨[], 3, [((0, 0), { box := some 0 }),
    ((0, 1), { box := some 1 }),
    ((1, 2), { box := some 2 }),
    ((1, 3), { uses := [(7, .share)] }),
    ((2, 38), { uses := [(43, .share), (45, .share)] })],
  []⟩
def a13 : AFunc := ⟨2, 48, 3, [.tmp 4],
  .seq (.region false [⟨(some 2), none, false, .boxL 0 (.t 0), .none⟩,
    ⟨(some 3), none, false, .boxL 1 (.t 1), .none⟩,
    ⟨(some 4), none, false, .mv (.c (.bool false)), .none⟩])
  (.seq (.region false [⟨(some 6), none, false, .fieldAddr 0 (.t 2), .none⟩,
    ⟨(some 7), none, false, .load true 5 (.t 6) .copy, .none⟩,
    ⟨(some 5), none, false, .allocL 2 [(.int .i64 0), (.int .i64 0), (.int .i64 0), (.int .i64 0), .nils], .none⟩,
    ⟨none, none, false, .store 5 (.t 5) (.u 7 .share), .none⟩])
  (.seq (.region false [⟨(some 8), none, false, .fieldAddr 5 (.t 2), .none⟩,
    ⟨(some 9), none, false, .load false 1 (.t 8) .copy, .none⟩,
    ⟨(some 10), none, false, .fieldAddr 4 (.t 3), .none⟩,
    ⟨(some 11), none, false, .load false 1 (.t 10) .copy, .none⟩,
    ⟨(some 12), none, false, .bin .eql (.t 9) (.t 11), .none⟩,
    ⟨(some 13), none, false, .mv (.t 12), .none⟩,
    ⟨(some 14), (some (13, true)), false, .fieldAddr 0 (.t 5), .none⟩,
    ⟨(some 15), (some (13, true)), false, .load false 1 (.t 14) .copy, .none⟩,
    ⟨(some 16), (some (13, true)), false, .fieldAddr 0 (.t 3), .none⟩,
    ⟨(some 17), (some (13, true)), false, .load false 1 (.t 16) .copy, .none⟩,
    ⟨(some 18), (some (13, true)), false, .bin .eql (.t 15) (.t 17), .none⟩,
    ⟨(some 19), none, false, .pick (.t 13) (.t 18) (.c (.bool false)), .none⟩,
    ⟨(some 20), none, false, .mv (.t 19), .none⟩,
    ⟨(some 21), (some (20, true)), false, .fieldAddr 1 (.t 5), .none⟩,
    ⟨(some 22), (some (20, true)), false, .load false 1 (.t 21) .copy, .none⟩,
    ⟨(some 23), (some (20, true)), false, .fieldAddr 1 (.t 3), .none⟩,
    ⟨(some 24), (some (20, true)), false, .load false 1 (.t 23) .copy, .none⟩,
    ⟨(some 25), (some (20, true)), false, .bin .eql (.t 22) (.t 24), .none⟩,
    ⟨(some 26), none, false, .pick (.t 20) (.t 25) (.c (.bool false)), .none⟩,
    ⟨(some 27), none, false, .mv (.t 26), .none⟩,
    ⟨(some 28), (some (27, true)), false, .fieldAddr 2 (.t 5), .none⟩,
    ⟨(some 29), (some (27, true)), false, .load false 1 (.t 28) .copy, .none⟩,
    ⟨(some 30), (some (27, true)), false, .fieldAddr 2 (.t 3), .none⟩,
    ⟨(some 31), (some (27, true)), false, .load false 1 (.t 30) .copy, .none⟩,
    ⟨(some 32), (some (27, true)), false, .bin .eql (.t 29) (.t 31), .none⟩,
    ⟨(some 33), none, false, .pick (.t 27) (.t 32) (.c (.bool false)), .none⟩,
    ⟨(some 34), none, false, .mv (.t 33), .none⟩,
    ⟨(some 35), (some (34, true)), false, .fieldAddr 3 (.t 5), .none⟩,
    ⟨(some 36), (some (34, true)), false, .load false 1 (.t 35) .copy, .none⟩,
    ⟨(some 37), (some (34, true)), false, .fieldAddr 3 (.t 3), .none⟩,
    ⟨(some 38), (some (34, true)), false, .load false 1 (.t 37) .copy, .none⟩,
    ⟨(some 39), (some (34, true)), false, .bin .eql (.t 36) (.t 38), .none⟩,
    ⟨(some 40), none, false, .pick (.t 34) (.t 39) (.c (.bool false)), .none⟩,
    ⟨(some 41), none, false, .mv (.t 40), .none⟩,
    ⟨(some 42), (some (41, true)), false, .fieldAddr 4 (.t 5), .none⟩,
    ⟨(some 43), (some (41, true)), false, .load false 1 (.t 42) .copy, .none⟩,
    ⟨(some 44), (some (41, true)), false, .fieldAddr 5 (.t 3), .none⟩,
    ⟨(some 45), (some (41, true)), false, .load false 1 (.t 44) .copy, .none⟩,
    ⟨(some 46), (some (41, true)), false, .callF 17 [(.u 43 .share), (.u 45 .share)], .none⟩,
    ⟨(some 47), none, false, .pick (.t 41) (.t 46) (.c (.bool false)), .none⟩,
    ⟨(some 4), none, false, .mv (.t 47), .none⟩])
  (.ret)))⟩
theorem c13 : cFunc Proofs.Try.prog p13 13 = some a13 := by decide +kernel
def p14 : Plan := ⟨[9], 2, [((0, 0), { box := some 0 }),
    ((7, 15), { uses := [(38, .share)] }),
    ((9, 8), { uses := [(48, .share)] }),
    ((4, 2), { uses := [(20, .share)] }),
    ((12, 3), { uses := [(66, .share)] }),
    ((12, 7), { box := some 1 }),
    ((12, 8), { uses := [(68, .share)] }),
    ((15, 12), { uses := [(112, .take), (113, .take)] }),
    ((15, 13), { uses := [(114, .take)] }),
    ((16, 0), { uses := [(9, .peek)] }),
    ((16, 1), { uses := [(9, .peek)] }),
    ((16, 2), { uses := [(116, .take)], lend := true }),
    ((16, 3), { uses := [(117, .share)] }),
    ((16, 5), { uses := [(115, .take), (119, .take)] }),
    ((16, 6), { uses := [(120, .share)] })],
  []⟩
def a14 : AFunc := ⟨1, 121, 2, [.tmp 2, .tmp 3],
  .seq (.region false [⟨(some 1), none, false, .boxL 0 (.t 0), .none⟩,
    ⟨(some 2), none, false, .mv (.c .nils), .none⟩,
    ⟨(some 3), none, false, .mv (.c (.int .i64 0)), .none⟩])
  (.seq (.region false [⟨(some 11), none, false, .fieldAddr 0 (.t 1), .none⟩,
    ⟨(some 12), none, false, .load false 1 (.t 11) .copy, .none⟩,
    ⟨(some 13), none, false, .callF 25 [(.t 12)], .none⟩,
    ⟨(some 10), none, false, .mv (.t 13), .none⟩,
    ⟨(some 14), none, false, .extract (.t 10) 0, .none⟩,
    ⟨(some 15), none, false, .extract (.t 10) 1, .none⟩,
    ⟨(some 16), none, false, .extract (.t 10) 2, .none⟩,
    ⟨(some 4), none, false, .mv (.t 14), .none⟩,
    ⟨(some 5), none, false, .mv (.t 15), .none⟩,
    ⟨(some 6), none, false, .mv (.t 16), .none⟩])
  (.seq (.region false [⟨(some 7), none, false, .mv (.c .nils), .none⟩])
  (.seq (.seq (.region false [⟨(some 17), none, false, .fieldAddr 0 (.t 1), .none⟩,
    ⟨(some 18), none, false, .load false 1 (.t 17) .copy, .none⟩])
  (.block 0 (.seq (.seq (.region false [⟨(some 22), none, false, .bin .eql (.t 18) (.c (.int .i64 1)), .none⟩,
    ⟨(some 21), none, false, .mv (.t 22), .none⟩])
  (.cond (.t 21)
   (.skip)
   (.region false [⟨(some 23), none, false, .bin .eql (.t 18) (.c (.int .i64 3)), .none⟩,
     ⟨(some 21), none, false, .mv (.t 23), .none⟩])))
  (.cond (.t 21)
   (.region false [⟨(some 24), none, false, .fieldAddr 1 (.t 1), .none⟩,
     ⟨(some 25), none, false, .load false 1 (.t 24) .copy, .none⟩,
     ⟨(some 26), none, false, .conv .u8 (.t 25), .none⟩,
     ⟨(some 27), none, false, .fieldAddr 1 (.t 1), .none⟩,
     ⟨(some 28), none, false, .load false 1 (.t 27) .copy, .none⟩,
     ⟨(some 29), none, false, .bin .shr (.t 28) (.c (.int .u64 8)), .none⟩,
     ⟨(some 30), none, false, .conv .u8 (.t 29), .none⟩,
     ⟨(some 31), none, false, .fieldAddr 2 (.t 1), .none⟩,
     ⟨(some 32), none, false, .load false 1 (.t 31) .copy, .none⟩,
     ⟨(some 33), none, false, .conv .u8 (.t 32), .none⟩,
     ⟨(some 34), none, false, .fieldAddr 2 (.t 1), .none⟩,
     ⟨(some 35), none, false, .load false 1 (.t 34) .copy, .none⟩,
     ⟨(some 36), none, false, .bin .shr (.t 35) (.c (.int .u64 8)), .none⟩,
     ⟨(some 37), none, false, .conv .u8 (.t 36), .none⟩,
     ⟨(some 38), none, false, .buildSlice 1 [(.int .u8 0)] 4 [(0, (.t 26)), (1, (.t 30)), (2, (.t 33)), (3, (.t 37))], .none⟩,
     ⟨(some 7), none, false, .mv (.u 38 .share), .none⟩])
   (.seq (.region false [⟨(some 40), none, false, .bin .eql (.t 18) (.c (.int .i64 7)), .none⟩,
     ⟨(some 39), none, false, .mv (.t 40), .none⟩])
   (.cond (.t 39)
    (.region false [⟨(some 41), none, false, .fieldAddr 3 (.t 1), .none⟩,
      ⟨(some 42), none, false, .load false 1 (.t 41) .copy, .none⟩,
      ⟨(some 43), none, false, .conv .u8 (.t 42), .none⟩,
      ⟨(some 44), none, false, .fieldAddr 3 (.t 1), .none⟩,
      ⟨(some 45), none, false, .load false 1 (.t 44) .copy, .none⟩,
      ⟨(some 46), none, false, .bin .shr (.t 45) (.c (.int .u64 8)), .none⟩,
      ⟨(some 47), none, false, .conv .u8 (.t 46), .none⟩,
      ⟨(some 48), none, false, .buildSlice 1 [(.int .u8 0)] 2 [(0, (.t 43)), (1, (.t 47))], .none⟩,
      ⟨(some 7), none, false, .mv (.u 48 .share), .none⟩])
    (.region false [⟨(some 19), none, false, .fieldAddr 4 (.t 1), .none⟩,
      ⟨(some 20), none, false, .load false 1 (.t 19) .copy, .none⟩,
      ⟨(some 7), none, false, .mv (.u 20 .share), .none⟩])))))))
  (.seq (.seq (.region false [⟨(some 49), none, false, .mv (.t 6), .none⟩,
    ⟨(some 50), none, false, .un .not (.t 49), .none⟩,
    ⟨(some 51), none, false, .mv (.t 50), .none⟩,
    ⟨(some 52), (some (51, false)), false, .mv (.t 7), .none⟩,
    ⟨(some 53), (some (51, false)), false, .lenSl (.t 52), .none⟩,
    ⟨(some 54), (some (51, false)), false, .mv (.t 4), .none⟩,
    ⟨(some 55), (some (51, false)), false, .bin .lss (.t 53) (.t 54), .none⟩,
    ⟨(some 56), none, false, .pick (.t 51) (.c (.bool true)) (.t 55), .none⟩,
    ⟨(some 57), none, false, .mv (.t 56), .none⟩,
    ⟨(some 58), (some (57, false)), false, .mv (.t 7), .none⟩,
    ⟨(some 59), (some (57, false)), false, .lenSl (.t 58), .none⟩,
    ⟨(some 60), (some (57, false)), false, .mv (.t 5), .none⟩,
    ⟨(some 61), (some (57, false)), false, .bin .gtr (.t 59) (.t 60), .none⟩,
    ⟨(some 62), none, false, .pick (.t 57) (.c (.bool true)) (.t 61), .none⟩])
  (.cond (.t 62)
   (.seq (.region false [⟨(some 2), none, false, .mv (.c .nils), .none⟩,
     ⟨(some 3), none, false, .mv (.c (.int .i64 200)), .none⟩])
   (.ret))
   (.skip)))
  (.seq (.region false [⟨(some 64), none, false, .fieldAddr 0 (.t 1), .none⟩,
    ⟨(some 65), none, false, .load false 1 (.t 64) .copy, .none⟩,
    ⟨(some 66), none, false, .mv (.t 7), .none⟩,
    ⟨(some 67), none, false, .callF 22 [(.t 65), (.u 66 .share)], .none⟩,
    ⟨(some 63), none, false, .mv (.t 67), .none⟩,
    ⟨(some 68), none, false, .extract (.t 63) 0, .none⟩,
    ⟨(some 69), none, false, .extract (.t 63) 1, .none⟩,
    ⟨(some 8), none, false, .allocL 1 [(.int .i64 0), (.int .i64 0), (.int .i64 0), (.int .i64 0), .nils], .none⟩,
    ⟨none, none, false, .store 5 (.t 8) (.u 68 .share), .none⟩,
    ⟨(some 6), none, false, .mv (.t 69), .none⟩])
  (.seq (.seq (.region false [⟨(some 70), none, false, .mv (.t 6), .none⟩,
    ⟨(some 71), none, false, .un .not (.t 70), .none⟩,
    ⟨(some 72), none, false, .mv (.t 71), .none⟩,
    ⟨(some 73), (some (72, false)), false, .fieldAddr 1 (.t 8), .none⟩,
    ⟨(some 74), (some (72, false)), false, .load false 1 (.t 73) .copy, .none⟩,
    ⟨(some 75), (some (72, false)), false, .fieldAddr 1 (.t 1), .none⟩,
    ⟨(some 76), (some (72, false)), false, .load false 1 (.t 75) .copy, .none⟩,
    ⟨(some 77), (some (72, false)), false, .bin .neq (.t 74) (.t 76), .none⟩,
    ⟨(some 78), none, false, .pick (.t 72) (.c (.bool true)) (.t 77), .none⟩,
    ⟨(some 79), none, false, .mv (.t 78), .none⟩,
    ⟨(some 80), (some (79, false)), false, .fieldAddr 2 (.t 8), .none⟩,
    ⟨(some 81), (some (79, false)), false, .load false 1 (.t 80) .copy, .none⟩,
    ⟨(some 82), (some (79, false)), false, .fieldAddr 2 (.t 1), .none⟩,
    ⟨(some 83), (some (79, false)), false, .load false 1 (.t 82) .copy, .none⟩,
    ⟨(some 84), (some (79, false)), false, .bin .neq (.t 81) (.t 83), .none⟩,
    ⟨(some 85), none, false, .pick (.t 79) (.c (.bool true)) (.t 84), .none⟩,
    ⟨(some 86), none, false, .mv (.t 85), .none⟩,
    ⟨(some 87), (some (86, false)), false, .fieldAddr 3 (.t 8), .none⟩,
    ⟨(some 88), (some (86, false)), false, .load false 1 (.t 87) .copy, .none⟩,
    ⟨(some 89), (some (86, false)), false, .fieldAddr 3 (.t 1), .none⟩,
    ⟨(some 90), (some (86, false)), false, .load false 1 (.t 89) .copy, .none⟩,
    ⟨(some 91), (some (86, false)), false, .bin .neq (.t 88) (.t 90), .none⟩,
    ⟨(some 92), none, false, .pick (.t 86) (.c (.bool true)) (.t 91), .none⟩,
    ⟨(some 93), none, false, .mv (.t 92), .none⟩,
    ⟨(some 94), (some (93, false)), false, .fieldAddr 4 (.t 8), .none⟩,
    ⟨(some 95), (some (93, false)), false, .load false 1 (.t 94) .copy, .none⟩,
    ⟨(some 96), (some (93, false)), false, .lenSl (.t 95), .none⟩,
    ⟨(some 97), (some (93, false)), false, .fieldAddr 4 (.t 1), .none⟩,
    ⟨(some 98), (some (93, false)), false, .load false 1 (.t 97) .copy, .none⟩,
    ⟨(some 99), (some (93, false)), false, .lenSl (.t 98), .none⟩,
    ⟨(some 100), (some (93, false)), false, .bin .neq (.t 96) (.t 99), .none⟩,
    ⟨(some 101), none, false, .pick (.t 93) (.c (.bool true)) (.t 100), .none⟩])
  (.cond (.t 101)
   (.seq (.region false [⟨(some 2), none, false, .mv (.c .nils), .none⟩,
     ⟨(some 3), none, false, .mv (.c (.int .i64 200)), .none⟩])
   (.ret))
   (.skip)))
  (.seq (.region false [⟨(some 102), none, false, .fieldAddr 0 (.t 1), .none⟩,
    ⟨(some 103), none, false, .load false 1 (.t 102) .copy, .none⟩,
    ⟨(some 104), none, false, .conv .u8 (.t 103), .none⟩,
    ⟨(some 105), none, false, .mv (.t 7), .none⟩,
    ⟨(some 106), none, false, .lenSl (.t 105), .none⟩,
    ⟨(some 107), none, false, .conv .u8 (.t 106), .none⟩,
    ⟨(some 108), none, false, .mv (.t 7), .none⟩,
    ⟨(some 109), none, false, .lenSl (.t 108), .none⟩,
    ⟨(some 110), none, false, .bin .shr (.t 109) (.c (.int .u64 8)), .none⟩,
    ⟨(some 111), none, false, .conv .u8 (.t 110), .none⟩,
    ⟨(some 112), none, false, .buildSlice 1 [(.int .u8 0)] 4 [(0, (.c (.int .u8 197))), (1, (.t 104)), (2, (.t 107)), (3, (.t 111))], .none⟩,
    ⟨(some 113), none, false, .mv (.t 7), .none⟩,
    ⟨(some 114), none, false, .append 1 (.u 112 .take) (.u 113 .take), .none⟩,
    ⟨(some 9), none, true, .mv (.u 114 .take), .none⟩])
  (.seq (.region false [⟨(some 115), none, false, .mv (.u 9 .peek), .none⟩,
    ⟨(some 116), none, false, .mv (.u 9 .peek), .none⟩,
    ⟨(some 117), none, false, .mv (.c .undef), .none⟩,
    ⟨(some 118), none, false, .lend 23 1 (.t 116) 1, .none⟩,
    ⟨(some 119), none, false, .buildSlice 1 [(.int .u8 0)] 1 [(0, (.t 118))], .none⟩,
    ⟨(some 120), none, false, .append 1 (.u 115 .take) (.u 119 .take), .none⟩,
    ⟨(some 2), none, false, .mv (.u 120 .share), .none⟩,
    ⟨(some 3), none, false, .mv (.c (.int .i64 0)), .none⟩])
  (.ret)))))))))⟩
theorem c14 : cFunc Proofs.Try.prog p14 14 = some a14 := by decide +kernel
def p15 : Plan := ⟨[], 1, [((0, 0), { box := some 0 }),
    ((1, 1), { uses := [(10, .share)] }),
    ((1, 5), { uses := [(12, .share)] }),
    ((4, 12), { uses := [(27, .take)] }),
    ((9, 0), { uses := [(6, .take)] }),
    ((9, 6), { uses := [(44, .take), (49, .take)] }),
    ((9, 7), { uses := [(50, .take)] }),
    ((11, 0), { uses := [(6, .take)] }),
    ((11, 5), { uses := [(58, .take), (62, .take)] }),
    ((11, 6), { uses := [(63, .share)] })],
  [[4, 6, 7, 8]]⟩
def a15 : AFunc := ⟨1, 64, 1, [.tmp 2, .tmp 3],
  .seq (.region false [⟨(some 1), none, false, .boxL 0 (.t 0), .none⟩,
    ⟨(some 2), none, false, .mv (.c .nils), .none⟩,
    ⟨(some 3), none, false, .mv (.c (.int .i64 0)), .none⟩])
  (.seq (.region false [⟨(some 10), none, false, .load true 6 (.t 1) .copy, .none⟩,
    ⟨(some 11), none, false, .callF 26 [(.u 10 .share)], .none⟩,
    ⟨(some 9), none, false, .mv (.t 11), .none⟩,
    ⟨(some 12), none, false, .extract (.t 9) 0, .none⟩,
    ⟨(some 13), none, false, .extract (.t 9) 1, .none⟩,
    ⟨(some 4), none, false, .mv (.u 12 .share), .none⟩,
    ⟨(some 5), none, false, .mv (.t 13), .none⟩])
  (.seq (.seq (.region false [⟨(some 14), none, false, .mv (.t 5), .none⟩,
    ⟨(some 15), none, false, .un .not (.t 14), .none⟩])
  (.cond (.t 15)
   (.seq (.region false [⟨(some 2), none, false, .mv (.c .nils), .none⟩,
     ⟨(some 3), none, false, .mv (.c (.int .i64 200)), .none⟩])
   (.ret))
   (.skip)))
  (.seq (.region false [⟨(some 16), none, false, .fieldAddr 0 (.t 1), .none⟩,
    ⟨(some 17), none, false, .load false 1 (.t 16) .copy, .none⟩,
    ⟨(some 18), none, false, .conv .u8 (.t 17), .none⟩,
    ⟨(some 19), none, false, .mv (.t 4), .none⟩,
    ⟨(some 20), none, false, .lenSl (.t 19), .none⟩,
    ⟨(some 21), none, false, .bin .rem (.t 20) (.c (.int .i64 256)), .none⟩,
    ⟨(some 22), none, false, .conv .u8 (.t 21), .none⟩,
    ⟨(some 23), none, false, .mv (.t 4), .none⟩,
    ⟨(some 24), none, false, .lenSl (.t 23), .none⟩,
    ⟨(some 25), none, false, .bin .quo (.t 24) (.c (.int .i64 256)), .none⟩,
    ⟨(some 26), none, false, .conv .u8 (.t 25), .none⟩,
    ⟨(some 27), none, false, .buildSlice 1 [(.int .u8 0)] 4 [(0, (.c (.int .u8 197))), (1, (.t 18)), (2, (.t 22)), (3, (.t 26))], .none⟩,
    ⟨(some 6), none, false, .mv (.u 27 .take), .none⟩])
  (.seq (.region false [⟨(some 28), none, false, .fieldAddr 0 (.t 1), .none⟩,
    ⟨(some 29), none, false, .load false 1 (.t 28) .copy, .none⟩,
    ⟨(some 30), none, false, .mv (.t 4), .none⟩,
    ⟨(some 31), none, false, .lenSl (.t 30), .none⟩,
    ⟨(some 32), none, false, .bin .rem (.t 31) (.c (.int .i64 256)), .none⟩,
    ⟨(some 33), none, false, .bin .add (.t 29) (.t 32), .none⟩,
    ⟨(some 34), none, false, .mv (.t 4), .none⟩,
    ⟨(some 35), none, false, .lenSl (.t 34), .none⟩,
    ⟨(some 36), none, false, .bin .quo (.t 35) (.c (.int .i64 256)), .none⟩,
    ⟨(some 37), none, false, .bin .add (.t 33) (.t 36), .none⟩,
    ⟨(some 7), none, false, .mv (.t 37), .none⟩])
  (.seq (.seq (.region false [⟨(some 8), none, false, .mv (.c (.int .i64 0)), .none⟩])
  (.block 0 (.loop [4, 6, 7, 8] (.seq (.seq (.region false [⟨(some 38), none, false, .mv (.t 8), .none⟩,
     ⟨(some 39), none, false, .mv (.t 4), .none⟩,
     ⟨(some 40), none, false, .lenSl (.t 39), .none⟩,
     ⟨(some 41), none, false, .bin .lss (.t 38) (.t 40), .none⟩])
   (.cond (.t 41)
    (.skip)
    (.exit 0)))
   (.seq (.block 1 (.seq (.region false [⟨(some 44), none, false, .mv (.u 6 .take), .none⟩,
     ⟨(some 45), none, false, .mv (.t 4), .none⟩,
     ⟨(some 46), none, false, .mv (.t 8), .none⟩,
     ⟨(some 47), none, false, .indexSl 1 (.t 45) (.t 46), .none⟩,
     ⟨(some 48), none, false, .load false 1 (.t 47) .copy, .none⟩,
     ⟨(some 49), none, false, .buildSlice 1 [(.int .u8 0)] 1 [(0, (.t 48))], .none⟩,
     ⟨(some 50), none, false, .append 1 (.u 44 .take) (.u 49 .take), .none⟩,
     ⟨(some 6), none, false, .mv (.u 50 .take), .none⟩])
   (.region false [⟨(some 51), none, false, .mv (.t 7), .none⟩,
     ⟨(some 52), none, false, .mv (.t 4), .none⟩,
     ⟨(some 53), none, false, .mv (.t 8), .none⟩,
     ⟨(some 54), none, false, .indexSl 1 (.t 52) (.t 53), .none⟩,
     ⟨(some 55), none, false, .load false 1 (.t 54) .copy, .none⟩,
     ⟨(some 56), none, false, .conv .i64 (.t 55), .none⟩,
     ⟨(some 57), none, false, .bin .add (.t 51) (.t 56), .none⟩,
     ⟨(some 7), none, false, .mv (.t 57), .none⟩])))
   (.region false [⟨(some 42), none, false, .mv (.t 8), .none⟩,
     ⟨(some 43), none, false, .bin .add (.t 42) (.c (.int .i64 1)), .none⟩,
     ⟨(some 8), none, false, .mv (.t 43), .none⟩]))))))
  (.seq (.region false [⟨(some 58), none, false, .mv (.u 6 .take), .none⟩,
    ⟨(some 59), none, false, .mv (.t 7), .none⟩,
    ⟨(some 60), none, false, .bin .rem (.t 59) (.c (.int .i64 256)), .none⟩,
    ⟨(some 61), none, false, .conv .u8 (.t 60), .none⟩,
    ⟨(some 62), none, false, .buildSlice 1 [(.int .u8 0)] 1 [(0, (.t 61))], .none⟩,
    ⟨(some 63), none, false, .append 1 (.u 58 .take) (.u 62 .take), .none⟩,
    ⟨(some 2), none, false, .mv (.u 63 .share), .none⟩,
    ⟨(some 3), none, false, .mv (.c (.int .i64 0)), .none⟩])
  (.ret)))))))⟩
theorem c15 : cFunc Proofs.Try.prog p15 15 = some a15 := by decide +kernel
def p16 : Plan := ⟨[], 2, [((0, 0), { box := some 0 }),
    ((0, 1), { box := some 1 }),
    ((1, 10), { uses := [(12, .share)] }),
    ((1, 11), { uses := [(13, .share)] })],
  []⟩
def a16 : AFunc := ⟨1, 14, 2, [.cell 2 true 6],
  .seq (.region false [⟨(some 1), none, false, .boxL 0 (.t 0), .none⟩,
    ⟨(some 2), none, false, .allocL 1 [(.int .i64 0), (.int .i64 0), (.int .i64 0), (.int .i64 0), (.int .i64 0), .nils], .none⟩])
  (.seq (.region false [⟨(some 3), none, false, .fieldAddr 0 (.t 1), .none⟩,
    ⟨(some 4), none, false, .load false 1 (.t 3) .copy, .none⟩,
    ⟨(some 5), none, false, .fieldAddr 1 (.t 1), .none⟩,
    ⟨(some 6), none, false, .load false 1 (.t 5) .copy, .none⟩,
    ⟨(some 7), none, false, .fieldAddr 2 (.t 1), .none⟩,
    ⟨(some 8), none, false, .load false 1 (.t 7) .copy, .none⟩,
    ⟨(some 9), none, false, .fieldAddr 3 (.t 1), .none⟩,
    ⟨(some 10), none, false, .load false 1 (.t 9) .copy, .none⟩,
    ⟨(some 11), none, false, .fieldAddr 4 (.t 1), .none⟩,
    ⟨(some 12), none, false, .load false 1 (.t 11) .copy, .none⟩,
    ⟨(some 13), none, false, .build [(.int .i64 0), (.int .i64 0), (.int .i64 0), (.int .i64 0), (.int .i64 0), .nils] [(0, 1, (.t 4)), (1, 1, (.t 6)), (2, 1, (.t 8)), (3, 1, (.t 10)), (5, 1, (.u 12 .share))], .none⟩,
    ⟨none, none, false, .store 6 (.t 2) (.u 13 .share), .none⟩])
  (.ret))⟩
theorem c16 : cFunc Proofs.Try.prog p16 16 = some a16 := by decide +kernel
def p17 : Plan := ⟨[], 0, [],
  [[0, 1, 5]]⟩
def a17 : AFunc := ⟨2, 26, 0, [.tmp 4],
  .seq (.region false [⟨(some 4), none, false, .mv (.c (.bool false)), .none⟩])
  (.seq (.seq (.region false [⟨(some 6), none, false, .mv (.t 0), .none⟩,
    ⟨(some 7), none, false, .lenSl (.t 6), .none⟩,
    ⟨(some 8), none, false, .mv (.t 1), .none⟩,
    ⟨(some 9), none, false, .lenSl (.t 8), .none⟩,
    ⟨(some 10), none, false, .bin .neq (.t 7) (.t 9), .none⟩])
  (.cond (.t 10)
   (.seq (.region false [⟨(some 4), none, false, .mv (.c (.bool false)), .none⟩])
   (.ret))
   (.skip)))
  (.seq (.seq (.region false [⟨(some 5), none, false, .mv (.c (.int .i64 0)), .none⟩])
  (.block 0 (.loop [0, 1, 5] (.seq (.seq (.region false [⟨(some 11), none, false, .mv (.t 5), .none⟩,
     ⟨(some 12), none, false, .mv (.t 0), .none⟩,
     ⟨(some 13), none, false, .lenSl (.t 12), .none⟩,
     ⟨(some 14), none, false, .bin .lss (.t 11) (.t 13), .none⟩])
   (.cond (.t 14)
    (.skip)
    (.exit 0)))
   (.seq (.block 1 (.seq (.region true [⟨(some 17), none, false, .mv (.t 0), .none⟩,
     ⟨(some 18), none, false, .mv (.t 5), .none⟩,
     ⟨(some 19), none, false, .indexSl 1 (.t 17) (.t 18), .none⟩,
     ⟨(some 20), none, false, .load false 1 (.t 19) .copy, .none⟩,
     ⟨(some 21), none, false, .mv (.t 1), .none⟩,
     ⟨(some 22), none, false, .mv (.t 5), .none⟩,
     ⟨(some 23), none, false, .indexSl 1 (.t 21) (.t 22), .none⟩,
     ⟨(some 24), none, false, .load false 1 (.t 23) .copy, .none⟩,
     ⟨(some 25), none, false, .bin .neq (.t 20) (.t 24), .none⟩])
   (.cond (.t 25)
    (.seq (.region false [⟨(some 4), none, false, .mv (.c (.bool false)), .none⟩])
    (.ret))
    (.skip))))
   (.region false [⟨(some 15), none, false, .mv (.t 5), .none⟩,
     ⟨(some 16), none, false, .bin .add (.t 15) (.c (.int .i64 1)), .none⟩,
     ⟨(some 5), none, false, .mv (.t 16), .none⟩]))))))
  (.seq (.region false [⟨(some 4), none, false, .mv (.c (.bool true)), .none⟩])
  (.ret))))⟩
theorem c17 : cFunc Proofs.Try.prog p17 17 = some a17 := by decide +kernel
def p19 : Plan := ⟨[], 2, [((14, 10), { uses := [(79, .share)], mark := (.loc 1) }),
    ((14, 8), { uses := [(78, .share)], mark := .quiet }),
    ((14, 7), { mark := .cool }),
    ((14, 6), { mark := .cool }),
    ((14, 5), { mark := .cool }),
    ((14, 4), { mark := .cool }),
    ((14, 3), { mark := .cool }),
    ((14, 2), { mark := .free }),
    ((14, 1), { mark := .cool }),
    ((14, 0), { mark := .cool }),
    ((0, 0), { box := some 0 }),
    ((2, 1), { uses := [(16, .share)] }),
    ((4, 1), { uses := [(20, .share)] }),
    ((7, 1), { uses := [(32, .share)] }),
    ((13, 1), { uses := [(70, .share)] }),
    ((14, 9), { box := some 1 }),
    ((15, 1), { uses := [(81, .share)] }),
    ((15, 5), { uses := [(83, .share)] }),
    ((16, 8), { uses := [(88, .share), (92, .share)] }),
    ((17, 3), { uses := [(95, .share)] }),
    ((18, 1), { uses := [(98, .share)] }),
    ((19, 1), { uses := [(99, .share)] })],
  [[0, 2, 6, 8]]⟩
def a19 : AFunc := ⟨1, 100, 2, [.cell 2 true 6, .tmp 3, .tmp 4],
  .seq (.region false [⟨(some 2), none, false, .allocL 0 [(.int .i64 0), (.int .i64 0), (.int .i64 0), (.int .i64 0), (.int .i64 0), .nils], .none⟩,
    ⟨(some 3), none, false, .mv (.c (.int .i64 0)), .none⟩,
    ⟨(some 4), none, false, .mv (.c (.bool false)), .none⟩])
  (.seq (.seq (.region false [⟨(some 12), none, false, .mv (.t 0), .none⟩,
    ⟨(some 13), none, false, .indexSl 1 (.t 12) (.c (.int .i64 0)), .none⟩,
    ⟨(some 14), none, false, .load false 1 (.t 13) .copy, .none⟩,
    ⟨(some 15), none, false, .bin .neq (.t 14) (.c (.int .u8 197)), .none⟩])
  (.cond (.t 15)
   (.seq (.region false [⟨(some 16), none, false, .build [(.int .i64 0), (.int .i64 0), (.int .i64 0), (.int .i64 0), (.int .i64 0), .nils] [], .none⟩,
     ⟨none, none, false, .store 6 (.t 2) (.u 16 .share), .none⟩,
     ⟨(some 3), none, false, .mv (.c (.int .i64 0)), .none⟩,
     ⟨(some 4), none, false, .mv (.c (.bool false)), .none⟩])
   (.ret))
   (.skip)))
  (.seq (.seq (.region false [⟨(some 17), none, false, .mv (.t 0), .none⟩,
    ⟨(some 18), none, false, .lenSl (.t 17), .none⟩,
    ⟨(some 19), none, false, .bin .eql (.t 18) (.c (.int .i64 1)), .none⟩])
  (.cond (.t 19)
   (.seq (.region false [⟨(some 20), none, false, .build [(.int .i64 0), (.int .i64 0), (.int .i64 0), (.int .i64 0), (.int .i64 0), .nils] [], .none⟩,
     ⟨none, none, false, .store 6 (.t 2) (.u 20 .share), .none⟩,
     ⟨(some 3), none, false, .mv (.c (.int .i64 0)), .none⟩,
     ⟨(some 4), none, false, .mv (.c (.bool true)), .none⟩])
   (.ret))
   (.skip)))
  (.seq (.region false [⟨(some 22), none, false, .mv (.t 0), .none⟩,
    ⟨(some 23), none, false, .indexSl 1 (.t 22) (.c (.int .i64 1)), .none⟩,
    ⟨(some 24), none, false, .load false 1 (.t 23) .copy, .none⟩,
    ⟨(some 25), none, false, .conv .i64 (.t 24), .none⟩,
    ⟨(some 26), none, false, .callF 28 [(.t 25)], .none⟩,
    ⟨(some 21), none, false, .mv (.t 26), .none⟩,
    ⟨(some 27), none, false, .extract (.t 21) 0, .none⟩,
    ⟨(some 28), none, false, .extract (.t 21) 1, .none⟩,
    ⟨(some 29), none, false, .extract (.t 21) 2, .none⟩,
    ⟨(some 5), none, false, .mv (.t 27), .none⟩,
    ⟨(some 6), none, false, .mv (.t 28), .none⟩,
    ⟨(some 7), none, false, .mv (.t 29), .none⟩])
  (.seq (.seq (.region false [⟨(some 30), none, false, .mv (.t 7), .none⟩,
    ⟨(some 31), none, false, .un .not (.t 30), .none⟩])
  (.cond (.t 31)
   (.seq (.region false [⟨(some 32), none, false, .build [(.int .i64 0), (.int .i64 0), (.int .i64 0), (.int .i64 0), (.int .i64 0), .nils] [], .none⟩,
     ⟨none, none, false, .store 6 (.t 2) (.u 32 .share), .none⟩,
     ⟨(some 3), none, false, .mv (.c (.int .i64 0)), .none⟩,
     ⟨(some 4), none, false, .mv (.c (.bool false)), .none⟩])
   (.ret))
   (.skip)))
  (.seq (.seq (.region false [⟨(some 33), none, false, .mv (.t 5), .none⟩,
    ⟨(some 8), none, false, .mv (.t 33), .none⟩])
  (.block 0 (.loop [0, 2, 6, 8] (.seq (.seq (.region false [⟨(some 34), none, false, .mv (.t 8), .none⟩,
     ⟨(some 35), none, false, .mv (.t 6), .none⟩,
     ⟨(some 36), none, false, .bin .leq (.t 34) (.t 35), .none⟩])
   (.cond (.t 36)
    (.skip)
    (.exit 0)))
   (.seq (.block 1 (.seq (.seq (.region false [⟨(some 39), none, false, .mv (.t 0), .none⟩,
     ⟨(some 40), none, false, .lenSl (.t 39), .none⟩,
     ⟨(some 41), none, false, .bin .gtr (.t 40) (.c (.int .i64 2)), .none⟩,
     ⟨(some 42), none, false, .mv (.t 41), .none⟩,
     ⟨(some 43), (some (42, true)), false, .mv (.t 8), .none⟩,
     ⟨(some 44), (some (42, true)), false, .bin .rem (.t 43) (.c (.int .i64 256)), .none⟩,
     ⟨(some 45), (some (42, true)), false, .conv .u8 (.t 44), .none⟩,
     ⟨(some 46), (some (42, true)), false, .mv (.t 0), .none⟩,
     ⟨(some 47), (some (42, true)), false, .indexSl 1 (.t 46) (.c (.int .i64 2)), .none⟩,
     ⟨(some 48), (some (42, true)), false, .load false 1 (.t 47) .copy, .none⟩,
     ⟨(some 49), (some (42, true)), false, .bin .neq (.t 45) (.t 48), .none⟩,
     ⟨(some 50), none, false, .pick (.t 42) (.t 49) (.c (.bool false)), .none⟩,
     ⟨(some 51), none, false, .mv (.t 50), .none⟩,
     ⟨(some 52), (some (51, false)), false, .mv (.t 0), .none⟩,
     ⟨(some 53), (some (51, false)), false, .lenSl (.t 52), .none⟩,
     ⟨(some 54), (some (51, false)), false, .bin .gtr (.t 53) (.c (.int .i64 3)), .none⟩,
     ⟨(some 55), (some (51, false)), false, .mv (.t 54), .none⟩,
     ⟨(some 56), (some (55, true)), false, .mv (.t 8), .none⟩,
     ⟨(some 57), (some (55, true)), false, .bin .quo (.t 56) (.c (.int .i64 256)), .none⟩,
     ⟨(some 58), (some (55, true)), false, .conv .u8 (.t 57), .none⟩,
     ⟨(some 59), (some (55, true)), false, .mv (.t 0), .none⟩,
     ⟨(some 60), (some (55, true)), false, .indexSl 1 (.t 59) (.c (.int .i64 3)), .none⟩,
     ⟨(some 61), (some (55, true)), false, .load false 1 (.t 60) .copy, .none⟩,
     ⟨(some 62), (some (55, true)), false, .bin .neq (.t 58) (.t 61), .none⟩,
     ⟨(some 63), (some (51, false)), false, .pick (.t 55) (.t 62) (.c (.bool false)), .none⟩,
     ⟨(some 64), none, false, .pick (.t 51) (.c (.bool true)) (.t 63), .none⟩])
   (.cond (.t 64)
    (.exit 1)
    (.skip)))
   (.seq (.seq (.region false [⟨(some 65), none, false, .mv (.t 0), .none⟩,
     ⟨(some 66), none, false, .lenSl (.t 65), .none⟩,
     ⟨(some 67), none, false, .mv (.t 8), .none⟩,
     ⟨(some 68), none, false, .bin .add (.t 67) (.c (.int .i64 5)), .none⟩,
     ⟨(some 69), none, false, .bin .lss (.t 66) (.t 68), .none⟩])
   (.cond (.t 69)
    (.seq (.region false [⟨(some 70), none, false, .build [(.int .i64 0), (.int .i64 0), (.int .i64 0), (.int .i64 0), (.int .i64 0), .nils] [], .none⟩,
      ⟨none, none, false, .store 6 (.t 2) (.u 70 .share), .none⟩,
      ⟨(some 3), none, false, .mv (.c (.int .i64 0)), .none⟩,
      ⟨(some 4), none, false, .mv (.c (.bool true)), .none⟩])
    (.ret))
    (.skip)))
   (.seq (.region true [⟨(some 71), none, false, .mv (.t 0), .cool⟩,
     ⟨(some 72), none, false, .indexSl 1 (.t 71) (.c (.int .i64 1)), .cool⟩,
     ⟨(some 73), none, false, .load false 1 (.t 72) .copy, .free⟩,
     ⟨(some 74), none, false, .conv .i64 (.t 73), .cool⟩,
     ⟨(some 75), none, false, .mv (.t 0), .cool⟩,
     ⟨(some 76), none, false, .mv (.t 8), .cool⟩,
     ⟨(some 77), none, false, .bin .add (.c (.int .i64 4)) (.t 76), .cool⟩,
     ⟨(some 78), none, false, .sliceV 1 (.t 75) (some (.c (.int .i64 4))) (some (.t 77)), .cool⟩,
     ⟨(some 79), none, false, .callF 29 [(.t 74), (.u 78 .share)], .quiet⟩,
     ⟨(some 9), none, false, .allocL 1 [(.int .i64 0), (.int .i64 0), (.int .i64 0), (.int .i64 0), (.int .i64 0), .nils], .none⟩,
     ⟨none, none, false, .store 6 (.t 9) (.u 79 .share), (.loc 1)⟩])
   (.seq (.region false [⟨(some 81), none, false, .load true 6 (.t 9) .copy, .none⟩,
     ⟨(some 82), none, false, .callF 15 [(.u 81 .share)], .none⟩,
     ⟨(some 80), none, false, .mv (.t 82), .none⟩,
     ⟨(some 83), none, false, .extract (.t 80) 0, .none⟩,
     ⟨(some 84), none, false, .extract (.t 80) 1, .none⟩,
     ⟨(some 10), none, false, .mv (.u 83 .share), .none⟩,
     ⟨(some 11), none, false, .mv (.t 84), .none⟩])
   (.seq (.seq (.region false [⟨(some 85), none, false, .mv (.t 11), .none⟩,
     ⟨(some 86), none, false, .bin .eql (.t 85) (.c (.int .i64 0)), .none⟩,
     ⟨(some 87), none, false, .mv (.t 86), .none⟩,
     ⟨(some 88), (some (87, true)), false, .mv (.t 10), .none⟩,
     ⟨(some 89), (some (87, true)), false, .mv (.t 0), .none⟩,
     ⟨(some 90), (some (87, true)), false, .mv (.t 8), .none⟩,
     ⟨(some 91), (some (87, true)), false, .bin .add (.t 90) (.c (.int .i64 5)), .none⟩,
     ⟨(some 92), (some (87, true)), false, .sliceV 1 (.t 89) none (some (.t 91)), .none⟩,
     ⟨(some 93), (some (87, true)), false, .callF 17 [(.u 88 .share), (.u 92 .share)], .none⟩,
     ⟨(some 94), none, false, .pick (.t 87) (.t 93) (.c (.bool false)), .none⟩])
   (.cond (.t 94)
    (.seq (.region false [⟨(some 95), none, false, .load true 6 (.t 9) .copy, .none⟩,
      ⟨(some 96), none, false, .mv (.t 8), .none⟩,
      ⟨(some 97), none, false, .bin .add (.t 96) (.c (.int .i64 5)), .none⟩,
      ⟨none, none, false, .store 6 (.t 2) (.u 95 .share), .none⟩,
      ⟨(some 3), none, false, .mv (.t 97), .none⟩,
      ⟨(some 4), none, false, .mv (.c (.bool true)), .none⟩])
    (.ret))
    (.skip)))
   (.seq (.region false [⟨(some 98), none, false, .build [(.int .i64 0), (.int .i64 0), (.int .i64 0), (.int .i64 0), (.int .i64 0), .nils] [], .none⟩,
     ⟨none, none, false, .store 6 (.t 2) (.u 98 .share), .none⟩,
     ⟨(some 3), none, false, .mv (.c (.int .i64 0)), .none⟩,
     ⟨(some 4), none, false, .mv (.c (.bool false)), .none⟩])
   (.ret))))))))
   (.region false [⟨(some 37), none, false, .mv (.t 8), .none⟩,
     ⟨(some 38), none, false, .bin .add (.t 37) (.c (.int .i64 1)), .none⟩,
     ⟨(some 8), none, false, .mv (.t 38), .none⟩]))))))
  (.seq (.region false [⟨(some 99), none, false, .build [(.int .i64 0), (.int .i64 0), (.int .i64 0), (.int .i64 0), (.int .i64 0), .nils] [], .none⟩,
    ⟨none, none, false, .store 6 (.t 2) (.u 99 .share), .none⟩,
    ⟨(some 3), none, false, .mv (.c (.int .i64 0)), .none⟩,
    ⟨(some 4), none, false, .mv (.c (.bool false)), .none⟩])
  (.ret)))))))⟩
theorem c19 : cFunc Proofs.Try.prog p19 19 = some a19 := by decide +kernel
def p20 : Plan := ⟨[], 0, [((3, 2), { uses := [(5, .take), (6, .take)] }),
    ((3, 3), { uses := [(7, .take)] })],
  []⟩
def a20 : AFunc := ⟨1, 8, 0, [.tmp 2],
  .seq (.region false [⟨(some 2), none, false, .mv (.c .nils), .none⟩])
  (.seq (.seq (.region false [⟨(some 3), none, false, .mv (.t 0), .none⟩,
    ⟨(some 4), none, false, .eq false .slice (.t 3) (.c .nils), .none⟩])
  (.cond (.t 4)
   (.seq (.region false [⟨(some 2), none, false, .mv (.c .nils), .none⟩])
   (.ret))
   (.skip)))
  (.seq (.region false [⟨(some 5), none, false, .buildSlice 1 [(.int .u8 0)] 0 [], .none⟩,
    ⟨(some 6), none, false, .mv (.t 0), .none⟩,
    ⟨(some 7), none, false, .append 1 (.u 5 .take) (.u 6 .take), .none⟩,
    ⟨(some 2), none, false, .mv (.u 7 .take), .none⟩])
  (.ret)))⟩
theorem c20 : cFunc Proofs.Try.prog p20 20 = some a20 := by decide +kernel
def p21 : Plan := ⟨[], 0, [((17, 2), { uses := [(49, .share)] })],
  [[0, 5, 7]]⟩
def a21 : AFunc := ⟨1, 62, 0, [.tmp 2, .tmp 3],
  .seq (.region false [⟨(some 2), none, false, .mv (.c (.int .i64 0)), .none⟩,
    ⟨(some 3), none, false, .mv (.c (.bool false)), .none⟩])
  (.seq (.seq (.region false [⟨(some 9), none, false, .mv (.t 0), .none⟩,
    ⟨(some 10), none, false, .indexSl 1 (.t 9) (.c (.int .i64 0)), .none⟩,
    ⟨(some 11), none, false, .load false 1 (.t 10) .copy, .none⟩,
    ⟨(some 12), none, false, .bin .neq (.t 11) (.c (.int .u8 197)), .none⟩])
  (.cond (.t 12)
   (.seq (.region false [⟨(some 2), none, false, .mv (.c (.int .i64 0)), .none⟩,
     ⟨(some 3), none, false, .mv (.c (.bool false)), .none⟩])
   (.ret))
   (.skip)))
  (.seq (.seq (.region false [⟨(some 13), none, false, .mv (.t 0), .none⟩,
    ⟨(some 14), none, false, .lenSl (.t 13), .none⟩,
    ⟨(some 15), none, false, .bin .eql (.t 14) (.c (.int .i64 1)), .none⟩])
  (.cond (.t 15)
   (.seq (.region false [⟨(some 2), none, false, .mv (.c (.int .i64 0)), .none⟩,
     ⟨(some 3), none, false, .mv (.c (.bool true)), .none⟩])
   (.ret))
   (.skip)))
  (.seq (.region false [⟨(some 17), none, false, .mv (.t 0), .none⟩,
    ⟨(some 18), none, false, .indexSl 1 (.t 17) (.c (.int .i64 1)), .none⟩,
    ⟨(some 19), none, false, .load false 1 (.t 18) .copy, .none⟩,
    ⟨(some 20), none, false, .conv .i64 (.t 19), .none⟩,
    ⟨(some 21), none, false, .callF 25 [(.t 20)], .none⟩,
    ⟨(some 16), none, false, .mv (.t 21), .none⟩,
    ⟨(some 22), none, false, .extract (.t 16) 0, .none⟩,
    ⟨(some 23), none, false, .extract (.t 16) 1, .none⟩,
    ⟨(some 24), none, false, .extract (.t 16) 2, .none⟩,
    ⟨(some 4), none, false, .mv (.t 22), .none⟩,
    ⟨(some 5), none, false, .mv (.t 23), .none⟩,
    ⟨(some 6), none, false, .mv (.t 24), .none⟩])
  (.seq (.block 0 (.seq (.region false [⟨(some 26), none, false, .mv (.t 6), .none⟩,
    ⟨(some 27), none, false, .un .not (.t 26), .none⟩,
    ⟨(some 25), none, false, .mv (.t 27), .none⟩])
  (.cond (.t 25)
   (.seq (.region false [⟨(some 2), none, false, .mv (.c (.int .i64 0)), .none⟩,
     ⟨(some 3), none, false, .mv (.c (.bool false)), .none⟩])
   (.ret))
   (.seq (.region false [⟨(some 29), none, false, .mv (.t 0), .none⟩,
     ⟨(some 30), none, false, .lenSl (.t 29), .none⟩,
     ⟨(some 31), none, false, .bin .eql (.t 30) (.c (.int .i64 2)), .none⟩,
     ⟨(some 28), none, false, .mv (.t 31), .none⟩])
   (.cond (.t 28)
    (.seq (.region false [⟨(some 2), none, false, .mv (.c (.int .i64 0)), .none⟩,
      ⟨(some 3), none, false, .mv (.c (.bool true)), .none⟩])
    (.ret))
    (.seq (.region false [⟨(some 33), none, false, .mv (.t 0), .none⟩,
      ⟨(some 34), none, false, .lenSl (.t 33), .none⟩,
      ⟨(some 35), none, false, .bin .eql (.t 34) (.c (.int .i64 3)), .none⟩,
      ⟨(some 32), none, false, .mv (.t 35), .none⟩])
    (.cond (.t 32)
     (.seq (.seq (.region false [⟨(some 36), none, false, .mv (.t 4), .none⟩,
       ⟨(some 7), none, false, .mv (.t 36), .none⟩])
     (.block 1 (.loop [0, 5, 7] (.seq (.seq (.region false [⟨(some 37), none, false, .mv (.t 7), .none⟩,
        ⟨(some 38), none, false, .mv (.t 5), .none⟩,
        ⟨(some 39), none, false, .bin .leq (.t 37) (.t 38), .none⟩])
      (.cond (.t 39)
       (.skip)
       (.exit 1)))
      (.seq (.block 2 (.seq (.region false [⟨(some 42), none, false, .mv (.t 7), .none⟩,
        ⟨(some 43), none, false, .conv .u8 (.t 42), .none⟩,
        ⟨(some 44), none, false, .mv (.t 0), .none⟩,
        ⟨(some 45), none, false, .indexSl 1 (.t 44) (.c (.int .i64 2)), .none⟩,
        ⟨(some 46), none, false, .load false 1 (.t 45) .copy, .none⟩,
        ⟨(some 47), none, false, .bin .eql (.t 43) (.t 46), .none⟩])
      (.cond (.t 47)
       (.seq (.region false [⟨(some 2), none, false, .mv (.c (.int .i64 0)), .none⟩,
         ⟨(some 3), none, false, .mv (.c (.bool true)), .none⟩])
       (.ret))
       (.skip))))
      (.region false [⟨(some 40), none, false, .mv (.t 7), .none⟩,
        ⟨(some 41), none, false, .bin .add (.t 40) (.c (.int .i64 1)), .none⟩,
        ⟨(some 7), none, false, .mv (.t 41), .none⟩]))))))
     (.seq (.region false [⟨(some 2), none, false, .mv (.c (.int .i64 0)), .none⟩,
       ⟨(some 3), none, false, .mv (.c (.bool false)), .none⟩])
     (.ret)))
     (.skip))))))))
  (.seq (.region false [⟨(some 48), none, false, .mv (.t 0), .none⟩,
    ⟨(some 49), none, false, .sliceV 1 (.t 48) (some (.c (.int .i64 2))) none, .none⟩,
    ⟨(some 50), none, false, .callF 30 [(.u 49 .share)], .none⟩,
    ⟨(some 8), none, false, .mv (.t 50), .none⟩])
  (.seq (.region false [⟨(some 51), none, false, .mv (.t 8), .none⟩,
    ⟨(some 52), none, false, .bin .add (.c (.int .i64 4)) (.t 51), .none⟩,
    ⟨(some 53), none, false, .bin .add (.t 52) (.c (.int .i64 1)), .none⟩,
    ⟨(some 54), none, false, .mv (.t 8), .none⟩,
    ⟨(some 55), none, false, .mv (.t 4), .none⟩,
    ⟨(some 56), none, false, .bin .geq (.t 54) (.t 55), .none⟩,
    ⟨(some 57), none, false, .mv (.t 56), .none⟩,
    ⟨(some 58), (some (57, true)), false, .mv (.t 8), .none⟩,
    ⟨(some 59), (some (57, true)), false, .mv (.t 5), .none⟩,
    ⟨(some 60), (some (57, true)), false, .bin .leq (.t 58) (.t 59), .none⟩,
    ⟨(some 61), none, false, .pick (.t 57) (.t 60) (.c (.bool false)), .none⟩,
    ⟨(some 2), none, false, .mv (.t 53), .none⟩,
    ⟨(some 3), none, false, .mv (.t 61), .none⟩])
  (.ret)))))))⟩
theorem c21 : cFunc Proofs.Try.prog p21 21 = some a21 := by decide +kernel
def p22 : Plan := ⟨[], 2, [((9, 9), { uses := [(34, .share)], mark := (.loc 0) }),
    ((9, 6), { mark := (.loc 1) }),
    ((9, 2), { mark := (.loc 1) }),
    ((9, 0), { mark := (.loc 1) }),
    ((6, 9), { uses := [(20, .share)], mark := (.loc 0) }),
    ((6, 6), { mark := (.loc 1) }),
    ((6, 2), { mark := (.loc 1) }),
    ((6, 0), { mark := (.loc 1) }),
    ((0, 0), { box := some 0 }),
    ((1, 2), { box := some 1 }),
    ((1, 3), { uses := [(8, .share)] }),
    ((5, 1), { uses := [(13, .share)] }),
    ((5, 4), { uses := [(16, .share)] }),
    ((8, 1), { uses := [(31, .share)] }),
    ((13, 1), { uses := [(47, .share)] }),
    ((13, 3), { uses := [(48, .share)] }),
    ((14, 1), { uses := [(50, .share)] })],
  []⟩
def a22 : AFunc := ⟨2, 51, 2, [.cell 4 true 5, .tmp 5],
  .seq (.region false [⟨(some 4), none, false, .allocL 0 [(.int .i64 0), (.int .i64 0), (.int .i64 0), (.int .i64 0), .nils], .none⟩,
    ⟨(some 5), none, false, .mv (.c (.bool false)), .none⟩])
  (.seq (.region false [⟨(some 7), none, false, .mv (.t 0), .none⟩,
    ⟨(some 8), none, false, .build [(.int .i64 0), (.int .i64 0), (.int .i64 0), (.int .i64 0), .nils] [(0, 1, (.t 7))], .none⟩,
    ⟨(some 6), none, false, .allocL 1 [(.int .i64 0), (.int .i64 0), (.int .i64 0), (.int .i64 0), .nils], .none⟩,
    ⟨none, none, false, .store 5 (.t 6) (.u 8 .share), .none⟩])
  (.seq (.seq (.region false [⟨(some 9), none, false, .mv (.t 0), .none⟩])
  (.block 0 (.seq (.seq (.region false [⟨(some 11), none, false, .bin .eql (.t 9) (.c (.int .i64 1)), .none⟩,
    ⟨(some 10), none, false, .mv (.t 11), .none⟩])
  (.cond (.t 10)
   (.skip)
   (.region false [⟨(some 12), none, false, .bin .eql (.t 9) (.c (.int .i64 3)), .none⟩,
     ⟨(some 10), none, false, .mv (.t 12), .none⟩])))
  (.cond (.t 10)
   (.seq (.region true [⟨(some 13), none, false, .mv (.t 1), .none⟩,
     ⟨(some 14), none, false, .callF 30 [(.u 13 .share)], .none⟩,
     ⟨(some 15), none, false, .mv (.t 1), .none⟩,
     ⟨(some 16), none, false, .sliceV 1 (.t 15) (some (.c (.int .i64 2))) none, .none⟩,
     ⟨(some 17), none, false, .callF 30 [(.u 16 .share)], .none⟩,
     ⟨(some 18), none, false, .fieldAddr 1 (.t 6), .none⟩,
     ⟨none, none, false, .store 1 (.t 18) (.t 14), .none⟩,
     ⟨(some 19), none, false, .fieldAddr 2 (.t 6), .none⟩,
     ⟨none, none, false, .store 1 (.t 19) (.t 17), .none⟩])
   (.seq (.region true [⟨(some 20), none, false, .load true 5 (.t 6) .copy, (.loc 1)⟩,
     ⟨(some 21), none, false, .fieldAddr 1 (.t 6), .none⟩,
     ⟨(some 22), none, false, .load false 1 (.t 21) .copy, (.loc 1)⟩,
     ⟨(some 23), none, false, .callF 31 [(.t 22)], .none⟩,
     ⟨(some 24), none, false, .mv (.t 23), .none⟩,
     ⟨(some 25), (some (24, true)), false, .fieldAddr 2 (.t 6), .none⟩,
     ⟨(some 26), (some (24, true)), false, .load false 1 (.t 25) .copy, (.loc 1)⟩,
     ⟨(some 27), (some (24, true)), false, .callF 31 [(.t 26)], .none⟩,
     ⟨(some 28), none, false, .pick (.t 24) (.t 27) (.c (.bool false)), .none⟩,
     ⟨none, none, false, .store 5 (.t 4) (.u 20 .share), (.loc 0)⟩,
     ⟨(some 5), none, false, .mv (.t 28), .none⟩])
   (.ret)))
   (.seq (.region false [⟨(some 30), none, false, .bin .eql (.t 9) (.c (.int .i64 7)), .none⟩,
     ⟨(some 29), none, false, .mv (.t 30), .none⟩])
   (.cond (.t 29)
    (.seq (.region false [⟨(some 31), none, false, .mv (.t 1), .none⟩,
      ⟨(some 32), none, false, .callF 30 [(.u 31 .share)], .none⟩,
      ⟨(some 33), none, false, .fieldAddr 3 (.t 6), .none⟩,
      ⟨none, none, false, .store 1 (.t 33) (.t 32), .none⟩])
    (.seq (.region true [⟨(some 34), none, false, .load true 5 (.t 6) .copy, (.loc 1)⟩,
      ⟨(some 35), none, false, .fieldAddr 3 (.t 6), .none⟩,
      ⟨(some 36), none, false, .load false 1 (.t 35) .copy, (.loc 1)⟩,
      ⟨(some 37), none, false, .bin .geq (.t 36) (.c (.int .i64 1)), .none⟩,
      ⟨(some 38), none, false, .mv (.t 37), .none⟩,
      ⟨(some 39), (some (38, true)), false, .fieldAddr 3 (.t 6), .none⟩,
      ⟨(some 40), (some (38, true)), false, .load false 1 (.t 39) .copy, (.loc 1)⟩,
      ⟨(some 41), (some (38, true)), false, .bin .leq (.t 40) (.c (.int .i64 999)), .none⟩,
      ⟨(some 42), none, false, .pick (.t 38) (.t 41) (.c (.bool false)), .none⟩,
      ⟨none, none, false, .store 5 (.t 4) (.u 34 .share), (.loc 0)⟩,
      ⟨(some 5), none, false, .mv (.t 42), .none⟩])
    (.ret)))
    (.seq (.seq (.region false [⟨(some 44), none, false, .bin .eql (.t 9) (.c (.int .i64 2)), .none⟩,
      ⟨(some 43), none, false, .mv (.t 44), .none⟩])
    (.cond (.t 43)
     (.skip)
     (.seq (.region false [⟨(some 45), none, false, .bin .eql (.t 9) (.c (.int .i64 5)), .none⟩,
       ⟨(some 43), none, false, .mv (.t 45), .none⟩])
     (.cond (.t 43)
      (.skip)
      (.region false [⟨(some 46), none, false, .bin .eql (.t 9) (.c (.int .i64 6)), .none⟩,
        ⟨(some 43), none, false, .mv (.t 46), .none⟩])))))
    (.cond (.t 43)
     (.region false [⟨(some 47), none, false, .mv (.t 1), .none⟩,
       ⟨(some 48), none, false, .callF 20 [(.u 47 .share)], .none⟩,
       ⟨(some 49), none, false, .fieldAddr 4 (.t 6), .none⟩,
       ⟨none, none, false, .store 1 (.t 49) (.u 48 .share), .none⟩])
     (.skip)))))))))
  (.seq (.region false [⟨(some 50), none, false, .load true 5 (.t 6) .copy, .none⟩,
    ⟨none, none, false, .store 5 (.t 4) (.u 50 .share), .none⟩,
    ⟨(some 5), none, false, .mv (.c (.bool true)), .none⟩])
  (.ret))))⟩
theorem c22 : cFunc Proofs.Try.prog p22 22 = some a22 := by decide +kernel
def p23 : Plan := ⟨[], 0, [],
  [[3, 6, 7, 8]]⟩
def a23 : AFunc := ⟨1, 17, 0, [.tmp 2],
  .seq (.region false [⟨(some 2), none, false, .mv (.c (.int .u8 0)), .none⟩])
  (.seq (.region false [⟨(some 3), none, false, .mv (.c (.int .u8 0)), .none⟩])
  (.seq (.seq (.region false [⟨(some 6), none, false, .mv (.t 0), .none⟩,
    ⟨(some 7), none, false, .lenSl (.t 6), .none⟩,
    ⟨(some 8), none, false, .mv (.c (.int .i64 0)), .none⟩])
  (.block 0 (.loop [3, 6, 7, 8] (.seq (.region false [⟨(some 9), none, false, .bin .lss (.t 8) (.t 7), .none⟩])
   (.seq (.cond (.t 9)
    (.skip)
    (.exit 0))
   (.seq (.block 1 (.seq (.region false [⟨(some 10), none, false, .indexSl 1 (.t 6) (.t 8), .none⟩,
     ⟨(some 11), none, false, .load false 1 (.t 10) .copy, .none⟩,
     ⟨(some 5), none, false, .mv (.t 11), .none⟩])
   (.region false [⟨(some 12), none, false, .mv (.t 3), .none⟩,
     ⟨(some 13), none, false, .mv (.t 5), .none⟩,
     ⟨(some 14), none, false, .bin .add (.t 12) (.t 13), .none⟩,
     ⟨(some 3), none, false, .mv (.t 14), .none⟩])))
   (.region false [⟨(some 15), none, false, .bin .add (.t 8) (.c (.int .i64 1)), .none⟩,
     ⟨(some 8), none, false, .mv (.t 15), .none⟩])))))))
  (.seq (.region false [⟨(some 16), none, false, .mv (.t 3), .none⟩,
    ⟨(some 2), none, false, .mv (.t 16), .none⟩])
  (.ret))))⟩
theorem c23 : cFunc Proofs.Try.prog p23 23 = some a23 := by decide +kernel
def p24 : Plan := ⟨[], 0, [((2, 0), { uses := [(0, .take)] }),
    ((2, 3), { uses := [(9, .share)] }),
    ((2, 4), { uses := [(7, .take), (10, .take)] }),
    ((2, 5), { uses := [(11, .take)] }),
    ((3, 0), { uses := [(0, .take)] }),
    ((3, 1), { uses := [(12, .take)] })],
  []⟩
def a24 : AFunc := ⟨2, 13, 0, [.tmp 4],
  .seq (.region false [⟨(some 4), none, false, .mv (.c .nils), .none⟩])
  (.seq (.seq (.region false [⟨(some 5), none, false, .mv (.t 1), .none⟩,
    ⟨(some 6), none, false, .bin .gtr (.t 5) (.c (.int .i64 0)), .none⟩])
  (.cond (.t 6)
   (.region false [⟨(some 7), none, false, .mv (.u 0 .take), .none⟩,
     ⟨(some 8), none, false, .mv (.t 1), .none⟩,
     ⟨(some 9), none, false, .build [(.int .i64 0), (.int .i64 0), (.int .i64 0), (.int .i64 0), .nils, (.int .i64 0)] [(5, 1, (.t 8))], .none⟩,
     ⟨(some 10), none, false, .buildSlice 6 [(.int .i64 0), (.int .i64 0), (.int .i64 0), (.int .i64 0), .nils, (.int .i64 0)] 1 [(0, (.u 9 .share))], .none⟩,
     ⟨(some 11), none, false, .append 6 (.u 7 .take) (.u 10 .take), .none⟩,
     ⟨(some 0), none, false, .mv (.u 11 .take), .none⟩])
   (.skip)))
  (.seq (.region false [⟨(some 12), none, false, .mv (.u 0 .take), .none⟩,
    ⟨(some 4), none, false, .mv (.u 12 .take), .none⟩])
  (.ret)))⟩
theorem c24 : cFunc Proofs.Try.prog p24 24 = some a24 := by decide +kernel
def p25 : Plan := ⟨[], 0, [],
  []⟩
def a25 : AFunc := ⟨1, 20, 0, [.tmp 2, .tmp 3, .tmp 4],
  .seq (.region false [⟨(some 2), none, false, .mv (.c (.int .i64 0)), .none⟩,
    ⟨(some 3), none, false, .mv (.c (.int .i64 0)), .none⟩,
    ⟨(some 4), none, false, .mv (.c (.bool false)), .none⟩])
  (.seq (.seq (.region false [⟨(some 5), none, false, .mv (.t 0), .none⟩])
  (.block 0 (.seq (.seq (.region false [⟨(some 7), none, false, .bin .eql (.t 5) (.c (.int .i64 1)), .none⟩,
    ⟨(some 6), none, false, .mv (.t 7), .none⟩])
  (.cond (.t 6)
   (.skip)
   (.region false [⟨(some 8), none, false, .bin .eql (.t 5) (.c (.int .i64 3)), .none⟩,
     ⟨(some 6), none, false, .mv (.t 8), .none⟩])))
  (.cond (.t 6)
   (.seq (.region false [⟨(some 2), none, false, .mv (.c (.int .i64 4)), .none⟩,
     ⟨(some 3), none, false, .mv (.c (.int .i64 4)), .none⟩,
     ⟨(some 4), none, false, .mv (.c (.bool true)), .none⟩])
   (.ret))
   (.seq (.region false [⟨(some 10), none, false, .bin .eql (.t 5) (.c (.int .i64 2)), .none⟩,
     ⟨(some 9), none, false, .mv (.t 10), .none⟩])
   (.cond (.t 9)
    (.seq (.region false [⟨(some 2), none, false, .mv (.c (.int .i64 1)), .none⟩,
      ⟨(some 3), none, false, .mv (.c (.int .i64 256)), .none⟩,
      ⟨(some 4), none, false, .mv (.c (.bool true)), .none⟩])
    (.ret))
    (.seq (.seq (.region false [⟨(some 12), none, false, .bin .eql (.t 5) (.c (.int .i64 4)), .none⟩,
      ⟨(some 11), none, false, .mv (.t 12), .none⟩])
    (.cond (.t 11)
     (.skip)
     (.region false [⟨(some 13), none, false, .bin .eql (.t 5) (.c (.int .i64 8)), .none⟩,
       ⟨(some 11), none, false, .mv (.t 13), .none⟩])))
    (.cond (.t 11)
     (.seq (.region false [⟨(some 2), none, false, .mv (.c (.int .i64 0)), .none⟩,
       ⟨(some 3), none, false, .mv (.c (.int .i64 0)), .none⟩,
       ⟨(some 4), none, false, .mv (.c (.bool true)), .none⟩])
     (.ret))
     (.seq (.region false [⟨(some 15), none, false, .bin .eql (.t 5) (.c (.int .i64 5)), .none⟩,
       ⟨(some 14), none, false, .mv (.t 15), .none⟩])
     (.cond (.t 14)
      (.seq (.region false [⟨(some 2), none, false, .mv (.c (.int .i64 1)), .none⟩,
        ⟨(some 3), none, false, .mv (.c (.int .i64 64)), .none⟩,
        ⟨(some 4), none, false, .mv (.c (.bool true)), .none⟩])
      (.ret))
      (.seq (.region false [⟨(some 17), none, false, .bin .eql (.t 5) (.c (.int .i64 6)), .none⟩,
        ⟨(some 16), none, false, .mv (.t 17), .none⟩])
      (.cond (.t 16)
       (.seq (.region false [⟨(some 2), none, false, .mv (.c (.int .i64 1)), .none⟩,
         ⟨(some 3), none, false, .mv (.c (.int .i64 512)), .none⟩,
         ⟨(some 4), none, false, .mv (.c (.bool true)), .none⟩])
       (.ret))
       (.seq (.region false [⟨(some 19), none, false, .bin .eql (.t 5) (.c (.int .i64 7)), .none⟩,
         ⟨(some 18), none, false, .mv (.t 19), .none⟩])
       (.cond (.t 18)
        (.seq (.region false [⟨(some 2), none, false, .mv (.c (.int .i64 2)), .none⟩,
          ⟨(some 3), none, false, .mv (.c (.int .i64 2)), .none⟩,
          ⟨(some 4), none, false, .mv (.c (.bool true)), .none⟩])
        (.ret))
        (.skip)))))))))))))))
  (.seq (.region false [⟨(some 2), none, false, .mv (.c (.int .i64 0)), .none⟩,
    ⟨(some 3), none, false, .mv (.c (.int .i64 0)), .none⟩,
    ⟨(some 4), none, false, .mv (.c (.bool false)), .none⟩])
  (.ret)))⟩
theorem c25 : cFunc Proofs.Try.prog p25 25 = some a25 := by decide +kernel
def p26 : Plan := ⟨[], 1, [((0, 0), { box := some 0 }),
    ((8, 17), { uses := [(99, .share)] }),
    ((10, 9), { uses := [(117, .share)] }),
    ((13, 2), { uses := [(139, .share)] })],
  []⟩
def a26 : AFunc := ⟨1, 140, 1, [.tmp 2, .tmp 3],
  .seq (.region false [⟨(some 1), none, false, .boxL 0 (.t 0), .none⟩,
    ⟨(some 2), none, false, .mv (.c .nils), .none⟩,
    ⟨(some 3), none, false, .mv (.c (.bool false)), .none⟩])
  (.seq (.region false [⟨(some 9), none, false, .fieldAddr 0 (.t 1), .none⟩,
    ⟨(some 10), none, false, .load false 1 (.t 9) .copy, .none⟩,
    ⟨(some 11), none, false, .callF 28 [(.t 10)], .none⟩,
    ⟨(some 8), none, false, .mv (.t 11), .none⟩,
    ⟨(some 12), none, false, .extract (.t 8) 0, .none⟩,
    ⟨(some 13), none, false, .extract (.t 8) 1, .none⟩,
    ⟨(some 14), none, false, .extract (.t 8) 2, .none⟩,
    ⟨(some 4), none, false, .mv (.t 12), .none⟩,
    ⟨(some 5), none, false, .mv (.t 13), .none⟩,
    ⟨(some 6), none, false, .mv (.t 14), .none⟩])
  (.seq (.seq (.region false [⟨(some 15), none, false, .mv (.t 6), .none⟩,
    ⟨(some 16), none, false, .un .not (.t 15), .none⟩])
  (.cond (.t 16)
   (.seq (.region false [⟨(some 2), none, false, .mv (.c .nils), .none⟩,
     ⟨(some 3), none, false, .mv (.c (.bool false)), .none⟩])
   (.ret))
   (.skip)))
  (.seq (.region false [⟨(some 17), none, false, .fieldAddr 0 (.t 1), .none⟩,
    ⟨(some 18), none, false, .load false 1 (.t 17) .copy, .none⟩,
    ⟨(some 19), none, false, .bin .eql (.t 18) (.c (.int .i64 1)), .none⟩,
    ⟨(some 20), none, false, .mv (.t 19), .none⟩,
    ⟨(some 21), (some (20, false)), false, .fieldAddr 0 (.t 1), .none⟩,
    ⟨(some 22), (some (20, false)), false, .load false 1 (.t 21) .copy, .none⟩,
    ⟨(some 23), (some (20, false)), false, .bin .eql (.t 22) (.c (.int .i64 3)), .none⟩,
    ⟨(some 24), none, false, .pick (.t 20) (.c (.bool true)) (.t 23), .none⟩,
    ⟨(some 7), none, false, .mv (.t 24), .none⟩])
  (.seq (.seq (.region false [⟨(some 25), none, false, .mv (.t 7), .none⟩,
    ⟨(some 26), none, false, .fieldAddr 1 (.t 1), .none⟩,
    ⟨(some 27), none, false, .load false 1 (.t 26) .copy, .none⟩,
    ⟨(some 28), none, false, .bin .neq (.t 27) (.c (.int .i64 0)), .none⟩,
    ⟨(some 29), none, false, .eq true .bool (.t 25) (.t 28), .none⟩,
    ⟨(some 30), none, false, .mv (.t 29), .none⟩,
    ⟨(some 31), (some (30, false)), false, .mv (.t 7), .none⟩,
    ⟨(some 32), (some (30, false)), false, .fieldAddr 2 (.t 1), .none⟩,
    ⟨(some 33), (some (30, false)), false, .load false 1 (.t 32) .copy, .none⟩,
    ⟨(some 34), (some (30, false)), false, .bin .neq (.t 33) (.c (.int .i64 0)), .none⟩,
    ⟨(some 35), (some (30, false)), false, .eq true .bool (.t 31) (.t 34), .none⟩,
    ⟨(some 36), none, false, .pick (.t 30) (.c (.bool true)) (.t 35), .none⟩,
    ⟨(some 37), none, false, .mv (.t 36), .none⟩,
    ⟨(some 38), (some (37, false)), false, .fieldAddr 0 (.t 1), .none⟩,
    ⟨(some 39), (some (37, false)), false, .load false 1 (.t 38) .copy, .none⟩,
    ⟨(some 40), (some (37, false)), false, .bin .eql (.t 39) (.c (.int .i64 7)), .none⟩,
    ⟨(some 41), (some (37, false)), false, .fieldAddr 3 (.t 1), .none⟩,
    ⟨(some 42), (some (37, false)), false, .load false 1 (.t 41) .copy, .none⟩,
    ⟨(some 43), (some (37, false)), false, .bin .neq (.t 42) (.c (.int .i64 0)), .none⟩,
    ⟨(some 44), (some (37, false)), false, .eq true .bool (.t 40) (.t 43), .none⟩,
    ⟨(some 45), none, false, .pick (.t 37) (.c (.bool true)) (.t 44), .none⟩,
    ⟨(some 46), none, false, .mv (.t 45), .none⟩,
    ⟨(some 47), (some (46, false)), false, .fieldAddr 1 (.t 1), .none⟩,
    ⟨(some 48), (some (46, false)), false, .load false 1 (.t 47) .copy, .none⟩,
    ⟨(some 49), (some (46, false)), false, .bin .lss (.t 48) (.c (.int .i64 0)), .none⟩,
    ⟨(some 50), none, false, .pick (.t 46) (.c (.bool true)) (.t 49), .none⟩,
    ⟨(some 51), none, false, .mv (.t 50), .none⟩,
    ⟨(some 52), (some (51, false)), false, .fieldAddr 1 (.t 1), .none⟩,
    ⟨(some 53), (some (51, false)), false, .load false 1 (.t 52) .copy, .none⟩,
    ⟨(some 54), (some (51, false)), false, .bin .gtr (.t 53) (.c (.int .i64 200)), .none⟩,
    ⟨(some 55), none, false, .pick (.t 51) (.c (.bool true)) (.t 54), .none⟩,
    ⟨(some 56), none, false, .mv (.t 55), .none⟩,
    ⟨(some 57), (some (56, false)), false, .fieldAddr 2 (.t 1), .none⟩,
    ⟨(some 58), (some (56, false)), false, .load false 1 (.t 57) .copy, .none⟩,
    ⟨(some 59), (some (56, false)), false, .bin .lss (.t 58) (.c (.int .i64 0)), .none⟩,
    ⟨(some 60), none, false, .pick (.t 56) (.c (.bool true)) (.t 59), .none⟩,
    ⟨(some 61), none, false, .mv (.t 60), .none⟩,
    ⟨(some 62), (some (61, false)), false, .fieldAddr 2 (.t 1), .none⟩,
    ⟨(some 63), (some (61, false)), false, .load false 1 (.t 62) .copy, .none⟩,
    ⟨(some 64), (some (61, false)), false, .bin .gtr (.t 63) (.c (.int .i64 200)), .none⟩,
    ⟨(some 65), none, false, .pick (.t 61) (.c (.bool true)) (.t 64), .none⟩,
    ⟨(some 66), none, false, .mv (.t 65), .none⟩,
    ⟨(some 67), (some (66, false)), false, .fieldAddr 3 (.t 1), .none⟩,
    ⟨(some 68), (some (66, false)), false, .load false 1 (.t 67) .copy, .none⟩,
    ⟨(some 69), (some (66, false)), false, .bin .lss (.t 68) (.c (.int .i64 0)), .none⟩,
    ⟨(some 70), none, false, .pick (.t 66) (.c (.bool true)) (.t 69), .none⟩,
    ⟨(some 71), none, false, .mv (.t 70), .none⟩,
    ⟨(some 72), (some (71, false)), false, .fieldAddr 3 (.t 1), .none⟩,
    ⟨(some 73), (some (71, false)), false, .load false 1 (.t 72) .copy, .none⟩,
    ⟨(some 74), (some (71, false)), false, .bin .gtr (.t 73) (.c (.int .i64 999)), .none⟩,
    ⟨(some 75), none, false, .pick (.t 71) (.c (.bool true)) (.t 74), .none⟩])
  (.cond (.t 75)
   (.seq (.region false [⟨(some 2), none, false, .mv (.c .nils), .none⟩,
     ⟨(some 3), none, false, .mv (.c (.bool false)), .none⟩])
   (.ret))
   (.skip)))
  (.seq (.seq (.region false [⟨(some 76), none, false, .mv (.t 7), .none⟩,
    ⟨(some 77), none, false, .mv (.t 76), .none⟩,
    ⟨(some 78), (some (77, true)), false, .fieldAddr 5 (.t 1), .none⟩,
    ⟨(some 79), (some (77, true)), false, .load false 1 (.t 78) .copy, .none⟩,
    ⟨(some 80), (some (77, true)), false, .lenSl (.t 79), .none⟩,
    ⟨(some 81), (some (77, true)), false, .bin .eql (.t 80) (.c (.int .i64 0)), .none⟩,
    ⟨(some 82), none, false, .pick (.t 77) (.t 81) (.c (.bool false)), .none⟩])
  (.cond (.t 82)
   (.seq (.region false [⟨(some 83), none, false, .fieldAddr 1 (.t 1), .none⟩,
     ⟨(some 84), none, false, .load false 1 (.t 83) .copy, .none⟩,
     ⟨(some 85), none, false, .bin .rem (.t 84) (.c (.int .i64 256)), .none⟩,
     ⟨(some 86), none, false, .conv .u8 (.t 85), .none⟩,
     ⟨(some 87), none, false, .fieldAddr 1 (.t 1), .none⟩,
     ⟨(some 88), none, false, .load false 1 (.t 87) .copy, .none⟩,
     ⟨(some 89), none, false, .bin .quo (.t 88) (.c (.int .i64 256)), .none⟩,
     ⟨(some 90), none, false, .conv .u8 (.t 89), .none⟩,
     ⟨(some 91), none, false, .fieldAddr 2 (.t 1), .none⟩,
     ⟨(some 92), none, false, .load false 1 (.t 91) .copy, .none⟩,
     ⟨(some 93), none, false, .bin .rem (.t 92) (.c (.int .i64 256)), .none⟩,
     ⟨(some 94), none, false, .conv .u8 (.t 93), .none⟩,
     ⟨(some 95), none, false, .fieldAddr 2 (.t 1), .none⟩,
     ⟨(some 96), none, false, .load false 1 (.t 95) .copy, .none⟩,
     ⟨(some 97), none, false, .bin .quo (.t 96) (.c (.int .i64 256)), .none⟩,
     ⟨(some 98), none, false, .conv .u8 (.t 97), .none⟩,
     ⟨(some 99), none, false, .buildSlice 1 [(.int .u8 0)] 4 [(0, (.t 86)), (1, (.t 90)), (2, (.t 94)), (3, (.t 98))], .none⟩,
     ⟨(some 2), none, false, .mv (.u 99 .share), .none⟩,
     ⟨(some 3), none, false, .mv (.c (.bool true)), .none⟩])
   (.ret))
   (.skip)))
  (.seq (.seq (.region false [⟨(some 100), none, false, .fieldAddr 0 (.t 1), .none⟩,
    ⟨(some 101), none, false, .load false 1 (.t 100) .copy, .none⟩,
    ⟨(some 102), none, false, .bin .eql (.t 101) (.c (.int .i64 7)), .none⟩,
    ⟨(some 103), none, false, .mv (.t 102), .none⟩,
    ⟨(some 104), (some (103, true)), false, .fieldAddr 5 (.t 1), .none⟩,
    ⟨(some 105), (some (103, true)), false, .load false 1 (.t 104) .copy, .none⟩,
    ⟨(some 106), (some (103, true)), false, .lenSl (.t 105), .none⟩,
    ⟨(some 107), (some (103, true)), false, .bin .eql (.t 106) (.c (.int .i64 0)), .none⟩,
    ⟨(some 108), none, false, .pick (.t 103) (.t 107) (.c (.bool false)), .none⟩])
  (.cond (.t 108)
   (.seq (.region false [⟨(some 109), none, false, .fieldAddr 3 (.t 1), .none⟩,
     ⟨(some 110), none, false, .load false 1 (.t 109) .copy, .none⟩,
     ⟨(some 111), none, false, .bin .rem (.t 110) (.c (.int .i64 256)), .none⟩,
     ⟨(some 112), none, false, .conv .u8 (.t 111), .none⟩,
     ⟨(some 113), none, false, .fieldAddr 3 (.t 1), .none⟩,
     ⟨(some 114), none, false, .load false 1 (.t 113) .copy, .none⟩,
     ⟨(some 115), none, false, .bin .quo (.t 114) (.c (.int .i64 256)), .none⟩,
     ⟨(some 116), none, false, .conv .u8 (.t 115), .none⟩,
     ⟨(some 117), none, false, .buildSlice 1 [(.int .u8 0)] 2 [(0, (.t 112)), (1, (.t 116))], .none⟩,
     ⟨(some 2), none, false, .mv (.u 117 .share), .none⟩,
     ⟨(some 3), none, false, .mv (.c (.bool true)), .none⟩])
   (.ret))
   (.skip)))
  (.seq (.seq (.region false [⟨(some 118), none, false, .mv (.t 7), .none⟩,
    ⟨(some 119), none, false, .mv (.t 118), .none⟩,
    ⟨(some 120), (some (119, false)), false, .fieldAddr 0 (.t 1), .none⟩,
    ⟨(some 121), (some (119, false)), false, .load false 1 (.t 120) .copy, .none⟩,
    ⟨(some 122), (some (119, false)), false, .bin .eql (.t 121) (.c (.int .i64 7)), .none⟩,
    ⟨(some 123), none, false, .pick (.t 119) (.c (.bool true)) (.t 122), .none⟩,
    ⟨(some 124), none, false, .mv (.t 123), .none⟩,
    ⟨(some 125), (some (124, false)), false, .fieldAddr 5 (.t 1), .none⟩,
    ⟨(some 126), (some (124, false)), false, .load false 1 (.t 125) .copy, .none⟩,
    ⟨(some 127), (some (124, false)), false, .lenSl (.t 126), .none⟩,
    ⟨(some 128), (some (124, false)), false, .mv (.t 4), .none⟩,
    ⟨(some 129), (some (124, false)), false, .bin .lss (.t 127) (.t 128), .none⟩,
    ⟨(some 130), none, false, .pick (.t 124) (.c (.bool true)) (.t 129), .none⟩,
    ⟨(some 131), none, false, .mv (.t 130), .none⟩,
    ⟨(some 132), (some (131, false)), false, .fieldAddr 5 (.t 1), .none⟩,
    ⟨(some 133), (some (131, false)), false, .load false 1 (.t 132) .copy, .none⟩,
    ⟨(some 134), (some (131, false)), false, .lenSl (.t 133), .none⟩,
    ⟨(some 135), (some (131, false)), false, .mv (.t 5), .none⟩,
    ⟨(some 136), (some (131, false)), false, .bin .gtr (.t 134) (.t 135), .none⟩,
    ⟨(some 137), none, false, .pick (.t 131) (.c (.bool true)) (.t 136), .none⟩])
  (.cond (.t 137)
   (.seq (.region false [⟨(some 2), none, false, .mv (.c .nils), .none⟩,
     ⟨(some 3), none, false, .mv (.c (.bool false)), .none⟩])
   (.ret))
   (.skip)))
  (.seq (.region false [⟨(some 138), none, false, .fieldAddr 5 (.t 1), .none⟩,
    ⟨(some 139), none, false, .load false 1 (.t 138) .copy, .none⟩,
    ⟨(some 2), none, false, .mv (.u 139 .share), .none⟩,
    ⟨(some 3), none, false, .mv (.c (.bool true)), .none⟩])
  (.ret)))))))))⟩
theorem c26 : cFunc Proofs.Try.prog p26 26 = some a26 := by decide +kernel
def p28 : Plan := ⟨[], 0, [((1, 1), { uses := [(7, .share)] }),
    ((2, 1), { uses := [(8, .share)] })],
  []⟩
def a28 : AFunc := ⟨1, 25, 0, [.tmp 2, .tmp 3, .tmp 4],
  .seq (.region false [⟨(some 2), none, false, .mv (.c (.int .i64 0)), .none⟩,
    ⟨(some 3), none, false, .mv (.c (.int .i64 0)), .none⟩,
    ⟨(some 4), none, false, .mv (.c (.bool false)), .none⟩])
  (.seq (.region false [⟨(some 7), none, false, .buildSlice 1 [(.int .i64 0)] 8 [(0, (.c (.int .i64 4))), (1, (.c (.int .i64 1))), (2, (.c (.int .i64 4))), (3, (.c (.int .i64 0))), (4, (.c (.int .i64 1))), (5, (.c (.int .i64 1))), (6, (.c (.int .i64 2))), (7, (.c (.int .i64 0)))], .none⟩,
    ⟨(some 5), none, false, .mv (.u 7 .share), .none⟩])
  (.seq (.region false [⟨(some 8), none, false, .buildSlice 1 [(.int .i64 0)] 8 [(0, (.c (.int .i64 4))), (1, (.c (.int .i64 256))), (2, (.c (.int .i64 4))), (3, (.c (.int .i64 0))), (4, (.c (.int .i64 64))), (5, (.c (.int .i64 512))), (6, (.c (.int .i64 2))), (7, (.c (.int .i64 0)))], .none⟩,
    ⟨(some 6), none, false, .mv (.u 8 .share), .none⟩])
  (.seq (.seq (.region false [⟨(some 9), none, false, .mv (.t 0), .none⟩,
    ⟨(some 10), none, false, .bin .lss (.t 9) (.c (.int .i64 1)), .none⟩,
    ⟨(some 11), none, false, .mv (.t 10), .none⟩,
    ⟨(some 12), (some (11, false)), false, .mv (.t 0), .none⟩,
    ⟨(some 13), (some (11, false)), false, .bin .gtr (.t 12) (.c (.int .i64 8)), .none⟩,
    ⟨(some 14), none, false, .pick (.t 11) (.c (.bool true)) (.t 13), .none⟩])
  (.cond (.t 14)
   (.seq (.region false [⟨(some 2), none, false, .mv (.c (.int .i64 0)), .none⟩,
     ⟨(some 3), none, false, .mv (.c (.int .i64 0)), .none⟩,
     ⟨(some 4), none, false, .mv (.c (.bool false)), .none⟩])
   (.ret))
   (.skip)))
  (.seq (.region true [⟨(some 15), none, false, .mv (.t 5), .none⟩,
    ⟨(some 16), none, false, .mv (.t 0), .none⟩,
    ⟨(some 17), none, false, .bin .sub (.t 16) (.c (.int .i64 1)), .none⟩,
    ⟨(some 18), none, false, .indexSl 1 (.t 15) (.t 17), .none⟩,
    ⟨(some 19), none, false, .load false 1 (.t 18) .copy, .none⟩,
    ⟨(some 20), none, false, .mv (.t 6), .none⟩,
    ⟨(some 21), none, false, .mv (.t 0), .none⟩,
    ⟨(some 22), none, false, .bin .sub (.t 21) (.c (.int .i64 1)), .none⟩,
    ⟨(some 23), none, false, .indexSl 1 (.t 20) (.t 22), .none⟩,
    ⟨(some 24), none, false, .load false 1 (.t 23) .copy, .none⟩,
    ⟨(some 2), none, false, .mv (.t 19), .none⟩,
    ⟨(some 3), none, false, .mv (.t 24), .none⟩,
    ⟨(some 4), none, false, .mv (.c (.bool true)), .none⟩])
  (.ret)))))⟩
theorem c28 : cFunc Proofs.Try.prog p28 28 = some a28 := by decide +kernel
def p29 : Plan := ⟨[], 2, [((0, 0), { box := some 0 }),
    ((1, 2), { box := some 1 }),
    ((1, 3), { uses := [(7, .share)] }),
    ((3, 2), { uses := [(9, .share)] }),
    ((10, 1), { uses := [(49, .share)] })],
  []⟩
def a29 : AFunc := ⟨2, 50, 2, [.cell 4 true 6],
  .seq (.region false [⟨(some 4), none, false, .allocL 0 [(.int .i64 0), (.int .i64 0), (.int .i64 0), (.int .i64 0), (.int .i64 0), .nils], .none⟩])
  (.seq (.region false [⟨(some 6), none, false, .mv (.t 0), .none⟩,
    ⟨(some 7), none, false, .build [(.int .i64 0), (.int .i64 0), (.int .i64 0), (.int .i64 0), (.int .i64 0), .nils] [(0, 1, (.t 6))], .none⟩,
    ⟨(some 5), none, false, .allocL 1 [(.int .i64 0), (.int .i64 0), (.int .i64 0), (.int .i64 0), (.int .i64 0), .nils], .none⟩,
    ⟨none, none, false, .store 6 (.t 5) (.u 7 .share), .none⟩])
  (.seq (.seq (.region false [⟨(some 8), none, false, .mv (.t 0), .none⟩])
  (.block 0 (.seq (.seq (.region false [⟨(some 12), none, false, .bin .eql (.t 8) (.c (.int .i64 1)), .none⟩,
    ⟨(some 11), none, false, .mv (.t 12), .none⟩])
  (.cond (.t 11)
   (.skip)
   (.region false [⟨(some 13), none, false, .bin .eql (.t 8) (.c (.int .i64 3)), .none⟩,
     ⟨(some 11), none, false, .mv (.t 13), .none⟩])))
  (.cond (.t 11)
   (.seq (.region true [⟨(some 14), none, false, .mv (.t 1), .none⟩,
     ⟨(some 15), none, false, .indexSl 1 (.t 14) (.c (.int .i64 0)), .none⟩,
     ⟨(some 16), none, false, .load false 1 (.t 15) .copy, .none⟩,
     ⟨(some 17), none, false, .conv .i64 (.t 16), .none⟩,
     ⟨(some 18), none, false, .mv (.t 1), .none⟩,
     ⟨(some 19), none, false, .indexSl 1 (.t 18) (.c (.int .i64 1)), .none⟩,
     ⟨(some 20), none, false, .load false 1 (.t 19) .copy, .none⟩,
     ⟨(some 21), none, false, .conv .i64 (.t 20), .none⟩,
     ⟨(some 22), none, false, .bin .mul (.c (.int .i64 256)) (.t 21), .none⟩,
     ⟨(some 23), none, false, .bin .add (.t 17) (.t 22), .none⟩,
     ⟨(some 24), none, false, .fieldAddr 1 (.t 5), .none⟩,
     ⟨none, none, false, .store 1 (.t 24) (.t 23), .none⟩])
   (.region true [⟨(some 25), none, false, .mv (.t 1), .none⟩,
     ⟨(some 26), none, false, .indexSl 1 (.t 25) (.c (.int .i64 2)), .none⟩,
     ⟨(some 27), none, false, .load false 1 (.t 26) .copy, .none⟩,
     ⟨(some 28), none, false, .conv .i64 (.t 27), .none⟩,
     ⟨(some 29), none, false, .mv (.t 1), .none⟩,
     ⟨(some 30), none, false, .indexSl 1 (.t 29) (.c (.int .i64 3)), .none⟩,
     ⟨(some 31), none, false, .load false 1 (.t 30) .copy, .none⟩,
     ⟨(some 32), none, false, .conv .i64 (.t 31), .none⟩,
     ⟨(some 33), none, false, .bin .mul (.c (.int .i64 256)) (.t 32), .none⟩,
     ⟨(some 34), none, false, .bin .add (.t 28) (.t 33), .none⟩,
     ⟨(some 35), none, false, .fieldAddr 2 (.t 5), .none⟩,
     ⟨none, none, false, .store 1 (.t 35) (.t 34), .none⟩]))
   (.seq (.region false [⟨(some 37), none, false, .bin .eql (.t 8) (.c (.int .i64 7)), .none⟩,
     ⟨(some 36), none, false, .mv (.t 37), .none⟩])
   (.cond (.t 36)
    (.region true [⟨(some 38), none, false, .mv (.t 1), .none⟩,
      ⟨(some 39), none, false, .indexSl 1 (.t 38) (.c (.int .i64 0)), .none⟩,
      ⟨(some 40), none, false, .load false 1 (.t 39) .copy, .none⟩,
      ⟨(some 41), none, false, .conv .i64 (.t 40), .none⟩,
      ⟨(some 42), none, false, .mv (.t 1), .none⟩,
      ⟨(some 43), none, false, .indexSl 1 (.t 42) (.c (.int .i64 1)), .none⟩,
      ⟨(some 44), none, false, .load false 1 (.t 43) .copy, .none⟩,
      ⟨(some 45), none, false, .conv .i64 (.t 44), .none⟩,
      ⟨(some 46), none, false, .bin .mul (.c (.int .i64 256)) (.t 45), .none⟩,
      ⟨(some 47), none, false, .bin .add (.t 41) (.t 46), .none⟩,
      ⟨(some 48), none, false, .fieldAddr 3 (.t 5), .none⟩,
      ⟨none, none, false, .store 1 (.t 48) (.t 47), .none⟩])
    (.region false [⟨(some 9), none, false, .mv (.t 1), .none⟩,
      ⟨(some 10), none, false, .fieldAddr 5 (.t 5), .none⟩,
      ⟨none, none, false, .store 1 (.t 10) (.u 9 .share), .none⟩])))))))
  (.seq (.region false [⟨(some 49), none, false, .load true 6 (.t 5) .copy, .none⟩,
    ⟨none, none, false, .store 6 (.t 4) (.u 49 .share), .none⟩])
  (.ret))))⟩
theorem c29 : cFunc Proofs.Try.prog p29 29 = some a29 := by decide +kernel
def p30 : Plan := ⟨[], 0, [],
  []⟩
def a30 : AFunc := ⟨1, 13, 0, [.tmp 2],
  .seq (.region false [⟨(some 2), none, false, .mv (.c (.int .i64 0)), .none⟩])
  (.seq (.region true [⟨(some 3), none, false, .mv (.t 0), .none⟩,
    ⟨(some 4), none, false, .indexSl 1 (.t 3) (.c (.int .i64 0)), .none⟩,
    ⟨(some 5), none, false, .load false 1 (.t 4) .copy, .none⟩,
    ⟨(some 6), none, false, .conv .i64 (.t 5), .none⟩,
    ⟨(some 7), none, false, .mv (.t 0), .none⟩,
    ⟨(some 8), none, false, .indexSl 1 (.t 7) (.c (.int .i64 1)), .none⟩,
    ⟨(some 9), none, false, .load false 1 (.t 8) .copy, .none⟩,
    ⟨(some 10), none, false, .conv .i64 (.t 9), .none⟩,
    ⟨(some 11), none, false, .bin .shl (.t 10) (.c (.int .u64 8)), .none⟩,
    ⟨(some 12), none, false, .bin .or (.t 6) (.t 11), .none⟩,
    ⟨(some 2), none, false, .mv (.t 12), .none⟩])
  (.ret))⟩
theorem c30 : cFunc Proofs.Try.prog p30 30 = some a30 := by decide +kernel
def p31 : Plan := ⟨[], 0, [],
  []⟩
def a31 : AFunc := ⟨1, 9, 0, [.tmp 2],
  .seq (.region false [⟨(some 2), none, false, .mv (.c (.bool false)), .none⟩])
  (.seq (.region false [⟨(some 3), none, false, .mv (.t 0), .none⟩,
    ⟨(some 4), none, false, .bin .geq (.t 3) (.c (.int .i64 1)), .none⟩,
    ⟨(some 5), none, false, .mv (.t 4), .none⟩,
    ⟨(some 6), (some (5, true)), false, .mv (.t 0), .none⟩,
    ⟨(some 7), (some (5, true)), false, .bin .leq (.t 6) (.c (.int .i64 200)), .none⟩,
    ⟨(some 8), none, false, .pick (.t 5) (.t 7) (.c (.bool false)), .none⟩,
    ⟨(some 2), none, false, .mv (.t 8), .none⟩])
  (.ret))⟩
theorem c31 : cFunc Proofs.Try.prog p31 31 = some a31 := by decide +kernel
def codes : List (Nat × AFunc) := [(4, a4), (5, a5), (6, a6), (7, a7), (8, a8), (9, a9), (10, a10), (11, a11), (12, a12), (13, a13), (14, a14), (15, a15), (16, a16), (17, a17), (19, a19), (20, a20), (21, a21), (22, a22), (23, a23), (24, a24), (25, a25), (26, a26), (28, a28), (29, a29), (30, a30), (31, a31)]
def FT : Table := tableOf codes scrX
theorem codes_ok : allOK Proofs.Try.prog codes := ⟨cFunc_ok c4, cFunc_ok c5, cFunc_ok c6, cFunc_ok c7, cFunc_ok c8, cFunc_ok c9, cFunc_ok c10, cFunc_ok c11, cFunc_ok c12, cFunc_ok c13, cFunc_ok c14, cFunc_ok c15, cFunc_ok c16, cFunc_ok c17, cFunc_ok c19, cFunc_ok c20, cFunc_ok c21, cFunc_ok c22, cFunc_ok c23, cFunc_ok c24, cFunc_ok c25, cFunc_ok c26, cFunc_ok c28, cFunc_ok c29, cFunc_ok c30, cFunc_ok c31, trivial⟩
end Go.Proofs.Ytgglgcehiolpcaa.Am.Frame

set_option linter.all false
namespace Go.Proofs.Ytgglgcehiolpcaa.Am.Frame
open Go.Proofs.Ytgglgcehiolpcaa.Am.T
noncomputable def frame_Screen (b : List Int) : Option (List Int) := if (b.all fun x => decide (0 ≤ x ∧ x < 256)) ∧ b.length * 2 ≤ most then some (screenB b) else none
theorem intsB_map (b : List Int) : intsB (b.map fun n => [V.int .u8 n]) = some b := by
  induction b with
  | nil => rfl
  | cons x b ih => simp only [List.map_cons, intsB, ih, Option.map_some]
theorem den_bytes (b : List Int) : Pw (Pw Den0) (b.map by8) (bytesV b) := by
  induction b with
  | nil => exact .nil
  | cons x b ih => exact .cons (.cons (.int _ _) .nil) ih
theorem frame_Screen_ok {b r : List Int} (h : frame_Screen b = some r) : CallT true (RF FT) 18 [.sl false 1 (List.map by8 b)] [] (.sl true 1 (List.map by8 r)) [] := by
  unfold frame_Screen at h
  split at h
  · rename_i hc
    cases h
    refine CallT.pure fun ρ m a ha => ?_
    obtain ⟨x, _, rfl, hx, ha⟩ := pw_cons ha
    rw [pw_nil ha]
    rcases den_sl hx with ⟨rfl, e⟩ | ⟨ys, rfl, hp⟩
    · have : b = [] := by simpa using e
      subst this
      exact ⟨_, RF_ext rfl rfl, .base (.sln true 1)⟩
    · rw [pw_bytes hp]
      cases b with
      | nil => exact ⟨_, RF_ext rfl rfl, .base (.sln true 1)⟩
      | cons y b =>
        refine ⟨.slice true 1 (bytesV (screenB (y :: b))), RF_ext rfl ?_, .base (.sl _ _ (den_bytes _))⟩
        show (match intsB ((y :: b).map fun n => [V.int .u8 n]) with
          | some l => _
          | none => none) = _
        rw [intsB_map]
        exact if_pos hc
  · cases h
noncomputable def slices_Clone_20 (l : List Int) : Option (List Int) := app [] l
theorem slices_Clone_20_ok {l r : List Int} (h : slices_Clone_20 l = some r) : CallT true (RF FT) 20 [.sl false 1 (List.map by8 l)] [] (.sl true 1 (List.map by8 r)) [] := by
  refine CallT.quiet (con_low (af := a20) rfl rfl ?_) rfl
  unfold slices_Clone_20 at h
  refine WP_seq ?_
  refine WP_reg [0] [] ?_
  refine WPO_f ?_
  refine ⟨.sl true 1 [], .sl _ _, ?_⟩
  refine WP_seq ?_
  refine WP_seq ?_
  refine WP_reg [0, 4] [] ?_
  refine WPO_f ?_
  refine fun c hc => ?_
  refine WP_cond (b := c) rfl (fun hb => ?_) (fun hb => ?_)
  · have hl : l = [] := List.map_eq_nil_iff.1 (hc hb)
    subst hl
    have hr := app_is h
    simp only [List.append_nil] at hr
    subst hr
    refine WP_seq ?_
    refine WP_reg [2] [] ?_
    refine WPO_f ?_
    refine ⟨.sl true 1 [], .sl _ _, ?_⟩
    refine WP_ret ?_
    exact ⟨rfl, rfl, rfl, rfl, rfl⟩
  refine WP_skip ?_
  refine WP_seq ?_
  refine WP_reg [2] [] ?_
  refine WPO_f ?_
  refine ⟨List.map by8 ([] : List Int), rfl, ?_⟩
  refine And.intro (app_le by8 h) ⟨_, app_eq by8 h, ?_⟩
  refine WP_ret ?_
  exact ⟨rfl, rfl, rfl, rfl, rfl⟩
noncomputable def frame_lengths (kind : Int) : Option (Int × Int × Bool) :=
  Option.bind (
    letB (decide (kind = 1)) fun c1 =>
    Option.bind (
      bif c1 then (
        some (c1))
      else (
        letB (decide (kind = 3)) fun c3 =>
        some (c3)) : Option Bool) fun j4 =>
    Option.bind (
      bif j4 then (
        some (.inr (4, 4)))
      else (
        letB (decide (kind = 2)) fun c6 =>
        Option.bind (
          bif c6 then (
            some (.inr (1, 256)))
          else (
            letB (decide (kind = 4)) fun c8 =>
            Option.bind (
              bif c8 then (
                some (c8))
              else (
                letB (decide (kind = 8)) fun c10 =>
                some (c10)) : Option Bool) fun j11 =>
            bif j11 then (
              some (.inr (0, 0)))
            else (
              letB (decide (kind = 5)) fun c13 =>
              bif c13 then (
                some (.inr (1, 64)))
              else (
                letB (decide (kind = 6)) fun c15 =>
                bif c15 then (
                  some (.inr (1, 512)))
                else (
                  letB (decide (kind = 7)) fun c17 =>
                  bif c17 then (
                    some (.inr (2, 2)))
                  else (
                    some (.inl ())))))) : Option (Unit ⊕ (Int × Int))) fun j19 =>
        match j19 with
        | .inl z20 => (
          some (.inl ()))
        | .inr z21 => (
          some (.inr (z21.1, z21.2)))) : Option (Unit ⊕ (Int × Int))) fun j22 =>
    match j22 with
    | .inl z23 => (
      some (.inl ()))
    | .inr z24 => (
      some (.inr (z24.1, z24.2))) : Option (Unit ⊕ (Int × Int))) fun j25 =>
  match j25 with
  | .inl z26 => (
    some (0, 0, false))
  | .inr z27 => (
    some (z27.1, z27.2, true))
set_option maxRecDepth 20000 in
theorem frame_lengths_ok {kind : Int} {r : Int × Int × Bool} (h : frame_lengths kind = some r) : CallT true (RF FT) 25 [.int .i64 kind] [] (.tuple [.int .i64 r.1, .int .i64 r.2.1, .bool r.2.2]) [] := by
  refine CallT.quiet (con_low (af := a25) rfl rfl ?_) rfl
  unfold frame_lengths at h
  refine WP_seq ?_
  refine WP_reg [0] [] ?_
  refine WPO_f ?_
  refine WP_seq ?_
  refine WP_seq ?_
  refine WP_reg [5] [] ?_
  refine WPO_f ?_
  obtain ⟨j25, hj25, h⟩ := bind_inv h
  refine WP_cut j25 (fun r => match r with | .inl z => (.normal, [], [], []) | .inr z => (.ret, [(2, .int .i64 z.1), (3, .int .i64 z.2), (4, .bool true)], [], [])) (fun e => match e with | .normal => [] | .ret => [2, 3, 4] | _ => []) (fun e => match e with | .normal => [] | .ret => [] | _ => []) ?_ ?_
  · clear h
    replace h := hj25
    clear hj25
    refine WP_block ?_
    refine WP_seq ?_
    refine WP_seq ?_
    refine WP_reg [5, 6] [] ?_
    refine WPO_f ?_
    refine fun c1 hc1 => ?_
    replace h := letB_inv hc1 h
    obtain ⟨j4, hj4, h⟩ := bind_inv h
    refine WP_cut j4 (fun z => (.normal, [(5, .int .i64 kind), (6, .bool z)], [], [])) (fun _ => [5, 6]) (fun _ => []) ?_ ?_
    · clear h
      replace h := hj4
      clear hj4
      refine WP_cond (b := c1) rfl (fun hb2 => ?_) (fun hb2 => ?_)
      · replace h := bif_t hb2 h
        refine WP_skip ?_
        cases h
        exact rfl
      · replace h := bif_f hb2 h
        refine WP_reg [5, 6] [] ?_
        refine WPO_f ?_
        refine fun c3 hc3 => ?_
        replace h := letB_inv hc3 h
        cases h
        exact rfl
    obtain ⟨j22, hj22, h⟩ := bind_inv h
    refine WP_cut j22 (fun r => match r with | .inl z => (.normal, [], [], []) | .inr z => (.ret, [(2, .int .i64 z.1), (3, .int .i64 z.2), (4, .bool true)], [], [])) (fun e => match e with | .normal => [] | .ret => [2, 3, 4] | _ => []) (fun e => match e with | .normal => [] | .ret => [] | _ => []) ?_ ?_
    · clear h
      replace h := hj22
      clear hj22
      refine WP_cond (b := j4) rfl (fun hb5 => ?_) (fun hb5 => ?_)
      · replace h := bif_t hb5 h
        refine WP_seq ?_
        refine WP_reg [2, 3, 4] [] ?_
        refine WPO_f ?_
        refine WP_ret ?_
        cases h
        exact rfl
      · replace h := bif_f hb5 h
        refine WP_seq ?_
        refine WP_reg [5, 9] [] ?_
        refine WPO_f ?_
        refine fun c6 hc6 => ?_
        replace h := letB_inv hc6 h
        obtain ⟨j19, hj19, h⟩ := bind_inv h
        refine WP_cut j19 (fun r => match r with | .inl z => (.normal, [], [], []) | .inr z => (.ret, [(2, .int .i64 z.1), (3, .int .i64 z.2), (4, .bool true)], [], [])) (fun e => match e with | .normal => [] | .ret => [2, 3, 4] | _ => []) (fun e => match e with | .normal => [] | .ret => [] | _ => []) ?_ ?_
        · clear h
          replace h := hj19
          clear hj19
          refine WP_cond (b := c6) rfl (fun hb7 => ?_) (fun hb7 => ?_)
          · replace h := bif_t hb7 h
            refine WP_seq ?_
            refine WP_reg [2, 3, 4] [] ?_
            refine WPO_f ?_
            refine WP_ret ?_
            cases h
            exact rfl
          · replace h := bif_f hb7 h
            refine WP_seq ?_
            refine WP_seq ?_
            refine WP_reg [5, 11] [] ?_
            refine WPO_f ?_
            refine fun c8 hc8 => ?_
            replace h := letB_inv hc8 h
            obtain ⟨j11, hj11, h⟩ := bind_inv h
            refine WP_cut j11 (fun z => (.normal, [(5, .int .i64 kind), (11, .bool z)], [], [])) (fun _ => [5, 11]) (fun _ => []) ?_ ?_
            · clear h
              replace h := hj11
              clear hj11
              refine WP_cond (b := c8) rfl (fun hb9 => ?_) (fun hb9 => ?_)
              · replace h := bif_t hb9 h
                refine WP_skip ?_
                cases h
                exact rfl
              · replace h := bif_f hb9 h
                refine WP_reg [5, 11] [] ?_
                refine WPO_f ?_
                refine fun c10 hc10 => ?_
                replace h := letB_inv hc10 h
                cases h
                exact rfl
            refine WP_cond (b := j11) rfl (fun hb12 => ?_) (fun hb12 => ?_)
            · replace h := bif_t hb12 h
              refine WP_seq ?_
              refine WP_reg [2, 3, 4] [] ?_
              refine WPO_f ?_
              refine WP_ret ?_
              cases h
              exact rfl
            · replace h := bif_f hb12 h
              refine WP_seq ?_
              refine WP_reg [5, 14] [] ?_
              refine WPO_f ?_
              refine fun c13 hc13 => ?_
              replace h := letB_inv hc13 h
              refine WP_cond (b := c13) rfl (fun hb14 => ?_) (fun hb14 => ?_)
              · replace h := bif_t hb14 h
                refine WP_seq ?_
                refine WP_reg [2, 3, 4] [] ?_
                refine WPO_f ?_
                refine WP_ret ?_
                cases h
                exact rfl
              · replace h := bif_f hb14 h
                refine WP_seq ?_
                refine WP_reg [5, 16] [] ?_
                refine WPO_f ?_
                refine fun c15 hc15 => ?_
                replace h := letB_inv hc15 h
                refine WP_cond (b := c15) rfl (fun hb16 => ?_) (fun hb16 => ?_)
                · replace h := bif_t hb16 h
                  refine WP_seq ?_
                  refine WP_reg [2, 3, 4] [] ?_
                  refine WPO_f ?_
                  refine WP_ret ?_
                  cases h
                  exact rfl
                · replace h := bif_f hb16 h
                  refine WP_seq ?_
                  refine WP_reg [18] [] ?_
                  refine WPO_f ?_
                  refine fun c17 hc17 => ?_
                  replace h := letB_inv hc17 h
                  refine WP_cond (b := c17) rfl (fun hb18 => ?_) (fun hb18 => ?_)
                  · replace h := bif_t hb18 h
                    refine WP_seq ?_
                    refine WP_reg [2, 3, 4] [] ?_
                    refine WPO_f ?_
                    refine WP_ret ?_
                    cases h
                    exact rfl
                  · replace h := bif_f hb18 h
                    refine WP_skip ?_
                    cases h
                    exact rfl
        rcases j19 with z20 | z21
        · cases h
          exact rfl
        · cases h
          exact rfl
    rcases j22 with z23 | z24
    · cases h
      exact rfl
    · cases h
      exact rfl
  rcases j25 with z26 | z27
  · refine WP_seq ?_
    refine WP_reg [2, 3, 4] [] ?_
    refine WPO_f ?_
    refine WP_ret ?_
    cases h
    exact ⟨rfl, rfl, rfl, rfl, rfl⟩
  · cases h
    exact ⟨rfl, rfl, rfl, rfl, rfl⟩
noncomputable def frame_two (b : List Int) : Option Int :=
  (idx b 0).bind fun x1 =>
  (idx b 1).bind fun x2 =>
  some (iOr .i64 (w64 x1) (iShl .i64 (w64 x2) 8))
set_option maxRecDepth 20000 in
theorem frame_two_ok {b : List Int} {r : Int} (h : frame_two b = some r) : CallT true (RF FT) 30 [.sl false 1 (List.map by8 b)] [] (.int .i64 r) [] := by
  refine CallT.quiet (con_low (af := a30) rfl rfl ?_) rfl
  unfold frame_two at h
  refine WP_seq ?_
  refine WP_reg [0] [] ?_
  refine WPO_f ?_
  refine WP_seq ?_
  refine WP_reg [2] [] ?_
  refine WPO_t ?_
  obtain ⟨x1, hx1, h⟩ := bind_inv h
  refine And.intro (idx_nn hx1) ⟨_, idx_get by8 hx1, ?_⟩
  obtain ⟨x2, hx2, h⟩ := bind_inv h
  refine And.intro (idx_nn hx2) ⟨_, idx_get by8 hx2, ?_⟩
  refine And.intro (by decide) ?_
  refine WP_ret ?_
  cases h
  exact ⟨rfl, rfl, rfl, rfl, rfl⟩
noncomputable def frame_size_l1 (b : List Int) (y7 : Int × Int × Bool) (n : Int) : Option (Int ⊕ (Unit ⊕ Unit)) :=
  letB (decide (n ≤ y7.2.1)) fun c13 =>
  bif c13 then (
    (idx b 2).bind fun x15 =>
    letB (decide ((w8 n) = x15)) fun c16 =>
    bif c16 then (
      some (.inr (.inl ())))
    else (
      some (.inl (w64 (n + 1)))))
  else (
    some (.inr (.inr ())))
noncomputable def frame_size (b : List Int) : Option (Int × Bool) :=
  (idx b 0).bind fun x1 =>
  letB (decide (x1 ≠ 197)) fun c2 =>
  bif c2 then (
    some (0, false))
  else (
    letB (decide ((b.length : Int) = 1)) fun c4 =>
    bif c4 then (
      some (0, true))
    else (
      (idx b 1).bind fun x6 =>
      (frame_lengths (w64 x6)).bind fun y7 =>
      bif (!y7.2.2) then (
        some (0, false))
      else (
        letB (decide ((b.length : Int) = 2)) fun c9 =>
        bif c9 then (
          some (0, true))
        else (
          letB (decide ((b.length : Int) = 3)) fun c11 =>
          bif c11 then (
            (iter (fun s => frame_size_l1 b y7 s : Int → Option (Int ⊕ (Unit ⊕ Unit))) y7.1).bind fun j18 =>
            match j18 with
            | .inl z19 => (
              some (0, true))
            | .inr z20 => (
              some (0, false)))
          else (
            (subA b 2).bind fun x21 =>
            (frame_two x21).bind fun y22 =>
            letB (decide (y22 ≥ y7.1)) fun c23 =>
            (bif c23 then (
              letB (decide (y22 ≤ y7.2.1)) fun c25 =>
              some (c25)) else some false).bind fun g24 =>
            some (w64 ((w64 (4 + y22)) + 1), g24))))))
set_option maxRecDepth 20000 in
theorem frame_size_ok {b : List Int} {r : Int × Bool} (h : frame_size b = some r) : CallT true (RF FT) 21 [.sl false 1 (List.map by8 b)] [] (.tuple [.int .i64 r.1, .bool r.2]) [] := by
  refine CallT.quiet (con_low (af := a21) rfl rfl ?_) rfl
  unfold frame_size at h
  refine WP_seq ?_
  refine WP_reg [0] [] ?_
  refine WPO_f ?_
  refine WP_seq ?_
  refine WP_seq ?_
  refine WP_reg [0, 12] [] ?_
  refine WPO_f ?_
  obtain ⟨x1, hx1, h⟩ := bind_inv h
  refine And.intro (idx_nn hx1) ⟨_, idx_get by8 hx1, ?_⟩
  refine fun c2 hc2 => ?_
  replace h := letB_inv hc2 h
  refine WP_cond (b := c2) rfl (fun hb3 => ?_) (fun hb3 => ?_)
  · replace h := bif_t hb3 h
    refine WP_seq ?_
    refine WP_reg [2, 3] [] ?_
    refine WPO_f ?_
    refine WP_ret ?_
    cases h
    exact ⟨rfl, rfl, rfl, rfl, rfl⟩
  · replace h := bif_f hb3 h
    refine WP_skip ?_
    refine WP_seq ?_
    refine WP_seq ?_
    refine WP_reg [0, 15] [] ?_
    refine WPO_f ?_
    refine ⟨_, (List.length_map ..).symm, ?_⟩
    refine fun c4 hc4 => ?_
    replace h := letB_inv hc4 h
    refine WP_cond (b := c4) rfl (fun hb5 => ?_) (fun hb5 => ?_)
    · replace h := bif_t hb5 h
      refine WP_seq ?_
      refine WP_reg [2, 3] [] ?_
      refine WPO_f ?_
      refine WP_ret ?_
      cases h
      exact ⟨rfl, rfl, rfl, rfl, rfl⟩
    · replace h := bif_f hb5 h
      refine WP_skip ?_
      refine WP_seq ?_
      refine WP_reg [0, 4, 5, 6] [] ?_
      refine WPO_f ?_
      obtain ⟨x6, hx6, h⟩ := bind_inv h
      refine And.intro (idx_nn hx6) ⟨_, idx_get by8 hx6, ?_⟩
      obtain ⟨y7, hy7, h⟩ := bind_inv h
      refine ⟨_, _, CallT.any (frame_lengths_ok hy7) rfl _ rfl, ?_⟩
      refine WP_seq ?_
      refine WP_block ?_
      refine WP_seq ?_
      refine WP_reg [0, 4, 5, 25] [] ?_
      refine WPO_f ?_
      refine WP_cond (b := (!y7.2.2)) rfl (fun hb8 => ?_) (fun hb8 => ?_)
      · replace h := bif_t hb8 h
        refine WP_seq ?_
        refine WP_reg [2, 3] [] ?_
        refine WPO_f ?_
        refine WP_ret ?_
        cases h
        exact ⟨rfl, rfl, rfl, rfl, rfl⟩
      · replace h := bif_f hb8 h
        refine WP_seq ?_
        refine WP_reg [0, 4, 5, 28] [] ?_
        refine WPO_f ?_
        refine ⟨_, (List.length_map ..).symm, ?_⟩
        refine fun c9 hc9 => ?_
        replace h := letB_inv hc9 h
        refine WP_cond (b := c9) rfl (fun hb10 => ?_) (fun hb10 => ?_)
        · replace h := bif_t hb10 h
          refine WP_seq ?_
          refine WP_reg [2, 3] [] ?_
          refine WPO_f ?_
          refine WP_ret ?_
          cases h
          exact ⟨rfl, rfl, rfl, rfl, rfl⟩
        · replace h := bif_f hb10 h
          refine WP_seq ?_
          refine WP_reg [0, 4, 5, 32] [] ?_
          refine WPO_f ?_
          refine ⟨_, (List.length_map ..).symm, ?_⟩
          refine fun c11 hc11 => ?_
          replace h := letB_inv hc11 h
          refine WP_cond (b := c11) rfl (fun hb12 => ?_) (fun hb12 => ?_)
          · replace h := bif_t hb12 h
            refine WP_seq ?_
            refine WP_seq ?_
            refine WP_reg [0, 5, 7] [] ?_
            refine WPO_f ?_
            refine WP_block ?_
            obtain ⟨j18, hj18, h⟩ := bind_inv h
            refine WP_iter hj18 [] (fun s => ([(0, .sl false 1 (List.map by8 b)), (5, .int .i64 y7.2.1), (7, .int .i64 s)], [], [])) (fun e => match e with | .ret => [2, 3] | .exit 1 => [] | _ => []) (fun e => match e with | .ret => [] | .exit 1 => [] | _ => []) (fun r => match r with | .inl z => (.ret, [(2, .int .i64 0), (3, .bool true)], [], []) | .inr z => (.exit 1, [], [], [])) ?_ ?_ ?_
            · exact rfl
            · clear h
              rintro n x h
              replace h : frame_size_l1 b y7 n = some x := h
              unfold frame_size_l1 at h
              show T.WP _ _ [(0, .sl false 1 (List.map by8 b)), (5, .int .i64 y7.2.1), (7, .int .i64 n)] [] [] _
              refine WP_seq ?_
              refine WP_seq ?_
              refine WP_reg [0, 5, 7, 39] [] ?_
              refine WPO_f ?_
              refine fun c13 hc13 => ?_
              replace h := letB_inv hc13 h
              refine WP_cond (b := c13) rfl (fun hb14 => ?_) (fun hb14 => ?_)
              · replace h := bif_t hb14 h
                refine WP_skip ?_
                refine WP_seq ?_
                refine WP_block ?_
                refine WP_seq ?_
                refine WP_reg [0, 5, 7, 47] [] ?_
                refine WPO_f ?_
                obtain ⟨x15, hx15, h⟩ := bind_inv h
                refine And.intro (idx_nn hx15) ⟨_, idx_get by8 hx15, ?_⟩
                refine fun c16 hc16 => ?_
                replace h := letB_inv hc16 h
                refine WP_cond (b := c16) rfl (fun hb17 => ?_) (fun hb17 => ?_)
                · replace h := bif_t hb17 h
                  refine WP_seq ?_
                  refine WP_reg [2, 3] [] ?_
                  refine WPO_f ?_
                  refine WP_ret ?_
                  cases h
                  exact ⟨_, rfl, rfl⟩
                · replace h := bif_f hb17 h
                  refine WP_skip ?_
                  refine WP_reg [0, 5, 7] [] ?_
                  refine WPO_f ?_
                  cases h
                  exact ⟨_, rfl, rfl⟩
              · replace h := bif_f hb14 h
                refine WP_exit ?_
                cases h
                exact ⟨_, rfl, rfl⟩
            rcases j18 with z19 | z20
            · cases h
              exact ⟨rfl, rfl, rfl, rfl, rfl⟩
            · refine WP_seq ?_
              refine WP_reg [2, 3] [] ?_
              refine WPO_f ?_
              refine WP_ret ?_
              cases h
              exact ⟨rfl, rfl, rfl, rfl, rfl⟩
          · replace h := bif_f hb12 h
            refine WP_skip ?_
            refine WP_seq ?_
            refine WP_reg [4, 5, 8] [] ?_
            refine WPO_f ?_
            obtain ⟨x21, hx21, h⟩ := bind_inv h
            refine And.intro (subA_a hx21) (And.intro (subA_le by8 hx21) ⟨_, subA_eq by8 hx21, ?_⟩)
            obtain ⟨y22, hy22, h⟩ := bind_inv h
            refine ⟨_, _, CallT.any (frame_two_ok hy22) rfl _ rfl, ?_⟩
            refine WP_seq ?_
            refine WP_reg [2, 3] [] ?_
            refine WPO_then 7 ?_
            refine WPO_f ?_
            refine fun c23 hc23 => ?_
            replace h := letB_inv hc23 h
            obtain ⟨g24, hg24, h⟩ := bind_inv h
            refine WPO_grp 4 61 [53, 61] g24 ?_ ?_
            · clear h
              replace h := hg24
              clear hg24
              cases hb26 : c23 with
              | true =>
                replace h := bif_t hb26 h
                refine WPO_f ?_
                refine fun c25 hc25 => ?_
                replace h := letB_inv hc25 h
                cases h
                exact ⟨rfl, rfl, rfl⟩
              | false =>
                replace h := bif_f hb26 h
                cases h
                refine WPO_f ?_
                exact ⟨rfl, rfl, rfl⟩
            refine WPO_f ?_
            refine WP_ret ?_
            cases h
            exact ⟨rfl, rfl, rfl, rfl, rfl⟩
noncomputable def frame_side (n : Int) : Option Bool :=
  letB (decide (n ≥ 1)) fun c1 =>
  (bif c1 then (
    letB (decide (n ≤ 200)) fun c3 =>
    some (c3)) else some false).bind fun g2 =>
  some g2
set_option maxRecDepth 20000 in
theorem frame_side_ok {n : Int} {r : Bool} (h : frame_side n = some r) : CallT true (RF FT) 31 [.int .i64 n] [] (.bool r) [] := by
  refine CallT.quiet (con_low (af := a31) rfl rfl ?_) rfl
  unfold frame_side at h
  refine WP_seq ?_
  refine WP_reg [0] [] ?_
  refine WPO_f ?_
  refine WP_seq ?_
  refine WP_reg [2] [] ?_
  refine WPO_then 3 ?_
  refine WPO_f ?_
  refine fun c1 hc1 => ?_
  replace h := letB_inv hc1 h
  obtain ⟨g2, hg2, h⟩ := bind_inv h
  refine WPO_grp 3 8 [8] g2 ?_ ?_
  · clear h
    replace h := hg2
    clear hg2
    cases hb4 : c1 with
    | true =>
      replace h := bif_t hb4 h
      refine WPO_f ?_
      refine fun c3 hc3 => ?_
      replace h := letB_inv hc3 h
      cases h
      exact ⟨rfl, rfl, rfl⟩
    | false =>
      replace h := bif_f hb4 h
      cases h
      refine WPO_f ?_
      exact ⟨rfl, rfl, rfl⟩
  refine WPO_f ?_
  refine WP_ret ?_
  cases h
  exact ⟨rfl, rfl, rfl, rfl, rfl⟩
structure Msg where
  Kind : Int
  W : Int
  H : Int
  Code : Int
  Text : List Int
def Msg.c (x : Msg) : List TV := [.int .i64 x.Kind, .int .i64 x.W, .int .i64 x.H, .int .i64 x.Code, .sl false 1 (List.map by8 x.Text)]
noncomputable def frame_message (kind : Int) (b : List Int) : Option (Msg × Bool) :=
  Option.bind (
    letB (decide (kind = 1)) fun c1 =>
    Option.bind (
      bif c1 then (
        some (c1))
      else (
        letB (decide (kind = 3)) fun c3 =>
        some (c3)) : Option Bool) fun j4 =>
    Option.bind (
      bif j4 then (
        (frame_two b).bind fun y6 =>
        (subA b 2).bind fun x7 =>
        (frame_two x7).bind fun y8 =>
        (frame_side y6).bind fun y9 =>
        (bif y9 then (
          (frame_side y8).bind fun y11 =>
          some (y11)) else some false).bind fun g10 =>
        some (.inr (g10, (Msg.mk kind y6 y8 0 []), (Msg.mk kind y6 y8 0 []))))
      else (
        letB (decide (kind = 7)) fun c13 =>
        Option.bind (
          bif c13 then (
            (frame_two b).bind fun y15 =>
            letB (decide (y15 ≥ 1)) fun c16 =>
            (bif c16 then (
              letB (decide (y15 ≤ 999)) fun c18 =>
              some (c18)) else some false).bind fun g17 =>
            some (.inr (g17, (Msg.mk kind 0 0 y15 []), (Msg.mk kind 0 0 y15 []))))
          else (
            letB (decide (kind = 2)) fun c20 =>
            Option.bind (
              bif c20 then (
                some (c20))
              else (
                letB (decide (kind = 5)) fun c22 =>
                Option.bind (
                  bif c22 then (
                    some (c22))
                  else (
                    letB (decide (kind = 6)) fun c24 =>
                    some (c24)) : Option Bool) fun j25 =>
                some (j25)) : Option Bool) fun j26 =>
            Option.bind (
              bif j26 then (
                (slices_Clone_20 b).bind fun y28 =>
                some ((Msg.mk kind 0 0 0 y28)))
              else (
                some ((Msg.mk kind 0 0 0 []))) : Option Msg) fun j29 =>
            some (.inl j29)) : Option (Msg ⊕ (Bool × Msg × Msg))) fun j30 =>
        match j30 with
        | .inl z31 => (
          some (.inl z31))
        | .inr z32 => (
          some (.inr (z32.1, z32.2.1, z32.2.2)))) : Option (Msg ⊕ (Bool × Msg × Msg))) fun j33 =>
    match j33 with
    | .inl z34 => (
      some (.inl z34))
    | .inr z35 => (
      some (.inr (z35.1, z35.2.1, z35.2.2))) : Option (Msg ⊕ (Bool × Msg × Msg))) fun j36 =>
  match j36 with
  | .inl z37 => (
    some (z37, true))
  | .inr z38 => (
    some (z38.2.1, z38.1))
set_option maxRecDepth 20000 in
theorem frame_message_ok {kind : Int} {b : List Int} {r : Msg × Bool} (h : frame_message kind b = some r) : CallT true (RF FT) 22 [.int .i64 kind, .sl false 1 (List.map by8 b)] [] (.tuple [.agg (Msg.c r.1), .bool r.2]) [] := by
  refine CallT.quiet (con_low (af := a22) rfl rfl ?_) rfl
  unfold frame_message at h
  refine WP_seq ?_
  refine WP_reg [0, 1, 4] [0] ?_
  refine WPO_f ?_
  refine ⟨.sl false 1 [], .sl _ _, ?_⟩
  refine WP_seq ?_
  refine WP_reg [0, 1, 4, 6] [0, 1] ?_
  refine WPO_f ?_
  refine ⟨.sl false 1 [], .sl _ _, ?_⟩
  refine ⟨.sl false 1 [], .sl _ _, ?_⟩
  refine WP_seq ?_
  refine WP_seq ?_
  refine WP_reg [1, 4, 6, 9] [0, 1] ?_
  refine WPO_f ?_
  obtain ⟨j36, hj36, h⟩ := bind_inv h
  refine WP_cut j36 (fun r => match r with | .inl z => (.normal, [(4, .loc 0 0), (6, .loc 1 0)], [(0, [.int .i64 0, .int .i64 0, .int .i64 0, .int .i64 0, .sl false 1 (List.map by8 [])]), (1, (Msg.c z))], []) | .inr z => (.ret, [(4, .loc 0 0), (5, .bool z.1)], [(0, (Msg.c z.2.1)), (1, (Msg.c z.2.2))], [])) (fun e => match e with | .normal => [4, 6] | .ret => [4, 5] | _ => []) (fun e => match e with | .normal => [0, 1] | .ret => [0, 1] | _ => []) ?_ ?_
  · clear h
    replace h := hj36
    clear hj36
    refine WP_block ?_
    refine WP_seq ?_
    refine WP_seq ?_
    refine WP_reg [1, 4, 6, 9, 10] [0, 1] ?_
    refine WPO_f ?_
    refine fun c1 hc1 => ?_
    replace h := letB_inv hc1 h
    obtain ⟨j4, hj4, h⟩ := bind_inv h
    refine WP_cut j4 (fun z => (.normal, [(1, .sl false 1 (List.map by8 b)), (4, .loc 0 0), (6, .loc 1 0), (9, .int .i64 kind), (10, .bool z)], [(0, [.int .i64 0, .int .i64 0, .int .i64 0, .int .i64 0, .sl false 1 (List.map by8 [])]), (1, [.int .i64 kind, .int .i64 0, .int .i64 0, .int .i64 0, .sl false 1 (List.map by8 [])])], [])) (fun _ => [1, 4, 6, 9, 10]) (fun _ => [0, 1]) ?_ ?_
    · clear h
      replace h := hj4
      clear hj4
      refine WP_cond (b := c1) rfl (fun hb2 => ?_) (fun hb2 => ?_)
      · replace h := bif_t hb2 h
        refine WP_skip ?_
        cases h
        exact rfl
      · replace h := bif_f hb2 h
        refine WP_reg [1, 4, 6, 9, 10] [0, 1] ?_
        refine WPO_f ?_
        refine fun c3 hc3 => ?_
        replace h := letB_inv hc3 h
        cases h
        exact rfl
    obtain ⟨j33, hj33, h⟩ := bind_inv h
    refine WP_cut j33 (fun r => match r with | .inl z => (.normal, [(4, .loc 0 0), (6, .loc 1 0)], [(0, [.int .i64 0, .int .i64 0, .int .i64 0, .int .i64 0, .sl false 1 (List.map by8 [])]), (1, (Msg.c z))], []) | .inr z => (.ret, [(4, .loc 0 0), (5, .bool z.1)], [(0, (Msg.c z.2.1)), (1, (Msg.c z.2.2))], [])) (fun e => match e with | .normal => [4, 6] | .ret => [4, 5] | _ => []) (fun e => match e with | .normal => [0, 1] | .ret => [0, 1] | _ => []) ?_ ?_
    · clear h
      replace h := hj33
      clear hj33
      refine WP_cond (b := j4) rfl (fun hb5 => ?_) (fun hb5 => ?_)
      · replace h := bif_t hb5 h
        refine WP_seq ?_
        refine WP_reg [4, 6] [0, 1] ?_
        refine WPO_t ?_
        obtain ⟨y6, hy6, h⟩ := bind_inv h
        refine ⟨_, _, CallT.any (frame_two_ok hy6) rfl _ rfl, ?_⟩
        obtain ⟨x7, hx7, h⟩ := bind_inv h
        refine And.intro (subA_a hx7) (And.intro (subA_le by8 hx7) ⟨_, subA_eq by8 hx7, ?_⟩)
        obtain ⟨y8, hy8, h⟩ := bind_inv h
        refine ⟨_, _, CallT.any (frame_two_ok hy8) rfl _ rfl, ?_⟩
        refine WP_seq ?_
        refine WP_reg [4, 5] [0, 1] ?_
        refine WPO_then 5 ?_
        refine WPO_t ?_
        obtain ⟨y9, hy9, h⟩ := bind_inv h
        refine ⟨_, _, CallT.any (frame_side_ok hy9) rfl _ rfl, ?_⟩
        obtain ⟨g10, hg10, h⟩ := bind_inv h
        refine WPO_grp 4 28 [4, 20, 28] g10 ?_ ?_
        · clear h
          replace h := hg10
          clear hg10
          cases hb12 : y9 with
          | true =>
            replace h := bif_t hb12 h
            refine WPO_t ?_
            obtain ⟨y11, hy11, h⟩ := bind_inv h
            refine ⟨_, _, CallT.any (frame_side_ok hy11) rfl _ rfl, ?_⟩
            cases h
            exact ⟨rfl, rfl, rfl⟩
          | false =>
            replace h := bif_f hb12 h
            cases h
            refine WPO_t ?_
            exact ⟨rfl, rfl, rfl⟩
        refine WPO_t ?_
        refine WP_ret ?_
        cases h
        exact rfl
      · replace h := bif_f hb5 h
        refine WP_seq ?_
        refine WP_reg [1, 4, 6, 9, 29] [0, 1] ?_
        refine WPO_f ?_
        refine fun c13 hc13 => ?_
        replace h := letB_inv hc13 h
        obtain ⟨j30, hj30, h⟩ := bind_inv h
        refine WP_cut j30 (fun r => match r with | .inl z => (.normal, [(4, .loc 0 0), (6, .loc 1 0)], [(0, [.int .i64 0, .int .i64 0, .int .i64 0, .int .i64 0, .sl false 1 (List.map by8 [])]), (1, (Msg.c z))], []) | .inr z => (.ret, [(4, .loc 0 0), (5, .bool z.1)], [(0, (Msg.c z.2.1)), (1, (Msg.c z.2.2))], [])) (fun e => match e with | .normal => [4, 6] | .ret => [4, 5] | _ => []) (fun e => match e with | .normal => [0, 1] | .ret => [0, 1] | _ => []) ?_ ?_
        · clear h
          replace h := hj30
          clear hj30
          refine WP_cond (b := c13) rfl (fun hb14 => ?_) (fun hb14 => ?_)
          · replace h := bif_t hb14 h
            refine WP_seq ?_
            refine WP_reg [4, 6] [0, 1] ?_
            refine WPO_f ?_
            obtain ⟨y15, hy15, h⟩ := bind_inv h
            refine ⟨_, _, CallT.any (frame_two_ok hy15) rfl _ rfl, ?_⟩
            refine WP_seq ?_
            refine WP_reg [4, 5] [0, 1] ?_
            refine WPO_then 5 ?_
            refine WPO_t ?_
            refine fun c16 hc16 => ?_
            replace h := letB_inv hc16 h
            obtain ⟨g17, hg17, h⟩ := bind_inv h
            refine WPO_grp 4 42 [4, 34, 42] g17 ?_ ?_
            · clear h
              replace h := hg17
              clear hg17
              cases hb19 : c16 with
              | true =>
                replace h := bif_t hb19 h
                refine WPO_t ?_
                refine fun c18 hc18 => ?_
                replace h := letB_inv hc18 h
                cases h
                exact ⟨rfl, rfl, rfl⟩
              | false =>
                replace h := bif_f hb19 h
                cases h
                refine WPO_t ?_
                exact ⟨rfl, rfl, rfl⟩
            refine WPO_t ?_
            refine WP_ret ?_
            cases h
            exact rfl
          · replace h := bif_f hb14 h
            refine WP_seq ?_
            refine WP_seq ?_
            refine WP_reg [1, 4, 6, 9, 43] [0, 1] ?_
            refine WPO_f ?_
            refine fun c20 hc20 => ?_
            replace h := letB_inv hc20 h
            obtain ⟨j26, hj26, h⟩ := bind_inv h
            refine WP_cut j26 (fun z => (.normal, [(1, .sl false 1 (List.map by8 b)), (4, .loc 0 0), (6, .loc 1 0), (43, .bool z)], [(0, [.int .i64 0, .int .i64 0, .int .i64 0, .int .i64 0, .sl false 1 (List.map by8 [])]), (1, [.int .i64 kind, .int .i64 0, .int .i64 0, .int .i64 0, .sl false 1 (List.map by8 [])])], [])) (fun _ => [1, 4, 6, 43]) (fun _ => [0, 1]) ?_ ?_
            · clear h
              replace h := hj26
              clear hj26
              refine WP_cond (b := c20) rfl (fun hb21 => ?_) (fun hb21 => ?_)
              · replace h := bif_t hb21 h
                refine WP_skip ?_
                cases h
                exact rfl
              · replace h := bif_f hb21 h
                refine WP_seq ?_
                refine WP_reg [1, 4, 6, 9, 43] [0, 1] ?_
                refine WPO_f ?_
                refine fun c22 hc22 => ?_
                replace h := letB_inv hc22 h
                obtain ⟨j25, hj25, h⟩ := bind_inv h
                refine WP_cut j25 (fun z => (.normal, [(1, .sl false 1 (List.map by8 b)), (4, .loc 0 0), (6, .loc 1 0), (43, .bool z)], [(0, [.int .i64 0, .int .i64 0, .int .i64 0, .int .i64 0, .sl false 1 (List.map by8 [])]), (1, [.int .i64 kind, .int .i64 0, .int .i64 0, .int .i64 0, .sl false 1 (List.map by8 [])])], [])) (fun _ => [1, 4, 6, 43]) (fun _ => [0, 1]) ?_ ?_
                · clear h
                  replace h := hj25
                  clear hj25
                  refine WP_cond (b := c22) rfl (fun hb23 => ?_) (fun hb23 => ?_)
                  · replace h := bif_t hb23 h
                    refine WP_skip ?_
                    cases h
                    exact rfl
                  · replace h := bif_f hb23 h
                    refine WP_reg [1, 4, 6, 43] [0, 1] ?_
                    refine WPO_f ?_
                    refine fun c24 hc24 => ?_
                    replace h := letB_inv hc24 h
                    cases h
                    exact rfl
                cases h
                exact rfl
            obtain ⟨j29, hj29, h⟩ := bind_inv h
            refine WP_cut j29 (fun z => (.normal, [(4, .loc 0 0), (6, .loc 1 0)], [(0, [.int .i64 0, .int .i64 0, .int .i64 0, .int .i64 0, .sl false 1 (List.map by8 [])]), (1, (Msg.c z))], [])) (fun _ => [4, 6]) (fun _ => [0, 1]) ?_ ?_
            · clear h
              replace h := hj29
              clear hj29
              refine WP_cond (b := j26) rfl (fun hb27 => ?_) (fun hb27 => ?_)
              · replace h := bif_t hb27 h
                refine WP_reg [4, 6] [0, 1] ?_
                refine WPO_f ?_
                obtain ⟨y28, hy28, h⟩ := bind_inv h
                refine ⟨_, _, CallT.any (slices_Clone_20_ok hy28) rfl _ rfl, ?_⟩
                cases h
                exact rfl
              · replace h := bif_f hb27 h
                refine WP_skip ?_
                cases h
                exact rfl
            cases h
            exact rfl
        rcases j30 with z31 | z32
        · cases h
          exact rfl
        · cases h
          exact rfl
    rcases j33 with z34 | z35
    · cases h
      exact rfl
    · cases h
      exact rfl
  rcases j36 with z37 | z38
  · refine WP_seq ?_
    refine WP_reg [4, 5] [0, 1] ?_
    refine WPO_f ?_
    refine WP_ret ?_
    cases h
    exact ⟨rfl, rfl, rfl, rfl, rfl⟩
  · cases h
    exact ⟨rfl, rfl, rfl, rfl, rfl⟩
noncomputable def frame_sum_l1 (b : List Int) (n : Int) (t8 : Int) : Option ((Int × Int) ⊕ Int) :=
  letB (decide (t8 < (b.length : Int))) fun c1 =>
  bif c1 then (
    (idx b t8).bind fun x3 =>
    some (.inl (w8 (n + x3), w64 (t8 + 1))))
  else (
    some (.inr n))
noncomputable def frame_sum (b : List Int) : Option Int :=
  (iter (fun s => frame_sum_l1 b s.1 s.2 : (Int × Int) → Option ((Int × Int) ⊕ Int)) (0, 0)).bind fun j4 =>
  some j4
set_option maxRecDepth 20000 in
theorem frame_sum_ok {b : List Int} {r : Int} (h : frame_sum b = some r) : CallT true (RF FT) 23 [.sl false 1 (List.map by8 b)] [] (.int .u8 r) [] := by
  refine CallT.quiet (con_low (af := a23) rfl rfl ?_) rfl
  unfold frame_sum at h
  refine WP_seq ?_
  refine WP_reg [0] [] ?_
  refine WPO_f ?_
  refine WP_seq ?_
  refine WP_reg [0, 3] [] ?_
  refine WPO_f ?_
  refine WP_seq ?_
  refine WP_seq ?_
  refine WP_reg [3, 6, 7, 8] [] ?_
  refine WPO_f ?_
  refine ⟨_, (List.length_map ..).symm, ?_⟩
  refine WP_block ?_
  obtain ⟨j4, hj4, h⟩ := bind_inv h
  refine WP_iter hj4 [] (fun s => ([(3, .int .u8 s.1), (6, .sl false 1 (List.map by8 b)), (7, .int .i64 (b.length : Int)), (8, .int .i64 s.2)], [], [])) (fun _ => [3]) (fun _ => []) (fun z => (.exit 0, [(3, .int .u8 z)], [], [])) ?_ ?_ ?_
  · exact rfl
  · clear h
    rintro ⟨n, t8⟩ x h
    replace h : frame_sum_l1 b n t8 = some x := h
    unfold frame_sum_l1 at h
    show T.WP _ _ [(3, .int .u8 n), (6, .sl false 1 (List.map by8 b)), (7, .int .i64 (b.length : Int)), (8, .int .i64 t8)] [] [] _
    refine WP_seq ?_
    refine WP_reg [3, 6, 7, 8, 9] [] ?_
    refine WPO_f ?_
    refine fun c1 hc1 => ?_
    replace h := letB_inv hc1 h
    refine WP_seq ?_
    refine WP_cond (b := c1) rfl (fun hb2 => ?_) (fun hb2 => ?_)
    · replace h := bif_t hb2 h
      refine WP_skip ?_
      refine WP_seq ?_
      refine WP_block ?_
      refine WP_seq ?_
      refine WP_reg [3, 5, 6, 7, 8] [] ?_
      refine WPO_f ?_
      obtain ⟨x3, hx3, h⟩ := bind_inv h
      refine And.intro (idx_nn hx3) ⟨_, idx_get by8 hx3, ?_⟩
      refine WP_reg [3, 6, 7, 8] [] ?_
      refine WPO_f ?_
      refine WP_reg [3, 6, 7, 8] [] ?_
      refine WPO_f ?_
      cases h
      exact ⟨_, rfl, rfl⟩
    · replace h := bif_f hb2 h
      refine WP_exit ?_
      cases h
      exact ⟨_, rfl, rfl⟩
  refine WP_seq ?_
  refine WP_reg [2] [] ?_
  refine WPO_f ?_
  refine WP_ret ?_
  cases h
  exact ⟨rfl, rfl, rfl, rfl, rfl⟩
structure Item where
  Msg : Msg
  Bad : Int
def Item.c (x : Item) : List TV := [.int .i64 x.Msg.Kind, .int .i64 x.Msg.W, .int .i64 x.Msg.H, .int .i64 x.Msg.Code, .sl false 1 (List.map by8 x.Msg.Text), .int .i64 x.Bad]
noncomputable def frame_pass (out : List Item) (bad : Int) : Option (List Item) :=
  letB (decide (bad > 0)) fun c1 =>
  Option.bind (
    bif c1 then (
      (app out ([(Item.mk (Msg.mk 0 0 0 0 []) bad)])).bind fun x3 =>
      some (x3))
    else (
      some (out)) : Option (List Item)) fun j4 =>
  some j4
set_option maxRecDepth 20000 in
theorem frame_pass_ok {out : List Item} {bad : Int} {r : List Item} (h : frame_pass out bad = some r) : CallT true (RF FT) 24 [.sl true 6 (List.map Item.c out), .int .i64 bad] [] (.sl true 6 (List.map Item.c r)) [] := by
  refine CallT.quiet (con_low (af := a24) rfl rfl ?_) rfl
  unfold frame_pass at h
  refine WP_seq ?_
  refine WP_reg [0, 1] [] ?_
  refine WPO_f ?_
  refine ⟨.sl false 6 [], .sl _ _, ?_⟩
  refine WP_seq ?_
  refine WP_seq ?_
  refine WP_reg [0, 1, 6] [] ?_
  refine WPO_f ?_
  refine fun c1 hc1 => ?_
  replace h := letB_inv hc1 h
  obtain ⟨j4, hj4, h⟩ := bind_inv h
  refine WP_cut j4 (fun z => (.normal, [(0, .sl true 6 (List.map Item.c z))], [], [])) (fun _ => [0]) (fun _ => []) ?_ ?_
  · clear h
    replace h := hj4
    clear hj4
    refine WP_cond (b := c1) rfl (fun hb2 => ?_) (fun hb2 => ?_)
    · replace h := bif_t hb2 h
      refine WP_reg [0] [] ?_
      refine WPO_f ?_
      refine ⟨.sl false 1 [], .sl _ _, ?_⟩
      refine ⟨.sl false 1 [], .sl _ _, ?_⟩
      refine ⟨List.map Item.c ([(Item.mk (Msg.mk 0 0 0 0 []) bad)] : List Item), rfl, ?_⟩
      obtain ⟨x3, hx3, h⟩ := bind_inv h
      refine And.intro (app_le Item.c hx3) ⟨_, app_eq Item.c hx3, ?_⟩
      cases h
      exact rfl
    · replace h := bif_f hb2 h
      refine WP_skip ?_
      cases h
      exact rfl
  refine WP_seq ?_
  refine WP_reg [4] [] ?_
  refine WPO_f ?_
  refine WP_ret ?_
  cases h
  exact ⟨rfl, rfl, rfl, rfl, rfl⟩
structure Reader where
  waits : List Int
def Reader.c (x : Reader) : List TV := [.sl false 1 (List.map by8 x.waits)]
noncomputable def frame_Reader_Feed_l2 (out : List Item) (all : List Int) (bad : Int) : Option ((List Item × List Int × Int) ⊕ (List Item × List Int × Int)) :=
  letB (decide ((all.length : Int) > 0)) fun c3 =>
  bif c3 then (
    Option.bind (
      (frame_size all).bind fun y5 =>
      (bif y5.2 then (
        letB (decide (y5.1 = 0)) fun c7 =>
        (bif c7 then some true else (
          letB (decide (y5.1 > (all.length : Int))) fun c9 =>
          some (c9))).bind fun g8 =>
        some (g8)) else some false).bind fun g6 =>
      bif g6 then (
        some (.inr ()))
      else (
        Option.bind (
          bif y5.2 then (
            (idx all 1).bind fun x14 =>
            (subL all 4 (w64 (y5.1 - 1))).bind fun x15 =>
            (frame_message (w64 x14) x15).bind fun y16 =>
            (bif y16.2 then (
              (subL all 1 (w64 (y5.1 - 1))).bind fun x18 =>
              (frame_sum x18).bind fun y19 =>
              (idx all (w64 (y5.1 - 1))).bind fun x20 =>
              letB (decide (y19 = x20)) fun c21 =>
              some (c21)) else some false).bind fun g17 =>
            bif g17 then (
              (frame_pass out bad).bind fun y24 =>
              (app y24 [(Item.mk y16.1 0)]).bind fun x25 =>
              (subA all y5.1).bind fun x26 =>
              some (.inr (x25, x26, y16.1)))
            else (
              some (.inl ())))
          else (
            some (.inl ())) : Option (Unit ⊕ (List Item × List Int × Msg))) fun j27 =>
        match j27 with
        | .inl z28 => (
          (subA all 1).bind fun x30 =>
          some (.inl (out, x30, w64 (bad + 1))))
        | .inr z29 => (
          some (.inl (z29.1, z29.2.1, 0)))) : Option ((List Item × List Int × Int) ⊕ Unit)) fun j31 =>
    match j31 with
    | .inl z32 => (
      some (.inl (z32.1, z32.2.1, z32.2.2)))
    | .inr z33 => (
      some (.inr (out, all, bad))))
  else (
    some (.inr (out, all, bad)))
noncomputable def frame_Reader_Feed (r_ : Reader) (b : List Int) : Option (List Item × Reader) :=
  (slices_Clone_20 r_.waits).bind fun y1 =>
  (app y1 b).bind fun x2 =>
  Option.bind (
    (iter (fun s => frame_Reader_Feed_l2 s.1 s.2.1 s.2.2 : (List Item × List Int × Int) → Option ((List Item × List Int × Int) ⊕ (List Item × List Int × Int))) ([], x2, 0)).bind fun j34 =>
    some ((j34.1, j34.2.1, j34.2.2)) : Option (List Item × List Int × Int)) fun j35 =>
  (slices_Clone_20 j35.2.1).bind fun y36 =>
  (frame_pass j35.1 j35.2.2).bind fun y37 =>
  some (y37, (Reader.mk y36))
set_option maxRecDepth 20000 in
theorem frame_Reader_Feed_ok {r_ : Reader} {b : List Int} {r : List Item × Reader} (h : frame_Reader_Feed r_ b = some r) : CallT false (RF FT) 11 [.ptr 0 0, .sl false 1 (List.map by8 b)] [(Reader.c r_)] (.sl true 6 (List.map Item.c r.1)) [(Reader.c r.2)] := by
  refine con_low (af := a11) rfl rfl ?_
  unfold frame_Reader_Feed at h
  refine WP_seq ?_
  refine WP_reg [0, 1] [] ?_
  refine WPO_f ?_
  refine ⟨.sl false 6 [], .sl _ _, ?_⟩
  refine WP_seq ?_
  refine WP_reg [0, 1, 5] [] ?_
  refine WPO_f ?_
  refine ⟨.sl true 6 [], .sl _ _, ?_⟩
  refine WP_seq ?_
  refine WP_reg [0, 5, 6] [] ?_
  refine WPO_f ?_
  obtain ⟨y1, hy1, h⟩ := bind_inv h
  refine ⟨_, _, CallT.any (slices_Clone_20_ok hy1) rfl _ rfl, ?_⟩
  obtain ⟨x2, hx2, h⟩ := bind_inv h
  refine And.intro (app_le by8 hx2) ⟨_, app_eq by8 hx2, ?_⟩
  refine WP_seq ?_
  refine WP_reg [0, 5, 6, 7] [] ?_
  refine WPO_f ?_
  refine WP_seq ?_
  obtain ⟨j35, hj35, h⟩ := bind_inv h
  refine WP_cut j35 (fun z => (.normal, [(0, .ptr 0 0), (5, .sl true 6 (List.map Item.c z.1)), (6, .sl false 1 (List.map by8 z.2.1)), (7, .int .i64 z.2.2)], [], [(Reader.c r_)])) (fun _ => [0, 5, 6, 7]) (fun _ => []) ?_ ?_
  · clear h
    replace h := hj35
    clear hj35
    refine WP_block ?_
    obtain ⟨j34, hj34, h⟩ := bind_inv h
    refine WP_iter hj34 [] (fun s => ([(0, .ptr 0 0), (5, .sl true 6 (List.map Item.c s.1)), (6, .sl false 1 (List.map by8 s.2.1)), (7, .int .i64 s.2.2)], [], [(Reader.c r_)])) (fun _ => [0, 5, 6, 7]) (fun _ => []) (fun z => (.exit 0, [(0, .ptr 0 0), (5, .sl true 6 (List.map Item.c z.1)), (6, .sl false 1 (List.map by8 z.2.1)), (7, .int .i64 z.2.2)], [], [(Reader.c r_)])) ?_ ?_ ?_
    · exact rfl
    · clear h
      rintro ⟨out, all, bad⟩ x h
      replace h : frame_Reader_Feed_l2 out all bad = some x := h
      unfold frame_Reader_Feed_l2 at h
      show T.WP _ _ [(0, .ptr 0 0), (5, .sl true 6 (List.map Item.c out)), (6, .sl false 1 (List.map by8 all)), (7, .int .i64 bad)] [] [(Reader.c r_)] _
      refine WP_seq ?_
      refine WP_seq ?_
      refine WP_reg [0, 5, 6, 7, 21] [] ?_
      refine WPO_f ?_
      refine ⟨_, (List.length_map ..).symm, ?_⟩
      refine fun c3 hc3 => ?_
      replace h := letB_inv hc3 h
      refine WP_cond (b := c3) rfl (fun hb4 => ?_) (fun hb4 => ?_)
      · replace h := bif_t hb4 h
        refine WP_skip ?_
        obtain ⟨j31, hj31, h⟩ := bind_inv h
        refine WP_cut j31 (fun r => match r with | .inl z => (.normal, [(0, .ptr 0 0), (5, .sl true 6 (List.map Item.c z.1)), (6, .sl false 1 (List.map by8 z.2.1)), (7, .int .i64 z.2.2)], [], [(Reader.c r_)]) | .inr z => (.exit 0, [(0, .ptr 0 0), (5, .sl true 6 (List.map Item.c out)), (6, .sl false 1 (List.map by8 all)), (7, .int .i64 bad)], [], [(Reader.c r_)])) (fun e => match e with | .normal => [0, 5, 6, 7] | .exit 0 => [0, 5, 6, 7] | _ => []) (fun e => match e with | .normal => [] | .exit 0 => [] | _ => []) ?_ ?_
        · clear h
          replace h := hj31
          clear hj31
          refine WP_block ?_
          refine WP_seq ?_
          refine WP_reg [0, 5, 6, 7, 8, 9] [] ?_
          refine WPO_f ?_
          obtain ⟨y5, hy5, h⟩ := bind_inv h
          refine ⟨_, _, CallT.any (frame_size_ok hy5) rfl _ rfl, ?_⟩
          refine WP_seq ?_
          refine WP_seq ?_
          refine WP_reg [0, 5, 6, 7, 8, 9, 37] [] ?_
          refine WPO_then 2 ?_
          refine WPO_f ?_
          obtain ⟨g6, hg6, h⟩ := bind_inv h
          refine WPO_grp 9 37 [0, 5, 6, 7, 8, 9, 37] g6 ?_ ?_
          · clear h
            replace h := hg6
            clear hg6
            cases hb11 : y5.2 with
            | true =>
              replace h := bif_t hb11 h
              refine WPO_then 3 ?_
              refine WPO_f ?_
              refine fun c7 hc7 => ?_
              replace h := letB_inv hc7 h
              obtain ⟨g8, hg8, h⟩ := bind_inv h
              refine WPO_grp 5 36 [0, 5, 6, 7, 8, 9, 28, 36] g8 ?_ ?_
              · clear h
                replace h := hg8
                clear hg8
                cases hb10 : c7 with
                | false =>
                  replace h := bif_f hb10 h
                  refine WPO_f ?_
                  refine ⟨_, (List.length_map ..).symm, ?_⟩
                  refine fun c9 hc9 => ?_
                  replace h := letB_inv hc9 h
                  cases h
                  exact ⟨rfl, rfl, rfl⟩
                | true =>
                  replace h := bif_t hb10 h
                  cases h
                  refine WPO_f ?_
                  exact ⟨rfl, rfl, rfl⟩
              refine WPO_f ?_
              cases h
              exact ⟨rfl, rfl, rfl⟩
            | false =>
              replace h := bif_f hb11 h
              cases h
              refine WPO_f ?_
              exact ⟨rfl, rfl, rfl⟩
          refine WPO_f ?_
          refine WP_cond (b := g6) rfl (fun hb12 => ?_) (fun hb12 => ?_)
          · replace h := bif_t hb12 h
            refine WP_exit ?_
            cases h
            exact rfl
          · replace h := bif_f hb12 h
            refine WP_skip ?_
            refine WP_seq ?_
            refine WP_seq ?_
            refine WP_reg [0, 5, 6, 7, 8, 38] [] ?_
            refine WPO_f ?_
            obtain ⟨j27, hj27, h⟩ := bind_inv h
            refine WP_cut j27 (fun r => match r with | .inl z => (.normal, [(0, .ptr 0 0), (5, .sl true 6 (List.map Item.c out)), (6, .sl false 1 (List.map by8 all)), (7, .int .i64 bad)], [], [(Reader.c r_)]) | .inr z => (.exit 1, [(0, .ptr 0 0), (5, .sl true 6 (List.map Item.c z.1)), (6, .sl false 1 (List.map by8 z.2.1)), (7, .int .i64 0)], [(0, (Msg.c z.2.2))], [(Reader.c r_)])) (fun e => match e with | .normal => [0, 5, 6, 7] | .exit 1 => [0, 5, 6, 7] | _ => []) (fun e => match e with | .normal => [] | .exit 1 => [0] | _ => []) ?_ ?_
            · clear h
              replace h := hj27
              clear hj27
              refine WP_cond (b := y5.2) rfl (fun hb13 => ?_) (fun hb13 => ?_)
              · replace h := bif_t hb13 h
                refine WP_seq ?_
                refine WP_reg [0, 5, 6, 7, 8, 10, 11] [0] ?_
                refine WPO_t ?_
                obtain ⟨x14, hx14, h⟩ := bind_inv h
                refine And.intro (idx_nn hx14) ⟨_, idx_get by8 hx14, ?_⟩
                obtain ⟨x15, hx15, h⟩ := bind_inv h
                refine And.intro (subL_b hx15) (And.intro (subL_a hx15) (And.intro (subL_le by8 hx15) ⟨_, subL_eq by8 hx15, ?_⟩))
                obtain ⟨y16, hy16, h⟩ := bind_inv h
                refine ⟨_, _, CallT.any (frame_message_ok hy16) rfl _ rfl, ?_⟩
                refine ⟨.sl false 1 [], .sl _ _, ?_⟩
                refine WP_seq ?_
                refine WP_reg [0, 5, 6, 7, 8, 10, 64] [0] ?_
                refine WPO_then 2 ?_
                refine WPO_t ?_
                obtain ⟨g17, hg17, h⟩ := bind_inv h
                refine WPO_grp 12 64 [0, 5, 6, 7, 8, 10, 64] g17 ?_ ?_
                · clear h
                  replace h := hg17
                  clear hg17
                  cases hb22 : y16.2 with
                  | true =>
                    replace h := bif_t hb22 h
                    refine WPO_t ?_
                    obtain ⟨x18, hx18, h⟩ := bind_inv h
                    refine And.intro (subL_b hx18) (And.intro (subL_a hx18) (And.intro (subL_le by8 hx18) ⟨_, subL_eq by8 hx18, ?_⟩))
                    obtain ⟨y19, hy19, h⟩ := bind_inv h
                    refine ⟨_, _, CallT.any (frame_sum_ok hy19) rfl _ rfl, ?_⟩
                    obtain ⟨x20, hx20, h⟩ := bind_inv h
                    refine And.intro (idx_nn hx20) ⟨_, idx_get by8 hx20, ?_⟩
                    refine fun c21 hc21 => ?_
                    replace h := letB_inv hc21 h
                    cases h
                    exact ⟨rfl, rfl, rfl⟩
                  | false =>
                    replace h := bif_f hb22 h
                    cases h
                    refine WPO_t ?_
                    exact ⟨rfl, rfl, rfl⟩
                refine WPO_t ?_
                refine WP_cond (b := g17) rfl (fun hb23 => ?_) (fun hb23 => ?_)
                · replace h := bif_t hb23 h
                  refine WP_seq ?_
                  refine WP_reg [0, 5, 6, 8] [0] ?_
                  refine WPO_t ?_
                  obtain ⟨y24, hy24, h⟩ := bind_inv h
                  refine ⟨_, _, CallT.any (frame_pass_ok hy24) rfl _ rfl, ?_⟩
                  refine ⟨.sl false 1 [], .sl _ _, ?_⟩
                  refine ⟨.sl false 1 [], .sl _ _, ?_⟩
                  refine ⟨List.map Item.c ([(Item.mk y16.1 0)] : List Item), rfl, ?_⟩
                  obtain ⟨x25, hx25, h⟩ := bind_inv h
                  refine And.intro (app_le Item.c hx25) ⟨_, app_eq Item.c hx25, ?_⟩
                  refine WP_seq ?_
                  refine WP_reg [0, 5, 6, 7] [0] ?_
                  refine WPO_t ?_
                  obtain ⟨x26, hx26, h⟩ := bind_inv h
                  refine And.intro (subA_a hx26) (And.intro (subA_le by8 hx26) ⟨_, subA_eq by8 hx26, ?_⟩)
                  refine WP_exit ?_
                  cases h
                  exact rfl
                · replace h := bif_f hb23 h
                  refine WP_skip ?_
                  cases h
                  exact rfl
              · replace h := bif_f hb13 h
                refine WP_skip ?_
                cases h
                exact rfl
            rcases j27 with z28 | z29
            · refine WP_seq ?_
              refine WP_reg [0, 5, 6, 7] [] ?_
              refine WPO_f ?_
              refine WP_reg [0, 5, 6, 7] [] ?_
              refine WPO_f ?_
              obtain ⟨x30, hx30, h⟩ := bind_inv h
              refine And.intro (subA_a hx30) (And.intro (subA_le by8 hx30) ⟨_, subA_eq by8 hx30, ?_⟩)
              cases h
              exact rfl
            · cases h
              exact rfl
        rcases j31 with z32 | z33
        · cases h
          exact ⟨_, rfl, rfl⟩
        · cases h
          exact ⟨_, rfl, rfl⟩
      · replace h := bif_f hb4 h
        refine WP_exit ?_
        cases h
        exact ⟨_, rfl, rfl⟩
    cases h
    exact rfl
  refine WP_seq ?_
  refine WP_reg [5, 7] [] ?_
  refine WPO_f ?_
  obtain ⟨y36, hy36, h⟩ := bind_inv h
  refine ⟨_, _, CallT.any (slices_Clone_20_ok hy36) rfl _ rfl, ?_⟩
  refine WP_seq ?_
  refine WP_reg [4] [] ?_
  refine WPO_f ?_
  obtain ⟨y37, hy37, h⟩ := bind_inv h
  refine ⟨_, _, CallT.any (frame_pass_ok hy37) rfl _ rfl, ?_⟩
  refine WP_ret ?_
  cases h
  exact ⟨rfl, rfl, rfl, rfl, rfl⟩
noncomputable def frame_Reader_Waits (r_ : Reader) : Option Int :=
  some (r_.waits.length : Int)
set_option maxRecDepth 20000 in
theorem frame_Reader_Waits_ok {r_ : Reader} {r : Int} (h : frame_Reader_Waits r_ = some r) : CallT false (RF FT) 12 [.ptr 0 0] [(Reader.c r_)] (.int .i64 r) [(Reader.c r_)] := by
  refine con_low (af := a12) rfl rfl ?_
  unfold frame_Reader_Waits at h
  refine WP_seq ?_
  refine WP_reg [0] [] ?_
  refine WPO_f ?_
  refine WP_seq ?_
  refine WP_reg [2] [] ?_
  refine WPO_f ?_
  refine ⟨_, (List.length_map ..).symm, ?_⟩
  refine WP_ret ?_
  cases h
  exact ⟨rfl, rfl, rfl, rfl, rfl⟩
noncomputable def frame_Encode (m : Msg) : Option (List Int × Int) :=
  (frame_lengths m.Kind).bind fun y1 =>
  Option.bind (
    letB (decide (m.Kind = 1)) fun c2 =>
    Option.bind (
      bif c2 then (
        some (c2))
      else (
        letB (decide (m.Kind = 3)) fun c4 =>
        some (c4)) : Option Bool) fun j5 =>
    Option.bind (
      bif j5 then (
        some ([w8 m.W, w8 (iShr .i64 m.W 8), w8 m.H, w8 (iShr .i64 m.H 8)]))
      else (
        letB (decide (m.Kind = 7)) fun c7 =>
        Option.bind (
          bif c7 then (
            some ([w8 m.Code, w8 (iShr .i64 m.Code 8)]))
          else (
            some (m.Text)) : Option (List Int)) fun j9 =>
        some (j9)) : Option (List Int)) fun j10 =>
    some (j10) : Option (List Int)) fun j11 =>
  (bif (!y1.2.2) then some true else (
    letB (decide ((j11.length : Int) < y1.1)) fun c13 =>
    some (c13))).bind fun g12 =>
  (bif g12 then some true else (
    letB (decide ((j11.length : Int) > y1.2.1)) fun c16 =>
    some (c16))).bind fun g15 =>
  bif g15 then (
    some ([], 200))
  else (
    (frame_message m.Kind j11).bind fun y19 =>
    (bif (!y19.2) then some true else (
      letB (decide (y19.1.W ≠ m.W)) fun c21 =>
      some (c21))).bind fun g20 =>
    (bif g20 then some true else (
      letB (decide (y19.1.H ≠ m.H)) fun c24 =>
      some (c24))).bind fun g23 =>
    (bif g23 then some true else (
      letB (decide (y19.1.Code ≠ m.Code)) fun c27 =>
      some (c27))).bind fun g26 =>
    (bif g26 then some true else (
      letB (decide ((y19.1.Text.length : Int) ≠ (m.Text.length : Int))) fun c30 =>
      some (c30))).bind fun g29 =>
    bif g29 then (
      some ([], 200))
    else (
      (app [197, w8 m.Kind, w8 (j11.length : Int), w8 (iShr .i64 (j11.length : Int) 8)] j11).bind fun x33 =>
      (lendA x33 1).bind fun x34 =>
      (frame_sum x34).bind fun y35 =>
      (app x33 [y35]).bind fun x36 =>
      some (x36, 0)))
set_option maxRecDepth 20000 in
theorem frame_Encode_ok {m : Msg} {r : List Int × Int} (h : frame_Encode m = some r) : CallT true (RF FT) 14 [.agg (Msg.c m)] [] (.tuple [.sl false 1 (List.map by8 r.1), .int .i64 r.2]) [] := by
  refine CallT.quiet (con_low (af := a14) rfl rfl ?_) rfl
  unfold frame_Encode at h
  refine WP_seq ?_
  refine WP_reg [1] [0] ?_
  refine WPO_f ?_
  refine ⟨.sl false 1 [], .sl _ _, ?_⟩
  refine WP_seq ?_
  refine WP_reg [1, 4, 5, 6] [0] ?_
  refine WPO_f ?_
  obtain ⟨y1, hy1, h⟩ := bind_inv h
  refine ⟨_, _, CallT.any (frame_lengths_ok hy1) rfl _ rfl, ?_⟩
  refine WP_seq ?_
  refine WP_reg [1, 4, 5, 6] [0] ?_
  refine WPO_f ?_
  refine ⟨.sl false 1 [], .sl _ _, ?_⟩
  refine WP_seq ?_
  refine WP_seq ?_
  refine WP_reg [1, 4, 5, 6, 18] [0] ?_
  refine WPO_f ?_
  obtain ⟨j11, hj11, h⟩ := bind_inv h
  refine WP_cut j11 (fun z => (.normal, [(1, .loc 0 0), (4, .int .i64 y1.1), (5, .int .i64 y1.2.1), (6, .bool y1.2.2), (7, .sl false 1 (List.map by8 z))], [(0, (Msg.c m))], [])) (fun _ => [1, 4, 5, 6, 7]) (fun _ => [0]) ?_ ?_
  · clear h
    replace h := hj11
    clear hj11
    refine WP_block ?_
    refine WP_seq ?_
    refine WP_seq ?_
    refine WP_reg [1, 4, 5, 6, 18, 21] [0] ?_
    refine WPO_f ?_
    refine fun c2 hc2 => ?_
    replace h := letB_inv hc2 h
    obtain ⟨j5, hj5, h⟩ := bind_inv h
    refine WP_cut j5 (fun z => (.normal, [(1, .loc 0 0), (4, .int .i64 y1.1), (5, .int .i64 y1.2.1), (6, .bool y1.2.2), (18, .int .i64 m.Kind), (21, .bool z)], [(0, (Msg.c m))], [])) (fun _ => [1, 4, 5, 6, 18, 21]) (fun _ => [0]) ?_ ?_
    · clear h
      replace h := hj5
      clear hj5
      refine WP_cond (b := c2) rfl (fun hb3 => ?_) (fun hb3 => ?_)
      · replace h := bif_t hb3 h
        refine WP_skip ?_
        cases h
        exact rfl
      · replace h := bif_f hb3 h
        refine WP_reg [1, 4, 5, 6, 18, 21] [0] ?_
        refine WPO_f ?_
        refine fun c4 hc4 => ?_
        replace h := letB_inv hc4 h
        cases h
        exact rfl
    obtain ⟨j10, hj10, h⟩ := bind_inv h
    refine WP_cut j10 (fun z => (.normal, [(1, .loc 0 0), (4, .int .i64 y1.1), (5, .int .i64 y1.2.1), (6, .bool y1.2.2), (7, .sl false 1 (List.map by8 z))], [(0, (Msg.c m))], [])) (fun _ => [1, 4, 5, 6, 7]) (fun _ => [0]) ?_ ?_
    · clear h
      replace h := hj10
      clear hj10
      refine WP_cond (b := j5) rfl (fun hb6 => ?_) (fun hb6 => ?_)
      · replace h := bif_t hb6 h
        refine WP_reg [1, 4, 5, 6, 7] [0] ?_
        refine WPO_f ?_
        refine And.intro (by decide) ?_
        refine And.intro (by decide) ?_
        refine ⟨List.map by8 ([w8 m.W, w8 (iShr .i64 m.W 8), w8 m.H, w8 (iShr .i64 m.H 8)] : List Int), rfl, ?_⟩
        cases h
        exact rfl
      · replace h := bif_f hb6 h
        refine WP_seq ?_
        refine WP_reg [1, 4, 5, 6, 39] [0] ?_
        refine WPO_f ?_
        refine fun c7 hc7 => ?_
        replace h := letB_inv hc7 h
        obtain ⟨j9, hj9, h⟩ := bind_inv h
        refine WP_cut j9 (fun z => (.normal, [(1, .loc 0 0), (4, .int .i64 y1.1), (5, .int .i64 y1.2.1), (6, .bool y1.2.2), (7, .sl false 1 (List.map by8 z))], [(0, (Msg.c m))], [])) (fun _ => [1, 4, 5, 6, 7]) (fun _ => [0]) ?_ ?_
        · clear h
          replace h := hj9
          clear hj9
          refine WP_cond (b := c7) rfl (fun hb8 => ?_) (fun hb8 => ?_)
          · replace h := bif_t hb8 h
            refine WP_reg [1, 4, 5, 6, 7] [0] ?_
            refine WPO_f ?_
            refine And.intro (by decide) ?_
            refine ⟨List.map by8 ([w8 m.Code, w8 (iShr .i64 m.Code 8)] : List Int), rfl, ?_⟩
            cases h
            exact rfl
          · replace h := bif_f hb8 h
            refine WP_reg [1, 4, 5, 6, 7] [0] ?_
            refine WPO_f ?_
            cases h
            exact rfl
        cases h
        exact rfl
    cases h
    exact rfl
  refine WP_seq ?_
  refine WP_seq ?_
  refine WP_reg [1, 7, 62] [0] ?_
  refine WPO_then 3 ?_
  refine WPO_f ?_
  obtain ⟨g12, hg12, h⟩ := bind_inv h
  refine WPO_grp 5 56 [1, 5, 7, 56] g12 ?_ ?_
  · clear h
    replace h := hg12
    clear hg12
    cases hb14 : (!y1.2.2) with
    | false =>
      replace h := bif_f hb14 h
      refine WPO_f ?_
      refine ⟨_, (List.length_map ..).symm, ?_⟩
      refine fun c13 hc13 => ?_
      replace h := letB_inv hc13 h
      cases h
      exact ⟨rfl, rfl, rfl⟩
    | true =>
      replace h := bif_t hb14 h
      cases h
      refine WPO_f ?_
      exact ⟨rfl, rfl, rfl⟩
  refine WPO_then 1 ?_
  refine WPO_f ?_
  obtain ⟨g15, hg15, h⟩ := bind_inv h
  refine WPO_grp 5 62 [1, 7, 62] g15 ?_ ?_
  · clear h
    replace h := hg15
    clear hg15
    cases hb17 : g12 with
    | false =>
      replace h := bif_f hb17 h
      refine WPO_f ?_
      refine ⟨_, (List.length_map ..).symm, ?_⟩
      refine fun c16 hc16 => ?_
      replace h := letB_inv hc16 h
      cases h
      exact ⟨rfl, rfl, rfl⟩
    | true =>
      replace h := bif_t hb17 h
      cases h
      refine WPO_f ?_
      exact ⟨rfl, rfl, rfl⟩
  refine WPO_f ?_
  refine WP_cond (b := g15) rfl (fun hb18 => ?_) (fun hb18 => ?_)
  · replace h := bif_t hb18 h
    refine WP_seq ?_
    refine WP_reg [2, 3] [0] ?_
    refine WPO_f ?_
    refine ⟨.sl false 1 [], .sl _ _, ?_⟩
    refine WP_ret ?_
    cases h
    exact ⟨rfl, rfl, rfl, rfl, rfl⟩
  · replace h := bif_f hb18 h
    refine WP_skip ?_
    refine WP_seq ?_
    refine WP_reg [1, 6, 7, 8] [0, 1] ?_
    refine WPO_f ?_
    obtain ⟨y19, hy19, h⟩ := bind_inv h
    refine ⟨_, _, CallT.any (frame_message_ok hy19) rfl _ rfl, ?_⟩
    refine ⟨.sl false 1 [], .sl _ _, ?_⟩
    refine WP_seq ?_
    refine WP_seq ?_
    refine WP_reg [1, 7, 101] [0, 1] ?_
    refine WPO_then 3 ?_
    refine WPO_f ?_
    obtain ⟨g20, hg20, h⟩ := bind_inv h
    refine WPO_grp 6 78 [1, 7, 8, 78] g20 ?_ ?_
    · clear h
      replace h := hg20
      clear hg20
      cases hb22 : (!y19.2) with
      | false =>
        replace h := bif_f hb22 h
        refine WPO_f ?_
        refine fun c21 hc21 => ?_
        replace h := letB_inv hc21 h
        cases h
        exact ⟨rfl, rfl, rfl⟩
      | true =>
        replace h := bif_t hb22 h
        cases h
        refine WPO_f ?_
        exact ⟨rfl, rfl, rfl⟩
    refine WPO_then 1 ?_
    refine WPO_f ?_
    obtain ⟨g23, hg23, h⟩ := bind_inv h
    refine WPO_grp 6 85 [1, 7, 8, 85] g23 ?_ ?_
    · clear h
      replace h := hg23
      clear hg23
      cases hb25 : g20 with
      | false =>
        replace h := bif_f hb25 h
        refine WPO_f ?_
        refine fun c24 hc24 => ?_
        replace h := letB_inv hc24 h
        cases h
        exact ⟨rfl, rfl, rfl⟩
      | true =>
        replace h := bif_t hb25 h
        cases h
        refine WPO_f ?_
        exact ⟨rfl, rfl, rfl⟩
    refine WPO_then 1 ?_
    refine WPO_f ?_
    obtain ⟨g26, hg26, h⟩ := bind_inv h
    refine WPO_grp 6 92 [1, 7, 8, 92] g26 ?_ ?_
    · clear h
      replace h := hg26
      clear hg26
      cases hb28 : g23 with
      | false =>
        replace h := bif_f hb28 h
        refine WPO_f ?_
        refine fun c27 hc27 => ?_
        replace h := letB_inv hc27 h
        cases h
        exact ⟨rfl, rfl, rfl⟩
      | true =>
        replace h := bif_t hb28 h
        cases h
        refine WPO_f ?_
        exact ⟨rfl, rfl, rfl⟩
    refine WPO_then 1 ?_
    refine WPO_f ?_
    obtain ⟨g29, hg29, h⟩ := bind_inv h
    refine WPO_grp 8 101 [1, 7, 101] g29 ?_ ?_
    · clear h
      replace h := hg29
      clear hg29
      cases hb31 : g26 with
      | false =>
        replace h := bif_f hb31 h
        refine WPO_f ?_
        refine ⟨_, (List.length_map ..).symm, ?_⟩
        refine ⟨_, (List.length_map ..).symm, ?_⟩
        refine fun c30 hc30 => ?_
        replace h := letB_inv hc30 h
        cases h
        exact ⟨rfl, rfl, rfl⟩
      | true =>
        replace h := bif_t hb31 h
        cases h
        refine WPO_f ?_
        exact ⟨rfl, rfl, rfl⟩
    refine WPO_f ?_
    refine WP_cond (b := g29) rfl (fun hb32 => ?_) (fun hb32 => ?_)
    · replace h := bif_t hb32 h
      refine WP_seq ?_
      refine WP_reg [2, 3] [0, 1] ?_
      refine WPO_f ?_
      refine ⟨.sl false 1 [], .sl _ _, ?_⟩
      refine WP_ret ?_
      cases h
      exact ⟨rfl, rfl, rfl, rfl, rfl⟩
    · replace h := bif_f hb32 h
      refine WP_skip ?_
      refine WP_seq ?_
      refine WP_reg [9] [0, 1] ?_
      refine WPO_f ?_
      refine ⟨_, (List.length_map ..).symm, ?_⟩
      refine ⟨_, (List.length_map ..).symm, ?_⟩
      refine And.intro (by decide) ?_
      refine ⟨List.map by8 ([197, w8 m.Kind, w8 (j11.length : Int), w8 (iShr .i64 (j11.length : Int) 8)] : List Int), rfl, ?_⟩
      obtain ⟨x33, hx33, h⟩ := bind_inv h
      refine And.intro (app_le by8 hx33) ⟨_, app_eq by8 hx33, ?_⟩
      refine WP_seq ?_
      refine WP_reg [2, 3] [0, 1] ?_
      refine WPO_f ?_
      obtain ⟨x34, hx34, h⟩ := bind_inv h
      obtain ⟨y35, hy35, h⟩ := bind_inv h
      refine And.intro (lendA_lt by8 hx34) ⟨_, lendA_eq by8 hx34, ⟨_, frame_sum_ok hy35, ?_⟩⟩
      refine ⟨List.map by8 ([y35] : List Int), rfl, ?_⟩
      obtain ⟨x36, hx36, h⟩ := bind_inv h
      refine And.intro (app_le by8 hx36) ⟨_, app_eq by8 hx36, ?_⟩
      refine WP_ret ?_
      cases h
      exact ⟨rfl, rfl, rfl, rfl, rfl⟩
noncomputable def casementref01_SameBytes_l1 (a : List Int) (b : List Int) (i : Int) : Option (Int ⊕ (Unit ⊕ Unit)) :=
  letB (decide (i < (a.length : Int))) fun c3 =>
  bif c3 then (
    (idx a i).bind fun x5 =>
    (idx b i).bind fun x6 =>
    letB (decide (x5 ≠ x6)) fun c7 =>
    bif c7 then (
      some (.inr (.inl ())))
    else (
      some (.inl (w64 (i + 1)))))
  else (
    some (.inr (.inr ())))
noncomputable def casementref01_SameBytes (a : List Int) (b : List Int) : Option Bool :=
  letB (decide ((a.length : Int) ≠ (b.length : Int))) fun c1 =>
  bif c1 then (
    some false)
  else (
    (iter (fun s => casementref01_SameBytes_l1 a b s : Int → Option (Int ⊕ (Unit ⊕ Unit))) 0).bind fun j9 =>
    match j9 with
    | .inl z10 => (
      some false)
    | .inr z11 => (
      some true))
set_option maxRecDepth 20000 in
theorem casementref01_SameBytes_ok {a : List Int} {b : List Int} {r : Bool} (h : casementref01_SameBytes a b = some r) : CallT true (RF FT) 17 [.sl false 1 (List.map by8 a), .sl false 1 (List.map by8 b)] [] (.bool r) [] := by
  refine CallT.quiet (con_low (af := a17) rfl rfl ?_) rfl
  unfold casementref01_SameBytes at h
  refine WP_seq ?_
  refine WP_reg [0, 1] [] ?_
  refine WPO_f ?_
  refine WP_seq ?_
  refine WP_seq ?_
  refine WP_reg [0, 1, 10] [] ?_
  refine WPO_f ?_
  refine ⟨_, (List.length_map ..).symm, ?_⟩
  refine ⟨_, (List.length_map ..).symm, ?_⟩
  refine fun c1 hc1 => ?_
  replace h := letB_inv hc1 h
  refine WP_cond (b := c1) rfl (fun hb2 => ?_) (fun hb2 => ?_)
  · replace h := bif_t hb2 h
    refine WP_seq ?_
    refine WP_reg [4] [] ?_
    refine WPO_f ?_
    refine WP_ret ?_
    cases h
    exact ⟨rfl, rfl, rfl, rfl, rfl⟩
  · replace h := bif_f hb2 h
    refine WP_skip ?_
    refine WP_seq ?_
    refine WP_seq ?_
    refine WP_reg [0, 1, 5] [] ?_
    refine WPO_f ?_
    refine WP_block ?_
    obtain ⟨j9, hj9, h⟩ := bind_inv h
    refine WP_iter hj9 [] (fun s => ([(0, .sl false 1 (List.map by8 a)), (1, .sl false 1 (List.map by8 b)), (5, .int .i64 s)], [], [])) (fun e => match e with | .ret => [4] | .exit 0 => [] | _ => []) (fun e => match e with | .ret => [] | .exit 0 => [] | _ => []) (fun r => match r with | .inl z => (.ret, [(4, .bool false)], [], []) | .inr z => (.exit 0, [], [], [])) ?_ ?_ ?_
    · exact rfl
    · clear h
      rintro i x h
      replace h : casementref01_SameBytes_l1 a b i = some x := h
      unfold casementref01_SameBytes_l1 at h
      show T.WP _ _ [(0, .sl false 1 (List.map by8 a)), (1, .sl false 1 (List.map by8 b)), (5, .int .i64 i)] [] [] _
      refine WP_seq ?_
      refine WP_seq ?_
      refine WP_reg [0, 1, 5, 14] [] ?_
      refine WPO_f ?_
      refine ⟨_, (List.length_map ..).symm, ?_⟩
      refine fun c3 hc3 => ?_
      replace h := letB_inv hc3 h
      refine WP_cond (b := c3) rfl (fun hb4 => ?_) (fun hb4 => ?_)
      · replace h := bif_t hb4 h
        refine WP_skip ?_
        refine WP_seq ?_
        refine WP_block ?_
        refine WP_seq ?_
        refine WP_reg [0, 1, 5, 25] [] ?_
        refine WPO_t ?_
        obtain ⟨x5, hx5, h⟩ := bind_inv h
        refine And.intro (idx_nn hx5) ⟨_, idx_get by8 hx5, ?_⟩
        obtain ⟨x6, hx6, h⟩ := bind_inv h
        refine And.intro (idx_nn hx6) ⟨_, idx_get by8 hx6, ?_⟩
        refine fun c7 hc7 => ?_
        replace h := letB_inv hc7 h
        refine WP_cond (b := c7) rfl (fun hb8 => ?_) (fun hb8 => ?_)
        · replace h := bif_t hb8 h
          refine WP_seq ?_
          refine WP_reg [4] [] ?_
          refine WPO_f ?_
          refine WP_ret ?_
          cases h
          exact ⟨_, rfl, rfl⟩
        · replace h := bif_f hb8 h
          refine WP_skip ?_
          refine WP_reg [0, 1, 5] [] ?_
          refine WPO_f ?_
          cases h
          exact ⟨_, rfl, rfl⟩
      · replace h := bif_f hb4 h
        refine WP_exit ?_
        cases h
        exact ⟨_, rfl, rfl⟩
    rcases j9 with z10 | z11
    · cases h
      exact ⟨rfl, rfl, rfl, rfl, rfl⟩
    · refine WP_seq ?_
      refine WP_reg [4] [] ?_
      refine WPO_f ?_
      refine WP_ret ?_
      cases h
      exact ⟨rfl, rfl, rfl, rfl, rfl⟩
noncomputable def casementlaw20_alive : Option Bool :=
  (frame_Reader_Feed (Reader.mk []) [1, 2, 197, 4, 0, 0, 4]).bind fun y1 =>
  (frame_Reader_Feed (Reader.mk []) [197, 9]).bind fun y2 =>
  (frame_Reader_Feed (Reader.mk []) [197, 4, 0]).bind fun y3 =>
  (frame_Encode (Msg.mk 4 0 0 0 [])).bind fun y4 =>
  letB (decide ((y1.1.length : Int) = 2)) fun c5 =>
  (bif c5 then (
    (idx y1.1 0).bind fun x7 =>
    letB (decide (x7.Bad = 2)) fun c8 =>
    some (c8)) else some false).bind fun g6 =>
  (bif g6 then (
    (idx y1.1 1).bind fun x11 =>
    letB (decide (x11.Msg.Kind = 4)) fun c12 =>
    some (c12)) else some false).bind fun g10 =>
  (bif g10 then (
    letB (decide ((y2.1.length : Int) = 1)) fun c15 =>
    some (c15)) else some false).bind fun g14 =>
  (bif g14 then (
    (idx y2.1 0).bind fun x18 =>
    letB (decide (x18.Bad = 2)) fun c19 =>
    some (c19)) else some false).bind fun g17 =>
  (bif g17 then (
    letB (decide ((y3.1.length : Int) = 0)) fun c22 =>
    some (c22)) else some false).bind fun g21 =>
  (bif g21 then (
    (frame_Reader_Waits y3.2).bind fun y25 =>
    letB (decide (y25 = 3)) fun c26 =>
    some (c26)) else some false).bind fun g24 =>
  (bif g24 then (
    (casementref01_SameBytes y4.1 [197, 4, 0, 0, 4]).bind fun y29 =>
    some (y29)) else some false).bind fun g28 =>
  (bif g28 then (
    letB (decide (y4.2 = 0)) fun c32 =>
    some (c32)) else some false).bind fun g31 =>
  (bif g31 then (
    (frame_Screen [120]).bind fun y35 =>
    letB (decide ((y35.length : Int) = 6)) fun c36 =>
    some (c36)) else some false).bind fun g34 =>
  some g34
set_option maxRecDepth 20000 in
theorem casementlaw20_alive_ok {r : Bool} (h : casementlaw20_alive = some r) : CallT true (RF FT) 9 [] [] (.bool r) [] := by
  refine CallT.quiet (con_low (af := a9) rfl rfl ?_) rfl
  unfold casementlaw20_alive at h
  refine WP_seq ?_
  refine WP_reg [] [] ?_
  refine WPO_f ?_
  refine WP_seq ?_
  refine WP_reg [1, 2, 3] [] ?_
  refine WPO_f ?_
  refine ⟨.sl false 1 [], .sl _ _, ?_⟩
  refine ⟨.sl false 1 [], .sl _ _, ?_⟩
  refine ⟨.sl false 1 [], .sl _ _, ?_⟩
  refine WP_seq ?_
  refine WP_reg [2, 3, 4] [] ?_
  refine WPO_f ?_
  refine ⟨List.map by8 ([1, 2, 197, 4, 0, 0, 4] : List Int), rfl, ?_⟩
  obtain ⟨y1, hy1, h⟩ := bind_inv h
  refine ⟨_, _, CallT.sub (i := 0) (frame_Reader_Feed_ok hy1) rfl _ rfl rfl rfl rfl, ?_⟩
  refine WP_seq ?_
  refine WP_reg [3, 4, 5] [] ?_
  refine WPO_f ?_
  refine ⟨List.map by8 ([197, 9] : List Int), rfl, ?_⟩
  obtain ⟨y2, hy2, h⟩ := bind_inv h
  refine ⟨_, _, CallT.sub (i := 1) (frame_Reader_Feed_ok hy2) rfl _ rfl rfl rfl rfl, ?_⟩
  refine WP_seq ?_
  refine WP_reg [3, 4, 5, 6] [] ?_
  refine WPO_f ?_
  refine ⟨List.map by8 ([197, 4, 0] : List Int), rfl, ?_⟩
  obtain ⟨y3, hy3, h⟩ := bind_inv h
  refine ⟨_, _, CallT.sub (i := 2) (frame_Reader_Feed_ok hy3) rfl _ rfl rfl rfl rfl, ?_⟩
  refine WP_seq ?_
  refine WP_reg [3, 4, 5, 6, 7, 8] [] ?_
  refine WPO_f ?_
  refine ⟨.sl false 1 [], .sl _ _, ?_⟩
  obtain ⟨y4, hy4, h⟩ := bind_inv h
  refine ⟨_, _, CallT.any (frame_Encode_ok hy4) rfl _ rfl, ?_⟩
  refine WP_seq ?_
  refine WP_reg [0] [] ?_
  refine WPO_then 4 ?_
  refine WPO_f ?_
  refine ⟨_, (List.length_map ..).symm, ?_⟩
  refine fun c5 hc5 => ?_
  replace h := letB_inv hc5 h
  obtain ⟨g6, hg6, h⟩ := bind_inv h
  refine WPO_grp 6 29 [3, 4, 5, 6, 7, 8, 29] g6 ?_ ?_
  · clear h
    replace h := hg6
    clear hg6
    cases hb9 : c5 with
    | true =>
      replace h := bif_t hb9 h
      refine WPO_f ?_
      obtain ⟨x7, hx7, h⟩ := bind_inv h
      refine And.intro (idx_nn hx7) ⟨_, idx_get Item.c hx7, ?_⟩
      refine fun c8 hc8 => ?_
      replace h := letB_inv hc8 h
      cases h
      exact ⟨rfl, rfl, rfl⟩
    | false =>
      replace h := bif_f hb9 h
      cases h
      refine WPO_f ?_
      exact ⟨rfl, rfl, rfl⟩
  refine WPO_then 1 ?_
  refine WPO_f ?_
  obtain ⟨g10, hg10, h⟩ := bind_inv h
  refine WPO_grp 7 37 [3, 5, 6, 7, 8, 37] g10 ?_ ?_
  · clear h
    replace h := hg10
    clear hg10
    cases hb13 : g6 with
    | true =>
      replace h := bif_t hb13 h
      refine WPO_f ?_
      obtain ⟨x11, hx11, h⟩ := bind_inv h
      refine And.intro (idx_nn hx11) ⟨_, idx_get Item.c hx11, ?_⟩
      refine fun c12 hc12 => ?_
      replace h := letB_inv hc12 h
      cases h
      exact ⟨rfl, rfl, rfl⟩
    | false =>
      replace h := bif_f hb13 h
      cases h
      refine WPO_f ?_
      exact ⟨rfl, rfl, rfl⟩
  refine WPO_then 1 ?_
  refine WPO_f ?_
  obtain ⟨g14, hg14, h⟩ := bind_inv h
  refine WPO_grp 4 42 [3, 5, 6, 7, 8, 42] g14 ?_ ?_
  · clear h
    replace h := hg14
    clear hg14
    cases hb16 : g10 with
    | true =>
      replace h := bif_t hb16 h
      refine WPO_f ?_
      refine ⟨_, (List.length_map ..).symm, ?_⟩
      refine fun c15 hc15 => ?_
      replace h := letB_inv hc15 h
      cases h
      exact ⟨rfl, rfl, rfl⟩
    | false =>
      replace h := bif_f hb16 h
      cases h
      refine WPO_f ?_
      exact ⟨rfl, rfl, rfl⟩
  refine WPO_then 1 ?_
  refine WPO_f ?_
  obtain ⟨g17, hg17, h⟩ := bind_inv h
  refine WPO_grp 6 49 [3, 6, 7, 8, 49] g17 ?_ ?_
  · clear h
    replace h := hg17
    clear hg17
    cases hb20 : g14 with
    | true =>
      replace h := bif_t hb20 h
      refine WPO_f ?_
      obtain ⟨x18, hx18, h⟩ := bind_inv h
      refine And.intro (idx_nn hx18) ⟨_, idx_get Item.c hx18, ?_⟩
      refine fun c19 hc19 => ?_
      replace h := letB_inv hc19 h
      cases h
      exact ⟨rfl, rfl, rfl⟩
    | false =>
      replace h := bif_f hb20 h
      cases h
      refine WPO_f ?_
      exact ⟨rfl, rfl, rfl⟩
  refine WPO_then 1 ?_
  refine WPO_f ?_
  obtain ⟨g21, hg21, h⟩ := bind_inv h
  refine WPO_grp 4 54 [3, 7, 8, 54] g21 ?_ ?_
  · clear h
    replace h := hg21
    clear hg21
    cases hb23 : g17 with
    | true =>
      replace h := bif_t hb23 h
      refine WPO_f ?_
      refine ⟨_, (List.length_map ..).symm, ?_⟩
      refine fun c22 hc22 => ?_
      replace h := letB_inv hc22 h
      cases h
      exact ⟨rfl, rfl, rfl⟩
    | false =>
      replace h := bif_f hb23 h
      cases h
      refine WPO_f ?_
      exact ⟨rfl, rfl, rfl⟩
  refine WPO_then 1 ?_
  refine WPO_f ?_
  obtain ⟨g24, hg24, h⟩ := bind_inv h
  refine WPO_grp 3 58 [7, 8, 58] g24 ?_ ?_
  · clear h
    replace h := hg24
    clear hg24
    cases hb27 : g21 with
    | true =>
      replace h := bif_t hb27 h
      refine WPO_f ?_
      obtain ⟨y25, hy25, h⟩ := bind_inv h
      refine ⟨_, _, CallT.sub (i := 2) (frame_Reader_Waits_ok hy25) rfl _ rfl rfl rfl rfl, ?_⟩
      refine fun c26 hc26 => ?_
      replace h := letB_inv hc26 h
      cases h
      exact ⟨rfl, rfl, rfl⟩
    | false =>
      replace h := bif_f hb27 h
      cases h
      refine WPO_f ?_
      exact ⟨rfl, rfl, rfl⟩
  refine WPO_then 1 ?_
  refine WPO_f ?_
  obtain ⟨g28, hg28, h⟩ := bind_inv h
  refine WPO_grp 4 63 [8, 63] g28 ?_ ?_
  · clear h
    replace h := hg28
    clear hg28
    cases hb30 : g24 with
    | true =>
      replace h := bif_t hb30 h
      refine WPO_f ?_
      refine ⟨List.map by8 ([197, 4, 0, 0, 4] : List Int), rfl, ?_⟩
      obtain ⟨y29, hy29, h⟩ := bind_inv h
      refine ⟨_, _, CallT.any (casementref01_SameBytes_ok hy29) rfl _ rfl, ?_⟩
      cases h
      exact ⟨rfl, rfl, rfl⟩
    | false =>
      replace h := bif_f hb30 h
      cases h
      refine WPO_f ?_
      exact ⟨rfl, rfl, rfl⟩
  refine WPO_then 1 ?_
  refine WPO_f ?_
  obtain ⟨g31, hg31, h⟩ := bind_inv h
  refine WPO_grp 3 67 [67] g31 ?_ ?_
  · clear h
    replace h := hg31
    clear hg31
    cases hb33 : g28 with
    | true =>
      replace h := bif_t hb33 h
      refine WPO_f ?_
      refine fun c32 hc32 => ?_
      replace h := letB_inv hc32 h
      cases h
      exact ⟨rfl, rfl, rfl⟩
    | false =>
      replace h := bif_f hb33 h
      cases h
      refine WPO_f ?_
      exact ⟨rfl, rfl, rfl⟩
  refine WPO_then 1 ?_
  refine WPO_f ?_
  obtain ⟨g34, hg34, h⟩ := bind_inv h
  refine WPO_grp 6 74 [74] g34 ?_ ?_
  · clear h
    replace h := hg34
    clear hg34
    cases hb37 : g31 with
    | true =>
      replace h := bif_t hb37 h
      refine WPO_f ?_
      refine ⟨List.map by8 ([120] : List Int), rfl, ?_⟩
      refine And.intro (by simp) ?_
      obtain ⟨y35, hy35, h⟩ := bind_inv h
      refine ⟨_, _, CallT.any (frame_Screen_ok hy35) rfl _ rfl, ?_⟩
      refine ⟨_, (List.length_map ..).symm, ?_⟩
      refine fun c36 hc36 => ?_
      replace h := letB_inv hc36 h
      cases h
      exact ⟨rfl, rfl, rfl⟩
    | false =>
      replace h := bif_f hb37 h
      cases h
      refine WPO_f ?_
      exact ⟨rfl, rfl, rfl⟩
  refine WPO_f ?_
  refine WP_ret ?_
  cases h
  exact ⟨rfl, rfl, rfl, rfl, rfl⟩
structure Msg_40 where
  Kind : Int
  W : Int
  H : Int
  Code : Int
  Bad : Int
  Text : List Int
def Msg_40.c (x : Msg_40) : List TV := [.int .i64 x.Kind, .int .i64 x.W, .int .i64 x.H, .int .i64 x.Code, .int .i64 x.Bad, .sl false 1 (List.map by8 x.Text)]
noncomputable def casementlaw20_same (x_ : Item) (y : Msg_40) : Option Bool :=
  letB (decide (x_.Bad = y.Bad)) fun c1 =>
  (bif c1 then (
    letB (decide (x_.Msg.Kind = y.Kind)) fun c3 =>
    some (c3)) else some false).bind fun g2 =>
  (bif g2 then (
    letB (decide (x_.Msg.W = y.W)) fun c6 =>
    some (c6)) else some false).bind fun g5 =>
  (bif g5 then (
    letB (decide (x_.Msg.H = y.H)) fun c9 =>
    some (c9)) else some false).bind fun g8 =>
  (bif g8 then (
    letB (decide (x_.Msg.Code = y.Code)) fun c12 =>
    some (c12)) else some false).bind fun g11 =>
  (bif g11 then (
    (casementref01_SameBytes x_.Msg.Text y.Text).bind fun y15 =>
    some (y15)) else some false).bind fun g14 =>
  some g14
set_option maxRecDepth 20000 in
theorem casementlaw20_same_ok {x_ : Item} {y : Msg_40} {r : Bool} (h : casementlaw20_same x_ y = some r) : CallT true (RF FT) 13 [.agg (Item.c x_), .agg (Msg_40.c y)] [] (.bool r) [] := by
  refine CallT.quiet (con_low (af := a13) rfl rfl ?_) rfl
  unfold casementlaw20_same at h
  refine WP_seq ?_
  refine WP_reg [2, 3] [0, 1] ?_
  refine WPO_f ?_
  refine WP_seq ?_
  refine WP_reg [2, 3, 5] [0, 1, 2] ?_
  refine WPO_f ?_
  refine ⟨.sl false 1 [], .sl _ _, ?_⟩
  refine WP_seq ?_
  refine WP_reg [4] [0, 1, 2] ?_
  refine WPO_then 6 ?_
  refine WPO_f ?_
  refine fun c1 hc1 => ?_
  replace h := letB_inv hc1 h
  obtain ⟨g2, hg2, h⟩ := bind_inv h
  refine WPO_grp 6 19 [3, 5, 19] g2 ?_ ?_
  · clear h
    replace h := hg2
    clear hg2
    cases hb4 : c1 with
    | true =>
      replace h := bif_t hb4 h
      refine WPO_f ?_
      refine fun c3 hc3 => ?_
      replace h := letB_inv hc3 h
      cases h
      exact ⟨rfl, rfl, rfl⟩
    | false =>
      replace h := bif_f hb4 h
      cases h
      refine WPO_f ?_
      exact ⟨rfl, rfl, rfl⟩
  refine WPO_then 1 ?_
  refine WPO_f ?_
  obtain ⟨g5, hg5, h⟩ := bind_inv h
  refine WPO_grp 6 26 [3, 5, 26] g5 ?_ ?_
  · clear h
    replace h := hg5
    clear hg5
    cases hb7 : g2 with
    | true =>
      replace h := bif_t hb7 h
      refine WPO_f ?_
      refine fun c6 hc6 => ?_
      replace h := letB_inv hc6 h
      cases h
      exact ⟨rfl, rfl, rfl⟩
    | false =>
      replace h := bif_f hb7 h
      cases h
      refine WPO_f ?_
      exact ⟨rfl, rfl, rfl⟩
  refine WPO_then 1 ?_
  refine WPO_f ?_
  obtain ⟨g8, hg8, h⟩ := bind_inv h
  refine WPO_grp 6 33 [3, 5, 33] g8 ?_ ?_
  · clear h
    replace h := hg8
    clear hg8
    cases hb10 : g5 with
    | true =>
      replace h := bif_t hb10 h
      refine WPO_f ?_
      refine fun c9 hc9 => ?_
      replace h := letB_inv hc9 h
      cases h
      exact ⟨rfl, rfl, rfl⟩
    | false =>
      replace h := bif_f hb10 h
      cases h
      refine WPO_f ?_
      exact ⟨rfl, rfl, rfl⟩
  refine WPO_then 1 ?_
  refine WPO_f ?_
  obtain ⟨g11, hg11, h⟩ := bind_inv h
  refine WPO_grp 6 40 [3, 5, 40] g11 ?_ ?_
  · clear h
    replace h := hg11
    clear hg11
    cases hb13 : g8 with
    | true =>
      replace h := bif_t hb13 h
      refine WPO_f ?_
      refine fun c12 hc12 => ?_
      replace h := letB_inv hc12 h
      cases h
      exact ⟨rfl, rfl, rfl⟩
    | false =>
      replace h := bif_f hb13 h
      cases h
      refine WPO_f ?_
      exact ⟨rfl, rfl, rfl⟩
  refine WPO_then 1 ?_
  refine WPO_f ?_
  obtain ⟨g14, hg14, h⟩ := bind_inv h
  refine WPO_grp 6 47 [47] g14 ?_ ?_
  · clear h
    replace h := hg14
    clear hg14
    cases hb16 : g11 with
    | true =>
      replace h := bif_t hb16 h
      refine WPO_f ?_
      obtain ⟨y15, hy15, h⟩ := bind_inv h
      refine ⟨_, _, CallT.any (casementref01_SameBytes_ok hy15) rfl _ rfl, ?_⟩
      cases h
      exact ⟨rfl, rfl, rfl⟩
    | false =>
      replace h := bif_f hb16 h
      cases h
      refine WPO_f ?_
      exact ⟨rfl, rfl, rfl⟩
  refine WPO_f ?_
  refine WP_ret ?_
  cases h
  exact ⟨rfl, rfl, rfl, rfl, rfl⟩
noncomputable def casementlaw20_of (m : Msg) : Option Msg_40 :=
  some ({ m with Bad := 0 })
set_option maxRecDepth 20000 in
theorem casementlaw20_of_ok {m : Msg} {r : Msg_40} (h : casementlaw20_of m = some r) : CallT true (RF FT) 16 [.agg (Msg.c m)] [] (.agg (Msg_40.c r)) [] := by
  refine CallT.quiet (con_low (af := a16) rfl rfl ?_) rfl
  unfold casementlaw20_of at h
  refine WP_seq ?_
  refine WP_reg [1, 2] [0, 1] ?_
  refine WPO_f ?_
  refine ⟨.sl false 1 [], .sl _ _, ?_⟩
  refine WP_seq ?_
  refine WP_reg [2] [0, 1] ?_
  refine WPO_f ?_
  refine ⟨.sl false 1 [], .sl _ _, ?_⟩
  refine WP_ret ?_
  cases h
  exact ⟨rfl, rfl, rfl, rfl, rfl⟩
end Go.Proofs.Ytgglgcehiolpcaa.Am.Frame
