/-
A part of the proof of a law: tw c, tw pure, tw law, esc p, esc u, esc m, esc n, esc b, esc c.
-/
import Derived.Test.YtggbcchebiedjaaDoorAmEscTextRow4
namespace Go.Proofs.YtggbcchebiedjaaDoor.Am.T
open Go.Proofs.YtggbcchebiedjaaDoor.Am
section
variable {ρ : List Nat} {cf : CF} {L : Ts} {B : Bs} {M : Ms} {st : St}
theorem putW_sound {σ : Nat → V} (h : Ag ρ L σ) {o : AOper} {t : TV} {v : V} (hd : Den ρ t v) {l : Nat → List V} {m : Am.Ms} {k : Ts → Prop} (hk : putW o t L k) : ∃ σ', putOp o (v, ⟨σ, l, m⟩) = some ⟨σ', l, m⟩ ∧ ∃ L', Ag ρ L' σ' ∧ k L' := by
  unfold putW at hk
  unfold putOp
  cases hdst : o.dst with
  | none =>
    simp only [hdst] at hk
    cases hkt : o.kt with
    | false =>
      rw [hkt] at hk
      exact ⟨σ, rfl, L, h, hk⟩
    | true =>
      rw [hkt] at hk
      simp only [cond_true] at hk
      obtain ⟨hs, hk⟩ := bifF hk
      have hu : t ≠ .undef := by rintro rfl; exact hk
      have hk2 : k L := by cases t <;> first | exact hk | exact absurd rfl hu
      exact ⟨σ, by simp [St.put, hd.selfPlace hu hs], L, h, hk2⟩
  | some d =>
    simp only [hdst] at hk
    cases hkt : o.kt with
    | false =>
      rw [hkt] at hk
      exact ⟨upd σ d v, by simp [St.put], _, h.upd d hd, hk⟩
    | true =>
      rw [hkt] at hk
      simp only [cond_true] at hk
      obtain ⟨hs, hk⟩ := bifF hk
      have hu : t ≠ .undef := by rintro rfl; exact hk
      have hk2 : mapK (killTV d) L fun L' => k ((d, t) :: L') := by cases t <;> first | exact hk | exact absurd rfl hu
      obtain ⟨L', h1, h2⟩ := mapK_sound h (fun _ _ h => Den.killTV d h) hk2
      exact ⟨upd (killT d σ) d v, by simp [St.put, hd.selfPlace hu hs], _, Ag.upd h1 d hd, h2⟩
theorem skipW_sound {σ : Nat → V} (h : Ag ρ L σ) {o : AOper} {l : Nat → List V} {m : Am.Ms} {k : Ts → Prop} (hk : skipW o L k) : ∃ σ', St.put ⟨σ, l, m⟩ o.kt o.dst (.tuple []) = ⟨σ', l, m⟩ ∧ ∃ L', Ag ρ L' σ' ∧ k L' := by
  unfold skipW at hk
  cases hdst : o.dst with
  | none => simp only [hdst] at hk; exact ⟨σ, rfl, L, h, hk⟩
  | some d =>
    simp only [hdst] at hk
    cases hkt : o.kt with
    | false => rw [hkt] at hk; exact ⟨_, rfl, _, h.upd d (.tuple .nil), hk⟩
    | true =>
      rw [hkt] at hk
      simp only [cond_true] at hk
      obtain ⟨L', h1, h2⟩ := mapK_sound h (fun _ _ h => Den.killTV d h) hk
      exact ⟨_, rfl, _, Ag.upd h1 d (.tuple .nil), h2⟩
structure WPO (d : Bool) (cf : CF) (os : List AOper) (L : Ts) (B : Bs) (M : Ms) (K : Ts → Bs → Ms → Prop) : Prop where
  go : ∀ ρ st, Rel ρ L B M st → ∃ st', (if d then runD cf os st else runOps cf os st) = some st' ∧ ∃ ρ' L' B' M', Rel ρ' L' B' M' st' ∧ Fr ρ st.m ρ' st'.m ∧ K L' B' M'
theorem wpOps_sound : ∀ {os : List AOper} {ρ : List Nat} {L : Ts} {B : Bs} {M : Ms} {st : St} {k : Ts → Bs → Ms → Prop} (_ : Rel ρ L B M st) (_ : wpOps cf os L B M k),
    ∃ st', runOps cf os st = some st' ∧ ∃ ρ' L' B' M', Rel ρ' L' B' M' st' ∧ Fr ρ st.m ρ' st'.m ∧ k L' B' M'
  | [], ρ, L, B, M, st, k, h, hk => ⟨st, rfl, ρ, L, B, M, h, .refl _ _, hk⟩
  | o :: os, ρ, L, B, M, st, k, h, hk => by
    have doit : (wpOp false cf o.op L B M fun v L1 B1 m1 => putW o v L1 fun L2 => wpOps cf os L2 B1 m1 k) → ∃ st1, (evalOp cf st o.op).bind (putOp o) = some st1 ∧ ∃ st', runOps cf os st1 = some st' ∧ ∃ ρ' L' B' M', Rel ρ' L' B' M' st' ∧ Fr ρ st.m ρ' st'.m ∧ k L' B' M' := fun hk => by
      obtain ⟨v, st1, e, _, ρ1, t, L1, B1, M1, hd, h1, hf1, hk⟩ := wpOp_sound h hk
      obtain ⟨σ', e2, L2, h2, hk⟩ := putW_sound (l := st1.l) (m := st1.m) h1.a hd hk
      obtain ⟨st', e3, ρ', L', B', M', h3, hf3, hk⟩ := wpOps_sound (st := ⟨σ', st1.l, st1.m⟩) ⟨h2, h1.b, h1.m⟩ hk
      exact ⟨_, by rw [e]; exact e2, st', e3, ρ', L', B', M', h3, hf1.trans hf3, hk⟩
    have skip : ∀ {b want : Bool} {g : Nat}, (skipW o L fun L2 => wpOps cf os L2 B M k) → ∃ st', runOps cf os (st.put o.kt o.dst (.tuple [])) = some st' ∧ ∃ ρ' L' B' M', Rel ρ' L' B' M' st' ∧ Fr ρ st.m ρ' st'.m ∧ k L' B' M' := fun {b want g} hk => by
      obtain ⟨σ', e2, L2, h2, hk⟩ := skipW_sound (l := st.l) (m := st.m) h.a hk
      obtain ⟨st', e3, r⟩ := wpOps_sound (st := ⟨σ', st.l, st.m⟩) ⟨h2, h.b, h.m⟩ hk
      exact ⟨st', by rw [e2]; exact e3, r⟩
    unfold wpOps at hk
    cases hg : o.guard with
    | none =>
      rw [hg] at hk
      obtain ⟨st1, e, st', e2, r⟩ := doit hk
      exact ⟨st', by simp only [runOps, stepOp, hg, e, Option.bind_some, e2], r⟩
    | some q =>
      obtain ⟨g, want⟩ := q
      rw [hg] at hk
      simp only at hk
      split at hk
      · rename_i b hf
        have hv := (h.a g _ hf).bool_inv
        by_cases hbw : b = want
        · subst hbw
          simp only [beq_self_eq_true, cond_true] at hk
          obtain ⟨st1, e, st', e2, r⟩ := doit hk
          exact ⟨st', by simp only [runOps, stepOp, hg, hv, if_true, e, Option.bind_some, e2], r⟩
        · have : (b == want) = false := by simpa using hbw
          rw [this] at hk
          simp only [cond_false] at hk
          obtain ⟨st', e3, r⟩ := skip (b := b) (want := want) (g := g) hk
          exact ⟨st', by simp only [runOps, stepOp, hg, hv]; rw [if_neg hbw]; exact e3, r⟩
      · rename_i hf
        obtain ⟨cs', hv, hcs⟩ := (h.a g _ hf).tuple_inv
        cases hcs
        obtain ⟨st', e3, r⟩ := skip (b := true) (want := want) (g := g) hk
        exact ⟨st', by simp only [runOps, stepOp, hg, hv]; exact e3, r⟩
      · exact hk.elim
theorem rootsW_sound (h : Ag ρ L st.σ) {lean : Bool} : ∀ {r : List Nat}, rootsW lean L r = true → (r.all fun s => rootOk lean (st.σ s)) = true
  | [], _ => rfl
  | s :: r, hr => by
    unfold rootsW at hr
    cases hf : fnd L s with
    | none => simp only [hf] at hr; cases hr
    | some v =>
      simp only [hf, Bool.and_eq_true] at hr
      rw [List.all_cons, Bool.and_eq_true]
      exact ⟨(h s v hf).rootOk hr.1, rootsW_sound h hr.2⟩
theorem notLoc_den {t : TV} {v : V} (h : Den ρ t v) (hn : notLocT t = true) : notLoc v = true := by
  cases h with
  | base h0 => cases h0 <;> first | rfl | cases hn
  | loc j o => cases hn
  | _ => rfl
theorem coolW_sound (h : Ag ρ L st.σ) : ∀ {r : List Nat}, coolW L r = true → (r.all fun s => notLoc (st.σ s)) = true
  | [], _ => rfl
  | s :: r, hr => by
    unfold coolW at hr
    cases hf : fnd L s with
    | none => simp only [hf] at hr; cases hr
    | some v =>
      simp only [hf, Bool.and_eq_true] at hr
      rw [List.all_cons, Bool.and_eq_true]
      exact ⟨notLoc_den (h s v hf) hr.1, coolW_sound h hr.2⟩
theorem resOk_den {o : AOper} {t : TV} {v : V} (h : Den ρ t v) (hr : resOkT o t = true) : resOk o v = true := by
  simp only [resOkT, Bool.and_eq_true] at hr
  obtain ⟨h1, h2⟩ := hr
  simp only [resOk, Bool.and_eq_true]
  refine ⟨h.rootOk h1, ?_⟩
  cases hm : o.mark with
  | none => rfl
  | quiet =>
    rw [hm] at h2
    simp only [Bool.and_eq_true] at h2
    simp only [Bool.and_eq_true]
    refine ⟨notLoc_den h h2.1, ?_⟩
    cases h with
    | base h0 => cases h0 <;> first | rfl | cases h2.1
    | place _ => exact absurd h2.2 (by simp)
    | el _ _ _ _ => exact absurd h2.2 (by simp)
    | _ => rfl
  | _ => rw [hm] at h2; exact notLoc_den h h2
theorem markW_sound (h : Ag ρ L st.σ) {o : AOper} {st' : St} {k : Prop} (hl : o.op.isCall = true → st'.l = st.l ∧ (isQuiet o.mark = true → st'.m = st.m)) (hk : markW o L k) : markOk o st st' = true ∧ k := by
  unfold markW at hk
  unfold markOk
  have ptr : ∀ mk, (match o.op.ptr? with
      | none => k
      | some p => rdC L p fun v => match v with
        | .loc i _ => bif mk == Mark.loc i then k else False
        | .ptr _ _ => bif mk == Mark.mem then k else False
        | .ro _ _ => bif mk == Mark.free then k else False
        | _ => False) → (match o.op.ptr? with
      | none => true
      | some p => match getC st p with
        | some (.loc i _) => mk == .loc i
        | some (.ptr _ _) => mk == .mem
        | some (.ro _ _) => mk == .free
        | _ => false) = true ∧ k := fun mk hk => by
    cases hp : o.op.ptr? with
    | none => rw [hp] at hk; exact ⟨rfl, hk⟩
    | some p =>
      rw [hp] at hk
      obtain ⟨v, t, e, hd, hk⟩ := rdC_sound h hk
      simp only [e]
      cases t with
      | loc i o => rw [hd.loc_inv]; exact bifT hk
      | ptr i o => obtain ⟨b, rfl, _⟩ := hd.ptr_inv; exact bifT hk
      | ro i o => obtain ⟨b, rfl, _⟩ := hd.ro_inv; exact bifT hk
      | _ => exact hk.elim
  cases hm : o.mark with
  | none => rw [hm] at hk; exact ⟨rfl, hk⟩
  | cool =>
    rw [hm] at hk
    simp only at hk ⊢
    cases hp : o.op.ptr? with
    | some p => rw [hp] at hk; exact hk.elim
    | none =>
      rw [hp] at hk
      obtain ⟨h1, h2⟩ := bifT hk
      exact ⟨coolW_sound h h1, h2⟩
  | quiet =>
    rw [hm] at hk
    obtain ⟨hc, hk⟩ := bifT hk
    obtain ⟨h1, h2⟩ := hl hc
    have hp : st'.m = st.m ∧ st'.l = st.l := ⟨h2 (by rw [hm]; rfl), h1⟩
    exact ⟨by simp only [hp, and_self, decide_true], hk⟩
  | loc j => rw [hm] at hk; exact ptr _ hk
  | mem => rw [hm] at hk; exact ptr _ hk
  | free => rw [hm] at hk; exact ptr _ hk
theorem store_lean {o : AOper} (h : isStore o.op = true) : o.lean = false := by
  cases ho : o.op <;> rw [ho] at h <;> first | (cases h; done) | skip
  unfold AOper.lean
  rw [ho]
  simp [AOp.pure, AOp.still, AOp.builds]
theorem store_val {o : AOper} (h : isStore o.op = true) {v : V} {st st' : St} (he : evalOp cf st o.op = some (v, st')) : v = .undef := by
  cases ho : o.op <;> rw [ho] at h he <;> first | (cases h; done) | skip
  simp only [evalOp, Option.bind_eq_some_iff] at he
  obtain ⟨_, _, _, _, he⟩ := he
  split at he
  · simp only [Option.bind_eq_some_iff, Option.some.injEq, Prod.mk.injEq] at he
    obtain ⟨_, _, he, _⟩ := he
    exact he.symm
  · cases he
theorem doD_sound (h : Rel ρ L B M st) {o : AOper} {k : Ts → Bs → Ms → Prop} (hk : doD cf o L B M k) : ∃ st', stepU cf o st = some st' ∧ ∃ ρ' L' B' M', Rel ρ' L' B' M' st' ∧ Fr ρ st.m ρ' st'.m ∧ k L' B' M' := by
  obtain ⟨hr, hk⟩ := bifT hk
  obtain ⟨v, st1, e, hl, ρ1, t, L1, B1, M1, hd, h1, hf1, hk⟩ := wpOp_sound h hk
  obtain ⟨hro, hk⟩ := bifT hk
  obtain ⟨hm, hk⟩ := markW_sound h.a hl hk
  obtain ⟨σ', e2, L2, h2, hk⟩ := putW_sound (l := st1.l) (m := st1.m) h1.a hd hk
  refine ⟨⟨σ', st1.l, st1.m⟩, ?_, ρ1, L2, B1, M1, ⟨h2, h1.b, h1.m⟩, hf1, hk⟩
  have hro2 : resOk o v = true := by
    rw [Bool.or_eq_true] at hro
    rcases hro with hro | hro
    · have h1 := store_lean hro
      rw [store_val hro e]
      unfold resOk
      rw [h1]
      cases o.mark <;> rfl
    · exact resOk_den hd hro
  unfold stepU
  rw [if_pos (rootsW_sound h.a hr), e]
  simp only [Option.bind_some, putD, hro2, hm, Bool.and_self, if_true]
  exact e2
theorem wpD_sound : ∀ {os : List AOper} {ρ : List Nat} {L : Ts} {B : Bs} {M : Ms} {st : St} {k : Ts → Bs → Ms → Prop} (_ : Rel ρ L B M st) (_ : wpD cf os L B M k),
    ∃ st', runD cf os st = some st' ∧ ∃ ρ' L' B' M', Rel ρ' L' B' M' st' ∧ Fr ρ st.m ρ' st'.m ∧ k L' B' M'
  | [], ρ, L, B, M, st, k, h, hk => ⟨st, rfl, ρ, L, B, M, h, .refl _ _, hk⟩
  | o :: os, ρ, L, B, M, st, k, h, hk => by
    have doit : (doD cf o L B M fun L2 B1 m1 => wpD cf os L2 B1 m1 k) → ∃ st1, stepU cf o st = some st1 ∧ ∃ st', runD cf os st1 = some st' ∧ ∃ ρ' L' B' M', Rel ρ' L' B' M' st' ∧ Fr ρ st.m ρ' st'.m ∧ k L' B' M' := fun hk => by
      obtain ⟨st1, e, ρ1, L1, B1, M1, h1, hf1, hk⟩ := doD_sound h hk
      obtain ⟨st', e3, ρ', L', B', M', h3, hf3, hk⟩ := wpD_sound h1 hk
      exact ⟨_, e, st', e3, ρ', L', B', M', h3, hf1.trans hf3, hk⟩
    have skip : ∀ {b want : Bool} {g : Nat}, (skipW o L fun L2 => wpD cf os L2 B M k) → ∃ st', runD cf os (st.put o.kt o.dst (.tuple [])) = some st' ∧ ∃ ρ' L' B' M', Rel ρ' L' B' M' st' ∧ Fr ρ st.m ρ' st'.m ∧ k L' B' M' := fun {b want g} hk => by
      obtain ⟨σ', e2, L2, h2, hk⟩ := skipW_sound (l := st.l) (m := st.m) h.a hk
      obtain ⟨st', e3, r⟩ := wpD_sound (st := ⟨σ', st.l, st.m⟩) ⟨h2, h.b, h.m⟩ hk
      exact ⟨st', by rw [e2]; exact e3, r⟩
    unfold wpD at hk
    cases hg : o.guard with
    | none =>
      rw [hg] at hk
      obtain ⟨st1, e, st', e2, r⟩ := doit hk
      exact ⟨st', by simp only [runD, stepD, hg, e, Option.bind_some, e2], r⟩
    | some q =>
      obtain ⟨g, want⟩ := q
      rw [hg] at hk
      simp only at hk
      split at hk
      · rename_i b hf
        have hv := (h.a g _ hf).bool_inv
        by_cases hbw : b = want
        · subst hbw
          simp only [beq_self_eq_true, cond_true] at hk
          obtain ⟨st1, e, st', e2, r⟩ := doit hk
          exact ⟨st', by simp only [runD, stepD, hg, hv, if_true, e, Option.bind_some, e2], r⟩
        · have : (b == want) = false := by simpa using hbw
          rw [this] at hk
          simp only [cond_false] at hk
          obtain ⟨st', e3, r⟩ := skip (b := b) (want := want) (g := g) hk
          exact ⟨st', by simp only [runD, stepD, hg, hv]; rw [if_neg hbw]; exact e3, r⟩
      · rename_i hf
        obtain ⟨cs', hv, hcs⟩ := (h.a g _ hf).tuple_inv
        cases hcs
        obtain ⟨st', e3, r⟩ := skip (b := true) (want := want) (g := g) hk
        exact ⟨st', by simp only [runD, stepD, hg, hv]; exact e3, r⟩
      · exact hk.elim
theorem WPO_f {os : List AOper} {K : Ts → Bs → Ms → Prop} (h : wpOps cf os L B M K) : WPO false cf os L B M K := ⟨fun _ _ hr => wpOps_sound hr h⟩
theorem WPO_t {os : List AOper} {K : Ts → Bs → Ms → Prop} (h : wpD cf os L B M K) : WPO true cf os L B M K := ⟨fun _ _ hr => wpD_sound hr h⟩
theorem prune_sound {σ : Nat → V} (h : Ag ρ L σ) : ∀ {r : List Nat} {k : Ts → Prop}, pruneK L r k → ∃ L', Ag ρ L' σ ∧ (∀ s v, fnd L' s = some v → s ∈ r) ∧ k L'
  | [], k, hk => ⟨[], fun s v hv => (nomatch hv), fun s v hv => (nomatch hv), hk⟩
  | s :: r, k, hk => by
    unfold pruneK at hk
    cases hs : fnd L s with
    | none =>
      rw [hs] at hk
      obtain ⟨L', h1, h2, h3⟩ := prune_sound h hk
      exact ⟨L', h1, fun t v hv => .tail _ (h2 t v hv), h3⟩
    | some v =>
      rw [hs] at hk
      obtain ⟨L', h1, h2, h3⟩ := prune_sound h (k := fun r' => k ((s, v) :: r')) hk
      refine ⟨_, fun t x hx => ?_, fun t x hx => ?_, h3⟩
      · rw [fnd_cons] at hx
        split at hx
        · rename_i e; subst e; cases hx; exact h _ _ hs
        · exact h1 t x hx
      · rw [fnd_cons] at hx
        split at hx
        · rename_i e; subst e; exact .head _
        · exact .tail _ (h2 t x hx)
theorem pruneB_sound {l : Nat → List V} (h : AgB ρ B l) : ∀ {r : List Nat} {k : Bs → Prop}, pruneK B r k → ∃ B', AgB ρ B' l ∧ k B'
  | [], k, hk => ⟨[], fun s v hv => (nomatch hv), hk⟩
  | s :: r, k, hk => by
    unfold pruneK at hk
    cases hs : fnd B s with
    | none => rw [hs] at hk; exact pruneB_sound h hk
    | some v =>
      rw [hs] at hk
      obtain ⟨L', h1, h3⟩ := pruneB_sound h (k := fun r' => k ((s, v) :: r')) hk
      refine ⟨_, fun t x hx => ?_, h3⟩
      rw [fnd_cons] at hx
      split at hx
      · rename_i e; subst e; cases hx; exact h _ _ hs
      · exact h1 t x hx
theorem runOps_append : ∀ {a b : List AOper} {st : St}, runOps cf (a ++ b) st = (runOps cf a st).bind (runOps cf b)
  | [], b, st => rfl
  | o :: a, b, st => by
    show (stepOp cf o st).bind (runOps cf (a ++ b)) = ((stepOp cf o st).bind (runOps cf a)).bind (runOps cf b)
    rw [Option.bind_assoc]
    congr 1
    funext st1
    exact runOps_append
theorem runD_append : ∀ {a b : List AOper} {st : St}, runD cf (a ++ b) st = (runD cf a st).bind (runD cf b)
  | [], b, st => rfl
  | o :: a, b, st => by
    show (stepD cf o st).bind (runD cf (a ++ b)) = ((stepD cf o st).bind (runD cf a)).bind (runD cf b)
    rw [Option.bind_assoc]
    congr 1
    funext st1
    exact runD_append
def pruneF {α : Type} (L : List (Nat × α)) : List Nat → List (Nat × α)
  | [] => []
  | s :: r => match fnd L s with
    | some v => (s, v) :: pruneF L r
    | none => pruneF L r
theorem pruneF_iff {α : Type} {L : List (Nat × α)} : ∀ {r : List Nat} {k : List (Nat × α) → Prop}, pruneK L r k ↔ k (pruneF L r)
  | [], k => Iff.rfl
  | s :: r, k => by
    unfold pruneK pruneF
    cases fnd L s with
    | none => exact pruneF_iff
    | some v => exact pruneF_iff (k := fun r' => k ((s, v) :: r'))
theorem WPO_grp {d : Bool} {os : List AOper} {K : Ts → Bs → Ms → Prop} (n s : Nat) (lv : List Nat) (y : Bool)
    (h : WPO d cf (os.take n) L B M fun L1 B1 M1 => pruneK L1 lv fun L' => L' = pruneF ((s, .bool y) :: L) lv ∧ B1 = B ∧ M1 = M)
    (g : pruneK ((s, .bool y) :: L) lv fun L2 => WPO d cf (os.drop n) L2 B M K) : WPO d cf os L B M K := by
  refine ⟨fun ρ st hr => ?_⟩
  obtain ⟨st1, e1, ρ1, L1, B1, M1, h1, hf1, hk⟩ := h.go ρ st hr
  obtain ⟨L', h2, _, rfl, rfl, rfl⟩ := prune_sound h1.a hk
  obtain ⟨st2, e2, ρ2, L3, B3, M3, h4, hf2, hk⟩ := (pruneF_iff.1 g).go ρ1 st1 ⟨h2, h1.b, h1.m⟩
  refine ⟨st2, ?_, ρ2, L3, B3, M3, h4, hf1.trans hf2, hk⟩
  rw [← List.take_append_drop n os]
  cases d with
  | false => simp only [Bool.false_eq_true, if_false] at e1 e2 ⊢; rw [runOps_append, e1]; exact e2
  | true => simp only [if_true] at e1 e2 ⊢; rw [runD_append, e1]; exact e2
variable {Q : Ex → Ts → Bs → Ms → Prop}
theorem WP_reg {d : Bool} {os : List AOper} (lv lb : List Nat) (h : WPO d cf os L B M fun L1 B1 M1 => pruneK L1 lv fun L2 => pruneK B1 lb fun B2 => Q .normal L2 B2 M1) : WP cf (.region d os) L B M Q := by
  refine ⟨fun ρ st hr => ?_⟩
  obtain ⟨st1, e1, ρ1, L1, B1, M1, h1, hf1, hk⟩ := h.go ρ st hr
  obtain ⟨L', h2, _, hk⟩ := prune_sound h1.a hk
  obtain ⟨B', h3, hk⟩ := pruneB_sound h1.b hk
  refine ⟨.normal, st1, ?_, ρ1, L', B', M1, ⟨h2, h3, h1.m⟩, hf1, hk⟩
  cases d with
  | false => simp only [Bool.false_eq_true, if_false] at e1; simp only [exec, e1, Option.bind_some]
  | true => simp only [if_true] at e1; simp only [exec, e1, Option.bind_some]
theorem WP_skip (h : Q .normal L B M) : WP cf .skip L B M Q := ⟨fun ρ st hr => ⟨_, st, rfl, ρ, L, B, M, hr, .refl _ _, h⟩⟩
theorem WP_ret (h : Q .ret L B M) : WP cf .ret L B M Q := ⟨fun ρ st hr => ⟨_, st, rfl, ρ, L, B, M, hr, .refl _ _, h⟩⟩
theorem WP_exit {i : Nat} (h : Q (.exit i) L B M) : WP cf (.exit i) L B M Q := ⟨fun ρ st hr => ⟨_, st, rfl, ρ, L, B, M, hr, .refl _ _, h⟩⟩
theorem WP_seq {a b : ACode} (h : WP cf a L B M fun e L1 B1 M1 => match e with
    | .normal => WP cf b L1 B1 M1 Q
    | .exit i => Q (.exit i) L1 B1 M1
    | .ret => Q .ret L1 B1 M1) : WP cf (.seq a b) L B M Q := by
  refine ⟨fun ρ st hr => ?_⟩
  obtain ⟨e, st1, h1, ρ1, L1, B1, M1, h2, hf, hk⟩ := h.go ρ st hr
  cases e with
  | normal =>
    obtain ⟨e, st2, h4, ρ2, L2, B2, M2, h5, hf2, hk⟩ := hk.go ρ1 st1 h2
    exact ⟨e, st2, by simp only [exec, h1, Option.bind_some, h4], ρ2, L2, B2, M2, h5, hf.trans hf2, hk⟩
  | exit i => exact ⟨_, st1, by simp only [exec, h1, Option.bind_some], ρ1, L1, B1, M1, h2, hf, hk⟩
  | ret => exact ⟨_, st1, by simp only [exec, h1, Option.bind_some], ρ1, L1, B1, M1, h2, hf, hk⟩
theorem WP_cond {s : Nat} {t e : ACode} {b : Bool} (hs : fnd L s = some (.bool b)) (ht : b = true → WP cf t L B M Q) (he : b = false → WP cf e L B M Q) : WP cf (.cond (.t s) t e) L B M Q := by
  refine ⟨fun ρ st hr => ?_⟩
  have hv := (hr.a s _ hs).bool_inv
  cases b with
  | true =>
    obtain ⟨e1, st1, h1, r⟩ := (ht rfl).go ρ st hr
    exact ⟨e1, st1, by simp only [exec, getC, hv, V.hasOwn, V.own1, V.own0]; exact h1, r⟩
  | false =>
    obtain ⟨e1, st1, h1, r⟩ := (he rfl).go ρ st hr
    exact ⟨e1, st1, by simp only [exec, getC, hv, V.hasOwn, V.own1, V.own0]; exact h1, r⟩
theorem WP_block {i : Nat} {b : ACode} (h : WP cf b L B M fun e L1 B1 M1 => match e with
    | .normal => Q .normal L1 B1 M1
    | .exit j => bif Nat.beq j i then Q .normal L1 B1 M1 else Q (.exit j) L1 B1 M1
    | .ret => Q .ret L1 B1 M1) : WP cf (.block i b) L B M Q := by
  refine ⟨fun ρ st hr => ?_⟩
  obtain ⟨e, st1, h1, ρ1, L1, B1, M1, h2, hf, hk⟩ := h.go ρ st hr
  cases e with
  | normal => exact ⟨.normal, st1, by simp only [exec, h1, Option.bind_some], ρ1, L1, B1, M1, h2, hf, hk⟩
  | exit j =>
    simp only at hk
    by_cases hj : j = i
    · subst hj
      have : Nat.beq j j = true := by simp
      rw [this] at hk
      exact ⟨.normal, st1, by simp only [exec, h1, Option.bind_some, if_true], ρ1, L1, B1, M1, h2, hf, hk⟩
    · have : Nat.beq j i = false := by
        cases hb : Nat.beq j i with
        | false => rfl
        | true => exact absurd (Nat.eq_of_beq_eq_true hb) hj
      rw [this] at hk
      exact ⟨.exit j, st1, by simp only [exec, h1, Option.bind_some]; rw [if_neg hj], ρ1, L1, B1, M1, h2, hf, hk⟩
  | ret => exact ⟨.ret, st1, by simp only [exec, h1, Option.bind_some], ρ1, L1, B1, M1, h2, hf, hk⟩
theorem WP_cut {R : Type} {c : ACode} (r : R) (X : R → Ex × Ts × Bs × Ms) (lv lb : Ex → List Nat)
    (h : WP cf c L B M fun e L1 B1 M1 => pruneK L1 (lv e) fun L2 => pruneK B1 (lb e) fun B2 => X r = (e, L2, B2, M1)) (g : Q (X r).1 (X r).2.1 (X r).2.2.1 (X r).2.2.2) : WP cf c L B M Q := by
  refine ⟨fun ρ st hr => ?_⟩
  obtain ⟨e, st1, h1, ρ1, L1, B1, M1, h2, hf, hk⟩ := h.go ρ st hr
  obtain ⟨L', h3, _, hk⟩ := prune_sound h2.a hk
  obtain ⟨B', h4, hk⟩ := pruneB_sound h2.b hk
  rw [hk] at g
  exact ⟨e, st1, h1, ρ1, L', B', M1, ⟨h3, h4, h2.m⟩, hf, g⟩
end
section
variable {S R : Type}
def iterN (step : S → Option (S ⊕ R)) : Nat → S → Option R
  | 0, _ => none
  | n + 1, s => match step s with
    | none => none
    | some (.inl s') => iterN step n s'
    | some (.inr r) => some r
open Classical in
noncomputable def iter (step : S → Option (S ⊕ R)) (s : S) : Option R :=
  if h : ∃ n r, iterN step n s = some r then some h.choose_spec.choose else none
theorem iterN_mono {step : S → Option (S ⊕ R)} : ∀ {n : Nat} {s : S} {r : R}, iterN step n s = some r → iterN step (n + 1) s = some r
  | 0, _, _, h => by cases h
  | n + 1, s, r, h => by
    simp only [iterN] at h
    rw [iterN]
    cases hs : step s with
    | none => rw [hs] at h; cases h
    | some x =>
      rw [hs] at h
      cases x with
      | inl s' => exact iterN_mono h
      | inr r => exact h
theorem iterN_le {step : S → Option (S ⊕ R)} {n m : Nat} (hm : n ≤ m) {s : S} {r : R} (h : iterN step n s = some r) : iterN step m s = some r := by
  induction m with
  | zero => have : n = 0 := by omega
            subst this; exact h
  | succ m ih =>
    by_cases e : n = m + 1
    · subst e; exact h
    · exact iterN_mono (ih (by omega))
theorem iter_iff {step : S → Option (S ⊕ R)} {s : S} {r : R} : iter step s = some r ↔ ∃ n, iterN step n s = some r := by
  unfold iter
  constructor
  · intro h
    split at h
    · rename_i hx
      have := hx.choose_spec.choose_spec
      simp only [Option.some.injEq] at h
      rw [← h]
      exact ⟨_, this⟩
    · cases h
  · rintro ⟨n, h⟩
    have hx : ∃ n r, iterN step n s = some r := ⟨n, r, h⟩
    rw [dif_pos hx]
    have h1 := hx.choose_spec.choose_spec
    have h2 := iterN_le (Nat.le_max_left hx.choose n) h1
    have h3 := iterN_le (Nat.le_max_right hx.choose n) h
    rw [h2] at h3
    exact h3
theorem iter_inl {step : S → Option (S ⊕ R)} {s s' : S} (h : step s = some (.inl s')) : iter step s = iter step s' := by
  apply Option.ext
  intro r
  rw [iter_iff, iter_iff]
  constructor
  · rintro ⟨n, hn⟩
    cases n with
    | zero => cases hn
    | succ n => simp only [iterN, h] at hn; exact ⟨n, hn⟩
  · rintro ⟨n, hn⟩
    exact ⟨n + 1, by simp only [iterN, h]; exact hn⟩
theorem iter_inr {step : S → Option (S ⊕ R)} {s : S} {r : R} (h : step s = some (.inr r)) : iter step s = some r :=
  iter_iff.2 ⟨1, by simp only [iterN, h]⟩
theorem WP_iter {cf : CF} {L : Ts} {B : Bs} {M : Ms} {Q : Ex → Ts → Bs → Ms → Prop} {live : List Nat} {b : ACode} {step : S → Option (S ⊕ R)} {s0 : S} {r0 : R} (h : iter step s0 = some r0)
    (lb : List Nat) (I : S → Ts × Bs × Ms) (lv lb2 : Ex → List Nat) (X : R → Ex × Ts × Bs × Ms)
    (h0 : pruneK L live fun L0 => pruneK B lb fun B0 => I s0 = (L0, B0, M))
    (hs : ∀ s x, step s = some x → WP cf b (I s).1 (I s).2.1 (I s).2.2 fun e L1 B1 M1 => match e with
      | .normal => pruneK L1 live fun L2 => pruneK B1 lb fun B2 => ∃ s', x = .inl s' ∧ I s' = (L2, B2, M1)
      | .exit i => pruneK L1 (lv (.exit i)) fun L2 => pruneK B1 (lb2 (.exit i)) fun B2 => ∃ r, x = .inr r ∧ X r = (.exit i, L2, B2, M1)
      | .ret => pruneK L1 (lv .ret) fun L2 => pruneK B1 (lb2 .ret) fun B2 => ∃ r, x = .inr r ∧ X r = (.ret, L2, B2, M1))
    (g : Q (X r0).1 (X r0).2.1 (X r0).2.2.1 (X r0).2.2.2) : WP cf (.loop live b) L B M Q := by
  have key : ∀ n s r, iterN step n s = some r → ∀ ρ st, (∀ t v, fnd (I s).1 t = some v → t ∈ live) → Rel ρ (I s).1 (I s).2.1 (I s).2.2 st →
      ∃ e st', exec cf (.loop live b) st = some (e, st') ∧ ∃ ρ' L' B' M', Rel ρ' L' B' M' st' ∧ Fr ρ st.m ρ' st'.m ∧ X r = (e, L', B', M') := by
    intro n
    induction n with
    | zero => intro s r hn; cases hn
    | succ n ih =>
      intro s r hn ρ st hlive hR
      have hL' : Ag ρ (I s).1 (keep live st.σ) := fun t v hv => by
        unfold keep
        rw [if_pos (hlive t v hv)]; exact hR.a t v hv
      simp only [iterN] at hn
      cases hst : step s with
      | none => rw [hst] at hn; cases hn
      | some x =>
        rw [hst] at hn
        obtain ⟨e, st1, h1, ρ1, L1, B1, M1, h2, hf, hk⟩ := (hs s x hst).go ρ { st with σ := keep live st.σ } ⟨hL', hR.b, hR.m⟩
        have hstep := loopRes_step (round := fun st => exec cf b { st with σ := keep live st.σ }) (st := st)
        cases e with
        | normal =>
          obtain ⟨L2, h4, h5, hk⟩ := prune_sound h2.a hk
          obtain ⟨B2, h7, s', rfl, hI⟩ := pruneB_sound h2.b hk
          simp only at hn
          obtain ⟨e, st2, h6, ρ2, L3, B3, M3, h8, hf2, hX⟩ := ih s' r hn ρ1 st1 (by rw [hI]; exact h5) (by rw [hI]; exact ⟨h4, h7, h2.m⟩)
          refine ⟨e, st2, ?_, ρ2, L3, B3, M3, h8, hf.trans hf2, hX⟩
          simp only [exec] at h6 ⊢
          rw [hstep, h1]
          exact h6
        | exit i =>
          obtain ⟨L2, h4, h5, hk⟩ := prune_sound h2.a hk
          obtain ⟨B2, h7, r', rfl, hI⟩ := pruneB_sound h2.b hk
          simp only [Option.some.injEq] at hn
          subst hn
          refine ⟨.exit i, st1, ?_, ρ1, L2, B2, M1, ⟨h4, h7, h2.m⟩, hf, hI⟩
          simp only [exec]
          rw [hstep, h1]; rfl
        | ret =>
          obtain ⟨L2, h4, h5, hk⟩ := prune_sound h2.a hk
          obtain ⟨B2, h7, r', rfl, hI⟩ := pruneB_sound h2.b hk
          simp only [Option.some.injEq] at hn
          subst hn
          refine ⟨.ret, st1, ?_, ρ1, L2, B2, M1, ⟨h4, h7, h2.m⟩, hf, hI⟩
          simp only [exec]
          rw [hstep, h1]; rfl
  refine ⟨fun ρ st hR => ?_⟩
  obtain ⟨n, hn⟩ := iter_iff.1 h
  obtain ⟨L0, h1, h2, hk⟩ := prune_sound hR.a h0
  obtain ⟨B0, h3, hI⟩ := pruneB_sound hR.b hk
  obtain ⟨e, st', h4, ρ', L', B', M', h5, hf, hX⟩ := key n s0 r0 hn ρ st (by rw [hI]; exact h2) (by rw [hI]; exact ⟨h1, h3, hR.m⟩)
  rw [hX] at g
  exact ⟨e, st', h4, ρ', L', B', M', h5, hf, g⟩
end
def resW : List ARes → Ts → Bs → Ms → (List TV → Ms → Prop) → Prop
  | [], _, _, m, k => k [] m
  | .tmp s :: r, L, B, m, k => match fnd L s with
    | some v => resW r ((s, .undef) :: L) B m fun vs m' => k (v :: vs) m'
    | none => False
  | .cell s agg n :: r, L, B, m, k => match fnd L s with
    | some a => loadW agg n .take L B m a fun v B' m' => resW r L B' m' fun vs m'' => k (v :: vs) m''
    | none => False
def tupledT : List TV → TV
  | [v] => v
  | vs => .tuple vs
def argsT : Nat → List TV → Ts
  | _, [] => []
  | i, v :: r => (i, v) :: argsT (i + 1) r
def TV.flat0 : TV → Bool
  | .bool _ | .int _ _ | .str _ | .nilp | .nils | .sl _ _ _ | .nilf | .nili | .undef => true
  | .func _ cs => cs.isEmpty
  | _ => false
def TV.flat1 : TV → Bool
  | .agg cs => cs.all TV.flat0
  | v => v.flat0
def flatM (M : Ms) : Bool := M.all fun cs => cs.all TV.flat0
section
variable {ρ : List Nat} {cf : CF} {L : Ts} {B : Bs} {M : Ms} {st : St}
theorem resW_sound : ∀ {rs : List ARes} {ρ : List Nat} {L : Ts} {B : Bs} {M : Ms} {st : St} {k : List TV → Ms → Prop} (_ : Rel ρ L B M st) (_ : resW rs L B M k), ∃ vs st', getRes st rs = some (vs, st') ∧ ∃ ts M', Pw (Den ρ) ts vs ∧ Mg ρ M' st'.m ∧ Fr ρ st.m ρ st'.m ∧ k ts M'
  | [], ρ, L, B, M, st, k, h, hk => ⟨[], st, rfl, [], M, .nil, h.m, .refl _ _, hk⟩
  | .tmp s :: r, ρ, L, B, M, st, k, h, hk => by
    unfold resW at hk
    cases hs : fnd L s with
    | none => simp only [hs] at hk
    | some v =>
      simp only [hs] at hk
      obtain ⟨vs, st', e, ts, M', h1, h2, hf, hk⟩ := resW_sound (st := { st with σ := upd st.σ s .undef }) (h.sig (h.a.upd s (.undef' _))) hk
      exact ⟨st.σ s :: vs, st', by simp only [getRes, e, Option.bind_some], v :: ts, M', .cons (h.a s v hs) h1, h2, hf, hk⟩
  | .cell s agg n :: r, ρ, L, B, M, st, k, h, hk => by
    unfold resW at hk
    cases hs : fnd L s with
    | none => simp only [hs] at hk
    | some a =>
      simp only [hs] at hk
      obtain ⟨v, st1, e, t, B1, M1, hd, h1, hf1, hk⟩ := loadW_sound h (h.a s a hs) hk
      obtain ⟨vs, st', e3, ts, M', h2, h3, hf2, hk⟩ := resW_sound h1 hk
      exact ⟨v :: vs, st', by simp only [getRes, e, Option.bind_some, e3], t :: ts, M', .cons hd h2, h3, hf1.trans hf2, hk⟩
theorem argsT_den : ∀ {args : List TV} {args' : List V} (_ : Pw (Den ρ) args args') {i s : Nat} {t : TV}, fnd (argsT i args) s = some t → i ≤ s ∧ Den ρ t (args'.getD (s - i) .undef)
  | [], _, _, i, s, v, h => by cases h
  | x :: args, y :: args', .cons h1 h2, i, s, v, h => by
    unfold argsT at h
    rw [fnd_cons] at h
    split at h
    · rename_i e; subst e; cases h; simpa using h1
    · obtain ⟨h3, h4⟩ := argsT_den h2 h
      refine ⟨by omega, ?_⟩
      rw [show s - i = (s - (i + 1)) + 1 from by omega]
      simpa using h4
theorem Den.flat0 {t : TV} {v : V} (h : Den ρ t v) (hf : t.flat0 = true) : Den0 t v := by
  cases h with
  | base h => exact h
  | func f h =>
    cases h with
    | nil => exact .func f
    | cons _ _ => cases hf
  | _ => cases hf
theorem Den.low0' {t : TV} {v : V} (h : Den ρ t v) (hf : t.low0 = true) : Den0 t v := by
  cases h with
  | base h => exact h
  | func f h =>
    cases h with
    | nil => exact .func f
    | cons _ _ => cases hf
  | _ => cases hf
theorem Pw.all_imp {α β : Type} {R R' : α → β → Prop} {p : α → Bool} (hm : ∀ x y, R x y → p x = true → R' x y) {l : List α} {l' : List β} (h : Pw R l l') (ha : l.all p = true) : Pw R' l l' := by
  induction h with
  | nil => exact .nil
  | cons hr _ ih =>
    simp only [List.all_cons, Bool.and_eq_true] at ha
    exact .cons (hm _ _ hr ha.1) (ih ha.2)
theorem Den.flat1 {t : TV} {v : V} (h : Den ρ t v) (hf : t.flat1 = true) (ρ' : List Nat) : Den ρ' t v := by
  cases h with
  | agg h => exact .agg (Pw.all_imp (p := TV.flat0) (fun _ _ h hf => .base (h.flat0 hf)) h hf)
  | base h => exact .base h
  | func f h =>
    cases h with
    | nil => exact .func f .nil
    | cons _ _ => cases hf
  | _ => cases hf
theorem Den.lower1 {t : TV} {v : V} (h : Den ρ t v) (hf : t.low1 = true) (ρ' : List Nat) : Den ρ' t v := by
  cases h with
  | agg h => exact .agg (Pw.all_imp (p := TV.low0) (fun _ _ h hf => .base (h.low0' hf)) h hf)
  | base h => exact .base h
  | func f h =>
    cases h with
    | nil => exact .func f .nil
    | cons _ _ => cases hf
  | _ => cases hf
theorem Den.lower {t : TV} {v : V} (h : Den ρ t v) (hf : t.low2 = true) (ρ' : List Nat) : Den ρ' t v := by
  cases h with
  | tuple h => exact .tuple (Pw.all_imp (p := TV.low1) (fun _ _ h hf => h.lower1 hf ρ') h hf)
  | agg h => exact (Den.agg h).lower1 hf ρ'
  | base h => exact .base h
  | func f h =>
    cases h with
    | nil => exact .func f .nil
    | cons _ _ => cases hf
  | _ => cases hf
theorem tupled_den {ts : List TV} {vs : List V} (h : Pw (Den ρ) ts vs) : Den ρ (tupledT ts) (tupled vs) := by
  cases h with
  | nil => exact .tuple .nil
  | cons h t =>
    cases t with
    | nil => exact h
    | cons h2 t2 => exact .tuple (.cons h (.cons h2 t2))
theorem run_of {af : AFunc} {args : List TV} {K : List TV → Ms → Prop} (hl : Nat.beq args.length af.np = true)
    (h : WP cf af.body (argsT 0 args) [] M fun e L B M1 => match e with
      | .exit _ => False
      | _ => resW af.results L B M1 fun vs M2 => vs.all TV.ok1 = true ∧ K vs M2) {m : Am.Ms} {args' : List V} (hm : Mg ρ M m) (ha : Pw (Den ρ) args args') :
    ∃ vs m2 ρ' ts M2, runF cf af args' m = some (tupled vs, if (tupled vs).top2 ≤ m.length then m2.take m.length else m2) ∧ Pw (Den ρ') ts vs ∧ Mg ρ' M2 m2 ∧ Fr ρ m ρ' m2 ∧ K ts M2 := by
  obtain ⟨e, st, h1, ρ1, L, B, M1, hR, hf, hk⟩ := h.go ρ ⟨fun i => args'.getD i .undef, fun _ => [], m⟩ ⟨fun s v hv => by have := (argsT_den ha hv).2; simpa using this, fun s v hv => (nomatch hv), hm⟩
  have hlen : args'.length = af.np := by rw [← ha.length]; exact Nat.eq_of_beq_eq_true hl
  have fin : (resW af.results L B M1 fun vs M2 => vs.all TV.ok1 = true ∧ K vs M2) → (e = .normal ∨ e = .ret) → ∃ vs m2 ρ' ts M2, runF cf af args' m = some (tupled vs, if (tupled vs).top2 ≤ m.length then m2.take m.length else m2) ∧ Pw (Den ρ') ts vs ∧ Mg ρ' M2 m2 ∧ Fr ρ m ρ' m2 ∧ K ts M2 := fun hk he => by
    obtain ⟨vs, st', e2, ts, M2, h2, h3, hf2, ho, hK⟩ := resW_sound hR hk
    have hf3 := hf.trans hf2
    refine ⟨vs, st'.m, ρ1, ts, M2, ?_, h2, h3, hf3, hK⟩
    have er : result st af.results = some (tupled vs, st') := by
      unfold result
      rw [e2]
      simp only [Option.bind_some]
      rw [if_pos (Pw.all (p := TV.ok1) (q := V.ok1) (fun _ _ h ho => Den.ok1 h ho) h2 ho)]
      match vs with
      | [] => rfl
      | [v] => rfl
      | v :: w :: r => rfl
    unfold runF
    rw [if_pos hlen, h1]
    rcases he with rfl | rfl
    · simp only [Option.bind_some, er]; rw [if_pos hf3.2.1]
    · simp only [Option.bind_some, er]; rw [if_pos hf3.2.1]
  cases e with
  | normal => exact fin hk (.inl rfl)
  | ret => exact fin hk (.inr rfl)
  | exit i => exact hk.elim
theorem Fr.take {m m2 : Am.Ms} {e : List Nat} (h : Fr ρ m (ρ ++ e) m2) : Fr ρ m ρ (m2.take m.length) ∧ (m2.take m.length).length = m.length := by
  obtain ⟨_, h2, h3⟩ := h
  have hl : (m2.take m.length).length = m.length := by rw [List.length_take]; omega
  exact ⟨⟨⟨[], by simp, by simp⟩, by omega, fun c hc hn => by rw [List.getElem?_take, if_pos hc]; exact h3 c hc hn⟩, hl⟩
theorem Mg.take {m m2 : Am.Ms} {e : List Nat} {M2 : Ms} (h0 : Mg ρ M m) (h : Mg (ρ ++ e) M2 m2) (hd : ∀ (i b : Nat) (cs : List TV) (cs' : List V), ρ[i]? = some b → M2[i]? = some cs → Pw (Den (ρ ++ e)) cs cs' → Pw (Den ρ) cs cs') : Mg ρ (M2.take M.length) (m2.take m.length) := by
  have hl := h.2.1
  have hl0 := h0.2.1
  rw [List.length_append] at hl
  refine ⟨h0.1, by rw [List.length_take]; omega, fun i b hi => ?_⟩
  obtain ⟨cs, cs', h1, h2, h3⟩ := h.2.2 i b (by rw [List.getElem?_append_left (lt_of_get hi)]; exact hi)
  have hlt := lt_of_get hi
  refine ⟨cs, cs', ?_, ?_, hd i b cs cs' hi h1 h3⟩
  · rw [List.getElem?_take, if_pos (by omega)]; exact h1
  · rw [List.getElem?_take, if_pos (h0.lt (List.mem_of_getElem? hi))]; exact h2
theorem con_low {T : Table} {f : Nat} {af : AFunc} (hf : T.code f = some af) {args : List TV} {r : TV} {M' : Ms} (hl : Nat.beq args.length af.np = true)
    (h : WP (RF T) af.body (argsT 0 args) [] M fun e L B M1 => match e with
      | .exit _ => False
      | _ => resW af.results L B M1 fun vs M2 => vs.all TV.ok1 = true ∧ tupledT vs = r ∧ r.low2 = true ∧ M2.take M.length = M' ∧ flatM M' = true) : CallT false (RF T) f args M r M' := by
  intro ρ m args' hm ha
  obtain ⟨vs, m2, ρ', ts, M2, h1, h2, h3, hfr, rfl, hr, rfl, hfl⟩ := run_of hl h hm ha
  obtain ⟨e, rfl, _⟩ := hfr.1
  have hd := (tupled_den h2).lower hr ρ
  have ht : (tupled vs).top2 = 0 := hd.low2 hr
  rw [if_pos (by omega)] at h1
  obtain ⟨hf1, hf2⟩ := hfr.take
  refine ⟨_, _, ρ, RF_of hf h1, hd, hm.take h3 fun i b cs cs' hi hM hp => ?_, hf1, fun _ => hf2, fun hh => by cases hh⟩
  have hlt : i < M.length := by rw [← hm.2.1]; exact lt_of_get hi
  have hmem : cs ∈ M2.take M.length := List.mem_of_getElem? (i := i) (by rw [List.getElem?_take, if_pos hlt]; exact hM)
  have := List.all_eq_true.1 hfl cs hmem
  exact Pw.all_imp (p := TV.flat0) (fun _ _ h hf => .base (h.flat0 hf)) hp this
end
section
variable {cf : CF} {f : Nat} {args : List TV} {r : TV}
theorem CallT.quiet (h : CallT false cf f args [] r []) (hr : r.low2 = true) : CallT true cf f args [] r [] := by
  intro ρ m args' hm ha
  obtain ⟨r', m', ρ', h1, h2, h3, h4, h5, _⟩ := h ρ m args' hm ha
  refine ⟨r', m', ρ', h1, h2, h3, h4, h5, fun _ => ?_⟩
  have hρ : ρ = [] := List.length_eq_zero_iff.1 hm.2.1
  subst hρ
  refine List.ext_getElem? fun i => ?_
  by_cases hi : i < m.length
  · exact h4.2.2 i hi (by simp)
  · rw [List.getElem?_eq_none (by rw [h5 hr]; omega), List.getElem?_eq_none (by omega)]
theorem CallT.any {q : Bool} (h : CallT true cf f args [] r []) (hr : r.low2 = true) (M : Ms) (ha : args.all TV.flat1 = true) : CallT q cf f args M r M := by
  intro ρ m args' hm hd
  obtain ⟨r', m', ρ', h1, h2, _, _, _, h6⟩ := h [] m args' ⟨List.nodup_nil, rfl, fun i b hi => by simp at hi⟩ (Pw.all_imp (p := TV.flat1) (fun _ _ h hf => h.flat1 hf []) hd ha)
  have := h6 rfl
  subst this
  exact ⟨r', m', ρ, h1, h2.lower hr ρ, hm, .refl _ _, fun _ => rfl, fun _ => rfl⟩
def renT (π : List Nat) : TV → TV
  | .ptr i o => .ptr (π.getD i 0) o
  | t => t
def TV.argP : TV → Bool
  | .ptr j _ => Nat.beq j 0
  | t => t.flat1
theorem CallT.sub {q : Bool} {i : Nat} {c c' : List TV} (h : CallT q cf f args [c] r [c']) (hr : r.low2 = true) (M : Ms) (hi : M[i]? = some c) (ha : args.all TV.argP = true) (hc : c.all TV.flat0 = true) (hc' : c'.all TV.flat0 = true) : CallT q cf f (args.map (renT [i])) M r (M.set i c') := by
  intro ρ m args' hm hd
  obtain ⟨b, cs', hb, hcs, hpw⟩ := hm.has hi
  have hm0 : Mg [b] [c] m := ⟨by simp, rfl, fun j d hj => by
    match j, hj with
    | 0, hj =>
      simp only [List.getElem?_cons_zero, Option.some.injEq] at hj
      subst hj
      exact ⟨c, cs', rfl, hcs, Pw.all_imp (p := TV.flat0) (fun _ _ h hf => .base (h.flat0 hf)) hpw hc⟩
    | j + 1, hj => simp at hj⟩
  have hargs : Pw (Den [b]) args args' := by
    clear h
    induction args generalizing args' with
    | nil => cases hd; exact .nil
    | cons t ts ih =>
      rw [List.map_cons] at hd
      simp only [List.all_cons, Bool.and_eq_true] at ha
      cases hd with
      | cons hd1 hd2 =>
        refine .cons ?_ (ih ha.2 _ hd2)
        have flat : ∀ {t : TV} {v : V}, Den ρ t v → t.flat1 = true → Den [b] t v := fun h hf => h.flat1 hf _
        cases t with
        | ptr j o =>
          have hj : j = 0 := Nat.eq_of_beq_eq_true ha.1
          subst hj
          obtain ⟨b2, rfl, hb2⟩ := Den.ptr_inv (show Den ρ (.ptr i o) _ from hd1)
          rw [hb] at hb2
          cases hb2
          exact .ptr o rfl
        | _ => exact flat hd1 ha.1
  obtain ⟨r', m', ρ', h1, h2, h3, h4, h5, h6⟩ := h [b] m args' hm0 hargs
  obtain ⟨⟨e, rfl, heb⟩, h7, h8⟩ := h4
  have he : e = [] := by
    have := h3.2.1
    simp only [List.length_append, List.length_cons, List.length_nil] at this
    exact List.length_eq_zero_iff.1 (by omega)
  subst he
  obtain ⟨d, d', g1, g2, g3⟩ := h3.2.2 0 b rfl
  simp only [List.getElem?_cons_zero, Option.some.injEq] at g1
  subst g1
  refine ⟨r', m', ρ, h1, h2.lower hr ρ, ⟨hm.1, by rw [List.length_set]; exact hm.2.1, fun j x hj => ?_⟩, ⟨⟨[], by simp, by simp⟩, h7, fun x hx hn => h8 x hx (fun hh => hn ?_)⟩, h5, h6⟩
  · obtain ⟨y, y', k1, k2, k3⟩ := hm.2.2 j x hj
    by_cases hij : i = j
    · subst hij
      rw [hb] at hj; cases hj
      exact ⟨_, d', List.getElem?_set_self (lt_of_get k1), g2, Pw.all_imp (p := TV.flat0) (fun _ _ h hf => .base (h.flat0 hf)) g3 hc'⟩
    · have hne : x ∉ [b] := fun hh => by
        rw [List.mem_singleton.1 hh] at hj
        exact hij (nodup_inj hm.1 hb hj)
      exact ⟨y, y', by rw [List.getElem?_set_ne hij]; exact k1, by rw [h8 x (lt_of_get k2) hne]; exact k2, k3⟩
  · rw [List.mem_singleton.1 hh]; exact List.mem_of_getElem? hb
end
end Go.Proofs.YtggbcchebiedjaaDoor.Am.T

namespace Go.Proofs.YtggbcchebiedjaaDoor.Am.T
open Go.Proofs.YtggbcchebiedjaaDoor.Am
abbrev w64 (n : Int) : Int := IntKind.wrap .i64 n
abbrev wu64 (n : Int) : Int := IntKind.wrap .u64 n
abbrev w32 (n : Int) : Int := IntKind.wrap .i32 n
abbrev w8 (n : Int) : Int := IntKind.wrap .u8 n
abbrev iAnd (k : IntKind) (n p : Int) : Int := k.wrap ((BitVec.ofInt k.bits n &&& BitVec.ofInt k.bits p).toNat)
abbrev iOr (k : IntKind) (n p : Int) : Int := k.wrap ((BitVec.ofInt k.bits n ||| BitVec.ofInt k.bits p).toNat)
abbrev iAndNot (k : IntKind) (n p : Int) : Int := k.wrap ((BitVec.ofInt k.bits n &&& ~~~ (BitVec.ofInt k.bits p)).toNat)
abbrev iShl (k : IntKind) (n p : Int) : Int := k.wrap (n * 2 ^ min p.toNat k.bits)
abbrev iShr (k : IntKind) (n p : Int) : Int := n.fdiv (2 ^ min p.toNat k.bits)
def letB {α : Type} (b : Bool) (f : Bool → Option α) : Option α := f b
theorem letB_inv {α : Type} {b c : Bool} {f : Bool → Option α} {r : α} (hc : b = c) (h : letB b f = some r) : f c = some r := by subst hc; exact h
theorem bind_inv {α β : Type} {o : Option α} {f : α → Option β} {r : β} (h : o.bind f = some r) : ∃ x, o = some x ∧ f x = some r := Option.bind_eq_some_iff.1 h
theorem bif_t {α : Type} {b : Bool} {x y : α} {r : α} (hb : b = true) (h : (bif b then x else y) = r) : x = r := by subst hb; exact h
theorem bif_f {α : Type} {b : Bool} {x y : α} {r : α} (hb : b = false) (h : (bif b then x else y) = r) : y = r := by subst hb; exact h
section
variable {α : Type}
def idx (l : List α) (i : Int) : Option α := if 0 ≤ i then l[i.toNat]? else none
theorem idx_nn {l : List α} {i : Int} {x : α} (h : idx l i = some x) : 0 ≤ i := by
  unfold idx at h; split at h
  · assumption
  · cases h
theorem idx_at {l : List α} {i : Int} {x : α} (h : idx l i = some x) : l[i.toNat]? = some x := by
  unfold idx at h; split at h
  · exact h
  · cases h
theorem idx_lt {l : List α} {i : Int} {x : α} (h : idx l i = some x) : i.toNat < l.length := lt_of_get (idx_at h)
theorem idx_get {l : List α} {i : Int} {x : α} (e : α → List TV) (h : idx l i = some x) : (l.map e)[i.toNat]? = some (e x) := by
  rw [List.getElem?_map, idx_at h]; rfl
theorem idx_len {l : List α} {i : Int} {x : α} (e : α → List TV) (h : idx l i = some x) : 0 ≤ i ∧ i.toNat < (l.map e).length := ⟨idx_nn h, by rw [List.length_map]; exact idx_lt h⟩
def upI (l : List α) (i : Int) (x : α) : List α := l.set i.toNat x
theorem upI_map {l : List α} {i : Int} {x : α} {e : α → List TV} {c : List TV} (h : e x = c) : (upI l i x).map e = (l.map e).set i.toNat c := by
  subst h; unfold upI; rw [List.map_set]
def app (a b : List α) : Option (List α) := if a.length + b.length ≤ most then some (a ++ b) else none
theorem app_le {a b y : List α} (e : α → List TV) (h : app a b = some y) : (a.map e).length + (b.map e).length ≤ most := by
  unfold app at h; split at h
  · simpa using ‹_›
  · cases h
theorem app_eq {a b y : List α} (e : α → List TV) (h : app a b = some y) : y.map e = a.map e ++ b.map e := by
  unfold app at h; split at h
  · cases h; exact List.map_append
  · cases h
theorem app_is {a b y : List α} (h : app a b = some y) : y = a ++ b := by
  unfold app at h; split at h
  · cases h; rfl
  · cases h
theorem app_some {a b : List α} (h : a.length + b.length ≤ most) : app a b = some (a ++ b) := by unfold app; rw [if_pos h]
def subL (l : List α) (a b : Int) : Option (List α) := if 0 ≤ a ∧ a ≤ b ∧ b ≤ l.length then some ((l.drop a.toNat).take (b.toNat - a.toNat)) else none
def subA (l : List α) (a : Int) : Option (List α) := if 0 ≤ a ∧ a ≤ l.length then some (l.drop a.toNat) else none
def subB (l : List α) (b : Int) : Option (List α) := if 0 ≤ b ∧ b ≤ l.length then some (l.take b.toNat) else none
theorem subL_inv {l y : List α} {a b : Int} (h : subL l a b = some y) : 0 ≤ a ∧ a ≤ b ∧ b ≤ l.length ∧ y = (l.drop a.toNat).take (b.toNat - a.toNat) := by
  unfold subL at h; split at h
  · cases h; rename_i hh; exact ⟨hh.1, hh.2.1, hh.2.2, rfl⟩
  · cases h
theorem subA_inv {l y : List α} {a : Int} (h : subA l a = some y) : 0 ≤ a ∧ a ≤ l.length ∧ y = l.drop a.toNat := by
  unfold subA at h; split at h
  · cases h; rename_i hh; exact ⟨hh.1, hh.2, rfl⟩
  · cases h
theorem subB_inv {l y : List α} {b : Int} (h : subB l b = some y) : 0 ≤ b ∧ b ≤ l.length ∧ y = l.take b.toNat := by
  unfold subB at h; split at h
  · cases h; rename_i hh; exact ⟨hh.1, hh.2, rfl⟩
  · cases h
theorem subL_b {l y : List α} {a b : Int} (h : subL l a b = some y) : 0 ≤ b := by have := subL_inv h; omega
theorem subL_a {l y : List α} {a b : Int} (h : subL l a b = some y) : 0 ≤ a := (subL_inv h).1
theorem subA_a {l y : List α} {a : Int} (h : subA l a = some y) : 0 ≤ a := (subA_inv h).1
theorem subA_le {l y : List α} {a : Int} (e : α → List TV) (h : subA l a = some y) : a.toNat ≤ (l.map e).length ∧ (l.map e).length ≤ (l.map e).length := by
  have := subA_inv h; rw [List.length_map]; omega
theorem subA_eq {l y : List α} {a : Int} (e : α → List TV) (h : subA l a = some y) : y.map e = ((l.map e).drop a.toNat).take ((l.map e).length - a.toNat) := by
  obtain ⟨_, _, rfl⟩ := subA_inv h; rw [List.map_drop, List.take_of_length_le (by rw [List.length_drop]; omega)]
theorem subB_b {l y : List α} {b : Int} (h : subB l b = some y) : 0 ≤ b := (subB_inv h).1
theorem subB_le {l y : List α} {b : Int} (e : α → List TV) (h : subB l b = some y) : 0 ≤ b.toNat ∧ b.toNat ≤ (l.map e).length := by
  have := subB_inv h; rw [List.length_map]; omega
theorem subB_eq {l y : List α} {b : Int} (e : α → List TV) (h : subB l b = some y) : y.map e = ((l.map e).drop 0).take (b.toNat - 0) := by
  obtain ⟨_, _, rfl⟩ := subB_inv h; rw [List.map_take]; rfl
theorem subL_les {l y : List α} {a b : Int} (h : subL l a b = some y) : a.toNat ≤ b.toNat ∧ b.toNat ≤ l.length := by
  have := subL_inv h; omega
theorem subL_eqs {l y : List α} {a b : Int} (h : subL l a b = some y) : y = (l.drop a.toNat).take (b.toNat - a.toNat) := (subL_inv h).2.2.2
end
def bstr (l : List Int) : Option (List Int) := bif l.all fun b => decide (0 ≤ b ∧ b < 256) then some l else none
theorem bstr_inv {l y : List Int} (h : bstr l = some y) : l.map by8 = y.map by8 ∧ ∀ b ∈ y, 0 ≤ b ∧ b < 256 := by
  unfold bstr at h
  cases ha : l.all fun b => decide (0 ≤ b ∧ b < 256) with
  | true =>
    rw [ha] at h
    simp only [cond_true, Option.some.injEq] at h
    subst h
    exact ⟨rfl, fun b hb => of_decide_eq_true (List.all_eq_true.1 ha b hb)⟩
  | false => rw [ha] at h; cases h
def sadd (a b : List Int) : Option (List Int) := if a.length + b.length ≤ 4611686018427387904 then some (a ++ b) else none
theorem sadd_le {a b y : List Int} (h : sadd a b = some y) : a.length + b.length ≤ 4611686018427387904 := by
  unfold sadd at h; split at h
  · assumption
  · cases h
theorem sadd_eq {a b y : List Int} (h : sadd a b = some y) : y = a ++ b := by
  unfold sadd at h; split at h
  · cases h; rfl
  · cases h
def ei64 (n : Int) : List TV := [.int .i64 n]
def ei32 (n : Int) : List TV := [.int .i32 n]
theorem WPO_then {cf : CF} {L : Ts} {B : Bs} {M : Ms} {d : Bool} {os : List AOper} {K : Ts → Bs → Ms → Prop} (n : Nat)
    (h : WPO d cf (os.take n) L B M fun L1 B1 M1 => WPO d cf (os.drop n) L1 B1 M1 K) : WPO d cf os L B M K := by
  refine ⟨fun ρ st hr => ?_⟩
  obtain ⟨st1, e1, ρ1, L1, B1, M1, h1, hf1, hk⟩ := h.go ρ st hr
  obtain ⟨st2, e2, ρ2, L3, B3, M3, h4, hf2, hk⟩ := hk.go ρ1 st1 h1
  refine ⟨st2, ?_, ρ2, L3, B3, M3, h4, hf1.trans hf2, hk⟩
  rw [← List.take_append_drop n os]
  cases d with
  | false => simp only [Bool.false_eq_true, if_false] at e1 e2 ⊢; rw [runOps_append, e1]; exact e2
  | true => simp only [if_true] at e1 e2 ⊢; rw [runD_append, e1]; exact e2
end Go.Proofs.YtggbcchebiedjaaDoor.Am.T

namespace Go.Proofs.YtggbcchebiedjaaDoor.Am.T
variable {ρ : List Nat} {cf : CF} {f : Nat} {args : List TV} {M : Ms} {r : TV}
theorem fr_refl (ρ : List Nat) (m : Am.Ms) : Fr ρ m ρ m := ⟨⟨[], (List.append_nil _).symm, fun _ h => by cases h⟩, Nat.le_refl _, fun _ _ _ => rfl⟩
theorem CallT.pure (h : ∀ ρ m args', Pw (Den ρ) args args' → ∃ r', cf f args' m = some (r', m) ∧ Den ρ r r') : CallT true cf f args M r M := fun ρ m a hM ha =>
  let ⟨r', e, hd⟩ := h ρ m a ha
  ⟨r', m, ρ, e, hd, hM, fr_refl ρ m, fun _ => rfl, fun _ => rfl⟩
theorem CallT.law {q : Bool} {b : Bool} {args' : List V} (h : CallT q cf f args [] (.bool b) []) (ha : Pw (Den []) args args') : ∃ m', cf f args' [] = some (.bool b, m') := by
  obtain ⟨r', m', ρ', e, hd, _, _, _, _⟩ := h [] [] args' ⟨List.nodup_nil, rfl, fun i b h => by cases h⟩ ha
  cases hd with
  | base hd => cases hd; exact ⟨m', e⟩
theorem pw_nil {α β : Type} {R : α → β → Prop} {l : List β} (h : Pw R [] l) : l = [] := by cases h; rfl
theorem pw_cons {α β : Type} {R : α → β → Prop} {a : α} {s : List α} {l : List β} (h : Pw R (a :: s) l) : ∃ b l', l = b :: l' ∧ R a b ∧ Pw R s l' := by cases h with | cons h t => exact ⟨_, _, rfl, h, t⟩
theorem den_sl {w : Bool} {z : Nat} {xs : List (List TV)} {v : V} (h : Den ρ (.sl w z xs) v) : (v = .nils ∧ xs = []) ∨ ∃ ys, v = .slice w z ys ∧ Pw (Pw Den0) xs ys := by
  cases h with
  | base h =>
    cases h with
    | sl _ _ h => exact .inr ⟨_, rfl, h⟩
    | sln => exact .inl ⟨rfl, rfl⟩
end Go.Proofs.YtggbcchebiedjaaDoor.Am.T

set_option linter.all false
namespace Go.Proofs.YtggbcchebiedjaaDoor.Am.Esc
open Go.Proofs.YtggbcchebiedjaaDoor.Am.T
def tvo {α : Type} (z : Nat) (enc : α → List TV) : Option (List α) → TV
  | some l => .sl true z (l.map enc)
  | none => .undef
noncomputable def slices_Repeat_31 (x : List Int) (n : Int) : Option (List Int) := match x with
  | [r] => if 0 ≤ n ∧ n ≤ 3 then some (List.replicate n.toNat r) else none
  | _ => none
theorem slices_Repeat_31_ok {x : List Int} {n : Int} {r : List Int} (h : slices_Repeat_31 x n = some r) : CallT true (RF ET) 31 [.sl false 1 (List.map ei32 x), .int .i64 n] [] (.sl true 1 (List.map ei32 r)) [] := by
  unfold slices_Repeat_31 at h
  split at h
  · rename_i c
    split at h
    · rename_i hc
      cases h
      refine CallT.pure fun ρ m a ha => ?_
      obtain ⟨y, _, rfl, hy, ha⟩ := pw_cons ha
      obtain ⟨z, _, rfl, hz, ha⟩ := pw_cons ha
      rw [pw_nil ha, hz.int_inv]
      rcases den_sl hy with ⟨rfl, e⟩ | ⟨ys, rfl, hp⟩
      · simp at e
      · have hp : Pw (Pw Den0) [[.int .i32 c]] ys := hp
        cases hp with
        | cons h1 h2 =>
          cases h2
          cases h1 with
          | cons h3 h4 =>
            cases h4
            cases h3
            refine ⟨.slice true 1 (List.replicate n.toNat [.int .i32 c]), RF_ext rfl ?_, .base (.sl _ _ ?_)⟩
            · exact if_pos hc
            · rw [List.map_replicate]
              exact Pw.replicate (.cons (.int _ _) .nil) _
    · cases h
  · cases h
structure Reader where
  waits : List Int
def Reader.c (x : Reader) : List TV := [.sl false 1 (List.map by8 x.waits)]
structure ActM where
  Kind : Int
  R : Int
  Final : Int
  Priv : Int
  Inter : List Int
  Params : Option (List Int)
  Text : List Int
def ActM.m (x : ActM) : List TV := [.int .i64 x.Kind, .int .i32 x.R, .int .u8 x.Final, .int .u8 x.Priv, .str x.Inter, tvo 1 ei64 x.Params, .str x.Text]
theorem ActM.flat (x : ActM) : (ActM.m x).all TV.flat0 = true := by
  unfold ActM.m
  cases x.Params <;> rfl
structure Act where
  Kind : Int
  R : Int
  Final : Int
  Priv : Int
  Inter : List Int
  Params : List Int
  Text : List Int
def Act.c (x : Act) : List TV := [.int .i64 x.Kind, .int .i32 x.R, .int .u8 x.Final, .int .u8 x.Priv, .str x.Inter, .sl true 1 (List.map ei64 x.Params), .str x.Text]
def Act.e (x : Act) : List TV := [.int .i64 x.Kind, .int .i32 x.R, .int .u8 x.Final, .int .u8 x.Priv, .str x.Inter, .sl false 1 (List.map ei64 x.Params), .str x.Text]
structure ParserM where
  text : Reader
  in_ : Int
  spoiled : Bool
  first : Bool
  act : ActM
  count : Int
  payload : List Int
  out : List Act
def ParserM.m (x : ParserM) : List TV := [.sl false 1 (List.map by8 x.text.waits), .int .i64 x.in_, .bool x.spoiled, .bool x.first, .int .i64 x.act.Kind, .int .i32 x.act.R, .int .u8 x.act.Final, .int .u8 x.act.Priv, .str x.act.Inter, tvo 1 ei64 x.act.Params, .str x.act.Text, .int .i64 x.count, .sl true 1 (List.map by8 x.payload), .sl true 7 (List.map Act.e x.out)]
theorem ParserM.flat (x : ParserM) : (ParserM.m x).all TV.flat0 = true := by
  unfold ParserM.m
  cases x.act.Params <;> rfl
noncomputable def esc_Parser_say (p : ParserM) (a : Act) : Option ParserM :=
  (app p.out [a]).bind fun x1 =>
  some ({ p with out := x1 })
set_option maxRecDepth 20000 in
theorem esc_Parser_say_ok {p : ParserM} {a : Act} {r : ParserM} (h : esc_Parser_say p a = some r) : CallT false (RF ET) 28 [.ptr 0 0, .agg (Act.e a)] [(ParserM.m p)] (.tuple []) [(ParserM.m r)] := by
  refine con_low (af := a28) rfl rfl ?_
  unfold esc_Parser_say at h
  refine WP_seq ?_
  refine WP_reg [0, 3] [0] ?_
  refine WPO_f ?_
  refine WP_reg [] [0] ?_
  refine WPO_t ?_
  refine ⟨.sl false 1 [], .sl _ _, ?_⟩
  refine ⟨List.map Act.e ([a] : List Act), rfl, ?_⟩
  obtain ⟨x1, hx1, h⟩ := bind_inv h
  refine And.intro (app_le Act.e hx1) ⟨_, app_eq Act.e hx1, ?_⟩
  cases h
  exact ⟨rfl, rfl, rfl, rfl, by simp only [flatM, List.all_cons, List.all_nil, ParserM.flat, Bool.and_self]⟩
noncomputable def esc_Parser_print_l1 (rs : List Int) (t8 : Int) (p' : ParserM) : Option ((Int × ParserM) ⊕ ParserM) :=
  letB (decide (t8 < (rs.length : Int))) fun c1 =>
  bif c1 then (
    (idx rs t8).bind fun x3 =>
    (esc_Parser_say p' (Act.mk 1 x3 0 0 [] [] [])).bind fun y4 =>
    some (.inl (w64 (t8 + 1), y4)))
  else (
    some (.inr p'))
noncomputable def esc_Parser_print (p : ParserM) (rs : List Int) : Option ParserM :=
  (iter (fun s => esc_Parser_print_l1 rs s.1 s.2 : (Int × ParserM) → Option ((Int × ParserM) ⊕ ParserM)) (0, p)).bind fun j5 =>
  some j5
set_option maxRecDepth 20000 in
theorem esc_Parser_print_ok {p : ParserM} {rs : List Int} {r : ParserM} (h : esc_Parser_print p rs = some r) : CallT false (RF ET) 24 [.ptr 0 0, .sl false 1 (List.map ei32 rs)] [(ParserM.m p)] (.tuple []) [(ParserM.m r)] := by
  refine con_low (af := a24) rfl rfl ?_
  unfold esc_Parser_print at h
  refine WP_seq ?_
  refine WP_reg [0, 6, 7, 8] [] ?_
  refine WPO_f ?_
  refine ⟨_, (List.length_map ..).symm, ?_⟩
  refine WP_block ?_
  obtain ⟨j5, hj5, h⟩ := bind_inv h
  refine WP_iter hj5 [] (fun s => ([(0, .ptr 0 0), (6, .sl false 1 (List.map ei32 rs)), (7, .int .i64 (rs.length : Int)), (8, .int .i64 s.1)], [], [(ParserM.m s.2)])) (fun _ => []) (fun _ => []) (fun z => (.exit 0, [], [], [(ParserM.m z)])) ?_ ?_ ?_
  · exact rfl
  · clear h
    rintro ⟨t8, p'⟩ x h
    replace h : esc_Parser_print_l1 rs t8 p' = some x := h
    unfold esc_Parser_print_l1 at h
    show T.WP _ _ [(0, .ptr 0 0), (6, .sl false 1 (List.map ei32 rs)), (7, .int .i64 (rs.length : Int)), (8, .int .i64 t8)] [] [(ParserM.m p')] _
    refine WP_seq ?_
    refine WP_reg [0, 6, 7, 8, 9] [] ?_
    refine WPO_f ?_
    refine fun c1 hc1 => ?_
    replace h := letB_inv hc1 h
    refine WP_seq ?_
    refine WP_cond (b := c1) rfl (fun hb2 => ?_) (fun hb2 => ?_)
    · replace h := bif_t hb2 h
      refine WP_skip ?_
      refine WP_seq ?_
      refine WP_block ?_
      refine WP_seq ?_
      refine WP_reg [0, 5, 6, 7, 8] [] ?_
      refine WPO_f ?_
      obtain ⟨x3, hx3, h⟩ := bind_inv h
      refine And.intro (idx_nn hx3) ⟨_, idx_get ei32 hx3, ?_⟩
      refine WP_reg [0, 6, 7, 8] [] ?_
      refine WPO_f ?_
      refine ⟨.sl true 1 [], .sl _ _, ?_⟩
      obtain ⟨y4, hy4, h⟩ := bind_inv h
      refine ⟨_, _, CallT.sub (i := 0) (esc_Parser_say_ok hy4) rfl _ rfl rfl (ParserM.flat _) (ParserM.flat _), ?_⟩
      refine WP_reg [0, 6, 7, 8] [] ?_
      refine WPO_f ?_
      cases h
      exact ⟨_, rfl, rfl⟩
    · replace h := bif_f hb2 h
      refine WP_exit ?_
      cases h
      exact ⟨_, rfl, rfl⟩
  cases h
  exact ⟨rfl, rfl, rfl, rfl, by simp only [flatM, List.all_cons, List.all_nil, ParserM.flat, Bool.and_self]⟩
noncomputable def esc_state_on (s_ : Int) : Option Nat :=
  letB (decide (s_ = 1)) fun c1 =>
  bif c1 then (
    some 32)
  else (
    letB (decide (s_ = 2)) fun c3 =>
    bif c3 then (
      some 33)
    else (
      letB (decide (s_ = 3)) fun c5 =>
      bif c5 then (
        some 34)
      else (
        letB (decide (s_ = 4)) fun c7 =>
        bif c7 then (
          some 35)
        else (
          some 36))))
set_option maxRecDepth 20000 in
theorem esc_state_on_ok {s_ : Int} {r : Nat} (h : esc_state_on s_ = some r) : CallT true (RF ET) 26 [.int .i64 s_] [] (.func r []) [] := by
  refine CallT.quiet (con_low (af := a26) rfl rfl ?_) rfl
  unfold esc_state_on at h
  refine WP_seq ?_
  refine WP_reg [0] [] ?_
  refine WPO_f ?_
  refine WP_seq ?_
  refine WP_seq ?_
  refine WP_reg [3] [] ?_
  refine WPO_f ?_
  refine WP_block ?_
  refine WP_seq ?_
  refine WP_reg [3, 4] [] ?_
  refine WPO_f ?_
  refine fun c1 hc1 => ?_
  replace h := letB_inv hc1 h
  refine WP_cond (b := c1) rfl (fun hb2 => ?_) (fun hb2 => ?_)
  · replace h := bif_t hb2 h
    refine WP_seq ?_
    refine WP_reg [2] [] ?_
    refine WPO_f ?_
    refine WP_ret ?_
    cases h
    exact ⟨rfl, rfl, rfl, rfl, rfl⟩
  · replace h := bif_f hb2 h
    refine WP_seq ?_
    refine WP_reg [3, 6] [] ?_
    refine WPO_f ?_
    refine fun c3 hc3 => ?_
    replace h := letB_inv hc3 h
    refine WP_cond (b := c3) rfl (fun hb4 => ?_) (fun hb4 => ?_)
    · replace h := bif_t hb4 h
      refine WP_seq ?_
      refine WP_reg [2] [] ?_
      refine WPO_f ?_
      refine WP_ret ?_
      cases h
      exact ⟨rfl, rfl, rfl, rfl, rfl⟩
    · replace h := bif_f hb4 h
      refine WP_seq ?_
      refine WP_reg [3, 8] [] ?_
      refine WPO_f ?_
      refine fun c5 hc5 => ?_
      replace h := letB_inv hc5 h
      refine WP_cond (b := c5) rfl (fun hb6 => ?_) (fun hb6 => ?_)
      · replace h := bif_t hb6 h
        refine WP_seq ?_
        refine WP_reg [2] [] ?_
        refine WPO_f ?_
        refine WP_ret ?_
        cases h
        exact ⟨rfl, rfl, rfl, rfl, rfl⟩
      · replace h := bif_f hb6 h
        refine WP_seq ?_
        refine WP_reg [10] [] ?_
        refine WPO_f ?_
        refine fun c7 hc7 => ?_
        replace h := letB_inv hc7 h
        refine WP_cond (b := c7) rfl (fun hb8 => ?_) (fun hb8 => ?_)
        · replace h := bif_t hb8 h
          refine WP_seq ?_
          refine WP_reg [2] [] ?_
          refine WPO_f ?_
          refine WP_ret ?_
          cases h
          exact ⟨rfl, rfl, rfl, rfl, rfl⟩
        · replace h := bif_f hb8 h
          refine WP_skip ?_
          refine WP_seq ?_
          refine WP_reg [2] [] ?_
          refine WPO_f ?_
          refine WP_ret ?_
          cases h
          exact ⟨rfl, rfl, rfl, rfl, rfl⟩
noncomputable def esc_Parser_begin (p : ParserM) (in_ : Int) : Option ParserM :=
  some (ParserM.mk p.text in_ false true (ActM.mk 0 0 0 0 [] (some []) []) 0 [] p.out)
set_option maxRecDepth 20000 in
theorem esc_Parser_begin_ok {p : ParserM} {in_ : Int} {r : ParserM} (h : esc_Parser_begin p in_ = some r) : CallT false (RF ET) 27 [.ptr 0 0, .int .i64 in_] [(ParserM.m p)] (.tuple []) [(ParserM.m r)] := by
  refine con_low (af := a27) rfl rfl ?_
  unfold esc_Parser_begin at h
  refine WP_seq ?_
  refine WP_reg [0] [] ?_
  refine WPO_f ?_
  refine WP_reg [] [] ?_
  refine WPO_f ?_
  refine ⟨.sl true 1 [], .sl _ _, ?_⟩
  refine ⟨.sl true 1 [], .sl _ _, ?_⟩
  cases h
  exact ⟨rfl, rfl, rfl, rfl, by simp only [flatM, List.all_cons, List.all_nil, ParserM.flat, Bool.and_self]⟩
noncomputable def esc_Parser_inter (p : ParserM) (c : Int) : Option ParserM :=
  letB (decide ((p.act.Inter.length : Int) = 2)) fun c1 =>
  bif c1 then (
    some ({ p with spoiled := true }))
  else (
    (sadd p.act.Inter (runeT (w32 c))).bind fun x3 =>
    some ({ p with act := { p.act with Inter := x3 } }))
set_option maxRecDepth 20000 in
theorem esc_Parser_inter_ok {p : ParserM} {c : Int} {r : ParserM} (h : esc_Parser_inter p c = some r) : CallT false (RF ET) 39 [.ptr 0 0, .int .u8 c] [(ParserM.m p)] (.tuple []) [(ParserM.m r)] := by
  refine con_low (af := a39) rfl rfl ?_
  unfold esc_Parser_inter at h
  refine WP_seq ?_
  refine WP_seq ?_
  refine WP_reg [0, 1, 10] [] ?_
  refine WPO_f ?_
  refine fun c1 hc1 => ?_
  replace h := letB_inv hc1 h
  refine WP_cond (b := c1) rfl (fun hb2 => ?_) (fun hb2 => ?_)
  · replace h := bif_t hb2 h
    refine WP_seq ?_
    refine WP_reg [] [] ?_
    refine WPO_f ?_
    refine WP_ret ?_
    cases h
    exact ⟨rfl, rfl, rfl, rfl, by simp only [flatM, List.all_cons, List.all_nil, ParserM.flat, Bool.and_self]⟩
  · replace h := bif_f hb2 h
    refine WP_skip ?_
    refine WP_reg [] [] ?_
    refine WPO_f ?_
    obtain ⟨x3, hx3, h⟩ := bind_inv h
    refine And.intro (sadd_le hx3) ⟨_, sadd_eq hx3, ?_⟩
    cases h
    exact ⟨rfl, rfl, rfl, rfl, by simp only [flatM, List.all_cons, List.all_nil, ParserM.flat, Bool.and_self]⟩
noncomputable def slices_Index_51_l1 (s_ : List Int) (v : Int) (t8 : Int) : Option (Int ⊕ (Int ⊕ Unit)) :=
  letB (decide (t8 < (s_.length : Int))) fun c1 =>
  bif c1 then (
    (idx s_ t8).bind fun x3 =>
    letB (decide (v = x3)) fun c4 =>
    bif c4 then (
      some (.inr (.inl t8)))
    else (
      some (.inl (w64 (t8 + 1)))))
  else (
    some (.inr (.inr ())))
noncomputable def slices_Index_51 (s_ : List Int) (v : Int) : Option Int :=
  (iter (fun s => slices_Index_51_l1 s_ v s : Int → Option (Int ⊕ (Int ⊕ Unit))) 0).bind fun j6 =>
  match j6 with
  | .inl z7 => (
    some z7)
  | .inr z8 => (
    some (-1))
set_option maxRecDepth 20000 in
theorem slices_Index_51_ok {s_ : List Int} {v : Int} {r : Int} (h : slices_Index_51 s_ v = some r) : CallT true (RF ET) 51 [.sl false 1 (List.map by8 s_), .int .u8 v] [] (.int .i64 r) [] := by
  refine CallT.quiet (con_low (af := a51) rfl rfl ?_) rfl
  unfold slices_Index_51 at h
  refine WP_seq ?_
  refine WP_reg [0, 1] [] ?_
  refine WPO_f ?_
  refine WP_seq ?_
  refine WP_seq ?_
  refine WP_reg [0, 1, 7, 8] [] ?_
  refine WPO_f ?_
  refine ⟨_, (List.length_map ..).symm, ?_⟩
  refine WP_block ?_
  obtain ⟨j6, hj6, h⟩ := bind_inv h
  refine WP_iter hj6 [] (fun s => ([(0, .sl false 1 (List.map by8 s_)), (1, .int .u8 v), (7, .int .i64 (s_.length : Int)), (8, .int .i64 s)], [], [])) (fun e => match e with | .ret => [4] | .exit 0 => [] | _ => []) (fun e => match e with | .ret => [] | .exit 0 => [] | _ => []) (fun r => match r with | .inl z => (.ret, [(4, .int .i64 z)], [], []) | .inr z => (.exit 0, [], [], [])) ?_ ?_ ?_
  · exact rfl
  · clear h
    rintro t8 x h
    replace h : slices_Index_51_l1 s_ v t8 = some x := h
    unfold slices_Index_51_l1 at h
    show T.WP _ _ [(0, .sl false 1 (List.map by8 s_)), (1, .int .u8 v), (7, .int .i64 (s_.length : Int)), (8, .int .i64 t8)] [] [] _
    refine WP_seq ?_
    refine WP_reg [0, 1, 7, 8, 9] [] ?_
    refine WPO_f ?_
    refine fun c1 hc1 => ?_
    replace h := letB_inv hc1 h
    refine WP_seq ?_
    refine WP_cond (b := c1) rfl (fun hb2 => ?_) (fun hb2 => ?_)
    · replace h := bif_t hb2 h
      refine WP_skip ?_
      refine WP_seq ?_
      refine WP_block ?_
      refine WP_seq ?_
      refine WP_reg [0, 1, 5, 7, 8] [] ?_
      refine WPO_f ?_
      refine WP_seq ?_
      refine WP_reg [0, 1, 5, 7, 8, 16] [] ?_
      refine WPO_f ?_
      obtain ⟨x3, hx3, h⟩ := bind_inv h
      refine And.intro (idx_nn hx3) ⟨_, idx_get by8 hx3, ?_⟩
      refine fun c4 hc4 => ?_
      replace h := letB_inv hc4 h
      refine WP_cond (b := c4) rfl (fun hb5 => ?_) (fun hb5 => ?_)
      · replace h := bif_t hb5 h
        refine WP_seq ?_
        refine WP_reg [4] [] ?_
        refine WPO_f ?_
        refine WP_ret ?_
        cases h
        exact ⟨_, rfl, rfl⟩
      · replace h := bif_f hb5 h
        refine WP_skip ?_
        refine WP_reg [0, 1, 7, 8] [] ?_
        refine WPO_f ?_
        cases h
        exact ⟨_, rfl, rfl⟩
    · replace h := bif_f hb2 h
      refine WP_exit ?_
      cases h
      exact ⟨_, rfl, rfl⟩
  rcases j6 with z7 | z8
  · cases h
    exact ⟨rfl, rfl, rfl, rfl, rfl⟩
  · refine WP_seq ?_
    refine WP_reg [4] [] ?_
    refine WPO_f ?_
    refine WP_ret ?_
    cases h
    exact ⟨rfl, rfl, rfl, rfl, rfl⟩
noncomputable def slices_Contains_40 (s_ : List Int) (v : Int) : Option Bool :=
  (slices_Index_51 s_ v).bind fun y1 =>
  letB (decide (y1 ≥ 0)) fun c2 =>
  some c2
set_option maxRecDepth 20000 in
theorem slices_Contains_40_ok {s_ : List Int} {v : Int} {r : Bool} (h : slices_Contains_40 s_ v = some r) : CallT true (RF ET) 40 [.sl false 1 (List.map by8 s_), .int .u8 v] [] (.bool r) [] := by
  refine CallT.quiet (con_low (af := a40) rfl rfl ?_) rfl
  unfold slices_Contains_40 at h
  refine WP_seq ?_
  refine WP_reg [0, 1] [] ?_
  refine WPO_f ?_
  refine WP_seq ?_
  refine WP_reg [4] [] ?_
  refine WPO_f ?_
  obtain ⟨y1, hy1, h⟩ := bind_inv h
  refine ⟨_, _, CallT.any (slices_Index_51_ok hy1) rfl _ rfl, ?_⟩
  refine fun c2 hc2 => ?_
  replace h := letB_inv hc2 h
  refine WP_ret ?_
  cases h
  exact ⟨rfl, rfl, rfl, rfl, rfl⟩
noncomputable def esc_Parser_behind (p : ParserM) (c : Int) : Option ParserM :=
  Option.bind (
    letB (decide (c < 48)) fun c1 =>
    Option.bind (
      bif c1 then (
        (esc_Parser_inter p c).bind fun y3 =>
        some (.inr y3))
      else (
        letB (decide (c = 91)) fun c4 =>
        (bif c4 then (
          letB (decide (p.act.Inter = [])) fun c6 =>
          some (c6)) else some false).bind fun g5 =>
        Option.bind (
          bif g5 then (
            (esc_Parser_begin p 2).bind fun y9 =>
            some (.inr y9))
          else (
            letB (decide (p.act.Inter = [])) fun c10 =>
            (bif c10 then (
              (slices_Contains_40 [93, 80, 88, 94, 95] c).bind fun y12 =>
              some (y12)) else some false).bind fun g11 =>
            Option.bind (
              bif g11 then (
                (esc_Parser_begin p 3).bind fun y15 =>
                some (.inr ({ y15 with act := { y15.act with Final := c } })))
              else (
                letB (decide (c < 127)) fun c16 =>
                (bif c16 then (
                  some ((!p.spoiled))) else some false).bind fun g17 =>
                Option.bind (
                  bif g17 then (
                    (esc_Parser_say p (Act.mk 3 0 c 0 p.act.Inter [] [])).bind fun y20 =>
                    some (y20))
                  else (
                    some (p)) : Option ParserM) fun j21 =>
                some (.inl j21)) : Option (ParserM ⊕ ParserM)) fun j22 =>
            match j22 with
            | .inl z23 => (
              some (.inl z23))
            | .inr z24 => (
              some (.inr z24))) : Option (ParserM ⊕ ParserM)) fun j25 =>
        match j25 with
        | .inl z26 => (
          some (.inl z26))
        | .inr z27 => (
          some (.inr z27))) : Option (ParserM ⊕ ParserM)) fun j28 =>
    match j28 with
    | .inl z29 => (
      some (.inl z29))
    | .inr z30 => (
      some (.inr z30)) : Option (ParserM ⊕ ParserM)) fun j31 =>
  match j31 with
  | .inl z32 => (
    some ({ z32 with in_ := 0 }))
  | .inr z33 => (
    some z33)
set_option maxRecDepth 20000 in
theorem esc_Parser_behind_ok {p : ParserM} {c : Int} {r : ParserM} (h : esc_Parser_behind p c = some r) : CallT false (RF ET) 32 [.ptr 0 0, .int .u8 c] [(ParserM.m p)] (.tuple []) [(ParserM.m r)] := by
  refine con_low (af := a32) rfl rfl ?_
  unfold esc_Parser_behind at h
  refine WP_seq ?_
  obtain ⟨j31, hj31, h⟩ := bind_inv h
  refine WP_cut j31 (fun r => match r with | .inl z => (.normal, [(0, .ptr 0 0)], [], [(ParserM.m z)]) | .inr z => (.ret, [], [], [(ParserM.m z)])) (fun e => match e with | .normal => [0] | .ret => [] | _ => []) (fun e => match e with | .normal => [] | .ret => [] | _ => []) ?_ ?_
  · clear h
    replace h := hj31
    clear hj31
    refine WP_block ?_
    refine WP_seq ?_
    refine WP_reg [0, 1, 4] [] ?_
    refine WPO_f ?_
    refine fun c1 hc1 => ?_
    replace h := letB_inv hc1 h
    obtain ⟨j28, hj28, h⟩ := bind_inv h
    refine WP_cut j28 (fun r => match r with | .inl z => (.normal, [(0, .ptr 0 0)], [], [(ParserM.m z)]) | .inr z => (.ret, [], [], [(ParserM.m z)])) (fun e => match e with | .normal => [0] | .ret => [] | _ => []) (fun e => match e with | .normal => [] | .ret => [] | _ => []) ?_ ?_
    · clear h
      replace h := hj28
      clear hj28
      refine WP_cond (b := c1) rfl (fun hb2 => ?_) (fun hb2 => ?_)
      · replace h := bif_t hb2 h
        refine WP_seq ?_
        refine WP_reg [] [] ?_
        refine WPO_f ?_
        obtain ⟨y3, hy3, h⟩ := bind_inv h
        refine ⟨_, _, CallT.sub (i := 0) (esc_Parser_inter_ok hy3) rfl _ rfl rfl (ParserM.flat _) (ParserM.flat _), ?_⟩
        refine WP_ret ?_
        cases h
        exact rfl
      · replace h := bif_f hb2 h
        refine WP_seq ?_
        refine WP_reg [0, 1, 10] [] ?_
        refine WPO_then 3 ?_
        refine WPO_f ?_
        refine fun c4 hc4 => ?_
        replace h := letB_inv hc4 h
        obtain ⟨g5, hg5, h⟩ := bind_inv h
        refine WPO_grp 7 20 [0, 1, 20] g5 ?_ ?_
        · clear h
          replace h := hg5
          clear hg5
          cases hb7 : c4 with
          | true =>
            replace h := bif_t hb7 h
            refine WPO_f ?_
            refine fun c6 hc6 => ?_
            replace h := letB_inv hc6 h
            cases h
            exact ⟨rfl, rfl, rfl⟩
          | false =>
            replace h := bif_f hb7 h
            cases h
            refine WPO_f ?_
            exact ⟨rfl, rfl, rfl⟩
        refine WPO_f ?_
        obtain ⟨j25, hj25, h⟩ := bind_inv h
        refine WP_cut j25 (fun r => match r with | .inl z => (.normal, [(0, .ptr 0 0)], [], [(ParserM.m z)]) | .inr z => (.ret, [], [], [(ParserM.m z)])) (fun e => match e with | .normal => [0] | .ret => [] | _ => []) (fun e => match e with | .normal => [] | .ret => [] | _ => []) ?_ ?_
        · clear h
          replace h := hj25
          clear hj25
          refine WP_cond (b := g5) rfl (fun hb8 => ?_) (fun hb8 => ?_)
          · replace h := bif_t hb8 h
            refine WP_seq ?_
            refine WP_reg [] [] ?_
            refine WPO_f ?_
            obtain ⟨y9, hy9, h⟩ := bind_inv h
            refine ⟨_, _, CallT.sub (i := 0) (esc_Parser_begin_ok hy9) rfl _ rfl rfl (ParserM.flat _) (ParserM.flat _), ?_⟩
            refine WP_ret ?_
            cases h
            exact rfl
          · replace h := bif_f hb8 h
            refine WP_seq ?_
            refine WP_reg [0, 1, 23] [] ?_
            refine WPO_then 7 ?_
            refine WPO_f ?_
            refine fun c10 hc10 => ?_
            replace h := letB_inv hc10 h
            obtain ⟨g11, hg11, h⟩ := bind_inv h
            refine WPO_grp 5 35 [0, 1, 35] g11 ?_ ?_
            · clear h
              replace h := hg11
              clear hg11
              cases hb13 : c10 with
              | true =>
                replace h := bif_t hb13 h
                refine WPO_f ?_
                refine ⟨List.map by8 ([93, 80, 88, 94, 95] : List Int), rfl, ?_⟩
                refine And.intro (by simp) ?_
                obtain ⟨y12, hy12, h⟩ := bind_inv h
                refine ⟨_, _, CallT.any (slices_Contains_40_ok hy12) rfl _ rfl, ?_⟩
                cases h
                exact ⟨rfl, rfl, rfl⟩
              | false =>
                replace h := bif_f hb13 h
                cases h
                refine WPO_f ?_
                exact ⟨rfl, rfl, rfl⟩
            refine WPO_f ?_
            obtain ⟨j22, hj22, h⟩ := bind_inv h
            refine WP_cut j22 (fun r => match r with | .inl z => (.normal, [(0, .ptr 0 0)], [], [(ParserM.m z)]) | .inr z => (.ret, [], [], [(ParserM.m z)])) (fun e => match e with | .normal => [0] | .ret => [] | _ => []) (fun e => match e with | .normal => [] | .ret => [] | _ => []) ?_ ?_
            · clear h
              replace h := hj22
              clear hj22
              refine WP_cond (b := g11) rfl (fun hb14 => ?_) (fun hb14 => ?_)
              · replace h := bif_t hb14 h
                refine WP_seq ?_
                refine WP_reg [0, 1] [] ?_
                refine WPO_f ?_
                obtain ⟨y15, hy15, h⟩ := bind_inv h
                refine ⟨_, _, CallT.sub (i := 0) (esc_Parser_begin_ok hy15) rfl _ rfl rfl (ParserM.flat _) (ParserM.flat _), ?_⟩
                refine WP_seq ?_
                refine WP_reg [] [] ?_
                refine WPO_f ?_
                refine WP_ret ?_
                cases h
                exact rfl
              · replace h := bif_f hb14 h
                refine WP_seq ?_
                refine WP_reg [0, 1, 43] [] ?_
                refine WPO_then 3 ?_
                refine WPO_f ?_
                refine fun c16 hc16 => ?_
                replace h := letB_inv hc16 h
                obtain ⟨g17, hg17, h⟩ := bind_inv h
                refine WPO_grp 6 52 [0, 1, 52] g17 ?_ ?_
                · clear h
                  replace h := hg17
                  clear hg17
                  cases hb18 : c16 with
                  | true =>
                    replace h := bif_t hb18 h
                    refine WPO_f ?_
                    cases h
                    exact ⟨rfl, rfl, rfl⟩
                  | false =>
                    replace h := bif_f hb18 h
                    cases h
                    refine WPO_f ?_
                    exact ⟨rfl, rfl, rfl⟩
                refine WPO_f ?_
                obtain ⟨j21, hj21, h⟩ := bind_inv h
                refine WP_cut j21 (fun z => (.normal, [(0, .ptr 0 0)], [], [(ParserM.m z)])) (fun _ => [0]) (fun _ => []) ?_ ?_
                · clear h
                  replace h := hj21
                  clear hj21
                  refine WP_cond (b := g17) rfl (fun hb19 => ?_) (fun hb19 => ?_)
                  · replace h := bif_t hb19 h
                    refine WP_reg [0] [] ?_
                    refine WPO_f ?_
                    refine ⟨.sl true 1 [], .sl _ _, ?_⟩
                    obtain ⟨y20, hy20, h⟩ := bind_inv h
                    refine ⟨_, _, CallT.sub (i := 0) (esc_Parser_say_ok hy20) rfl _ rfl rfl (ParserM.flat _) (ParserM.flat _), ?_⟩
                    cases h
                    exact rfl
                  · replace h := bif_f hb19 h
                    refine WP_skip ?_
                    cases h
                    exact rfl
                cases h
                exact rfl
            rcases j22 with z23 | z24
            · cases h
              exact rfl
            · cases h
              exact rfl
        rcases j25 with z26 | z27
        · cases h
          exact rfl
        · cases h
          exact rfl
    rcases j28 with z29 | z30
    · cases h
      exact rfl
    · cases h
      exact rfl
  rcases j31 with z32 | z33
  · refine WP_reg [] [] ?_
    refine WPO_f ?_
    cases h
    exact ⟨rfl, rfl, rfl, rfl, by simp only [flatM, List.all_cons, List.all_nil, ParserM.flat, Bool.and_self]⟩
  · cases h
    exact ⟨rfl, rfl, rfl, rfl, by simp only [flatM, List.all_cons, List.all_nil, ParserM.flat, Bool.and_self]⟩
noncomputable def esc_Parser_end (p : ParserM) (c : Int) : Option ParserM :=
  (p.act.Params).bind fun x1 =>
  Option.bind (
    bif (!p.spoiled) then (
      (esc_Parser_say ({ p with in_ := 0, act := { p.act with Kind := 4, Final := c, Params := none } }) ({ p.act with Kind := 4, Final := c, Params := x1 })).bind fun y3 =>
      some (y3))
    else (
      some ({ p with in_ := 0, act := { p.act with Params := some x1 } })) : Option ParserM) fun j4 =>
  some j4
set_option maxRecDepth 20000 in
theorem esc_Parser_end_ok {p : ParserM} {c : Int} {r : ParserM} (h : esc_Parser_end p c = some r) : CallT false (RF ET) 41 [.ptr 0 0, .int .u8 c] [(ParserM.m p)] (.tuple []) [(ParserM.m r)] := by
  refine con_low (af := a41) rfl rfl ?_
  unfold esc_Parser_end at h
  refine WP_seq ?_
  obtain ⟨x1, hx1, h⟩ := bind_inv h
  show T.WP _ _ _ _ [(ParserM.m p)] _
  rw [show ((ParserM.m p) : List TV) = [.sl false 1 (List.map by8 p.text.waits), .int .i64 p.in_, .bool p.spoiled, .bool p.first, .int .i64 p.act.Kind, .int .i32 p.act.R, .int .u8 p.act.Final, .int .u8 p.act.Priv, .str p.act.Inter, .sl true 1 (List.map ei64 x1), .str p.act.Text, .int .i64 p.count, .sl true 1 (List.map by8 p.payload), .sl true 7 (List.map Act.e p.out)] from by first | (simp only [ParserM.m]; rw [hx1]; rfl) | (rw [hx1]; rfl)]
  refine WP_reg [0, 1] [] ?_
  refine WPO_f ?_
  refine WP_seq ?_
  refine WP_reg [0, 1, 11] [] ?_
  refine WPO_f ?_
  obtain ⟨j4, hj4, h⟩ := bind_inv h
  refine WP_cut j4 (fun z => (.normal, [], [], [(ParserM.m z)])) (fun _ => []) (fun _ => []) ?_ ?_
  · clear h
    replace h := hj4
    clear hj4
    refine WP_cond (b := (!p.spoiled)) rfl (fun hb2 => ?_) (fun hb2 => ?_)
    · replace h := bif_t hb2 h
      refine WP_seq ?_
      refine WP_reg [0] [] ?_
      refine WPO_f ?_
      refine WP_reg [] [] ?_
      refine WPO_f ?_
      obtain ⟨y3, hy3, h⟩ := bind_inv h
      refine ⟨_, _, CallT.sub (i := 0) (esc_Parser_say_ok hy3) rfl _ rfl rfl (ParserM.flat _) (ParserM.flat _), ?_⟩
      cases h
      exact rfl
    · replace h := bif_f hb2 h
      refine WP_skip ?_
      cases h
      exact rfl
  cases h
  exact ⟨rfl, rfl, rfl, rfl, by simp only [flatM, List.all_cons, List.all_nil, ParserM.flat, Bool.and_self]⟩
noncomputable def esc_Parser_number (p : ParserM) (c : Int) : Option ParserM :=
  letB (decide (p.count = 0)) fun c1 =>
  Option.bind (
    bif c1 then (
      some ({ p with act := { p.act with Params := some [(-1)] }, count := 1 }))
    else (
      some (p)) : Option ParserM) fun j3 =>
  (j3.act.Params).bind fun x4 =>
  letB (decide (c = 59)) fun c5 =>
  bif c5 then (
    letB (decide ((w64 (j3.count + 1)) ≤ 16)) fun c7 =>
    Option.bind (
      bif c7 then (
        (app x4 [(-1)]).bind fun x9 =>
        some ({ j3 with act := { j3.act with Params := some x9 }, count := w64 (j3.count + 1) }))
      else (
        some ({ j3 with act := { j3.act with Params := some x4 }, count := w64 (j3.count + 1) })) : Option ParserM) fun j10 =>
    some j10)
  else (
    letB (decide (j3.count ≤ 16)) fun c11 =>
    Option.bind (
      bif c11 then (
        (idx x4 (w64 (j3.count - 1))).bind fun x13 =>
        some ({ j3 with act := { j3.act with Params := some (upI x4 (w64 (j3.count - 1)) (min (w64 ((w64 ((max x13 0) * 10)) + (w64 (w8 (c - 48))))) 9999)) } }))
      else (
        some ({ j3 with act := { j3.act with Params := some x4 } })) : Option ParserM) fun j14 =>
    some j14)
set_option maxRecDepth 20000 in
theorem esc_Parser_number_ok {p : ParserM} {c : Int} {r : ParserM} (h : esc_Parser_number p c = some r) : CallT false (RF ET) 42 [.ptr 0 0, .int .u8 c] [(ParserM.m p)] (.tuple []) [(ParserM.m r)] := by
  refine con_low (af := a42) rfl rfl ?_
  unfold esc_Parser_number at h
  refine WP_seq ?_
  refine WP_seq ?_
  refine WP_reg [0, 1, 9] [] ?_
  refine WPO_f ?_
  refine fun c1 hc1 => ?_
  replace h := letB_inv hc1 h
  obtain ⟨j3, hj3, h⟩ := bind_inv h
  refine WP_cut j3 (fun z => (.normal, [(0, .ptr 0 0), (1, .int .u8 c)], [], [(ParserM.m z)])) (fun _ => [0, 1]) (fun _ => []) ?_ ?_
  · clear h
    replace h := hj3
    clear hj3
    refine WP_cond (b := c1) rfl (fun hb2 => ?_) (fun hb2 => ?_)
    · replace h := bif_t hb2 h
      refine WP_seq ?_
      refine WP_reg [0, 1] [] ?_
      refine WPO_f ?_
      refine WP_reg [0, 1] [] ?_
      refine WPO_f ?_
      refine ⟨List.map ei64 ([(-1)] : List Int), rfl, ?_⟩
      cases h
      exact rfl
    · replace h := bif_f hb2 h
      refine WP_skip ?_
      cases h
      exact rfl
  refine WP_seq ?_
  refine WP_seq ?_
  obtain ⟨x4, hx4, h⟩ := bind_inv h
  show T.WP _ _ _ _ [(ParserM.m j3)] _
  rw [show ((ParserM.m j3) : List TV) = [.sl false 1 (List.map by8 j3.text.waits), .int .i64 j3.in_, .bool j3.spoiled, .bool j3.first, .int .i64 j3.act.Kind, .int .i32 j3.act.R, .int .u8 j3.act.Final, .int .u8 j3.act.Priv, .str j3.act.Inter, .sl true 1 (List.map ei64 x4), .str j3.act.Text, .int .i64 j3.count, .sl true 1 (List.map by8 j3.payload), .sl true 7 (List.map Act.e j3.out)] from by first | (simp only [ParserM.m]; rw [hx4]; rfl) | (rw [hx4]; rfl)]
  refine WP_reg [0, 1, 19] [] ?_
  refine WPO_f ?_
  refine fun c5 hc5 => ?_
  replace h := letB_inv hc5 h
  refine WP_cond (b := c5) rfl (fun hb6 => ?_) (fun hb6 => ?_)
  · replace h := bif_t hb6 h
    refine WP_seq ?_
    refine WP_reg [0] [] ?_
    refine WPO_f ?_
    refine WP_seq ?_
    refine WP_seq ?_
    refine WP_reg [0, 31] [] ?_
    refine WPO_f ?_
    refine fun c7 hc7 => ?_
    replace h := letB_inv hc7 h
    obtain ⟨j10, hj10, h⟩ := bind_inv h
    refine WP_cut j10 (fun z => (.normal, [], [], [(ParserM.m z)])) (fun _ => []) (fun _ => []) ?_ ?_
    · clear h
      replace h := hj10
      clear hj10
      refine WP_cond (b := c7) rfl (fun hb8 => ?_) (fun hb8 => ?_)
      · replace h := bif_t hb8 h
        refine WP_reg [] [] ?_
        refine WPO_f ?_
        refine ⟨List.map ei64 ([(-1)] : List Int), rfl, ?_⟩
        obtain ⟨x9, hx9, h⟩ := bind_inv h
        refine And.intro (app_le ei64 hx9) ⟨_, app_eq ei64 hx9, ?_⟩
        cases h
        exact rfl
      · replace h := bif_f hb8 h
        refine WP_skip ?_
        cases h
        exact rfl
    refine WP_ret ?_
    cases h
    exact ⟨rfl, rfl, rfl, rfl, by simp only [flatM, List.all_cons, List.all_nil, ParserM.flat, Bool.and_self]⟩
  · replace h := bif_f hb6 h
    refine WP_skip ?_
    refine WP_seq ?_
    refine WP_reg [0, 1, 47] [] ?_
    refine WPO_f ?_
    refine fun c11 hc11 => ?_
    replace h := letB_inv hc11 h
    obtain ⟨j14, hj14, h⟩ := bind_inv h
    refine WP_cut j14 (fun z => (.normal, [], [], [(ParserM.m z)])) (fun _ => []) (fun _ => []) ?_ ?_
    · clear h
      replace h := hj14
      clear hj14
      refine WP_cond (b := c11) rfl (fun hb12 => ?_) (fun hb12 => ?_)
      · replace h := bif_t hb12 h
        refine WP_seq ?_
        refine WP_reg [1, 4] [] ?_
        refine WPO_t ?_
        obtain ⟨x13, hx13, h⟩ := bind_inv h
        refine And.intro (idx_len ei64 hx13) ?_
        refine WP_reg [] [] ?_
        refine WPO_f ?_
        refine ⟨_, idx_get ei64 hx13, ?_⟩
        refine ⟨_, idx_get ei64 hx13, ?_⟩
        refine ⟨_, upI_map (e := ei64) (i := w64 (j3.count - 1)) (x := min (w64 ((w64 ((max x13 0) * 10)) + (w64 (w8 (c - 48))))) 9999) rfl, ?_⟩
        cases h
        exact rfl
      · replace h := bif_f hb12 h
        refine WP_skip ?_
        cases h
        exact rfl
    cases h
    exact ⟨rfl, rfl, rfl, rfl, by simp only [flatM, List.all_cons, List.all_nil, ParserM.flat, Bool.and_self]⟩
noncomputable def esc_Parser_sequence (p : ParserM) (c : Int) : Option ParserM :=
  Option.bind (
    letB (decide (c ≥ 128)) fun c1 =>
    Option.bind (
      bif c1 then (
        some ({ p with in_ := 0, first := false }))
      else (
        letB (decide (c < 48)) fun c3 =>
        Option.bind (
          bif c3 then (
            (esc_Parser_inter ({ p with first := false }) c).bind fun y5 =>
            some (y5))
          else (
            letB (decide (c ≥ 64)) fun c6 =>
            Option.bind (
              bif c6 then (
                (esc_Parser_end ({ p with first := false }) c).bind fun y8 =>
                some (y8))
              else (
                letB (decide (c ≥ 60)) fun c9 =>
                (bif c9 then (
                  some (p.first)) else some false).bind fun g10 =>
                Option.bind (
                  bif g10 then (
                    some ({ p with first := false, act := { p.act with Priv := c } }))
                  else (
                    letB (decide (c = 58)) fun c13 =>
                    (bif c13 then some true else (
                      letB (decide (c ≥ 60)) fun c15 =>
                      some (c15))).bind fun g14 =>
                    (bif g14 then some true else (
                      letB (decide (p.act.Inter ≠ [])) fun c18 =>
                      some (c18))).bind fun g17 =>
                    Option.bind (
                      bif g17 then (
                        some ({ p with spoiled := true, first := false }))
                      else (
                        (esc_Parser_number ({ p with first := false }) c).bind fun y21 =>
                        some (y21)) : Option ParserM) fun j22 =>
                    some (j22)) : Option ParserM) fun j23 =>
                some (j23)) : Option ParserM) fun j24 =>
            some (j24)) : Option ParserM) fun j25 =>
        some (j25)) : Option ParserM) fun j26 =>
    some (j26) : Option ParserM) fun j27 =>
  some j27
set_option maxRecDepth 20000 in
theorem esc_Parser_sequence_ok {p : ParserM} {c : Int} {r : ParserM} (h : esc_Parser_sequence p c = some r) : CallT false (RF ET) 33 [.ptr 0 0, .int .u8 c] [(ParserM.m p)] (.tuple []) [(ParserM.m r)] := by
  refine con_low (af := a33) rfl rfl ?_
  unfold esc_Parser_sequence at h
  refine WP_seq ?_
  refine WP_reg [0, 1, 4] [] ?_
  refine WPO_f ?_
  refine WP_seq ?_
  refine WP_reg [0, 1, 4] [] ?_
  refine WPO_f ?_
  obtain ⟨j27, hj27, h⟩ := bind_inv h
  refine WP_cut j27 (fun z => (.normal, [], [], [(ParserM.m z)])) (fun _ => []) (fun _ => []) ?_ ?_
  · clear h
    replace h := hj27
    clear hj27
    refine WP_block ?_
    refine WP_seq ?_
    refine WP_reg [0, 1, 4, 15] [] ?_
    refine WPO_f ?_
    refine fun c1 hc1 => ?_
    replace h := letB_inv hc1 h
    obtain ⟨j26, hj26, h⟩ := bind_inv h
    refine WP_cut j26 (fun z => (.normal, [], [], [(ParserM.m z)])) (fun _ => []) (fun _ => []) ?_ ?_
    · clear h
      replace h := hj26
      clear hj26
      refine WP_cond (b := c1) rfl (fun hb2 => ?_) (fun hb2 => ?_)
      · replace h := bif_t hb2 h
        refine WP_reg [] [] ?_
        refine WPO_f ?_
        cases h
        exact rfl
      · replace h := bif_f hb2 h
        refine WP_seq ?_
        refine WP_reg [0, 1, 4, 21] [] ?_
        refine WPO_f ?_
        refine fun c3 hc3 => ?_
        replace h := letB_inv hc3 h
        obtain ⟨j25, hj25, h⟩ := bind_inv h
        refine WP_cut j25 (fun z => (.normal, [], [], [(ParserM.m z)])) (fun _ => []) (fun _ => []) ?_ ?_
        · clear h
          replace h := hj25
          clear hj25
          refine WP_cond (b := c3) rfl (fun hb4 => ?_) (fun hb4 => ?_)
          · replace h := bif_t hb4 h
            refine WP_reg [] [] ?_
            refine WPO_f ?_
            obtain ⟨y5, hy5, h⟩ := bind_inv h
            refine ⟨_, _, CallT.sub (i := 0) (esc_Parser_inter_ok hy5) rfl _ rfl rfl (ParserM.flat _) (ParserM.flat _), ?_⟩
            cases h
            exact rfl
          · replace h := bif_f hb4 h
            refine WP_seq ?_
            refine WP_reg [0, 1, 4, 27] [] ?_
            refine WPO_f ?_
            refine fun c6 hc6 => ?_
            replace h := letB_inv hc6 h
            obtain ⟨j24, hj24, h⟩ := bind_inv h
            refine WP_cut j24 (fun z => (.normal, [], [], [(ParserM.m z)])) (fun _ => []) (fun _ => []) ?_ ?_
            · clear h
              replace h := hj24
              clear hj24
              refine WP_cond (b := c6) rfl (fun hb7 => ?_) (fun hb7 => ?_)
              · replace h := bif_t hb7 h
                refine WP_reg [] [] ?_
                refine WPO_f ?_
                obtain ⟨y8, hy8, h⟩ := bind_inv h
                refine ⟨_, _, CallT.sub (i := 0) (esc_Parser_end_ok hy8) rfl _ rfl rfl (ParserM.flat _) (ParserM.flat _), ?_⟩
                cases h
                exact rfl
              · replace h := bif_f hb7 h
                refine WP_seq ?_
                refine WP_reg [0, 1, 33] [] ?_
                refine WPO_then 3 ?_
                refine WPO_f ?_
                refine fun c9 hc9 => ?_
                replace h := letB_inv hc9 h
                obtain ⟨g10, hg10, h⟩ := bind_inv h
                refine WPO_grp 2 38 [0, 1, 38] g10 ?_ ?_
                · clear h
                  replace h := hg10
                  clear hg10
                  cases hb11 : c9 with
                  | true =>
                    replace h := bif_t hb11 h
                    refine WPO_f ?_
                    cases h
                    exact ⟨rfl, rfl, rfl⟩
                  | false =>
                    replace h := bif_f hb11 h
                    cases h
                    refine WPO_f ?_
                    exact ⟨rfl, rfl, rfl⟩
                refine WPO_f ?_
                obtain ⟨j23, hj23, h⟩ := bind_inv h
                refine WP_cut j23 (fun z => (.normal, [], [], [(ParserM.m z)])) (fun _ => []) (fun _ => []) ?_ ?_
                · clear h
                  replace h := hj23
                  clear hj23
                  refine WP_cond (b := g10) rfl (fun hb12 => ?_) (fun hb12 => ?_)
                  · replace h := bif_t hb12 h
                    refine WP_reg [] [] ?_
                    refine WPO_f ?_
                    cases h
                    exact rfl
                  · replace h := bif_f hb12 h
                    refine WP_seq ?_
                    refine WP_reg [0, 1, 44] [] ?_
                    refine WPO_then 3 ?_
                    refine WPO_f ?_
                    refine fun c13 hc13 => ?_
                    replace h := letB_inv hc13 h
                    obtain ⟨g14, hg14, h⟩ := bind_inv h
                    refine WPO_grp 3 50 [0, 1, 50] g14 ?_ ?_
                    · clear h
                      replace h := hg14
                      clear hg14
                      cases hb16 : c13 with
                      | false =>
                        replace h := bif_f hb16 h
                        refine WPO_f ?_
                        refine fun c15 hc15 => ?_
                        replace h := letB_inv hc15 h
                        cases h
                        exact ⟨rfl, rfl, rfl⟩
                      | true =>
                        replace h := bif_t hb16 h
                        cases h
                        refine WPO_f ?_
                        exact ⟨rfl, rfl, rfl⟩
                    refine WPO_then 1 ?_
                    refine WPO_f ?_
                    obtain ⟨g17, hg17, h⟩ := bind_inv h
                    refine WPO_grp 7 58 [0, 1, 58] g17 ?_ ?_
                    · clear h
                      replace h := hg17
                      clear hg17
                      cases hb19 : g14 with
                      | false =>
                        replace h := bif_f hb19 h
                        refine WPO_f ?_
                        refine fun c18 hc18 => ?_
                        replace h := letB_inv hc18 h
                        cases h
                        exact ⟨rfl, rfl, rfl⟩
                      | true =>
                        replace h := bif_t hb19 h
                        cases h
                        refine WPO_f ?_
                        exact ⟨rfl, rfl, rfl⟩
                    refine WPO_f ?_
                    obtain ⟨j22, hj22, h⟩ := bind_inv h
                    refine WP_cut j22 (fun z => (.normal, [], [], [(ParserM.m z)])) (fun _ => []) (fun _ => []) ?_ ?_
                    · clear h
                      replace h := hj22
                      clear hj22
                      refine WP_cond (b := g17) rfl (fun hb20 => ?_) (fun hb20 => ?_)
                      · replace h := bif_t hb20 h
                        refine WP_reg [] [] ?_
                        refine WPO_f ?_
                        cases h
                        exact rfl
                      · replace h := bif_f hb20 h
                        refine WP_reg [] [] ?_
                        refine WPO_f ?_
                        obtain ⟨y21, hy21, h⟩ := bind_inv h
                        refine ⟨_, _, CallT.sub (i := 0) (esc_Parser_number_ok hy21) rfl _ rfl rfl (ParserM.flat _) (ParserM.flat _), ?_⟩
                        cases h
                        exact rfl
                    cases h
                    exact rfl
                cases h
                exact rfl
            cases h
            exact rfl
        cases h
        exact rfl
    cases h
    exact rfl
  cases h
  exact ⟨rfl, rfl, rfl, rfl, by simp only [flatM, List.all_cons, List.all_nil, ParserM.flat, Bool.and_self]⟩
noncomputable def esc_Parser_endString (p : ParserM) : Option ParserM :=
  (bstr p.payload).bind fun x1 =>
  (esc_Parser_say ({ p with in_ := 0 }) (Act.mk 5 0 p.act.Final 0 [] [] x1)).bind fun y2 =>
  some y2
set_option maxRecDepth 20000 in
theorem esc_Parser_endString_ok {p : ParserM} {r : ParserM} (h : esc_Parser_endString p = some r) : CallT false (RF ET) 43 [.ptr 0 0] [(ParserM.m p)] (.tuple []) [(ParserM.m r)] := by
  refine con_low (af := a43) rfl rfl ?_
  unfold esc_Parser_endString at h
  refine WP_seq ?_
  refine WP_reg [0] [] ?_
  refine WPO_f ?_
  refine WP_reg [] [] ?_
  refine WPO_t ?_
  obtain ⟨x1, hx1, h⟩ := bind_inv h
  refine ⟨_, bstr_inv hx1, ?_⟩
  refine ⟨.sl true 1 [], .sl _ _, ?_⟩
  obtain ⟨y2, hy2, h⟩ := bind_inv h
  refine ⟨_, _, CallT.sub (i := 0) (esc_Parser_say_ok hy2) rfl _ rfl rfl (ParserM.flat _) (ParserM.flat _), ?_⟩
  cases h
  exact ⟨rfl, rfl, rfl, rfl, by simp only [flatM, List.all_cons, List.all_nil, ParserM.flat, Bool.and_self]⟩
noncomputable def esc_Parser_collect (p : ParserM) (c : Int) : Option ParserM :=
  Option.bind (
    letB (decide (c = 7)) fun c1 =>
    Option.bind (
      bif c1 then (
        (esc_Parser_endString p).bind fun y3 =>
        some (y3))
      else (
        letB (decide (c = 27)) fun c4 =>
        Option.bind (
          bif c4 then (
            some ({ p with in_ := 4 }))
          else (
            letB (decide (c = 24)) fun c6 =>
            (bif c6 then some true else (
              letB (decide (c = 26)) fun c8 =>
              some (c8))).bind fun g7 =>
            Option.bind (
              bif g7 then (
                some ({ p with in_ := 0 }))
              else (
                letB (decide (c ≥ 32)) fun c11 =>
                (bif c11 then (
                  letB (decide ((p.payload.length : Int) < 256)) fun c13 =>
                  some (c13)) else some false).bind fun g12 =>
                Option.bind (
                  bif g12 then (
                    (app p.payload [c]).bind fun x16 =>
                    some ({ p with payload := x16 }))
                  else (
                    some (p)) : Option ParserM) fun j17 =>
                some (j17)) : Option ParserM) fun j18 =>
            some (j18)) : Option ParserM) fun j19 =>
        some (j19)) : Option ParserM) fun j20 =>
    some (j20) : Option ParserM) fun j21 =>
  some j21
set_option maxRecDepth 20000 in
theorem esc_Parser_collect_ok {p : ParserM} {c : Int} {r : ParserM} (h : esc_Parser_collect p c = some r) : CallT false (RF ET) 34 [.ptr 0 0, .int .u8 c] [(ParserM.m p)] (.tuple []) [(ParserM.m r)] := by
  refine con_low (af := a34) rfl rfl ?_
  unfold esc_Parser_collect at h
  obtain ⟨j21, hj21, h⟩ := bind_inv h
  refine WP_cut j21 (fun z => (.normal, [], [], [(ParserM.m z)])) (fun _ => []) (fun _ => []) ?_ ?_
  · clear h
    replace h := hj21
    clear hj21
    refine WP_block ?_
    refine WP_seq ?_
    refine WP_reg [0, 1, 4] [] ?_
    refine WPO_f ?_
    refine fun c1 hc1 => ?_
    replace h := letB_inv hc1 h
    obtain ⟨j20, hj20, h⟩ := bind_inv h
    refine WP_cut j20 (fun z => (.normal, [], [], [(ParserM.m z)])) (fun _ => []) (fun _ => []) ?_ ?_
    · clear h
      replace h := hj20
      clear hj20
      refine WP_cond (b := c1) rfl (fun hb2 => ?_) (fun hb2 => ?_)
      · replace h := bif_t hb2 h
        refine WP_reg [] [] ?_
        refine WPO_f ?_
        obtain ⟨y3, hy3, h⟩ := bind_inv h
        refine ⟨_, _, CallT.sub (i := 0) (esc_Parser_endString_ok hy3) rfl _ rfl rfl (ParserM.flat _) (ParserM.flat _), ?_⟩
        cases h
        exact rfl
      · replace h := bif_f hb2 h
        refine WP_seq ?_
        refine WP_reg [0, 1, 9] [] ?_
        refine WPO_f ?_
        refine fun c4 hc4 => ?_
        replace h := letB_inv hc4 h
        obtain ⟨j19, hj19, h⟩ := bind_inv h
        refine WP_cut j19 (fun z => (.normal, [], [], [(ParserM.m z)])) (fun _ => []) (fun _ => []) ?_ ?_
        · clear h
          replace h := hj19
          clear hj19
          refine WP_cond (b := c4) rfl (fun hb5 => ?_) (fun hb5 => ?_)
          · replace h := bif_t hb5 h
            refine WP_reg [] [] ?_
            refine WPO_f ?_
            cases h
            exact rfl
          · replace h := bif_f hb5 h
            refine WP_seq ?_
            refine WP_reg [0, 1, 15] [] ?_
            refine WPO_then 3 ?_
            refine WPO_f ?_
            refine fun c6 hc6 => ?_
            replace h := letB_inv hc6 h
            obtain ⟨g7, hg7, h⟩ := bind_inv h
            refine WPO_grp 3 21 [0, 1, 21] g7 ?_ ?_
            · clear h
              replace h := hg7
              clear hg7
              cases hb9 : c6 with
              | false =>
                replace h := bif_f hb9 h
                refine WPO_f ?_
                refine fun c8 hc8 => ?_
                replace h := letB_inv hc8 h
                cases h
                exact ⟨rfl, rfl, rfl⟩
              | true =>
                replace h := bif_t hb9 h
                cases h
                refine WPO_f ?_
                exact ⟨rfl, rfl, rfl⟩
            refine WPO_f ?_
            obtain ⟨j18, hj18, h⟩ := bind_inv h
            refine WP_cut j18 (fun z => (.normal, [], [], [(ParserM.m z)])) (fun _ => []) (fun _ => []) ?_ ?_
            · clear h
              replace h := hj18
              clear hj18
              refine WP_cond (b := g7) rfl (fun hb10 => ?_) (fun hb10 => ?_)
              · replace h := bif_t hb10 h
                refine WP_reg [] [] ?_
                refine WPO_f ?_
                cases h
                exact rfl
              · replace h := bif_f hb10 h
                refine WP_seq ?_
                refine WP_reg [0, 1, 25] [] ?_
                refine WPO_then 3 ?_
                refine WPO_f ?_
                refine fun c11 hc11 => ?_
                replace h := letB_inv hc11 h
                obtain ⟨g12, hg12, h⟩ := bind_inv h
                refine WPO_grp 7 35 [0, 1, 35] g12 ?_ ?_
                · clear h
                  replace h := hg12
                  clear hg12
                  cases hb14 : c11 with
                  | true =>
                    replace h := bif_t hb14 h
                    refine WPO_f ?_
                    refine ⟨_, (List.length_map ..).symm, ?_⟩
                    refine fun c13 hc13 => ?_
                    replace h := letB_inv hc13 h
                    cases h
                    exact ⟨rfl, rfl, rfl⟩
                  | false =>
                    replace h := bif_f hb14 h
                    cases h
                    refine WPO_f ?_
                    exact ⟨rfl, rfl, rfl⟩
                refine WPO_f ?_
                obtain ⟨j17, hj17, h⟩ := bind_inv h
                refine WP_cut j17 (fun z => (.normal, [], [], [(ParserM.m z)])) (fun _ => []) (fun _ => []) ?_ ?_
                · clear h
                  replace h := hj17
                  clear hj17
                  refine WP_cond (b := g12) rfl (fun hb15 => ?_) (fun hb15 => ?_)
                  · replace h := bif_t hb15 h
                    refine WP_reg [] [] ?_
                    refine WPO_f ?_
                    refine ⟨List.map by8 ([c] : List Int), rfl, ?_⟩
                    obtain ⟨x16, hx16, h⟩ := bind_inv h
                    refine And.intro (app_le by8 hx16) ⟨_, app_eq by8 hx16, ?_⟩
                    cases h
                    exact rfl
                  · replace h := bif_f hb15 h
                    refine WP_skip ?_
                    cases h
                    exact rfl
                cases h
                exact rfl
            cases h
            exact rfl
        cases h
        exact rfl
    cases h
    exact rfl
  cases h
  exact ⟨rfl, rfl, rfl, rfl, by simp only [flatM, List.all_cons, List.all_nil, ParserM.flat, Bool.and_self]⟩
noncomputable def slices_Clone_52 (l : List Int) : Option (List Int) := app [] l
theorem slices_Clone_52_ok {l r : List Int} (h : slices_Clone_52 l = some r) : CallT true (RF ET) 52 [.sl false 1 (List.map by8 l)] [] (.sl true 1 (List.map by8 r)) [] := by
  refine CallT.quiet (con_low (af := a52) rfl rfl ?_) rfl
  unfold slices_Clone_52 at h
  refine WP_seq ?_
  refine WP_reg [0] [] ?_
  refine WPO_f ?_
  refine ⟨.sl true 1 [], .sl _ _, ?_⟩
  refine WP_seq ?_
  refine WP_seq ?_
  refine WP_reg [0, 4] [] ?_
  refine WPO_f ?_
  refine fun c hc => ?_
  refine WP_cond (b := c) rfl (fun hb => ?_) (fun hb => ?_)
  · have hl : l = [] := List.map_eq_nil_iff.1 (hc hb)
    subst hl
    have hr := app_is h
    simp only [List.append_nil] at hr
    subst hr
    refine WP_seq ?_
    refine WP_reg [2] [] ?_
    refine WPO_f ?_
    refine ⟨.sl true 1 [], .sl _ _, ?_⟩
    refine WP_ret ?_
    exact ⟨rfl, rfl, rfl, rfl, rfl⟩
  refine WP_skip ?_
  refine WP_seq ?_
  refine WP_reg [2] [] ?_
  refine WPO_f ?_
  refine ⟨List.map by8 ([] : List Int), rfl, ?_⟩
  refine And.intro (app_le by8 h) ⟨_, app_eq by8 h, ?_⟩
  refine WP_ret ?_
  exact ⟨rfl, rfl, rfl, rfl, rfl⟩
def tab1L : List Int := [240, 240, 240, 240, 240, 240, 240, 240, 240, 240, 240, 240, 240, 240, 240, 240, 240, 240, 240, 240, 240, 240, 240, 240, 240, 240, 240, 240, 240, 240, 240, 240, 240, 240, 240, 240, 240, 240, 240, 240, 240, 240, 240, 240, 240, 240, 240, 240, 240, 240, 240, 240, 240, 240, 240, 240, 240, 240, 240, 240, 240, 240, 240, 240, 240, 240, 240, 240, 240, 240, 240, 240, 240, 240, 240, 240, 240, 240, 240, 240, 240, 240, 240, 240, 240, 240, 240, 240, 240, 240, 240, 240, 240, 240, 240, 240, 240, 240, 240, 240, 240, 240, 240, 240, 240, 240, 240, 240, 240, 240, 240, 240, 240, 240, 240, 240, 240, 240, 240, 240, 240, 240, 240, 240, 240, 240, 240, 240, 241, 241, 241, 241, 241, 241, 241, 241, 241, 241, 241, 241, 241, 241, 241, 241, 241, 241, 241, 241, 241, 241, 241, 241, 241, 241, 241, 241, 241, 241, 241, 241, 241, 241, 241, 241, 241, 241, 241, 241, 241, 241, 241, 241, 241, 241, 241, 241, 241, 241, 241, 241, 241, 241, 241, 241, 241, 241, 241, 241, 241, 241, 241, 241, 241, 241, 2, 2, 2, 2, 2, 2, 2, 2, 2, 2, 2, 2, 2, 2, 2, 2, 2, 2, 2, 2, 2, 2, 2, 2, 2, 2, 2, 2, 2, 2, 19, 3, 3, 3, 3, 3, 3, 3, 3, 3, 3, 3, 3, 35, 3, 3, 52, 4, 4, 4, 68, 241, 241, 241, 241, 241, 241, 241, 241, 241, 241, 241]
set_option maxRecDepth 100000 in
theorem tab1_get {i : Int} {x : Int} (h : idx tab1L i = some x) : (tab1.map fun cs => cs.map cV0)[i.toNat]? = some (by8 x) := by
  rw [show (tab1.map fun cs => cs.map cV0) = tab1L.map by8 from rfl]
  exact idx_get by8 h
structure AcceptRange where
  lo : Int
  hi : Int
def AcceptRange.c (x : AcceptRange) : List TV := [.int .u8 x.lo, .int .u8 x.hi]
def tab2L : List AcceptRange := [⟨128, 191⟩, ⟨160, 191⟩, ⟨128, 159⟩, ⟨144, 191⟩, ⟨128, 143⟩, ⟨0, 0⟩, ⟨0, 0⟩, ⟨0, 0⟩, ⟨0, 0⟩, ⟨0, 0⟩, ⟨0, 0⟩, ⟨0, 0⟩, ⟨0, 0⟩, ⟨0, 0⟩, ⟨0, 0⟩, ⟨0, 0⟩]
set_option maxRecDepth 100000 in
theorem tab2_get {i : Int} {x : AcceptRange} (h : idx tab2L i = some x) : (tab2.map fun cs => cs.map cV0)[i.toNat]? = some (AcceptRange.c x) := by
  rw [show (tab2.map fun cs => cs.map cV0) = tab2L.map AcceptRange.c from rfl]
  exact idx_get AcceptRange.c h
noncomputable def unicode_utf8_FullRune (p : List Int) : Option Bool :=
  letB (decide ((p.length : Int) = 0)) fun c1 =>
  bif c1 then (
    some false)
  else (
    (idx p 0).bind fun x3 =>
    (idx tab1L x3).bind fun x4 =>
    letB (decide ((p.length : Int) ≥ (w64 (iAnd .u8 x4 7)))) fun c5 =>
    bif c5 then (
      some true)
    else (
      (idx tab2L (iShr .u8 x4 4)).bind fun x7 =>
      letB (decide ((p.length : Int) > 1)) fun c8 =>
      (bif c8 then (
        (idx p 1).bind fun x10 =>
        letB (decide (x10 < x7.lo)) fun c11 =>
        (bif c11 then some true else (
          (idx p 1).bind fun x13 =>
          letB (decide (x7.hi < x13)) fun c14 =>
          some (c14))).bind fun g12 =>
        some (g12)) else some false).bind fun g9 =>
      bif g9 then (
        some true)
      else (
        letB (decide ((p.length : Int) > 2)) fun c18 =>
        (bif c18 then (
          (idx p 2).bind fun x20 =>
          letB (decide (x20 < 128)) fun c21 =>
          (bif c21 then some true else (
            (idx p 2).bind fun x23 =>
            letB (decide (191 < x23)) fun c24 =>
            some (c24))).bind fun g22 =>
          some (g22)) else some false).bind fun g19 =>
        bif g19 then (
          some true)
        else (
          some false))))
set_option maxRecDepth 20000 in
theorem unicode_utf8_FullRune_ok {p : List Int} {r : Bool} (h : unicode_utf8_FullRune p = some r) : CallT true (RF ET) 53 [.sl false 1 (List.map by8 p)] [] (.bool r) [] := by
  refine CallT.quiet (con_low (af := a53) rfl rfl ?_) rfl
  unfold unicode_utf8_FullRune at h
  refine WP_seq ?_
  refine WP_reg [0] [] ?_
  refine WPO_f ?_
  refine WP_seq ?_
  refine WP_reg [0, 3] [] ?_
  refine WPO_f ?_
  refine ⟨_, (List.length_map ..).symm, ?_⟩
  refine WP_seq ?_
  refine WP_seq ?_
  refine WP_reg [0, 3, 9] [] ?_
  refine WPO_f ?_
  refine fun c1 hc1 => ?_
  replace h := letB_inv hc1 h
  refine WP_cond (b := c1) rfl (fun hb2 => ?_) (fun hb2 => ?_)
  · replace h := bif_t hb2 h
    refine WP_seq ?_
    refine WP_reg [2] [] ?_
    refine WPO_f ?_
    refine WP_ret ?_
    cases h
    exact ⟨rfl, rfl, rfl, rfl, rfl⟩
  · replace h := bif_f hb2 h
    refine WP_skip ?_
    refine WP_seq ?_
    refine WP_reg [0, 3, 4] [] ?_
    refine WPO_f ?_
    obtain ⟨x3, hx3, h⟩ := bind_inv h
    refine And.intro (idx_nn hx3) ⟨_, idx_get by8 hx3, ?_⟩
    obtain ⟨x4, hx4, h⟩ := bind_inv h
    refine And.intro (idx_nn hx4) ⟨_, tab1_get hx4, ?_⟩
    refine WP_seq ?_
    refine WP_seq ?_
    refine WP_reg [0, 3, 4, 19] [] ?_
    refine WPO_f ?_
    refine fun c5 hc5 => ?_
    replace h := letB_inv hc5 h
    refine WP_cond (b := c5) rfl (fun hb6 => ?_) (fun hb6 => ?_)
    · replace h := bif_t hb6 h
      refine WP_seq ?_
      refine WP_reg [2] [] ?_
      refine WPO_f ?_
      refine WP_ret ?_
      cases h
      exact ⟨rfl, rfl, rfl, rfl, rfl⟩
    · replace h := bif_f hb6 h
      refine WP_skip ?_
      refine WP_seq ?_
      refine WP_reg [0, 3, 5] [0] ?_
      refine WPO_f ?_
      refine And.intro (by decide) ?_
      obtain ⟨x7, hx7, h⟩ := bind_inv h
      refine And.intro (idx_nn hx7) ⟨_, tab2_get hx7, ?_⟩
      refine WP_seq ?_
      refine WP_seq ?_
      refine WP_reg [0, 3, 41] [0] ?_
      refine WPO_then 3 ?_
      refine WPO_t ?_
      refine fun c8 hc8 => ?_
      replace h := letB_inv hc8 h
      obtain ⟨g9, hg9, h⟩ := bind_inv h
      refine WPO_grp 15 41 [0, 3, 41] g9 ?_ ?_
      · clear h
        replace h := hg9
        clear hg9
        cases hb16 : c8 with
        | true =>
          replace h := bif_t hb16 h
          refine WPO_then 7 ?_
          refine WPO_t ?_
          obtain ⟨x10, hx10, h⟩ := bind_inv h
          refine And.intro (idx_nn hx10) ⟨_, idx_get by8 hx10, ?_⟩
          refine fun c11 hc11 => ?_
          replace h := letB_inv hc11 h
          obtain ⟨g12, hg12, h⟩ := bind_inv h
          refine WPO_grp 7 40 [0, 3, 26, 40] g12 ?_ ?_
          · clear h
            replace h := hg12
            clear hg12
            cases hb15 : c11 with
            | false =>
              replace h := bif_f hb15 h
              refine WPO_t ?_
              obtain ⟨x13, hx13, h⟩ := bind_inv h
              refine And.intro (idx_nn hx13) ⟨_, idx_get by8 hx13, ?_⟩
              refine fun c14 hc14 => ?_
              replace h := letB_inv hc14 h
              cases h
              exact ⟨rfl, rfl, rfl⟩
            | true =>
              replace h := bif_t hb15 h
              cases h
              refine WPO_t ?_
              exact ⟨rfl, rfl, rfl⟩
          refine WPO_t ?_
          cases h
          exact ⟨rfl, rfl, rfl⟩
        | false =>
          replace h := bif_f hb16 h
          cases h
          refine WPO_t ?_
          exact ⟨rfl, rfl, rfl⟩
      refine WPO_t ?_
      refine WP_cond (b := g9) rfl (fun hb17 => ?_) (fun hb17 => ?_)
      · replace h := bif_t hb17 h
        refine WP_seq ?_
        refine WP_reg [2] [0] ?_
        refine WPO_f ?_
        refine WP_ret ?_
        cases h
        exact ⟨rfl, rfl, rfl, rfl, rfl⟩
      · replace h := bif_f hb17 h
        refine WP_seq ?_
        refine WP_reg [55] [0] ?_
        refine WPO_then 3 ?_
        refine WPO_f ?_
        refine fun c18 hc18 => ?_
        replace h := letB_inv hc18 h
        obtain ⟨g19, hg19, h⟩ := bind_inv h
        refine WPO_grp 11 55 [55] g19 ?_ ?_
        · clear h
          replace h := hg19
          clear hg19
          cases hb26 : c18 with
          | true =>
            replace h := bif_t hb26 h
            refine WPO_then 5 ?_
            refine WPO_f ?_
            obtain ⟨x20, hx20, h⟩ := bind_inv h
            refine And.intro (idx_nn hx20) ⟨_, idx_get by8 hx20, ?_⟩
            refine fun c21 hc21 => ?_
            replace h := letB_inv hc21 h
            obtain ⟨g22, hg22, h⟩ := bind_inv h
            refine WPO_grp 5 54 [44, 54] g22 ?_ ?_
            · clear h
              replace h := hg22
              clear hg22
              cases hb25 : c21 with
              | false =>
                replace h := bif_f hb25 h
                refine WPO_f ?_
                obtain ⟨x23, hx23, h⟩ := bind_inv h
                refine And.intro (idx_nn hx23) ⟨_, idx_get by8 hx23, ?_⟩
                refine fun c24 hc24 => ?_
                replace h := letB_inv hc24 h
                cases h
                exact ⟨rfl, rfl, rfl⟩
              | true =>
                replace h := bif_t hb25 h
                cases h
                refine WPO_f ?_
                exact ⟨rfl, rfl, rfl⟩
            refine WPO_f ?_
            cases h
            exact ⟨rfl, rfl, rfl⟩
          | false =>
            replace h := bif_f hb26 h
            cases h
            refine WPO_f ?_
            exact ⟨rfl, rfl, rfl⟩
        refine WPO_f ?_
        refine WP_cond (b := g19) rfl (fun hb27 => ?_) (fun hb27 => ?_)
        · replace h := bif_t hb27 h
          refine WP_seq ?_
          refine WP_reg [2] [0] ?_
          refine WPO_f ?_
          refine WP_ret ?_
          cases h
          exact ⟨rfl, rfl, rfl, rfl, rfl⟩
        · replace h := bif_f hb27 h
          refine WP_skip ?_
          refine WP_seq ?_
          refine WP_reg [2] [0] ?_
          refine WPO_f ?_
          refine WP_ret ?_
          cases h
          exact ⟨rfl, rfl, rfl, rfl, rfl⟩
noncomputable def unicode_utf8_decodeRuneSlow (p : List Int) : Option (Int × Int) :=
  letB (decide ((p.length : Int) < 1)) fun c1 =>
  bif c1 then (
    some (65533, 0))
  else (
    (idx p 0).bind fun x3 =>
    (idx tab1L x3).bind fun x4 =>
    letB (decide (x4 ≥ 240)) fun c5 =>
    bif c5 then (
      (idx p 0).bind fun x7 =>
      some (iOr .i32 (iAndNot .i32 (w32 x7) (iShr .i32 (iShl .i32 (w32 x4) 31) 31)) (iAnd .i32 65533 (iShr .i32 (iShl .i32 (w32 x4) 31) 31)), 1))
    else (
      (idx tab2L (iShr .u8 x4 4)).bind fun x8 =>
      letB (decide ((p.length : Int) < (w64 (iAnd .u8 x4 7)))) fun c9 =>
      bif c9 then (
        some (65533, 1))
      else (
        (idx p 1).bind fun x11 =>
        letB (decide (x11 < x8.lo)) fun c12 =>
        (bif c12 then some true else (
          letB (decide (x8.hi < x11)) fun c14 =>
          some (c14))).bind fun g13 =>
        bif g13 then (
          some (65533, 1))
        else (
          letB (decide ((w64 (iAnd .u8 x4 7)) ≤ 2)) fun c17 =>
          bif c17 then (
            some (iOr .i32 (iShl .i32 (w32 (iAnd .u8 x3 31)) 6) (w32 (iAnd .u8 x11 63)), 2))
          else (
            (idx p 2).bind fun x19 =>
            letB (decide (x19 < 128)) fun c20 =>
            (bif c20 then some true else (
              letB (decide (191 < x19)) fun c22 =>
              some (c22))).bind fun g21 =>
            bif g21 then (
              some (65533, 1))
            else (
              letB (decide ((w64 (iAnd .u8 x4 7)) ≤ 3)) fun c25 =>
              bif c25 then (
                some (iOr .i32 (iOr .i32 (iShl .i32 (w32 (iAnd .u8 x3 15)) 12) (iShl .i32 (w32 (iAnd .u8 x11 63)) 6)) (w32 (iAnd .u8 x19 63)), 3))
              else (
                (idx p 3).bind fun x27 =>
                letB (decide (x27 < 128)) fun c28 =>
                (bif c28 then some true else (
                  letB (decide (191 < x27)) fun c30 =>
                  some (c30))).bind fun g29 =>
                bif g29 then (
                  some (65533, 1))
                else (
                  some (iOr .i32 (iOr .i32 (iOr .i32 (iShl .i32 (w32 (iAnd .u8 x3 7)) 18) (iShl .i32 (w32 (iAnd .u8 x11 63)) 12)) (iShl .i32 (w32 (iAnd .u8 x19 63)) 6)) (w32 (iAnd .u8 x27 63)), 4)))))))))
set_option maxRecDepth 20000 in
theorem unicode_utf8_decodeRuneSlow_ok {p : List Int} {r : Int × Int} (h : unicode_utf8_decodeRuneSlow p = some r) : CallT true (RF ET) 60 [.sl false 1 (List.map by8 p)] [] (.tuple [.int .i32 r.1, .int .i64 r.2]) [] := by
  refine CallT.quiet (con_low (af := a60) rfl rfl ?_) rfl
  unfold unicode_utf8_decodeRuneSlow at h
  refine WP_seq ?_
  refine WP_reg [0] [] ?_
  refine WPO_f ?_
  refine WP_seq ?_
  refine WP_reg [0, 4] [] ?_
  refine WPO_f ?_
  refine ⟨_, (List.length_map ..).symm, ?_⟩
  refine WP_seq ?_
  refine WP_seq ?_
  refine WP_reg [0, 4, 16] [] ?_
  refine WPO_f ?_
  refine fun c1 hc1 => ?_
  replace h := letB_inv hc1 h
  refine WP_cond (b := c1) rfl (fun hb2 => ?_) (fun hb2 => ?_)
  · replace h := bif_t hb2 h
    refine WP_seq ?_
    refine WP_reg [2, 3] [] ?_
    refine WPO_f ?_
    refine WP_ret ?_
    cases h
    exact ⟨rfl, rfl, rfl, rfl, rfl⟩
  · replace h := bif_f hb2 h
    refine WP_skip ?_
    refine WP_seq ?_
    refine WP_reg [0, 4, 5] [] ?_
    refine WPO_f ?_
    obtain ⟨x3, hx3, h⟩ := bind_inv h
    refine And.intro (idx_nn hx3) ⟨_, idx_get by8 hx3, ?_⟩
    refine WP_seq ?_
    refine WP_reg [0, 4, 5, 6] [] ?_
    refine WPO_f ?_
    obtain ⟨x4, hx4, h⟩ := bind_inv h
    refine And.intro (idx_nn hx4) ⟨_, tab1_get hx4, ?_⟩
    refine WP_seq ?_
    refine WP_seq ?_
    refine WP_reg [0, 4, 5, 6, 24] [] ?_
    refine WPO_f ?_
    refine fun c5 hc5 => ?_
    replace h := letB_inv hc5 h
    refine WP_cond (b := c5) rfl (fun hb6 => ?_) (fun hb6 => ?_)
    · replace h := bif_t hb6 h
      refine WP_seq ?_
      refine WP_reg [0, 7] [] ?_
      refine WPO_f ?_
      refine And.intro (by decide) ?_
      refine And.intro (by decide) ?_
      refine WP_seq ?_
      refine WP_reg [2, 3] [] ?_
      refine WPO_f ?_
      obtain ⟨x7, hx7, h⟩ := bind_inv h
      refine And.intro (idx_nn hx7) ⟨_, idx_get by8 hx7, ?_⟩
      refine WP_ret ?_
      cases h
      exact ⟨rfl, rfl, rfl, rfl, rfl⟩
    · replace h := bif_f hb6 h
      refine WP_skip ?_
      refine WP_seq ?_
      refine WP_reg [0, 4, 5, 6, 8] [] ?_
      refine WPO_f ?_
      refine WP_seq ?_
      refine WP_reg [0, 4, 5, 8, 9] [0] ?_
      refine WPO_f ?_
      refine And.intro (by decide) ?_
      obtain ⟨x8, hx8, h⟩ := bind_inv h
      refine And.intro (idx_nn hx8) ⟨_, tab2_get hx8, ?_⟩
      refine WP_seq ?_
      refine WP_seq ?_
      refine WP_reg [0, 5, 8, 9, 47] [0] ?_
      refine WPO_f ?_
      refine fun c9 hc9 => ?_
      replace h := letB_inv hc9 h
      refine WP_cond (b := c9) rfl (fun hb10 => ?_) (fun hb10 => ?_)
      · replace h := bif_t hb10 h
        refine WP_seq ?_
        refine WP_reg [2, 3] [0] ?_
        refine WPO_f ?_
        refine WP_ret ?_
        cases h
        exact ⟨rfl, rfl, rfl, rfl, rfl⟩
      · replace h := bif_f hb10 h
        refine WP_skip ?_
        refine WP_seq ?_
        refine WP_reg [0, 5, 8, 9, 10] [0] ?_
        refine WPO_f ?_
        obtain ⟨x11, hx11, h⟩ := bind_inv h
        refine And.intro (idx_nn hx11) ⟨_, idx_get by8 hx11, ?_⟩
        refine WP_seq ?_
        refine WP_seq ?_
        refine WP_reg [0, 5, 8, 10, 60] [0] ?_
        refine WPO_then 5 ?_
        refine WPO_f ?_
        refine fun c12 hc12 => ?_
        replace h := letB_inv hc12 h
        obtain ⟨g13, hg13, h⟩ := bind_inv h
        refine WPO_grp 5 60 [0, 5, 8, 10, 60] g13 ?_ ?_
        · clear h
          replace h := hg13
          clear hg13
          cases hb15 : c12 with
          | false =>
            replace h := bif_f hb15 h
            refine WPO_f ?_
            refine fun c14 hc14 => ?_
            replace h := letB_inv hc14 h
            cases h
            exact ⟨rfl, rfl, rfl⟩
          | true =>
            replace h := bif_t hb15 h
            cases h
            refine WPO_f ?_
            exact ⟨rfl, rfl, rfl⟩
        refine WPO_f ?_
        refine WP_cond (b := g13) rfl (fun hb16 => ?_) (fun hb16 => ?_)
        · replace h := bif_t hb16 h
          refine WP_seq ?_
          refine WP_reg [2, 3] [0] ?_
          refine WPO_f ?_
          refine WP_ret ?_
          cases h
          exact ⟨rfl, rfl, rfl, rfl, rfl⟩
        · replace h := bif_f hb16 h
          refine WP_skip ?_
          refine WP_seq ?_
          refine WP_seq ?_
          refine WP_reg [0, 5, 8, 10, 62] [0] ?_
          refine WPO_f ?_
          refine fun c17 hc17 => ?_
          replace h := letB_inv hc17 h
          refine WP_cond (b := c17) rfl (fun hb18 => ?_) (fun hb18 => ?_)
          · replace h := bif_t hb18 h
            refine WP_seq ?_
            refine WP_reg [2, 3] [0] ?_
            refine WPO_f ?_
            refine And.intro (by decide) ?_
            refine WP_ret ?_
            cases h
            exact ⟨rfl, rfl, rfl, rfl, rfl⟩
          · replace h := bif_f hb18 h
            refine WP_skip ?_
            refine WP_seq ?_
            refine WP_reg [0, 5, 8, 10, 11] [0] ?_
            refine WPO_f ?_
            obtain ⟨x19, hx19, h⟩ := bind_inv h
            refine And.intro (idx_nn hx19) ⟨_, idx_get by8 hx19, ?_⟩
            refine WP_seq ?_
            refine WP_seq ?_
            refine WP_reg [0, 5, 8, 10, 11, 79] [0] ?_
            refine WPO_then 3 ?_
            refine WPO_f ?_
            refine fun c20 hc20 => ?_
            replace h := letB_inv hc20 h
            obtain ⟨g21, hg21, h⟩ := bind_inv h
            refine WPO_grp 3 79 [0, 5, 8, 10, 11, 79] g21 ?_ ?_
            · clear h
              replace h := hg21
              clear hg21
              cases hb23 : c20 with
              | false =>
                replace h := bif_f hb23 h
                refine WPO_f ?_
                refine fun c22 hc22 => ?_
                replace h := letB_inv hc22 h
                cases h
                exact ⟨rfl, rfl, rfl⟩
              | true =>
                replace h := bif_t hb23 h
                cases h
                refine WPO_f ?_
                exact ⟨rfl, rfl, rfl⟩
            refine WPO_f ?_
            refine WP_cond (b := g21) rfl (fun hb24 => ?_) (fun hb24 => ?_)
            · replace h := bif_t hb24 h
              refine WP_seq ?_
              refine WP_reg [2, 3] [0] ?_
              refine WPO_f ?_
              refine WP_ret ?_
              cases h
              exact ⟨rfl, rfl, rfl, rfl, rfl⟩
            · replace h := bif_f hb24 h
              refine WP_skip ?_
              refine WP_seq ?_
              refine WP_seq ?_
              refine WP_reg [0, 5, 10, 11, 81] [0] ?_
              refine WPO_f ?_
              refine fun c25 hc25 => ?_
              replace h := letB_inv hc25 h
              refine WP_cond (b := c25) rfl (fun hb26 => ?_) (fun hb26 => ?_)
              · replace h := bif_t hb26 h
                refine WP_seq ?_
                refine WP_reg [2, 3] [0] ?_
                refine WPO_f ?_
                refine And.intro (by decide) ?_
                refine And.intro (by decide) ?_
                refine WP_ret ?_
                cases h
                exact ⟨rfl, rfl, rfl, rfl, rfl⟩
              · replace h := bif_f hb26 h
                refine WP_skip ?_
                refine WP_seq ?_
                refine WP_reg [5, 10, 11, 12] [0] ?_
                refine WPO_f ?_
                obtain ⟨x27, hx27, h⟩ := bind_inv h
                refine And.intro (idx_nn hx27) ⟨_, idx_get by8 hx27, ?_⟩
                refine WP_seq ?_
                refine WP_seq ?_
                refine WP_reg [5, 10, 11, 12, 103] [0] ?_
                refine WPO_then 3 ?_
                refine WPO_f ?_
                refine fun c28 hc28 => ?_
                replace h := letB_inv hc28 h
                obtain ⟨g29, hg29, h⟩ := bind_inv h
                refine WPO_grp 3 103 [5, 10, 11, 12, 103] g29 ?_ ?_
                · clear h
                  replace h := hg29
                  clear hg29
                  cases hb31 : c28 with
                  | false =>
                    replace h := bif_f hb31 h
                    refine WPO_f ?_
                    refine fun c30 hc30 => ?_
                    replace h := letB_inv hc30 h
                    cases h
                    exact ⟨rfl, rfl, rfl⟩
                  | true =>
                    replace h := bif_t hb31 h
                    cases h
                    refine WPO_f ?_
                    exact ⟨rfl, rfl, rfl⟩
                refine WPO_f ?_
                refine WP_cond (b := g29) rfl (fun hb32 => ?_) (fun hb32 => ?_)
                · replace h := bif_t hb32 h
                  refine WP_seq ?_
                  refine WP_reg [2, 3] [0] ?_
                  refine WPO_f ?_
                  refine WP_ret ?_
                  cases h
                  exact ⟨rfl, rfl, rfl, rfl, rfl⟩
                · replace h := bif_f hb32 h
                  refine WP_skip ?_
                  refine WP_seq ?_
                  refine WP_reg [2, 3] [0] ?_
                  refine WPO_f ?_
                  refine And.intro (by decide) ?_
                  refine And.intro (by decide) ?_
                  refine And.intro (by decide) ?_
                  refine WP_ret ?_
                  cases h
                  exact ⟨rfl, rfl, rfl, rfl, rfl⟩
noncomputable def unicode_utf8_DecodeRune_l2 (p : List Int) : Option (Unit ⊕ (Int ⊕ Unit)) :=
  letB (decide (0 < (p.length : Int))) fun c1 =>
  bif c1 then (
    (idx p 0).bind fun x3 =>
    letB (decide (x3 < 128)) fun c4 =>
    bif c4 then (
      some (.inr (.inl (w32 x3))))
    else (
      some (.inr (.inr ()))))
  else (
    some (.inr (.inr ())))
noncomputable def unicode_utf8_DecodeRune (p : List Int) : Option (Int × Int) :=
  Option.bind (
    (iter (fun _ => unicode_utf8_DecodeRune_l2 p : Unit → Option (Unit ⊕ (Int ⊕ Unit))) ()).bind fun j6 =>
    match j6 with
    | .inl z7 => (
      some (.inr z7))
    | .inr z8 => (
      some (.inl ())) : Option (Unit ⊕ Int)) fun j9 =>
  match j9 with
  | .inl z10 => (
    (unicode_utf8_decodeRuneSlow p).bind fun y12 =>
    some (y12.1, y12.2))
  | .inr z11 => (
    some (z11, 1))
set_option maxRecDepth 20000 in
theorem unicode_utf8_DecodeRune_ok {p : List Int} {r : Int × Int} (h : unicode_utf8_DecodeRune p = some r) : CallT true (RF ET) 54 [.sl false 1 (List.map by8 p)] [] (.tuple [.int .i32 r.1, .int .i64 r.2]) [] := by
  refine CallT.quiet (con_low (af := a54) rfl rfl ?_) rfl
  unfold unicode_utf8_DecodeRune at h
  refine WP_seq ?_
  refine WP_reg [0] [] ?_
  refine WPO_f ?_
  refine WP_seq ?_
  refine WP_seq ?_
  refine WP_reg [0, 6, 7, 8] [] ?_
  refine WPO_f ?_
  refine ⟨_, (List.length_map ..).symm, ?_⟩
  obtain ⟨j9, hj9, h⟩ := bind_inv h
  refine WP_cut j9 (fun r => match r with | .inl z => (.normal, [(0, .sl false 1 (List.map by8 p))], [], []) | .inr z => (.ret, [(2, .int .i32 z), (3, .int .i64 1)], [], [])) (fun e => match e with | .normal => [0] | .ret => [2, 3] | _ => []) (fun e => match e with | .normal => [] | .ret => [] | _ => []) ?_ ?_
  · clear h
    replace h := hj9
    clear hj9
    refine WP_block ?_
    obtain ⟨j6, hj6, h⟩ := bind_inv h
    refine WP_iter hj6 [] (fun s => ([(0, .sl false 1 (List.map by8 p)), (6, .sl false 1 (List.map by8 p)), (7, .int .i64 (p.length : Int)), (8, .int .i64 0)], [], [])) (fun e => match e with | .ret => [2, 3] | .exit 0 => [0] | _ => []) (fun e => match e with | .ret => [] | .exit 0 => [] | _ => []) (fun r => match r with | .inl z => (.ret, [(2, .int .i32 z), (3, .int .i64 1)], [], []) | .inr z => (.exit 0, [(0, .sl false 1 (List.map by8 p))], [], [])) ?_ ?_ ?_
    · exact rfl
    · clear h
      rintro _ x h
      replace h : unicode_utf8_DecodeRune_l2 p = some x := h
      unfold unicode_utf8_DecodeRune_l2 at h
      show T.WP _ _ [(0, .sl false 1 (List.map by8 p)), (6, .sl false 1 (List.map by8 p)), (7, .int .i64 (p.length : Int)), (8, .int .i64 0)] [] [] _
      refine WP_seq ?_
      refine WP_reg [0, 6, 8, 9] [] ?_
      refine WPO_f ?_
      refine fun c1 hc1 => ?_
      replace h := letB_inv hc1 h
      refine WP_seq ?_
      refine WP_cond (b := c1) rfl (fun hb2 => ?_) (fun hb2 => ?_)
      · replace h := bif_t hb2 h
        refine WP_skip ?_
        refine WP_seq ?_
        refine WP_block ?_
        refine WP_seq ?_
        refine WP_reg [0, 5] [] ?_
        refine WPO_f ?_
        obtain ⟨x3, hx3, h⟩ := bind_inv h
        refine And.intro (idx_nn hx3) ⟨_, idx_get by8 hx3, ?_⟩
        refine WP_seq ?_
        refine WP_seq ?_
        refine WP_reg [0, 5, 13] [] ?_
        refine WPO_f ?_
        refine fun c4 hc4 => ?_
        replace h := letB_inv hc4 h
        refine WP_cond (b := c4) rfl (fun hb5 => ?_) (fun hb5 => ?_)
        · replace h := bif_t hb5 h
          refine WP_seq ?_
          refine WP_reg [2, 3] [] ?_
          refine WPO_f ?_
          refine WP_ret ?_
          cases h
          exact ⟨_, rfl, rfl⟩
        · replace h := bif_f hb5 h
          refine WP_skip ?_
          refine WP_exit ?_
          cases h
          exact ⟨_, rfl, rfl⟩
      · replace h := bif_f hb2 h
        refine WP_exit ?_
        cases h
        exact ⟨_, rfl, rfl⟩
    rcases j6 with z7 | z8
    · cases h
      exact rfl
    · cases h
      exact rfl
  rcases j9 with z10 | z11
  · refine WP_seq ?_
    refine WP_reg [2, 3] [] ?_
    refine WPO_f ?_
    obtain ⟨y12, hy12, h⟩ := bind_inv h
    refine ⟨_, _, CallT.any (unicode_utf8_decodeRuneSlow_ok hy12) rfl _ rfl, ?_⟩
    refine WP_ret ?_
    cases h
    exact ⟨rfl, rfl, rfl, rfl, rfl⟩
  · cases h
    exact ⟨rfl, rfl, rfl, rfl, rfl⟩
noncomputable def glyph_Reader_Feed_in32_0_l1 (out : List Int) (all : List Int) : Option ((List Int × List Int) ⊕ (List Int × List Int)) :=
  (unicode_utf8_FullRune all).bind fun y3 =>
  bif y3 then (
    (unicode_utf8_DecodeRune all).bind fun y5 =>
    (app out [y5.1]).bind fun x6 =>
    (subA all y5.2).bind fun x7 =>
    some (.inl (x6, x7)))
  else (
    some (.inr (out, all)))
noncomputable def glyph_Reader_Feed_in32_0 (r_ : ParserM) (b : List Int) : Option (List Int × ParserM) :=
  (slices_Clone_52 r_.text.waits).bind fun y1 =>
  (app y1 b).bind fun x2 =>
  (iter (fun s => glyph_Reader_Feed_in32_0_l1 s.1 s.2 : (List Int × List Int) → Option ((List Int × List Int) ⊕ (List Int × List Int))) ([], x2)).bind fun j8 =>
  (slices_Clone_52 j8.2).bind fun y9 =>
  some (j8.1, { r_ with text := (Reader.mk y9) })
set_option maxRecDepth 20000 in
theorem glyph_Reader_Feed_in32_0_ok {r_ : ParserM} {b : List Int} {r : List Int × ParserM} (h : glyph_Reader_Feed_in32_0 r_ b = some r) : CallT false (RF ET) 44 [.ptr 0 0, .sl false 1 (List.map by8 b)] [(ParserM.m r_)] (.sl true 1 (List.map ei32 r.1)) [(ParserM.m r.2)] := by
  refine con_low (af := a44) rfl rfl ?_
  unfold glyph_Reader_Feed_in32_0 at h
  refine WP_seq ?_
  refine WP_reg [0, 1] [] ?_
  refine WPO_f ?_
  refine ⟨.sl false 1 [], .sl _ _, ?_⟩
  refine WP_seq ?_
  refine WP_reg [0, 1, 5] [] ?_
  refine WPO_f ?_
  refine ⟨.sl true 1 [], .sl _ _, ?_⟩
  refine WP_seq ?_
  refine WP_reg [0, 5, 6] [] ?_
  refine WPO_f ?_
  obtain ⟨y1, hy1, h⟩ := bind_inv h
  refine ⟨_, _, CallT.any (slices_Clone_52_ok hy1) rfl _ rfl, ?_⟩
  obtain ⟨x2, hx2, h⟩ := bind_inv h
  refine And.intro (app_le by8 hx2) ⟨_, app_eq by8 hx2, ?_⟩
  refine WP_seq ?_
  refine WP_block ?_
  obtain ⟨j8, hj8, h⟩ := bind_inv h
  refine WP_iter hj8 [] (fun s => ([(0, .ptr 0 0), (5, .sl true 1 (List.map ei32 s.1)), (6, .sl false 1 (List.map by8 s.2))], [], [(ParserM.m r_)])) (fun _ => [0, 5, 6]) (fun _ => []) (fun z => (.exit 0, [(0, .ptr 0 0), (5, .sl true 1 (List.map ei32 z.1)), (6, .sl false 1 (List.map by8 z.2))], [], [(ParserM.m r_)])) ?_ ?_ ?_
  · exact rfl
  · clear h
    rintro ⟨out, all⟩ x h
    replace h : glyph_Reader_Feed_in32_0_l1 out all = some x := h
    unfold glyph_Reader_Feed_in32_0_l1 at h
    show T.WP _ _ [(0, .ptr 0 0), (5, .sl true 1 (List.map ei32 out)), (6, .sl false 1 (List.map by8 all))] [] [(ParserM.m r_)] _
    refine WP_seq ?_
    refine WP_seq ?_
    refine WP_reg [0, 5, 6, 17] [] ?_
    refine WPO_f ?_
    obtain ⟨y3, hy3, h⟩ := bind_inv h
    refine ⟨_, _, CallT.any (unicode_utf8_FullRune_ok hy3) rfl _ rfl, ?_⟩
    refine WP_cond (b := y3) rfl (fun hb4 => ?_) (fun hb4 => ?_)
    · replace h := bif_t hb4 h
      refine WP_skip ?_
      refine WP_block ?_
      refine WP_seq ?_
      refine WP_reg [0, 5, 6, 7, 8] [] ?_
      refine WPO_f ?_
      obtain ⟨y5, hy5, h⟩ := bind_inv h
      refine ⟨_, _, CallT.any (unicode_utf8_DecodeRune_ok hy5) rfl _ rfl, ?_⟩
      refine WP_seq ?_
      refine WP_reg [0, 5, 6, 8] [] ?_
      refine WPO_f ?_
      refine ⟨List.map ei32 ([y5.1] : List Int), rfl, ?_⟩
      obtain ⟨x6, hx6, h⟩ := bind_inv h
      refine And.intro (app_le ei32 hx6) ⟨_, app_eq ei32 hx6, ?_⟩
      refine WP_reg [0, 5, 6] [] ?_
      refine WPO_f ?_
      obtain ⟨x7, hx7, h⟩ := bind_inv h
      refine And.intro (subA_a hx7) (And.intro (subA_le by8 hx7) ⟨_, subA_eq by8 hx7, ?_⟩)
      cases h
      exact ⟨_, rfl, rfl⟩
    · replace h := bif_f hb4 h
      refine WP_exit ?_
      cases h
      exact ⟨_, rfl, rfl⟩
  refine WP_seq ?_
  refine WP_reg [5] [] ?_
  refine WPO_f ?_
  obtain ⟨y9, hy9, h⟩ := bind_inv h
  refine ⟨_, _, CallT.any (slices_Clone_52_ok hy9) rfl _ rfl, ?_⟩
  refine WP_seq ?_
  refine WP_reg [4] [] ?_
  refine WPO_f ?_
  refine WP_ret ?_
  cases h
  exact ⟨rfl, rfl, rfl, rfl, by simp only [flatM, List.all_cons, List.all_nil, ParserM.flat, Bool.and_self]⟩
noncomputable def esc_Parser_plain (p : ParserM) (c : Int) : Option ParserM :=
  (glyph_Reader_Feed_in32_0 p [c]).bind fun y1 =>
  (esc_Parser_print y1.2 y1.1).bind fun y2 =>
  some y2
set_option maxRecDepth 20000 in
theorem esc_Parser_plain_ok {p : ParserM} {c : Int} {r : ParserM} (h : esc_Parser_plain p c = some r) : CallT false (RF ET) 36 [.ptr 0 0, .int .u8 c] [(ParserM.m p)] (.tuple []) [(ParserM.m r)] := by
  refine con_low (af := a36) rfl rfl ?_
  unfold esc_Parser_plain at h
  refine WP_reg [] [] ?_
  refine WPO_f ?_
  refine ⟨List.map by8 ([c] : List Int), rfl, ?_⟩
  obtain ⟨y1, hy1, h⟩ := bind_inv h
  refine ⟨_, _, CallT.sub (i := 0) (glyph_Reader_Feed_in32_0_ok hy1) rfl _ rfl rfl (ParserM.flat _) (ParserM.flat _), ?_⟩
  obtain ⟨y2, hy2, h⟩ := bind_inv h
  refine ⟨_, _, CallT.sub (i := 0) (esc_Parser_print_ok hy2) rfl _ rfl rfl (ParserM.flat _) (ParserM.flat _), ?_⟩
  cases h
  exact ⟨rfl, rfl, rfl, rfl, by simp only [flatM, List.all_cons, List.all_nil, ParserM.flat, Bool.and_self]⟩
noncomputable def glyph_Reader_Rest_in32_0 (r_ : ParserM) : Option (List Int × ParserM) :=
  (slices_Repeat_31 [65533] (r_.text.waits.length : Int)).bind fun y1 =>
  some (y1, { r_ with text := (Reader.mk []) })
set_option maxRecDepth 20000 in
theorem glyph_Reader_Rest_in32_0_ok {r_ : ParserM} {r : List Int × ParserM} (h : glyph_Reader_Rest_in32_0 r_ = some r) : CallT false (RF ET) 25 [.ptr 0 0] [(ParserM.m r_)] (.sl false 1 (List.map ei32 r.1)) [(ParserM.m r.2)] := by
  refine con_low (af := a25) rfl rfl ?_
  unfold glyph_Reader_Rest_in32_0 at h
  refine WP_seq ?_
  refine WP_reg [0] [] ?_
  refine WPO_f ?_
  refine ⟨.sl false 1 [], .sl _ _, ?_⟩
  refine WP_seq ?_
  refine WP_reg [0, 3] [] ?_
  refine WPO_f ?_
  refine ⟨List.map ei32 ([65533] : List Int), rfl, ?_⟩
  refine ⟨_, (List.length_map ..).symm, ?_⟩
  obtain ⟨y1, hy1, h⟩ := bind_inv h
  refine ⟨_, _, CallT.any (slices_Repeat_31_ok hy1) rfl _ rfl, ?_⟩
  refine WP_seq ?_
  refine WP_reg [3] [] ?_
  refine WPO_f ?_
  refine ⟨.sl false 1 [], .sl _ _, ?_⟩
  refine WP_seq ?_
  refine WP_reg [2] [] ?_
  refine WPO_f ?_
  refine WP_ret ?_
  cases h
  exact ⟨rfl, rfl, rfl, rfl, by simp only [flatM, List.all_cons, List.all_nil, ParserM.flat, Bool.and_self]⟩
noncomputable def esc_Parser_byteF (rec18 : ParserM → Int → Option ParserM) (rec35 : ParserM → Int → Option ParserM) (p : ParserM) (c : Int) : Option ParserM :=
  letB (decide (c < 32)) fun c1 =>
  (bif c1 then some true else (
    letB (decide (c = 127)) fun c3 =>
    some (c3))).bind fun g2 =>
  Option.bind (
    bif g2 then (
      (glyph_Reader_Rest_in32_0 p).bind fun y6 =>
      (esc_Parser_print y6.2 y6.1).bind fun y7 =>
      some (y7))
    else (
      some (p)) : Option ParserM) fun j8 =>
  Option.bind (
    letB (decide (j8.in_ = 3)) fun c9 =>
    (bif c9 then some true else (
      letB (decide (j8.in_ = 4)) fun c11 =>
      some (c11))).bind fun g10 =>
    Option.bind (
      bif g10 then (
        (esc_state_on j8.in_).bind fun y14 =>
        ((bif decide (y14 = 32) then esc_Parser_behind j8 c else bif decide (y14 = 33) then esc_Parser_sequence j8 c else bif decide (y14 = 34) then esc_Parser_collect j8 c else bif decide (y14 = 35) then rec35 j8 c else bif decide (y14 = 36) then esc_Parser_plain j8 c else none : Option ParserM)).bind fun y15 =>
        some (y15))
      else (
        letB (decide (c = 24)) fun c17 =>
        (bif c17 then some true else (
          letB (decide (c = 26)) fun c19 =>
          some (c19))).bind fun g18 =>
        Option.bind (
          bif g18 then (
            some ({ j8 with in_ := 0 }))
          else (
            letB (decide (c = 27)) fun c22 =>
            Option.bind (
              bif c22 then (
                (esc_Parser_begin j8 1).bind fun y24 =>
                some (y24))
              else (
                letB (decide (c < 32)) fun c25 =>
                Option.bind (
                  bif c25 then (
                    (esc_Parser_say j8 (Act.mk 2 0 c 0 [] [] [])).bind fun y27 =>
                    some (y27))
                  else (
                    letB (decide (c ≠ 127)) fun c28 =>
                    Option.bind (
                      bif c28 then (
                        (esc_state_on j8.in_).bind fun y30 =>
                        ((bif decide (y30 = 32) then esc_Parser_behind j8 c else bif decide (y30 = 33) then esc_Parser_sequence j8 c else bif decide (y30 = 34) then esc_Parser_collect j8 c else bif decide (y30 = 35) then rec35 j8 c else bif decide (y30 = 36) then esc_Parser_plain j8 c else none : Option ParserM)).bind fun y31 =>
                        some (y31))
                      else (
                        some (j8)) : Option ParserM) fun j33 =>
                    some (j33)) : Option ParserM) fun j34 =>
                some (j34)) : Option ParserM) fun j35 =>
            some (j35)) : Option ParserM) fun j36 =>
        some (j36)) : Option ParserM) fun j37 =>
    some (j37) : Option ParserM) fun j38 =>
  some j38
set_option maxRecDepth 20000 in
theorem esc_Parser_byteF_ok {rec18 : ParserM → Int → Option ParserM} {rec35 : ParserM → Int → Option ParserM} (rec18_ok : ∀ (a0 : ParserM) (a1 : Int) (r : ParserM), rec18 a0 a1 = some r → CallT false (RF ET) 18 [.ptr 0 0, .int .u8 a1] [(ParserM.m a0)] (.tuple []) [(ParserM.m r)]) (rec35_ok : ∀ (a0 : ParserM) (a1 : Int) (r : ParserM), rec35 a0 a1 = some r → CallT false (RF ET) 35 [.ptr 0 0, .int .u8 a1] [(ParserM.m a0)] (.tuple []) [(ParserM.m r)]) {p : ParserM} {c : Int} {r : ParserM} (h : esc_Parser_byteF rec18 rec35 p c = some r) : CallT false (RF ET) 18 [.ptr 0 0, .int .u8 c] [(ParserM.m p)] (.tuple []) [(ParserM.m r)] := by
  refine con_low (af := a18) rfl rfl ?_
  unfold esc_Parser_byteF at h
  refine WP_seq ?_
  refine WP_seq ?_
  refine WP_reg [0, 1, 9] [] ?_
  refine WPO_then 3 ?_
  refine WPO_f ?_
  refine fun c1 hc1 => ?_
  replace h := letB_inv hc1 h
  obtain ⟨g2, hg2, h⟩ := bind_inv h
  refine WPO_grp 3 9 [0, 1, 9] g2 ?_ ?_
  · clear h
    replace h := hg2
    clear hg2
    cases hb4 : c1 with
    | false =>
      replace h := bif_f hb4 h
      refine WPO_f ?_
      refine fun c3 hc3 => ?_
      replace h := letB_inv hc3 h
      cases h
      exact ⟨rfl, rfl, rfl⟩
    | true =>
      replace h := bif_t hb4 h
      cases h
      refine WPO_f ?_
      exact ⟨rfl, rfl, rfl⟩
  refine WPO_f ?_
  obtain ⟨j8, hj8, h⟩ := bind_inv h
  refine WP_cut j8 (fun z => (.normal, [(0, .ptr 0 0), (1, .int .u8 c)], [], [(ParserM.m z)])) (fun _ => [0, 1]) (fun _ => []) ?_ ?_
  · clear h
    replace h := hj8
    clear hj8
    refine WP_cond (b := g2) rfl (fun hb5 => ?_) (fun hb5 => ?_)
    · replace h := bif_t hb5 h
      refine WP_reg [0, 1] [] ?_
      refine WPO_f ?_
      obtain ⟨y6, hy6, h⟩ := bind_inv h
      refine ⟨_, _, CallT.sub (i := 0) (glyph_Reader_Rest_in32_0_ok hy6) rfl _ rfl rfl (ParserM.flat _) (ParserM.flat _), ?_⟩
      obtain ⟨y7, hy7, h⟩ := bind_inv h
      refine ⟨_, _, CallT.sub (i := 0) (esc_Parser_print_ok hy7) rfl _ rfl rfl (ParserM.flat _) (ParserM.flat _), ?_⟩
      cases h
      exact rfl
    · replace h := bif_f hb5 h
      refine WP_skip ?_
      cases h
      exact rfl
  obtain ⟨j38, hj38, h⟩ := bind_inv h
  refine WP_cut j38 (fun z => (.normal, [], [], [(ParserM.m z)])) (fun _ => []) (fun _ => []) ?_ ?_
  · clear h
    replace h := hj38
    clear hj38
    refine WP_block ?_
    refine WP_seq ?_
    refine WP_reg [0, 1, 16] [] ?_
    refine WPO_then 6 ?_
    refine WPO_f ?_
    refine fun c9 hc9 => ?_
    replace h := letB_inv hc9 h
    obtain ⟨g10, hg10, h⟩ := bind_inv h
    refine WPO_grp 6 28 [0, 1, 28] g10 ?_ ?_
    · clear h
      replace h := hg10
      clear hg10
      cases hb12 : c9 with
      | false =>
        replace h := bif_f hb12 h
        refine WPO_f ?_
        refine fun c11 hc11 => ?_
        replace h := letB_inv hc11 h
        cases h
        exact ⟨rfl, rfl, rfl⟩
      | true =>
        replace h := bif_t hb12 h
        cases h
        refine WPO_f ?_
        exact ⟨rfl, rfl, rfl⟩
    refine WPO_f ?_
    obtain ⟨j37, hj37, h⟩ := bind_inv h
    refine WP_cut j37 (fun z => (.normal, [], [], [(ParserM.m z)])) (fun _ => []) (fun _ => []) ?_ ?_
    · clear h
      replace h := hj37
      clear hj37
      refine WP_cond (b := g10) rfl (fun hb13 => ?_) (fun hb13 => ?_)
      · replace h := bif_t hb13 h
        refine WP_reg [] [] ?_
        refine WPO_f ?_
        obtain ⟨y14, hy14, h⟩ := bind_inv h
        refine ⟨_, _, CallT.any (esc_state_on_ok hy14) rfl _ rfl, ?_⟩
        refine And.intro rfl ?_
        obtain ⟨y15, hy15, h⟩ := bind_inv h
        have d16 : ∀ {r : ParserM}, (bif decide (y14 = 32) then esc_Parser_behind j8 c else bif decide (y14 = 33) then esc_Parser_sequence j8 c else bif decide (y14 = 34) then esc_Parser_collect j8 c else bif decide (y14 = 35) then rec35 j8 c else bif decide (y14 = 36) then esc_Parser_plain j8 c else none : Option ParserM) = some r → CallT false (RF ET) y14 [.ptr 0 0, .int .u8 c] [(ParserM.m j8)] (.tuple []) [(ParserM.m r)] := by
          intro r h
          by_cases hq : y14 = 32
          · rw [hq] at h ⊢
            exact esc_Parser_behind_ok h
          replace h := bif_f (decide_eq_false hq) h
          by_cases hq : y14 = 33
          · rw [hq] at h ⊢
            exact esc_Parser_sequence_ok h
          replace h := bif_f (decide_eq_false hq) h
          by_cases hq : y14 = 34
          · rw [hq] at h ⊢
            exact esc_Parser_collect_ok h
          replace h := bif_f (decide_eq_false hq) h
          by_cases hq : y14 = 35
          · rw [hq] at h ⊢
            exact rec35_ok _ _ _ h
          replace h := bif_f (decide_eq_false hq) h
          by_cases hq : y14 = 36
          · rw [hq] at h ⊢
            exact esc_Parser_plain_ok h
          replace h := bif_f (decide_eq_false hq) h
          cases h
        refine ⟨_, _, CallT.sub (i := 0) (d16 hy15) rfl _ rfl rfl (ParserM.flat _) (ParserM.flat _), ?_⟩
        cases h
        exact rfl
      · replace h := bif_f hb13 h
        refine WP_seq ?_
        refine WP_reg [0, 1, 37] [] ?_
        refine WPO_then 3 ?_
        refine WPO_f ?_
        refine fun c17 hc17 => ?_
        replace h := letB_inv hc17 h
        obtain ⟨g18, hg18, h⟩ := bind_inv h
        refine WPO_grp 3 43 [0, 1, 43] g18 ?_ ?_
        · clear h
          replace h := hg18
          clear hg18
          cases hb20 : c17 with
          | false =>
            replace h := bif_f hb20 h
            refine WPO_f ?_
            refine fun c19 hc19 => ?_
            replace h := letB_inv hc19 h
            cases h
            exact ⟨rfl, rfl, rfl⟩
          | true =>
            replace h := bif_t hb20 h
            cases h
            refine WPO_f ?_
            exact ⟨rfl, rfl, rfl⟩
        refine WPO_f ?_
        obtain ⟨j36, hj36, h⟩ := bind_inv h
        refine WP_cut j36 (fun z => (.normal, [], [], [(ParserM.m z)])) (fun _ => []) (fun _ => []) ?_ ?_
        · clear h
          replace h := hj36
          clear hj36
          refine WP_cond (b := g18) rfl (fun hb21 => ?_) (fun hb21 => ?_)
          · replace h := bif_t hb21 h
            refine WP_reg [] [] ?_
            refine WPO_f ?_
            cases h
            exact rfl
          · replace h := bif_f hb21 h
            refine WP_seq ?_
            refine WP_reg [0, 1, 47] [] ?_
            refine WPO_f ?_
            refine fun c22 hc22 => ?_
            replace h := letB_inv hc22 h
            obtain ⟨j35, hj35, h⟩ := bind_inv h
            refine WP_cut j35 (fun z => (.normal, [], [], [(ParserM.m z)])) (fun _ => []) (fun _ => []) ?_ ?_
            · clear h
              replace h := hj35
              clear hj35
              refine WP_cond (b := c22) rfl (fun hb23 => ?_) (fun hb23 => ?_)
              · replace h := bif_t hb23 h
                refine WP_reg [] [] ?_
                refine WPO_f ?_
                obtain ⟨y24, hy24, h⟩ := bind_inv h
                refine ⟨_, _, CallT.sub (i := 0) (esc_Parser_begin_ok hy24) rfl _ rfl rfl (ParserM.flat _) (ParserM.flat _), ?_⟩
                cases h
                exact rfl
              · replace h := bif_f hb23 h
                refine WP_seq ?_
                refine WP_reg [0, 1, 52] [] ?_
                refine WPO_f ?_
                refine fun c25 hc25 => ?_
                replace h := letB_inv hc25 h
                obtain ⟨j34, hj34, h⟩ := bind_inv h
                refine WP_cut j34 (fun z => (.normal, [], [], [(ParserM.m z)])) (fun _ => []) (fun _ => []) ?_ ?_
                · clear h
                  replace h := hj34
                  clear hj34
                  refine WP_cond (b := c25) rfl (fun hb26 => ?_) (fun hb26 => ?_)
                  · replace h := bif_t hb26 h
                    refine WP_reg [] [] ?_
                    refine WPO_f ?_
                    refine ⟨.sl true 1 [], .sl _ _, ?_⟩
                    obtain ⟨y27, hy27, h⟩ := bind_inv h
                    refine ⟨_, _, CallT.sub (i := 0) (esc_Parser_say_ok hy27) rfl _ rfl rfl (ParserM.flat _) (ParserM.flat _), ?_⟩
                    cases h
                    exact rfl
                  · replace h := bif_f hb26 h
                    refine WP_seq ?_
                    refine WP_reg [0, 1, 59] [] ?_
                    refine WPO_f ?_
                    refine fun c28 hc28 => ?_
                    replace h := letB_inv hc28 h
                    obtain ⟨j33, hj33, h⟩ := bind_inv h
                    refine WP_cut j33 (fun z => (.normal, [], [], [(ParserM.m z)])) (fun _ => []) (fun _ => []) ?_ ?_
                    · clear h
                      replace h := hj33
                      clear hj33
                      refine WP_cond (b := c28) rfl (fun hb29 => ?_) (fun hb29 => ?_)
                      · replace h := bif_t hb29 h
                        refine WP_reg [] [] ?_
                        refine WPO_f ?_
                        obtain ⟨y30, hy30, h⟩ := bind_inv h
                        refine ⟨_, _, CallT.any (esc_state_on_ok hy30) rfl _ rfl, ?_⟩
                        refine And.intro rfl ?_
                        obtain ⟨y31, hy31, h⟩ := bind_inv h
                        have d32 : ∀ {r : ParserM}, (bif decide (y30 = 32) then esc_Parser_behind j8 c else bif decide (y30 = 33) then esc_Parser_sequence j8 c else bif decide (y30 = 34) then esc_Parser_collect j8 c else bif decide (y30 = 35) then rec35 j8 c else bif decide (y30 = 36) then esc_Parser_plain j8 c else none : Option ParserM) = some r → CallT false (RF ET) y30 [.ptr 0 0, .int .u8 c] [(ParserM.m j8)] (.tuple []) [(ParserM.m r)] := by
                          intro r h
                          by_cases hq : y30 = 32
                          · rw [hq] at h ⊢
                            exact esc_Parser_behind_ok h
                          replace h := bif_f (decide_eq_false hq) h
                          by_cases hq : y30 = 33
                          · rw [hq] at h ⊢
                            exact esc_Parser_sequence_ok h
                          replace h := bif_f (decide_eq_false hq) h
                          by_cases hq : y30 = 34
                          · rw [hq] at h ⊢
                            exact esc_Parser_collect_ok h
                          replace h := bif_f (decide_eq_false hq) h
                          by_cases hq : y30 = 35
                          · rw [hq] at h ⊢
                            exact rec35_ok _ _ _ h
                          replace h := bif_f (decide_eq_false hq) h
                          by_cases hq : y30 = 36
                          · rw [hq] at h ⊢
                            exact esc_Parser_plain_ok h
                          replace h := bif_f (decide_eq_false hq) h
                          cases h
                        refine ⟨_, _, CallT.sub (i := 0) (d32 hy31) rfl _ rfl rfl (ParserM.flat _) (ParserM.flat _), ?_⟩
                        cases h
                        exact rfl
                      · replace h := bif_f hb29 h
                        refine WP_skip ?_
                        cases h
                        exact rfl
                    cases h
                    exact rfl
                cases h
                exact rfl
            cases h
            exact rfl
        cases h
        exact rfl
    cases h
    exact rfl
  cases h
  exact ⟨rfl, rfl, rfl, rfl, by simp only [flatM, List.all_cons, List.all_nil, ParserM.flat, Bool.and_self]⟩
noncomputable def esc_Parser_endsF (rec18 : ParserM → Int → Option ParserM) (rec35 : ParserM → Int → Option ParserM) (p : ParserM) (c : Int) : Option ParserM :=
  letB (decide (c = 92)) fun c1 =>
  bif c1 then (
    (esc_Parser_endString p).bind fun y3 =>
    some y3)
  else (
    (esc_Parser_begin p 1).bind fun y4 =>
    (rec18 y4 c).bind fun y5 =>
    some y5)
set_option maxRecDepth 20000 in
theorem esc_Parser_endsF_ok {rec18 : ParserM → Int → Option ParserM} {rec35 : ParserM → Int → Option ParserM} (rec18_ok : ∀ (a0 : ParserM) (a1 : Int) (r : ParserM), rec18 a0 a1 = some r → CallT false (RF ET) 18 [.ptr 0 0, .int .u8 a1] [(ParserM.m a0)] (.tuple []) [(ParserM.m r)]) (rec35_ok : ∀ (a0 : ParserM) (a1 : Int) (r : ParserM), rec35 a0 a1 = some r → CallT false (RF ET) 35 [.ptr 0 0, .int .u8 a1] [(ParserM.m a0)] (.tuple []) [(ParserM.m r)]) {p : ParserM} {c : Int} {r : ParserM} (h : esc_Parser_endsF rec18 rec35 p c = some r) : CallT false (RF ET) 35 [.ptr 0 0, .int .u8 c] [(ParserM.m p)] (.tuple []) [(ParserM.m r)] := by
  refine con_low (af := a35) rfl rfl ?_
  unfold esc_Parser_endsF at h
  refine WP_seq ?_
  refine WP_seq ?_
  refine WP_reg [0, 1, 5] [] ?_
  refine WPO_f ?_
  refine fun c1 hc1 => ?_
  replace h := letB_inv hc1 h
  refine WP_cond (b := c1) rfl (fun hb2 => ?_) (fun hb2 => ?_)
  · replace h := bif_t hb2 h
    refine WP_seq ?_
    refine WP_reg [] [] ?_
    refine WPO_f ?_
    obtain ⟨y3, hy3, h⟩ := bind_inv h
    refine ⟨_, _, CallT.sub (i := 0) (esc_Parser_endString_ok hy3) rfl _ rfl rfl (ParserM.flat _) (ParserM.flat _), ?_⟩
    refine WP_ret ?_
    cases h
    exact ⟨rfl, rfl, rfl, rfl, by simp only [flatM, List.all_cons, List.all_nil, ParserM.flat, Bool.and_self]⟩
  · replace h := bif_f hb2 h
    refine WP_skip ?_
    refine WP_seq ?_
    refine WP_reg [0, 1] [] ?_
    refine WPO_f ?_
    obtain ⟨y4, hy4, h⟩ := bind_inv h
    refine ⟨_, _, CallT.sub (i := 0) (esc_Parser_begin_ok hy4) rfl _ rfl rfl (ParserM.flat _) (ParserM.flat _), ?_⟩
    refine WP_reg [] [] ?_
    refine WPO_f ?_
    obtain ⟨y5, hy5, h⟩ := bind_inv h
    refine ⟨_, _, CallT.sub (i := 0) (rec18_ok _ _ _ hy5) rfl _ rfl rfl (ParserM.flat _) (ParserM.flat _), ?_⟩
    cases h
    exact ⟨rfl, rfl, rfl, rfl, by simp only [flatM, List.all_cons, List.all_nil, ParserM.flat, Bool.and_self]⟩
noncomputable def esc_Parser_byteG : Nat → (ParserM → Int → Option ParserM) × (ParserM → Int → Option ParserM)
  | 0 => (fun _ _ => none, fun _ _ => none)
  | k + 1 => (esc_Parser_byteF ((esc_Parser_byteG k).1) ((esc_Parser_byteG k).2), esc_Parser_endsF ((esc_Parser_byteG k).1) ((esc_Parser_byteG k).2))
theorem esc_Parser_byteG_ok : ∀ k, (∀ (a0 : ParserM) (a1 : Int) (r : ParserM), ((esc_Parser_byteG k).1) a0 a1 = some r → CallT false (RF ET) 18 [.ptr 0 0, .int .u8 a1] [(ParserM.m a0)] (.tuple []) [(ParserM.m r)]) ∧ (∀ (a0 : ParserM) (a1 : Int) (r : ParserM), ((esc_Parser_byteG k).2) a0 a1 = some r → CallT false (RF ET) 35 [.ptr 0 0, .int .u8 a1] [(ParserM.m a0)] (.tuple []) [(ParserM.m r)])
  | 0 => ⟨(fun _ _ _ h => by cases h), (fun _ _ _ h => by cases h)⟩
  | k + 1 => ⟨(fun _ _ _ h => esc_Parser_byteF_ok ((esc_Parser_byteG_ok k).1) ((esc_Parser_byteG_ok k).2) h), (fun _ _ _ h => esc_Parser_endsF_ok ((esc_Parser_byteG_ok k).1) ((esc_Parser_byteG_ok k).2) h)⟩
noncomputable def esc_Parser_byte (a0 : ParserM) (a1 : Int) : Option ParserM := (esc_Parser_byteG 3).1 a0 a1
theorem esc_Parser_byte_ok {a0 : ParserM} {a1 : Int} {r : ParserM} (h : esc_Parser_byte a0 a1 = some r) : CallT false (RF ET) 18 [.ptr 0 0, .int .u8 a1] [(ParserM.m a0)] (.tuple []) [(ParserM.m r)] := (esc_Parser_byteG_ok 3).1 a0 a1 r h
noncomputable def esc_Parser_Feed_l1 (b : List Int) (t13 : Int) (p' : ParserM) : Option ((Int × ParserM) ⊕ ParserM) :=
  letB (decide (t13 < (b.length : Int))) fun c1 =>
  bif c1 then (
    (idx b t13).bind fun x3 =>
    (esc_Parser_byte p' x3).bind fun y4 =>
    some (.inl (w64 (t13 + 1), y4)))
  else (
    some (.inr p'))
noncomputable def esc_Parser_Feed (p : ParserM) (b : List Int) : Option (List Act × ParserM) :=
  (iter (fun s => esc_Parser_Feed_l1 b s.1 s.2 : (Int × ParserM) → Option ((Int × ParserM) ⊕ ParserM)) (0, { p with out := [] })).bind fun j5 =>
  some (j5.out, { j5 with out := [] })
set_option maxRecDepth 20000 in
theorem esc_Parser_Feed_ok {p : ParserM} {b : List Int} {r : List Act × ParserM} (h : esc_Parser_Feed p b = some r) : CallT false (RF ET) 10 [.ptr 0 0, .sl false 1 (List.map by8 b)] [(ParserM.m p)] (.sl false 7 (List.map Act.e r.1)) [(ParserM.m r.2)] := by
  refine con_low (af := a10) rfl rfl ?_
  unfold esc_Parser_Feed at h
  refine WP_seq ?_
  refine WP_reg [0, 1] [] ?_
  refine WPO_f ?_
  refine ⟨.sl false 7 [], .sl _ _, ?_⟩
  refine WP_seq ?_
  refine WP_reg [0, 1] [] ?_
  refine WPO_f ?_
  refine ⟨.sl true 7 [], .sl _ _, ?_⟩
  refine WP_seq ?_
  refine WP_seq ?_
  refine WP_reg [0, 11, 12, 13] [] ?_
  refine WPO_f ?_
  refine ⟨_, (List.length_map ..).symm, ?_⟩
  refine WP_block ?_
  obtain ⟨j5, hj5, h⟩ := bind_inv h
  refine WP_iter hj5 [] (fun s => ([(0, .ptr 0 0), (11, .sl false 1 (List.map by8 b)), (12, .int .i64 (b.length : Int)), (13, .int .i64 s.1)], [], [(ParserM.m s.2)])) (fun _ => [0]) (fun _ => []) (fun z => (.exit 0, [(0, .ptr 0 0)], [], [(ParserM.m z)])) ?_ ?_ ?_
  · exact rfl
  · clear h
    rintro ⟨t13, p'⟩ x h
    replace h : esc_Parser_Feed_l1 b t13 p' = some x := h
    unfold esc_Parser_Feed_l1 at h
    show T.WP _ _ [(0, .ptr 0 0), (11, .sl false 1 (List.map by8 b)), (12, .int .i64 (b.length : Int)), (13, .int .i64 t13)] [] [(ParserM.m p')] _
    refine WP_seq ?_
    refine WP_reg [0, 11, 12, 13, 14] [] ?_
    refine WPO_f ?_
    refine fun c1 hc1 => ?_
    replace h := letB_inv hc1 h
    refine WP_seq ?_
    refine WP_cond (b := c1) rfl (fun hb2 => ?_) (fun hb2 => ?_)
    · replace h := bif_t hb2 h
      refine WP_skip ?_
      refine WP_seq ?_
      refine WP_block ?_
      refine WP_seq ?_
      refine WP_reg [0, 6, 11, 12, 13] [] ?_
      refine WPO_f ?_
      obtain ⟨x3, hx3, h⟩ := bind_inv h
      refine And.intro (idx_nn hx3) ⟨_, idx_get by8 hx3, ?_⟩
      refine WP_reg [0, 11, 12, 13] [] ?_
      refine WPO_f ?_
      obtain ⟨y4, hy4, h⟩ := bind_inv h
      refine ⟨_, _, CallT.sub (i := 0) (esc_Parser_byte_ok hy4) rfl _ rfl rfl (ParserM.flat _) (ParserM.flat _), ?_⟩
      refine WP_reg [0, 11, 12, 13] [] ?_
      refine WPO_f ?_
      cases h
      exact ⟨_, rfl, rfl⟩
    · replace h := bif_f hb2 h
      refine WP_exit ?_
      cases h
      exact ⟨_, rfl, rfl⟩
  refine WP_seq ?_
  refine WP_reg [0, 7] [] ?_
  refine WPO_f ?_
  refine WP_seq ?_
  refine WP_reg [7] [] ?_
  refine WPO_f ?_
  refine ⟨.sl true 7 [], .sl _ _, ?_⟩
  refine WP_seq ?_
  refine WP_reg [4] [] ?_
  refine WPO_f ?_
  refine WP_ret ?_
  cases h
  exact ⟨rfl, rfl, rfl, rfl, by simp only [flatM, List.all_cons, List.all_nil, ParserM.flat, Bool.and_self]⟩
noncomputable def glyph_Reader_Waits_in32_0 (r_ : ParserM) : Option Int :=
  some (r_.text.waits.length : Int)
set_option maxRecDepth 20000 in
theorem glyph_Reader_Waits_in32_0_ok {r_ : ParserM} {r : Int} (h : glyph_Reader_Waits_in32_0 r_ = some r) : CallT false (RF ET) 19 [.ptr 0 0] [(ParserM.m r_)] (.int .i64 r) [(ParserM.m r_)] := by
  refine con_low (af := a19) rfl rfl ?_
  unfold glyph_Reader_Waits_in32_0 at h
  refine WP_seq ?_
  refine WP_reg [0] [] ?_
  refine WPO_f ?_
  refine WP_seq ?_
  refine WP_reg [2] [] ?_
  refine WPO_f ?_
  refine ⟨_, (List.length_map ..).symm, ?_⟩
  refine WP_ret ?_
  cases h
  exact ⟨rfl, rfl, rfl, rfl, by simp only [flatM, List.all_cons, List.all_nil, ParserM.flat, Bool.and_self]⟩
noncomputable def esc_Parser_Idle (p : ParserM) : Option Bool :=
  letB (decide (p.in_ = 0)) fun c1 =>
  (bif c1 then (
    (glyph_Reader_Waits_in32_0 p).bind fun y3 =>
    letB (decide (y3 = 0)) fun c4 =>
    some (c4)) else some false).bind fun g2 =>
  some g2
set_option maxRecDepth 20000 in
theorem esc_Parser_Idle_ok {p : ParserM} {r : Bool} (h : esc_Parser_Idle p = some r) : CallT false (RF ET) 12 [.ptr 0 0] [(ParserM.m p)] (.bool r) [(ParserM.m p)] := by
  refine con_low (af := a12) rfl rfl ?_
  unfold esc_Parser_Idle at h
  refine WP_seq ?_
  refine WP_reg [0] [] ?_
  refine WPO_f ?_
  refine WP_seq ?_
  refine WP_reg [2] [] ?_
  refine WPO_then 6 ?_
  refine WPO_f ?_
  refine fun c1 hc1 => ?_
  replace h := letB_inv hc1 h
  obtain ⟨g2, hg2, h⟩ := bind_inv h
  refine WPO_grp 6 14 [14] g2 ?_ ?_
  · clear h
    replace h := hg2
    clear hg2
    cases hb5 : c1 with
    | true =>
      replace h := bif_t hb5 h
      refine WPO_f ?_
      obtain ⟨y3, hy3, h⟩ := bind_inv h
      refine ⟨_, _, CallT.sub (i := 0) (glyph_Reader_Waits_in32_0_ok hy3) rfl _ rfl rfl (ParserM.flat _) (ParserM.flat _), ?_⟩
      refine fun c4 hc4 => ?_
      replace h := letB_inv hc4 h
      cases h
      exact ⟨rfl, rfl, rfl⟩
    | false =>
      replace h := bif_f hb5 h
      cases h
      refine WPO_f ?_
      exact ⟨rfl, rfl, rfl⟩
  refine WPO_f ?_
  refine WP_ret ?_
  cases h
  exact ⟨rfl, rfl, rfl, rfl, by simp only [flatM, List.all_cons, List.all_nil, ParserM.flat, Bool.and_self]⟩
noncomputable def internal_strconv_small (i : Int) : Option (List Int) :=
  letB (decide (i < 10)) fun c1 =>
  bif c1 then (
    (subL [48, 49, 50, 51, 52, 53, 54, 55, 56, 57, 97, 98, 99, 100, 101, 102, 103, 104, 105, 106, 107, 108, 109, 110, 111, 112, 113, 114, 115, 116, 117, 118, 119, 120, 121, 122] i (w64 (i + 1))).bind fun x3 =>
    some x3)
  else (
    (subL [48, 48, 48, 49, 48, 50, 48, 51, 48, 52, 48, 53, 48, 54, 48, 55, 48, 56, 48, 57, 49, 48, 49, 49, 49, 50, 49, 51, 49, 52, 49, 53, 49, 54, 49, 55, 49, 56, 49, 57, 50, 48, 50, 49, 50, 50, 50, 51, 50, 52, 50, 53, 50, 54, 50, 55, 50, 56, 50, 57, 51, 48, 51, 49, 51, 50, 51, 51, 51, 52, 51, 53, 51, 54, 51, 55, 51, 56, 51, 57, 52, 48, 52, 49, 52, 50, 52, 51, 52, 52, 52, 53, 52, 54, 52, 55, 52, 56, 52, 57, 53, 48, 53, 49, 53, 50, 53, 51, 53, 52, 53, 53, 53, 54, 53, 55, 53, 56, 53, 57, 54, 48, 54, 49, 54, 50, 54, 51, 54, 52, 54, 53, 54, 54, 54, 55, 54, 56, 54, 57, 55, 48, 55, 49, 55, 50, 55, 51, 55, 52, 55, 53, 55, 54, 55, 55, 55, 56, 55, 57, 56, 48, 56, 49, 56, 50, 56, 51, 56, 52, 56, 53, 56, 54, 56, 55, 56, 56, 56, 57, 57, 48, 57, 49, 57, 50, 57, 51, 57, 52, 57, 53, 57, 54, 57, 55, 57, 56, 57, 57] (w64 (i * 2)) (w64 ((w64 (i * 2)) + 2))).bind fun x4 =>
    some x4)
set_option maxRecDepth 20000 in
theorem internal_strconv_small_ok {i : Int} {r : List Int} (h : internal_strconv_small i = some r) : CallT true (RF ET) 45 [.int .i64 i] [] (.str r) [] := by
  refine CallT.quiet (con_low (af := a45) rfl rfl ?_) rfl
  unfold internal_strconv_small at h
  refine WP_seq ?_
  refine WP_reg [0] [] ?_
  refine WPO_f ?_
  refine WP_seq ?_
  refine WP_seq ?_
  refine WP_reg [0, 4] [] ?_
  refine WPO_f ?_
  refine fun c1 hc1 => ?_
  replace h := letB_inv hc1 h
  refine WP_cond (b := c1) rfl (fun hb2 => ?_) (fun hb2 => ?_)
  · replace h := bif_t hb2 h
    refine WP_seq ?_
    refine WP_reg [2] [] ?_
    refine WPO_f ?_
    obtain ⟨x3, hx3, h⟩ := bind_inv h
    refine And.intro (subL_b hx3) (And.intro (subL_a hx3) (And.intro (subL_les hx3) ⟨_, subL_eqs hx3, ?_⟩))
    refine WP_ret ?_
    cases h
    exact ⟨rfl, rfl, rfl, rfl, rfl⟩
  · replace h := bif_f hb2 h
    refine WP_skip ?_
    refine WP_seq ?_
    refine WP_reg [2] [] ?_
    refine WPO_f ?_
    obtain ⟨x4, hx4, h⟩ := bind_inv h
    refine And.intro (subL_b hx4) (And.intro (subL_a hx4) (And.intro (subL_les hx4) ⟨_, subL_eqs hx4, ?_⟩))
    refine WP_ret ?_
    cases h
    exact ⟨rfl, rfl, rfl, rfl, rfl⟩
noncomputable def internal_strconv_AppendUint (dst : List Int) (i : Int) (base : Int) : Option (List Int) :=
  letB (decide (base = 10)) fun c1 =>
  bif c1 then (
    letB (decide (i < 100)) fun c3 =>
    bif c3 then (
      (internal_strconv_small (w64 i)).bind fun y5 =>
      (app dst y5).bind fun x6 =>
      some x6)
    else (
      none))
  else (
    none)
set_option maxRecDepth 20000 in
theorem internal_strconv_AppendUint_ok {dst : List Int} {i : Int} {base : Int} {r : List Int} (h : internal_strconv_AppendUint dst i base = some r) : CallT true (RF ET) 37 [.sl true 1 (List.map by8 dst), .int .u64 i, .int .i64 base] [] (.sl true 1 (List.map by8 r)) [] := by
  refine CallT.quiet (con_low (af := a37) rfl rfl ?_) rfl
  unfold internal_strconv_AppendUint at h
  refine WP_seq ?_
  refine WP_reg [0, 1, 2] [] ?_
  refine WPO_f ?_
  refine ⟨.sl false 1 [], .sl _ _, ?_⟩
  refine WP_seq ?_
  refine WP_seq ?_
  refine WP_reg [0, 1, 2, 10] [] ?_
  refine WPO_f ?_
  refine fun c1 hc1 => ?_
  replace h := letB_inv hc1 h
  refine WP_cond (b := c1) rfl (fun hb2 => ?_) (fun hb2 => ?_)
  · replace h := bif_t hb2 h
    refine WP_seq ?_
    refine WP_seq ?_
    refine WP_reg [0, 1, 12] [] ?_
    refine WPO_f ?_
    refine fun c3 hc3 => ?_
    replace h := letB_inv hc3 h
    refine WP_cond (b := c3) rfl (fun hb4 => ?_) (fun hb4 => ?_)
    · replace h := bif_t hb4 h
      refine WP_seq ?_
      refine WP_reg [6] [] ?_
      refine WPO_f ?_
      obtain ⟨y5, hy5, h⟩ := bind_inv h
      refine ⟨_, _, CallT.any (internal_strconv_small_ok hy5) rfl _ rfl, ?_⟩
      obtain ⟨x6, hx6, h⟩ := bind_inv h
      refine And.intro (app_le by8 hx6) ⟨_, app_eq by8 hx6, ?_⟩
      refine WP_ret ?_
      cases h
      exact ⟨rfl, rfl, rfl, rfl, rfl⟩
    · replace h := bif_f hb4 h
      refine WP_skip ?_
      refine WP_seq ?_
      refine WP_reg [] [] ?_
      refine WPO_f ?_
      cases h
  · replace h := bif_f hb2 h
    refine WP_skip ?_
    refine WP_seq ?_
    refine WP_reg [] [] ?_
    refine WPO_f ?_
    cases h
noncomputable def internal_strconv_AppendInt (dst : List Int) (i : Int) (base : Int) : Option (List Int) :=
  letB (decide (i < 0)) fun c1 =>
  Option.bind (
    bif c1 then (
      (app dst [45]).bind fun x3 =>
      some ((x3, wu64 (0 - (wu64 i)))))
    else (
      some ((dst, wu64 i))) : Option (List Int × Int)) fun j4 =>
  (internal_strconv_AppendUint j4.1 j4.2 base).bind fun y5 =>
  some y5
set_option maxRecDepth 20000 in
theorem internal_strconv_AppendInt_ok {dst : List Int} {i : Int} {base : Int} {r : List Int} (h : internal_strconv_AppendInt dst i base = some r) : CallT true (RF ET) 29 [.sl true 1 (List.map by8 dst), .int .i64 i, .int .i64 base] [] (.sl true 1 (List.map by8 r)) [] := by
  refine CallT.quiet (con_low (af := a29) rfl rfl ?_) rfl
  unfold internal_strconv_AppendInt at h
  refine WP_seq ?_
  refine WP_reg [0, 1, 2] [] ?_
  refine WPO_f ?_
  refine ⟨.sl false 1 [], .sl _ _, ?_⟩
  refine WP_seq ?_
  refine WP_reg [0, 1, 2, 7] [] ?_
  refine WPO_f ?_
  refine WP_seq ?_
  refine WP_seq ?_
  refine WP_reg [0, 2, 7, 11] [] ?_
  refine WPO_f ?_
  refine fun c1 hc1 => ?_
  replace h := letB_inv hc1 h
  obtain ⟨j4, hj4, h⟩ := bind_inv h
  refine WP_cut j4 (fun z => (.normal, [(0, .sl true 1 (List.map by8 z.1)), (2, .int .i64 base), (7, .int .u64 z.2)], [], [])) (fun _ => [0, 2, 7]) (fun _ => []) ?_ ?_
  · clear h
    replace h := hj4
    clear hj4
    refine WP_cond (b := c1) rfl (fun hb2 => ?_) (fun hb2 => ?_)
    · replace h := bif_t hb2 h
      refine WP_seq ?_
      refine WP_reg [0, 2, 7] [] ?_
      refine WPO_f ?_
      refine ⟨List.map by8 ([45] : List Int), rfl, ?_⟩
      obtain ⟨x3, hx3, h⟩ := bind_inv h
      refine And.intro (app_le by8 hx3) ⟨_, app_eq by8 hx3, ?_⟩
      refine WP_reg [0, 2, 7] [] ?_
      refine WPO_f ?_
      cases h
      exact rfl
    · replace h := bif_f hb2 h
      refine WP_skip ?_
      cases h
      exact rfl
  refine WP_seq ?_
  refine WP_reg [6] [] ?_
  refine WPO_f ?_
  obtain ⟨y5, hy5, h⟩ := bind_inv h
  refine ⟨_, _, CallT.any (internal_strconv_AppendUint_ok hy5) rfl _ rfl, ?_⟩
  refine WP_ret ?_
  cases h
  exact ⟨rfl, rfl, rfl, rfl, rfl⟩
noncomputable def strconv_AppendInt (dst : List Int) (i : Int) (base : Int) : Option (List Int) :=
  (internal_strconv_AppendInt dst i base).bind fun y1 =>
  some y1
set_option maxRecDepth 20000 in
theorem strconv_AppendInt_ok {dst : List Int} {i : Int} {base : Int} {r : List Int} (h : strconv_AppendInt dst i base = some r) : CallT true (RF ET) 20 [.sl true 1 (List.map by8 dst), .int .i64 i, .int .i64 base] [] (.sl true 1 (List.map by8 r)) [] := by
  refine CallT.quiet (con_low (af := a20) rfl rfl ?_) rfl
  unfold strconv_AppendInt at h
  refine WP_seq ?_
  refine WP_reg [0, 1, 2] [] ?_
  refine WPO_f ?_
  refine ⟨.sl false 1 [], .sl _ _, ?_⟩
  refine WP_seq ?_
  refine WP_reg [6] [] ?_
  refine WPO_f ?_
  obtain ⟨y1, hy1, h⟩ := bind_inv h
  refine ⟨_, _, CallT.any (internal_strconv_AppendInt_ok hy1) rfl _ rfl, ?_⟩
  refine WP_ret ?_
  cases h
  exact ⟨rfl, rfl, rfl, rfl, rfl⟩
noncomputable def esc_Csi_l1 (x5 : List Int) (out : List Int) (t23 : Int) : Option ((List Int × Int) ⊕ List Int) :=
  letB (decide (t23 < (x5.length : Int))) fun c6 =>
  bif c6 then (
    Option.bind (
      (idx x5 t23).bind fun x8 =>
      letB (decide (t23 > 0)) fun c9 =>
      Option.bind (
        bif c9 then (
          (app out [59]).bind fun x11 =>
          some (x11))
        else (
          some (out)) : Option (List Int)) fun j12 =>
      letB (decide (x8 ≥ 0)) fun c13 =>
      Option.bind (
        bif c13 then (
          (strconv_AppendInt j12 (min x8 9999) 10).bind fun y15 =>
          some (y15))
        else (
          some (j12)) : Option (List Int)) fun j16 =>
      some (j16) : Option (List Int)) fun j17 =>
    some (.inl (j17, w64 (t23 + 1))))
  else (
    some (.inr out))
noncomputable def esc_Csi (priv : Int) (params : List Int) (final : Int) : Option (List Int) :=
  letB (decide (priv ≠ 0)) fun c1 =>
  Option.bind (
    bif c1 then (
      (app [27, 91] [priv]).bind fun x3 =>
      some (x3))
    else (
      some ([27, 91])) : Option (List Int)) fun j4 =>
  (subB params (min (params.length : Int) 16)).bind fun x5 =>
  (iter (fun s => esc_Csi_l1 x5 s.1 s.2 : (List Int × Int) → Option ((List Int × Int) ⊕ List Int)) (j4, 0)).bind fun j18 =>
  (app j18 [final]).bind fun x19 =>
  some x19
set_option maxRecDepth 20000 in
theorem esc_Csi_ok {priv : Int} {params : List Int} {final : Int} {r : List Int} (h : esc_Csi priv params final = some r) : CallT true (RF ET) 13 [.int .u8 priv, .sl false 1 (List.map ei64 params), .int .u8 final] [] (.sl true 1 (List.map by8 r)) [] := by
  refine CallT.quiet (con_low (af := a13) rfl rfl ?_) rfl
  unfold esc_Csi at h
  refine WP_seq ?_
  refine WP_reg [0, 1, 2] [] ?_
  refine WPO_f ?_
  refine ⟨.sl false 1 [], .sl _ _, ?_⟩
  refine WP_seq ?_
  refine WP_reg [0, 1, 2, 7] [] ?_
  refine WPO_f ?_
  refine ⟨List.map by8 ([27, 91] : List Int), rfl, ?_⟩
  refine WP_seq ?_
  refine WP_seq ?_
  refine WP_reg [0, 1, 2, 7, 12] [] ?_
  refine WPO_f ?_
  refine fun c1 hc1 => ?_
  replace h := letB_inv hc1 h
  obtain ⟨j4, hj4, h⟩ := bind_inv h
  refine WP_cut j4 (fun z => (.normal, [(1, .sl false 1 (List.map ei64 params)), (2, .int .u8 final), (7, .sl true 1 (List.map by8 z))], [], [])) (fun _ => [1, 2, 7]) (fun _ => []) ?_ ?_
  · clear h
    replace h := hj4
    clear hj4
    refine WP_cond (b := c1) rfl (fun hb2 => ?_) (fun hb2 => ?_)
    · replace h := bif_t hb2 h
      refine WP_reg [1, 2, 7] [] ?_
      refine WPO_f ?_
      refine ⟨List.map by8 ([priv] : List Int), rfl, ?_⟩
      obtain ⟨x3, hx3, h⟩ := bind_inv h
      refine And.intro (app_le by8 hx3) ⟨_, app_eq by8 hx3, ?_⟩
      cases h
      exact rfl
    · replace h := bif_f hb2 h
      refine WP_skip ?_
      cases h
      exact rfl
  refine WP_seq ?_
  refine WP_seq ?_
  refine WP_reg [2, 7, 21, 22, 23] [] ?_
  refine WPO_f ?_
  refine ⟨_, (List.length_map ..).symm, ?_⟩
  obtain ⟨x5, hx5, h⟩ := bind_inv h
  refine And.intro (subB_b hx5) (And.intro (subB_le ei64 hx5) ⟨_, subB_eq ei64 hx5, ?_⟩)
  refine ⟨_, (List.length_map ..).symm, ?_⟩
  refine WP_block ?_
  obtain ⟨j18, hj18, h⟩ := bind_inv h
  refine WP_iter hj18 [] (fun s => ([(2, .int .u8 final), (7, .sl true 1 (List.map by8 s.1)), (21, .sl false 1 (List.map ei64 x5)), (22, .int .i64 (x5.length : Int)), (23, .int .i64 s.2)], [], [])) (fun _ => [2, 7]) (fun _ => []) (fun z => (.exit 0, [(2, .int .u8 final), (7, .sl true 1 (List.map by8 z))], [], [])) ?_ ?_ ?_
  · exact rfl
  · clear h
    rintro ⟨out, t23⟩ x h
    replace h : esc_Csi_l1 x5 out t23 = some x := h
    unfold esc_Csi_l1 at h
    show T.WP _ _ [(2, .int .u8 final), (7, .sl true 1 (List.map by8 out)), (21, .sl false 1 (List.map ei64 x5)), (22, .int .i64 (x5.length : Int)), (23, .int .i64 t23)] [] [] _
    refine WP_seq ?_
    refine WP_reg [2, 7, 21, 22, 23, 24] [] ?_
    refine WPO_f ?_
    refine fun c6 hc6 => ?_
    replace h := letB_inv hc6 h
    refine WP_seq ?_
    refine WP_cond (b := c6) rfl (fun hb7 => ?_) (fun hb7 => ?_)
    · replace h := bif_t hb7 h
      refine WP_skip ?_
      refine WP_seq ?_
      obtain ⟨j17, hj17, h⟩ := bind_inv h
      refine WP_cut j17 (fun z => (.normal, [(2, .int .u8 final), (7, .sl true 1 (List.map by8 z)), (21, .sl false 1 (List.map ei64 x5)), (22, .int .i64 (x5.length : Int)), (23, .int .i64 t23)], [], [])) (fun _ => [2, 7, 21, 22, 23]) (fun _ => []) ?_ ?_
      · clear h
        replace h := hj17
        clear hj17
        refine WP_block ?_
        refine WP_seq ?_
        refine WP_reg [2, 7, 8, 9, 21, 22, 23] [] ?_
        refine WPO_f ?_
        obtain ⟨x8, hx8, h⟩ := bind_inv h
        refine And.intro (idx_nn hx8) ⟨_, idx_get ei64 hx8, ?_⟩
        refine WP_seq ?_
        refine WP_seq ?_
        refine WP_reg [2, 7, 9, 21, 22, 23, 29] [] ?_
        refine WPO_f ?_
        refine fun c9 hc9 => ?_
        replace h := letB_inv hc9 h
        obtain ⟨j12, hj12, h⟩ := bind_inv h
        refine WP_cut j12 (fun z => (.normal, [(2, .int .u8 final), (7, .sl true 1 (List.map by8 z)), (9, .int .i64 x8), (21, .sl false 1 (List.map ei64 x5)), (22, .int .i64 (x5.length : Int)), (23, .int .i64 t23)], [], [])) (fun _ => [2, 7, 9, 21, 22, 23]) (fun _ => []) ?_ ?_
        · clear h
          replace h := hj12
          clear hj12
          refine WP_cond (b := c9) rfl (fun hb10 => ?_) (fun hb10 => ?_)
          · replace h := bif_t hb10 h
            refine WP_reg [2, 7, 9, 21, 22, 23] [] ?_
            refine WPO_f ?_
            refine ⟨List.map by8 ([59] : List Int), rfl, ?_⟩
            obtain ⟨x11, hx11, h⟩ := bind_inv h
            refine And.intro (app_le by8 hx11) ⟨_, app_eq by8 hx11, ?_⟩
            cases h
            exact rfl
          · replace h := bif_f hb10 h
            refine WP_skip ?_
            cases h
            exact rfl
        refine WP_seq ?_
        refine WP_reg [2, 7, 9, 21, 22, 23, 34] [] ?_
        refine WPO_f ?_
        refine fun c13 hc13 => ?_
        replace h := letB_inv hc13 h
        obtain ⟨j16, hj16, h⟩ := bind_inv h
        refine WP_cut j16 (fun z => (.normal, [(2, .int .u8 final), (7, .sl true 1 (List.map by8 z)), (21, .sl false 1 (List.map ei64 x5)), (22, .int .i64 (x5.length : Int)), (23, .int .i64 t23)], [], [])) (fun _ => [2, 7, 21, 22, 23]) (fun _ => []) ?_ ?_
        · clear h
          replace h := hj16
          clear hj16
          refine WP_cond (b := c13) rfl (fun hb14 => ?_) (fun hb14 => ?_)
          · replace h := bif_t hb14 h
            refine WP_reg [2, 7, 21, 22, 23] [] ?_
            refine WPO_f ?_
            obtain ⟨y15, hy15, h⟩ := bind_inv h
            refine ⟨_, _, CallT.any (strconv_AppendInt_ok hy15) rfl _ rfl, ?_⟩
            cases h
            exact rfl
          · replace h := bif_f hb14 h
            refine WP_skip ?_
            cases h
            exact rfl
        cases h
        exact rfl
      refine WP_reg [2, 7, 21, 22, 23] [] ?_
      refine WPO_f ?_
      cases h
      exact ⟨_, rfl, rfl⟩
    · replace h := bif_f hb7 h
      refine WP_exit ?_
      cases h
      exact ⟨_, rfl, rfl⟩
  refine WP_seq ?_
  refine WP_reg [6] [] ?_
  refine WPO_f ?_
  refine ⟨List.map by8 ([final] : List Int), rfl, ?_⟩
  obtain ⟨x19, hx19, h⟩ := bind_inv h
  refine And.intro (app_le by8 hx19) ⟨_, app_eq by8 hx19, ?_⟩
  refine WP_ret ?_
  cases h
  exact ⟨rfl, rfl, rfl, rfl, rfl⟩
noncomputable def casementref01_SameInts_l1 (a : List Int) (b : List Int) (i : Int) : Option (Int ⊕ (Unit ⊕ Unit)) :=
  letB (decide (i < (a.length : Int))) fun c3 =>
  bif c3 then (
    (idx a i).bind fun x5 =>
    (idx b i).bind fun x6 =>
    letB (decide (x5 ≠ x6)) fun c7 =>
    bif c7 then (
      some (.inr (.inl ())))
    else (
      some (.inl (w64 (i + 1)))))
  else (
    some (.inr (.inr ())))
noncomputable def casementref01_SameInts (a : List Int) (b : List Int) : Option Bool :=
  letB (decide ((a.length : Int) ≠ (b.length : Int))) fun c1 =>
  bif c1 then (
    some false)
  else (
    (iter (fun s => casementref01_SameInts_l1 a b s : Int → Option (Int ⊕ (Unit ⊕ Unit))) 0).bind fun j9 =>
    match j9 with
    | .inl z10 => (
      some false)
    | .inr z11 => (
      some true))
set_option maxRecDepth 20000 in
theorem casementref01_SameInts_ok {a : List Int} {b : List Int} {r : Bool} (h : casementref01_SameInts a b = some r) : CallT true (RF ET) 16 [.sl false 1 (List.map ei64 a), .sl false 1 (List.map ei64 b)] [] (.bool r) [] := by
  refine CallT.quiet (con_low (af := a16) rfl rfl ?_) rfl
  unfold casementref01_SameInts at h
  refine WP_seq ?_
  refine WP_reg [0, 1] [] ?_
  refine WPO_f ?_
  refine WP_seq ?_
  refine WP_seq ?_
  refine WP_reg [0, 1, 10] [] ?_
  refine WPO_f ?_
  refine ⟨_, (List.length_map ..).symm, ?_⟩
  refine ⟨_, (List.length_map ..).symm, ?_⟩
  refine fun c1 hc1 => ?_
  replace h := letB_inv hc1 h
  refine WP_cond (b := c1) rfl (fun hb2 => ?_) (fun hb2 => ?_)
  · replace h := bif_t hb2 h
    refine WP_seq ?_
    refine WP_reg [4] [] ?_
    refine WPO_f ?_
    refine WP_ret ?_
    cases h
    exact ⟨rfl, rfl, rfl, rfl, rfl⟩
  · replace h := bif_f hb2 h
    refine WP_skip ?_
    refine WP_seq ?_
    refine WP_seq ?_
    refine WP_reg [0, 1, 5] [] ?_
    refine WPO_f ?_
    refine WP_block ?_
    obtain ⟨j9, hj9, h⟩ := bind_inv h
    refine WP_iter hj9 [] (fun s => ([(0, .sl false 1 (List.map ei64 a)), (1, .sl false 1 (List.map ei64 b)), (5, .int .i64 s)], [], [])) (fun e => match e with | .ret => [4] | .exit 0 => [] | _ => []) (fun e => match e with | .ret => [] | .exit 0 => [] | _ => []) (fun r => match r with | .inl z => (.ret, [(4, .bool false)], [], []) | .inr z => (.exit 0, [], [], [])) ?_ ?_ ?_
    · exact rfl
    · clear h
      rintro i x h
      replace h : casementref01_SameInts_l1 a b i = some x := h
      unfold casementref01_SameInts_l1 at h
      show T.WP _ _ [(0, .sl false 1 (List.map ei64 a)), (1, .sl false 1 (List.map ei64 b)), (5, .int .i64 i)] [] [] _
      refine WP_seq ?_
      refine WP_seq ?_
      refine WP_reg [0, 1, 5, 14] [] ?_
      refine WPO_f ?_
      refine ⟨_, (List.length_map ..).symm, ?_⟩
      refine fun c3 hc3 => ?_
      replace h := letB_inv hc3 h
      refine WP_cond (b := c3) rfl (fun hb4 => ?_) (fun hb4 => ?_)
      · replace h := bif_t hb4 h
        refine WP_skip ?_
        refine WP_seq ?_
        refine WP_block ?_
        refine WP_seq ?_
        refine WP_reg [0, 1, 5, 25] [] ?_
        refine WPO_t ?_
        obtain ⟨x5, hx5, h⟩ := bind_inv h
        refine And.intro (idx_nn hx5) ⟨_, idx_get ei64 hx5, ?_⟩
        obtain ⟨x6, hx6, h⟩ := bind_inv h
        refine And.intro (idx_nn hx6) ⟨_, idx_get ei64 hx6, ?_⟩
        refine fun c7 hc7 => ?_
        replace h := letB_inv hc7 h
        refine WP_cond (b := c7) rfl (fun hb8 => ?_) (fun hb8 => ?_)
        · replace h := bif_t hb8 h
          refine WP_seq ?_
          refine WP_reg [4] [] ?_
          refine WPO_f ?_
          refine WP_ret ?_
          cases h
          exact ⟨_, rfl, rfl⟩
        · replace h := bif_f hb8 h
          refine WP_skip ?_
          refine WP_reg [0, 1, 5] [] ?_
          refine WPO_f ?_
          cases h
          exact ⟨_, rfl, rfl⟩
      · replace h := bif_f hb4 h
        refine WP_exit ?_
        cases h
        exact ⟨_, rfl, rfl⟩
    rcases j9 with z10 | z11
    · cases h
      exact ⟨rfl, rfl, rfl, rfl, rfl⟩
    · refine WP_seq ?_
      refine WP_reg [4] [] ?_
      refine WPO_f ?_
      refine WP_ret ?_
      cases h
      exact ⟨rfl, rfl, rfl, rfl, rfl⟩
noncomputable def casementlaw04_alive : Option Bool :=
  (esc_Parser_Feed (ParserM.mk (Reader.mk []) 0 false false (ActM.mk 0 0 0 0 [] (some []) []) 0 [] []) [97, 27, 91, 49, 59, 59, 53, 72]).bind fun y1 =>
  (esc_Parser_Feed y1.2 [27, 93, 48, 59, 104, 105, 7]).bind fun y2 =>
  (esc_Parser_Feed y2.2 [27, 40, 66]).bind fun y3 =>
  (esc_Parser_Feed y3.2 [195, 27, 91, 109]).bind fun y4 =>
  letB (decide ((y1.1.length : Int) ≠ 2)) fun c5 =>
  (bif c5 then some true else (
    letB (decide ((y2.1.length : Int) ≠ 1)) fun c7 =>
    some (c7))).bind fun g6 =>
  (bif g6 then some true else (
    letB (decide ((y3.1.length : Int) ≠ 1)) fun c10 =>
    some (c10))).bind fun g9 =>
  (bif g9 then some true else (
    letB (decide ((y4.1.length : Int) ≠ 2)) fun c13 =>
    some (c13))).bind fun g12 =>
  bif g12 then (
    some false)
  else (
    (idx y1.1 0).bind fun x16 =>
    letB (decide (x16.R = 97)) fun c17 =>
    (bif c17 then (
      (idx y1.1 1).bind fun x19 =>
      (casementref01_SameInts x19.Params [1, (-1), 5]).bind fun y20 =>
      some (y20)) else some false).bind fun g18 =>
    (bif g18 then (
      (idx y1.1 1).bind fun x23 =>
      letB (decide (x23.Final = 72)) fun c24 =>
      some (c24)) else some false).bind fun g22 =>
    (bif g22 then (
      (idx y2.1 0).bind fun x27 =>
      letB (decide (x27.Text = [48, 59, 104, 105])) fun c28 =>
      some (c28)) else some false).bind fun g26 =>
    (bif g26 then (
      (idx y2.1 0).bind fun x31 =>
      letB (decide (x31.Final = 93)) fun c32 =>
      some (c32)) else some false).bind fun g30 =>
    (bif g30 then (
      (idx y3.1 0).bind fun x35 =>
      letB (decide (x35.Inter = [40])) fun c36 =>
      some (c36)) else some false).bind fun g34 =>
    (bif g34 then (
      (idx y4.1 0).bind fun x39 =>
      letB (decide (x39.R = 65533)) fun c40 =>
      some (c40)) else some false).bind fun g38 =>
    (bif g38 then (
      (idx y4.1 1).bind fun x43 =>
      letB (decide (x43.Kind = 4)) fun c44 =>
      some (c44)) else some false).bind fun g42 =>
    (bif g42 then (
      (esc_Parser_Idle y4.2).bind fun y47 =>
      some (y47)) else some false).bind fun g46 =>
    (bif g46 then (
      (esc_Csi 63 [25] 104).bind fun y50 =>
      (bstr y50).bind fun x51 =>
      letB (decide (x51 = [27, 91, 63, 50, 53, 104])) fun c52 =>
      some (c52)) else some false).bind fun g49 =>
    some g49)
set_option maxRecDepth 20000 in
theorem casementlaw04_alive_ok {r : Bool} (h : casementlaw04_alive = some r) : CallT true (RF ET) 9 [] [] (.bool r) [] := by
  refine CallT.quiet (con_low (af := a9) rfl rfl ?_) rfl
  unfold casementlaw04_alive at h
  refine WP_seq ?_
  refine WP_reg [] [] ?_
  refine WPO_f ?_
  refine WP_seq ?_
  refine WP_reg [1] [] ?_
  refine WPO_f ?_
  refine ⟨.sl false 1 [], .sl _ _, ?_⟩
  refine ⟨.sl true 1 [], .sl _ _, ?_⟩
  refine ⟨.sl true 1 [], .sl _ _, ?_⟩
  refine ⟨.sl true 7 [], .sl _ _, ?_⟩
  refine WP_seq ?_
  refine WP_reg [1, 2] [] ?_
  refine WPO_f ?_
  refine ⟨List.map by8 ([97, 27, 91, 49, 59, 59, 53, 72] : List Int), rfl, ?_⟩
  refine And.intro (by simp) ?_
  obtain ⟨y1, hy1, h⟩ := bind_inv h
  refine ⟨_, _, CallT.sub (i := 0) (esc_Parser_Feed_ok hy1) rfl _ rfl rfl (ParserM.flat _) (ParserM.flat _), ?_⟩
  refine WP_seq ?_
  refine WP_reg [1, 2, 3] [] ?_
  refine WPO_f ?_
  refine ⟨List.map by8 ([27, 93, 48, 59, 104, 105, 7] : List Int), rfl, ?_⟩
  refine And.intro (by simp) ?_
  obtain ⟨y2, hy2, h⟩ := bind_inv h
  refine ⟨_, _, CallT.sub (i := 0) (esc_Parser_Feed_ok hy2) rfl _ rfl rfl (ParserM.flat _) (ParserM.flat _), ?_⟩
  refine WP_seq ?_
  refine WP_reg [1, 2, 3, 4] [] ?_
  refine WPO_f ?_
  refine ⟨List.map by8 ([27, 40, 66] : List Int), rfl, ?_⟩
  refine And.intro (by simp) ?_
  obtain ⟨y3, hy3, h⟩ := bind_inv h
  refine ⟨_, _, CallT.sub (i := 0) (esc_Parser_Feed_ok hy3) rfl _ rfl rfl (ParserM.flat _) (ParserM.flat _), ?_⟩
  refine WP_seq ?_
  refine WP_reg [1, 2, 3, 4, 5] [] ?_
  refine WPO_f ?_
  refine ⟨List.map by8 ([195, 27, 91, 109] : List Int), rfl, ?_⟩
  refine And.intro (by simp) ?_
  obtain ⟨y4, hy4, h⟩ := bind_inv h
  refine ⟨_, _, CallT.sub (i := 0) (esc_Parser_Feed_ok hy4) rfl _ rfl rfl (ParserM.flat _) (ParserM.flat _), ?_⟩
  refine WP_seq ?_
  refine WP_seq ?_
  refine WP_reg [1, 2, 3, 4, 5, 35] [] ?_
  refine WPO_then 4 ?_
  refine WPO_f ?_
  refine ⟨_, (List.length_map ..).symm, ?_⟩
  refine fun c5 hc5 => ?_
  replace h := letB_inv hc5 h
  obtain ⟨g6, hg6, h⟩ := bind_inv h
  refine WPO_grp 4 25 [1, 2, 3, 4, 5, 25] g6 ?_ ?_
  · clear h
    replace h := hg6
    clear hg6
    cases hb8 : c5 with
    | false =>
      replace h := bif_f hb8 h
      refine WPO_f ?_
      refine ⟨_, (List.length_map ..).symm, ?_⟩
      refine fun c7 hc7 => ?_
      replace h := letB_inv hc7 h
      cases h
      exact ⟨rfl, rfl, rfl⟩
    | true =>
      replace h := bif_t hb8 h
      cases h
      refine WPO_f ?_
      exact ⟨rfl, rfl, rfl⟩
  refine WPO_then 1 ?_
  refine WPO_f ?_
  obtain ⟨g9, hg9, h⟩ := bind_inv h
  refine WPO_grp 4 30 [1, 2, 3, 4, 5, 30] g9 ?_ ?_
  · clear h
    replace h := hg9
    clear hg9
    cases hb11 : g6 with
    | false =>
      replace h := bif_f hb11 h
      refine WPO_f ?_
      refine ⟨_, (List.length_map ..).symm, ?_⟩
      refine fun c10 hc10 => ?_
      replace h := letB_inv hc10 h
      cases h
      exact ⟨rfl, rfl, rfl⟩
    | true =>
      replace h := bif_t hb11 h
      cases h
      refine WPO_f ?_
      exact ⟨rfl, rfl, rfl⟩
  refine WPO_then 1 ?_
  refine WPO_f ?_
  obtain ⟨g12, hg12, h⟩ := bind_inv h
  refine WPO_grp 4 35 [1, 2, 3, 4, 5, 35] g12 ?_ ?_
  · clear h
    replace h := hg12
    clear hg12
    cases hb14 : g9 with
    | false =>
      replace h := bif_f hb14 h
      refine WPO_f ?_
      refine ⟨_, (List.length_map ..).symm, ?_⟩
      refine fun c13 hc13 => ?_
      replace h := letB_inv hc13 h
      cases h
      exact ⟨rfl, rfl, rfl⟩
    | true =>
      replace h := bif_t hb14 h
      cases h
      refine WPO_f ?_
      exact ⟨rfl, rfl, rfl⟩
  refine WPO_f ?_
  refine WP_cond (b := g12) rfl (fun hb15 => ?_) (fun hb15 => ?_)
  · replace h := bif_t hb15 h
    refine WP_seq ?_
    refine WP_reg [0] [] ?_
    refine WPO_f ?_
    refine WP_ret ?_
    cases h
    exact ⟨rfl, rfl, rfl, rfl, rfl⟩
  · replace h := bif_f hb15 h
    refine WP_skip ?_
    refine WP_seq ?_
    refine WP_reg [0] [] ?_
    refine WPO_then 6 ?_
    refine WPO_f ?_
    obtain ⟨x16, hx16, h⟩ := bind_inv h
    refine And.intro (idx_nn hx16) ⟨_, idx_get Act.e hx16, ?_⟩
    refine fun c17 hc17 => ?_
    replace h := letB_inv hc17 h
    obtain ⟨g18, hg18, h⟩ := bind_inv h
    refine WPO_grp 7 48 [1, 2, 3, 4, 5, 48] g18 ?_ ?_
    · clear h
      replace h := hg18
      clear hg18
      cases hb21 : c17 with
      | true =>
        replace h := bif_t hb21 h
        refine WPO_f ?_
        obtain ⟨x19, hx19, h⟩ := bind_inv h
        refine And.intro (idx_nn hx19) ⟨_, idx_get Act.e hx19, ?_⟩
        refine ⟨List.map ei64 ([1, (-1), 5] : List Int), rfl, ?_⟩
        obtain ⟨y20, hy20, h⟩ := bind_inv h
        refine ⟨_, _, CallT.any (casementref01_SameInts_ok hy20) rfl _ rfl, ?_⟩
        cases h
        exact ⟨rfl, rfl, rfl⟩
      | false =>
        replace h := bif_f hb21 h
        cases h
        refine WPO_f ?_
        exact ⟨rfl, rfl, rfl⟩
    refine WPO_then 1 ?_
    refine WPO_f ?_
    obtain ⟨g22, hg22, h⟩ := bind_inv h
    refine WPO_grp 6 55 [1, 3, 4, 5, 55] g22 ?_ ?_
    · clear h
      replace h := hg22
      clear hg22
      cases hb25 : g18 with
      | true =>
        replace h := bif_t hb25 h
        refine WPO_f ?_
        obtain ⟨x23, hx23, h⟩ := bind_inv h
        refine And.intro (idx_nn hx23) ⟨_, idx_get Act.e hx23, ?_⟩
        refine fun c24 hc24 => ?_
        replace h := letB_inv hc24 h
        cases h
        exact ⟨rfl, rfl, rfl⟩
      | false =>
        replace h := bif_f hb25 h
        cases h
        refine WPO_f ?_
        exact ⟨rfl, rfl, rfl⟩
    refine WPO_then 1 ?_
    refine WPO_f ?_
    obtain ⟨g26, hg26, h⟩ := bind_inv h
    refine WPO_grp 6 62 [1, 3, 4, 5, 62] g26 ?_ ?_
    · clear h
      replace h := hg26
      clear hg26
      cases hb29 : g22 with
      | true =>
        replace h := bif_t hb29 h
        refine WPO_f ?_
        obtain ⟨x27, hx27, h⟩ := bind_inv h
        refine And.intro (idx_nn hx27) ⟨_, idx_get Act.e hx27, ?_⟩
        refine fun c28 hc28 => ?_
        replace h := letB_inv hc28 h
        cases h
        exact ⟨rfl, rfl, rfl⟩
      | false =>
        replace h := bif_f hb29 h
        cases h
        refine WPO_f ?_
        exact ⟨rfl, rfl, rfl⟩
    refine WPO_then 1 ?_
    refine WPO_f ?_
    obtain ⟨g30, hg30, h⟩ := bind_inv h
    refine WPO_grp 6 69 [1, 4, 5, 69] g30 ?_ ?_
    · clear h
      replace h := hg30
      clear hg30
      cases hb33 : g26 with
      | true =>
        replace h := bif_t hb33 h
        refine WPO_f ?_
        obtain ⟨x31, hx31, h⟩ := bind_inv h
        refine And.intro (idx_nn hx31) ⟨_, idx_get Act.e hx31, ?_⟩
        refine fun c32 hc32 => ?_
        replace h := letB_inv hc32 h
        cases h
        exact ⟨rfl, rfl, rfl⟩
      | false =>
        replace h := bif_f hb33 h
        cases h
        refine WPO_f ?_
        exact ⟨rfl, rfl, rfl⟩
    refine WPO_then 1 ?_
    refine WPO_f ?_
    obtain ⟨g34, hg34, h⟩ := bind_inv h
    refine WPO_grp 6 76 [1, 5, 76] g34 ?_ ?_
    · clear h
      replace h := hg34
      clear hg34
      cases hb37 : g30 with
      | true =>
        replace h := bif_t hb37 h
        refine WPO_f ?_
        obtain ⟨x35, hx35, h⟩ := bind_inv h
        refine And.intro (idx_nn hx35) ⟨_, idx_get Act.e hx35, ?_⟩
        refine fun c36 hc36 => ?_
        replace h := letB_inv hc36 h
        cases h
        exact ⟨rfl, rfl, rfl⟩
      | false =>
        replace h := bif_f hb37 h
        cases h
        refine WPO_f ?_
        exact ⟨rfl, rfl, rfl⟩
    refine WPO_then 1 ?_
    refine WPO_f ?_
    obtain ⟨g38, hg38, h⟩ := bind_inv h
    refine WPO_grp 6 83 [1, 5, 83] g38 ?_ ?_
    · clear h
      replace h := hg38
      clear hg38
      cases hb41 : g34 with
      | true =>
        replace h := bif_t hb41 h
        refine WPO_f ?_
        obtain ⟨x39, hx39, h⟩ := bind_inv h
        refine And.intro (idx_nn hx39) ⟨_, idx_get Act.e hx39, ?_⟩
        refine fun c40 hc40 => ?_
        replace h := letB_inv hc40 h
        cases h
        exact ⟨rfl, rfl, rfl⟩
      | false =>
        replace h := bif_f hb41 h
        cases h
        refine WPO_f ?_
        exact ⟨rfl, rfl, rfl⟩
    refine WPO_then 1 ?_
    refine WPO_f ?_
    obtain ⟨g42, hg42, h⟩ := bind_inv h
    refine WPO_grp 6 90 [1, 90] g42 ?_ ?_
    · clear h
      replace h := hg42
      clear hg42
      cases hb45 : g38 with
      | true =>
        replace h := bif_t hb45 h
        refine WPO_f ?_
        obtain ⟨x43, hx43, h⟩ := bind_inv h
        refine And.intro (idx_nn hx43) ⟨_, idx_get Act.e hx43, ?_⟩
        refine fun c44 hc44 => ?_
        replace h := letB_inv hc44 h
        cases h
        exact ⟨rfl, rfl, rfl⟩
      | false =>
        replace h := bif_f hb45 h
        cases h
        refine WPO_f ?_
        exact ⟨rfl, rfl, rfl⟩
    refine WPO_then 1 ?_
    refine WPO_f ?_
    obtain ⟨g46, hg46, h⟩ := bind_inv h
    refine WPO_grp 2 93 [93] g46 ?_ ?_
    · clear h
      replace h := hg46
      clear hg46
      cases hb48 : g42 with
      | true =>
        replace h := bif_t hb48 h
        refine WPO_f ?_
        obtain ⟨y47, hy47, h⟩ := bind_inv h
        refine ⟨_, _, CallT.sub (i := 0) (esc_Parser_Idle_ok hy47) rfl _ rfl rfl (ParserM.flat _) (ParserM.flat _), ?_⟩
        cases h
        exact ⟨rfl, rfl, rfl⟩
      | false =>
        replace h := bif_f hb48 h
        cases h
        refine WPO_f ?_
        exact ⟨rfl, rfl, rfl⟩
    refine WPO_then 1 ?_
    refine WPO_f ?_
    obtain ⟨g49, hg49, h⟩ := bind_inv h
    refine WPO_grp 5 99 [99] g49 ?_ ?_
    · clear h
      replace h := hg49
      clear hg49
      cases hb53 : g46 with
      | true =>
        replace h := bif_t hb53 h
        refine WPO_f ?_
        refine ⟨List.map ei64 ([25] : List Int), rfl, ?_⟩
        obtain ⟨y50, hy50, h⟩ := bind_inv h
        refine ⟨_, _, CallT.any (esc_Csi_ok hy50) rfl _ rfl, ?_⟩
        obtain ⟨x51, hx51, h⟩ := bind_inv h
        refine ⟨_, bstr_inv hx51, ?_⟩
        refine fun c52 hc52 => ?_
        replace h := letB_inv hc52 h
        cases h
        exact ⟨rfl, rfl, rfl⟩
      | false =>
        replace h := bif_f hb53 h
        cases h
        refine WPO_f ?_
        exact ⟨rfl, rfl, rfl⟩
    refine WPO_f ?_
    refine WP_ret ?_
    cases h
    exact ⟨rfl, rfl, rfl, rfl, rfl⟩
noncomputable def casementref01_tail (b : List Int) (i : Int) (lo : Int) (hi : Int) : Option Bool :=
  letB (decide (i < (b.length : Int))) fun c1 =>
  (bif c1 then (
    (idx b i).bind fun x3 =>
    letB (decide (x3 ≥ lo)) fun c4 =>
    some (c4)) else some false).bind fun g2 =>
  (bif g2 then (
    (idx b i).bind fun x7 =>
    letB (decide (x7 ≤ hi)) fun c8 =>
    some (c8)) else some false).bind fun g6 =>
  some g6
set_option maxRecDepth 20000 in
theorem casementref01_tail_ok {b : List Int} {i : Int} {lo : Int} {hi : Int} {r : Bool} (h : casementref01_tail b i lo hi = some r) : CallT true (RF ET) 30 [.sl false 1 (List.map by8 b), .int .i64 i, .int .u8 lo, .int .u8 hi] [] (.bool r) [] := by
  refine CallT.quiet (con_low (af := a30) rfl rfl ?_) rfl
  unfold casementref01_tail at h
  refine WP_seq ?_
  refine WP_reg [0, 1, 2, 3] [] ?_
  refine WPO_f ?_
  refine WP_seq ?_
  refine WP_reg [8] [] ?_
  refine WPO_then 5 ?_
  refine WPO_f ?_
  refine ⟨_, (List.length_map ..).symm, ?_⟩
  refine fun c1 hc1 => ?_
  replace h := letB_inv hc1 h
  obtain ⟨g2, hg2, h⟩ := bind_inv h
  refine WPO_grp 7 20 [0, 1, 3, 20] g2 ?_ ?_
  · clear h
    replace h := hg2
    clear hg2
    cases hb5 : c1 with
    | true =>
      replace h := bif_t hb5 h
      refine WPO_f ?_
      obtain ⟨x3, hx3, h⟩ := bind_inv h
      refine And.intro (idx_nn hx3) ⟨_, idx_get by8 hx3, ?_⟩
      refine fun c4 hc4 => ?_
      replace h := letB_inv hc4 h
      cases h
      exact ⟨rfl, rfl, rfl⟩
    | false =>
      replace h := bif_f hb5 h
      cases h
      refine WPO_f ?_
      exact ⟨rfl, rfl, rfl⟩
  refine WPO_then 1 ?_
  refine WPO_f ?_
  obtain ⟨g6, hg6, h⟩ := bind_inv h
  refine WPO_grp 7 28 [28] g6 ?_ ?_
  · clear h
    replace h := hg6
    clear hg6
    cases hb9 : g2 with
    | true =>
      replace h := bif_t hb9 h
      refine WPO_f ?_
      obtain ⟨x7, hx7, h⟩ := bind_inv h
      refine And.intro (idx_nn hx7) ⟨_, idx_get by8 hx7, ?_⟩
      refine fun c8 hc8 => ?_
      replace h := letB_inv hc8 h
      cases h
      exact ⟨rfl, rfl, rfl⟩
    | false =>
      replace h := bif_f hb9 h
      cases h
      refine WPO_f ?_
      exact ⟨rfl, rfl, rfl⟩
  refine WPO_f ?_
  refine WP_ret ?_
  cases h
  exact ⟨rfl, rfl, rfl, rfl, rfl⟩
noncomputable def casementref01_Whole (b : List Int) : Option (Int × Int) :=
  letB (decide ((b.length : Int) = 0)) fun c1 =>
  bif c1 then (
    some (0, 0))
  else (
    (idx b 0).bind fun x3 =>
    letB (decide (x3 < 128)) fun c4 =>
    bif c4 then (
      some (1, w32 x3))
    else (
      letB (decide (x3 ≥ 194)) fun c6 =>
      (bif c6 then (
        letB (decide (x3 ≤ 223)) fun c8 =>
        some (c8)) else some false).bind fun g7 =>
      (bif g7 then (
        (casementref01_tail b 1 128 191).bind fun y11 =>
        some (y11)) else some false).bind fun g10 =>
      bif g10 then (
        (idx b 1).bind fun x14 =>
        some (2, iOr .i32 (iShl .i32 (w32 (iAnd .u8 x3 31)) 6) (w32 (iAnd .u8 x14 63))))
      else (
        letB (decide (x3 = 224)) fun c15 =>
        Option.bind (
          bif c15 then (
            some (160))
          else (
            some (128)) : Option Int) fun j17 =>
        letB (decide (x3 = 237)) fun c18 =>
        Option.bind (
          bif c18 then (
            some (159))
          else (
            some (191)) : Option Int) fun j20 =>
        letB (decide (x3 ≥ 224)) fun c21 =>
        (bif c21 then (
          letB (decide (x3 ≤ 239)) fun c23 =>
          some (c23)) else some false).bind fun g22 =>
        (bif g22 then (
          (casementref01_tail b 1 j17 j20).bind fun y26 =>
          some (y26)) else some false).bind fun g25 =>
        (bif g25 then (
          (casementref01_tail b 2 128 191).bind fun y29 =>
          some (y29)) else some false).bind fun g28 =>
        bif g28 then (
          (idx b 1).bind fun x32 =>
          (idx b 2).bind fun x33 =>
          some (3, iOr .i32 (iOr .i32 (iShl .i32 (w32 (iAnd .u8 x3 15)) 12) (iShl .i32 (w32 (iAnd .u8 x32 63)) 6)) (w32 (iAnd .u8 x33 63))))
        else (
          letB (decide (x3 = 240)) fun c34 =>
          Option.bind (
            bif c34 then (
              some (144))
            else (
              some (128)) : Option Int) fun j36 =>
          letB (decide (x3 = 244)) fun c37 =>
          Option.bind (
            bif c37 then (
              some (143))
            else (
              some (191)) : Option Int) fun j39 =>
          letB (decide (x3 ≥ 240)) fun c40 =>
          (bif c40 then (
            letB (decide (x3 ≤ 244)) fun c42 =>
            some (c42)) else some false).bind fun g41 =>
          (bif g41 then (
            (casementref01_tail b 1 j36 j39).bind fun y45 =>
            some (y45)) else some false).bind fun g44 =>
          (bif g44 then (
            (casementref01_tail b 2 128 191).bind fun y48 =>
            some (y48)) else some false).bind fun g47 =>
          (bif g47 then (
            (casementref01_tail b 3 128 191).bind fun y51 =>
            some (y51)) else some false).bind fun g50 =>
          bif g50 then (
            (idx b 1).bind fun x54 =>
            (idx b 2).bind fun x55 =>
            (idx b 3).bind fun x56 =>
            some (4, iOr .i32 (iOr .i32 (iOr .i32 (iShl .i32 (w32 (iAnd .u8 x3 7)) 18) (iShl .i32 (w32 (iAnd .u8 x54 63)) 12)) (iShl .i32 (w32 (iAnd .u8 x55 63)) 6)) (w32 (iAnd .u8 x56 63))))
          else (
            some (0, 0))))))
set_option maxRecDepth 20000 in
theorem casementref01_Whole_ok {b : List Int} {r : Int × Int} (h : casementref01_Whole b = some r) : CallT true (RF ET) 23 [.sl false 1 (List.map by8 b)] [] (.tuple [.int .i64 r.1, .int .i32 r.2]) [] := by
  refine CallT.quiet (con_low (af := a23) rfl rfl ?_) rfl
  unfold casementref01_Whole at h
  refine WP_seq ?_
  refine WP_reg [0] [] ?_
  refine WPO_f ?_
  refine WP_seq ?_
  refine WP_seq ?_
  refine WP_reg [0, 9] [] ?_
  refine WPO_f ?_
  refine ⟨_, (List.length_map ..).symm, ?_⟩
  refine fun c1 hc1 => ?_
  replace h := letB_inv hc1 h
  refine WP_cond (b := c1) rfl (fun hb2 => ?_) (fun hb2 => ?_)
  · replace h := bif_t hb2 h
    refine WP_seq ?_
    refine WP_reg [2, 3] [] ?_
    refine WPO_f ?_
    refine WP_ret ?_
    cases h
    exact ⟨rfl, rfl, rfl, rfl, rfl⟩
  · replace h := bif_f hb2 h
    refine WP_skip ?_
    refine WP_seq ?_
    refine WP_reg [0, 4] [] ?_
    refine WPO_f ?_
    obtain ⟨x3, hx3, h⟩ := bind_inv h
    refine And.intro (idx_nn hx3) ⟨_, idx_get by8 hx3, ?_⟩
    refine WP_seq ?_
    refine WP_seq ?_
    refine WP_reg [0, 4, 14] [] ?_
    refine WPO_f ?_
    refine fun c4 hc4 => ?_
    replace h := letB_inv hc4 h
    refine WP_cond (b := c4) rfl (fun hb5 => ?_) (fun hb5 => ?_)
    · replace h := bif_t hb5 h
      refine WP_seq ?_
      refine WP_reg [2, 3] [] ?_
      refine WPO_f ?_
      refine WP_ret ?_
      cases h
      exact ⟨rfl, rfl, rfl, rfl, rfl⟩
    · replace h := bif_f hb5 h
      refine WP_skip ?_
      refine WP_seq ?_
      refine WP_seq ?_
      refine WP_reg [0, 4, 26] [] ?_
      refine WPO_then 3 ?_
      refine WPO_f ?_
      refine fun c6 hc6 => ?_
      replace h := letB_inv hc6 h
      obtain ⟨g7, hg7, h⟩ := bind_inv h
      refine WPO_grp 3 22 [0, 4, 22] g7 ?_ ?_
      · clear h
        replace h := hg7
        clear hg7
        cases hb9 : c6 with
        | true =>
          replace h := bif_t hb9 h
          refine WPO_f ?_
          refine fun c8 hc8 => ?_
          replace h := letB_inv hc8 h
          cases h
          exact ⟨rfl, rfl, rfl⟩
        | false =>
          replace h := bif_f hb9 h
          cases h
          refine WPO_f ?_
          exact ⟨rfl, rfl, rfl⟩
      refine WPO_then 1 ?_
      refine WPO_f ?_
      obtain ⟨g10, hg10, h⟩ := bind_inv h
      refine WPO_grp 3 26 [0, 4, 26] g10 ?_ ?_
      · clear h
        replace h := hg10
        clear hg10
        cases hb12 : g7 with
        | true =>
          replace h := bif_t hb12 h
          refine WPO_f ?_
          obtain ⟨y11, hy11, h⟩ := bind_inv h
          refine ⟨_, _, CallT.any (casementref01_tail_ok hy11) rfl _ rfl, ?_⟩
          cases h
          exact ⟨rfl, rfl, rfl⟩
        | false =>
          replace h := bif_f hb12 h
          cases h
          refine WPO_f ?_
          exact ⟨rfl, rfl, rfl⟩
      refine WPO_f ?_
      refine WP_cond (b := g10) rfl (fun hb13 => ?_) (fun hb13 => ?_)
      · replace h := bif_t hb13 h
        refine WP_seq ?_
        refine WP_reg [2, 3] [] ?_
        refine WPO_t ?_
        refine And.intro (by decide) ?_
        obtain ⟨x14, hx14, h⟩ := bind_inv h
        refine And.intro (idx_nn hx14) ⟨_, idx_get by8 hx14, ?_⟩
        refine WP_ret ?_
        cases h
        exact ⟨rfl, rfl, rfl, rfl, rfl⟩
      · replace h := bif_f hb13 h
        refine WP_skip ?_
        refine WP_seq ?_
        refine WP_reg [0, 4, 5, 6] [] ?_
        refine WPO_f ?_
        refine WP_seq ?_
        refine WP_seq ?_
        refine WP_reg [0, 4, 5, 6, 38] [] ?_
        refine WPO_f ?_
        refine fun c15 hc15 => ?_
        replace h := letB_inv hc15 h
        obtain ⟨j17, hj17, h⟩ := bind_inv h
        refine WP_cut j17 (fun z => (.normal, [(0, .sl false 1 (List.map by8 b)), (4, .int .u8 x3), (5, .int .u8 z), (6, .int .u8 191)], [], [])) (fun _ => [0, 4, 5, 6]) (fun _ => []) ?_ ?_
        · clear h
          replace h := hj17
          clear hj17
          refine WP_cond (b := c15) rfl (fun hb16 => ?_) (fun hb16 => ?_)
          · replace h := bif_t hb16 h
            refine WP_reg [0, 4, 5, 6] [] ?_
            refine WPO_f ?_
            cases h
            exact rfl
          · replace h := bif_f hb16 h
            refine WP_skip ?_
            cases h
            exact rfl
        refine WP_seq ?_
        refine WP_seq ?_
        refine WP_reg [0, 4, 5, 6, 40] [] ?_
        refine WPO_f ?_
        refine fun c18 hc18 => ?_
        replace h := letB_inv hc18 h
        obtain ⟨j20, hj20, h⟩ := bind_inv h
        refine WP_cut j20 (fun z => (.normal, [(0, .sl false 1 (List.map by8 b)), (4, .int .u8 x3), (5, .int .u8 j17), (6, .int .u8 z)], [], [])) (fun _ => [0, 4, 5, 6]) (fun _ => []) ?_ ?_
        · clear h
          replace h := hj20
          clear hj20
          refine WP_cond (b := c18) rfl (fun hb19 => ?_) (fun hb19 => ?_)
          · replace h := bif_t hb19 h
            refine WP_reg [0, 4, 5, 6] [] ?_
            refine WPO_f ?_
            cases h
            exact rfl
          · replace h := bif_f hb19 h
            refine WP_skip ?_
            cases h
            exact rfl
        refine WP_seq ?_
        refine WP_seq ?_
        refine WP_reg [0, 4, 56] [] ?_
        refine WPO_then 3 ?_
        refine WPO_f ?_
        refine fun c21 hc21 => ?_
        replace h := letB_inv hc21 h
        obtain ⟨g22, hg22, h⟩ := bind_inv h
        refine WPO_grp 3 46 [0, 4, 5, 6, 46] g22 ?_ ?_
        · clear h
          replace h := hg22
          clear hg22
          cases hb24 : c21 with
          | true =>
            replace h := bif_t hb24 h
            refine WPO_f ?_
            refine fun c23 hc23 => ?_
            replace h := letB_inv hc23 h
            cases h
            exact ⟨rfl, rfl, rfl⟩
          | false =>
            replace h := bif_f hb24 h
            cases h
            refine WPO_f ?_
            exact ⟨rfl, rfl, rfl⟩
        refine WPO_then 1 ?_
        refine WPO_f ?_
        obtain ⟨g25, hg25, h⟩ := bind_inv h
        refine WPO_grp 5 52 [0, 4, 52] g25 ?_ ?_
        · clear h
          replace h := hg25
          clear hg25
          cases hb27 : g22 with
          | true =>
            replace h := bif_t hb27 h
            refine WPO_f ?_
            obtain ⟨y26, hy26, h⟩ := bind_inv h
            refine ⟨_, _, CallT.any (casementref01_tail_ok hy26) rfl _ rfl, ?_⟩
            cases h
            exact ⟨rfl, rfl, rfl⟩
          | false =>
            replace h := bif_f hb27 h
            cases h
            refine WPO_f ?_
            exact ⟨rfl, rfl, rfl⟩
        refine WPO_then 1 ?_
        refine WPO_f ?_
        obtain ⟨g28, hg28, h⟩ := bind_inv h
        refine WPO_grp 3 56 [0, 4, 56] g28 ?_ ?_
        · clear h
          replace h := hg28
          clear hg28
          cases hb30 : g25 with
          | true =>
            replace h := bif_t hb30 h
            refine WPO_f ?_
            obtain ⟨y29, hy29, h⟩ := bind_inv h
            refine ⟨_, _, CallT.any (casementref01_tail_ok hy29) rfl _ rfl, ?_⟩
            cases h
            exact ⟨rfl, rfl, rfl⟩
          | false =>
            replace h := bif_f hb30 h
            cases h
            refine WPO_f ?_
            exact ⟨rfl, rfl, rfl⟩
        refine WPO_f ?_
        refine WP_cond (b := g28) rfl (fun hb31 => ?_) (fun hb31 => ?_)
        · replace h := bif_t hb31 h
          refine WP_seq ?_
          refine WP_reg [2, 3] [] ?_
          refine WPO_t ?_
          refine And.intro (by decide) ?_
          obtain ⟨x32, hx32, h⟩ := bind_inv h
          refine And.intro (idx_nn hx32) ⟨_, idx_get by8 hx32, ?_⟩
          refine And.intro (by decide) ?_
          obtain ⟨x33, hx33, h⟩ := bind_inv h
          refine And.intro (idx_nn hx33) ⟨_, idx_get by8 hx33, ?_⟩
          refine WP_ret ?_
          cases h
          exact ⟨rfl, rfl, rfl, rfl, rfl⟩
        · replace h := bif_f hb31 h
          refine WP_skip ?_
          refine WP_seq ?_
          refine WP_reg [0, 4, 5, 6] [] ?_
          refine WPO_f ?_
          refine WP_seq ?_
          refine WP_seq ?_
          refine WP_reg [0, 4, 5, 6, 75] [] ?_
          refine WPO_f ?_
          refine fun c34 hc34 => ?_
          replace h := letB_inv hc34 h
          obtain ⟨j36, hj36, h⟩ := bind_inv h
          refine WP_cut j36 (fun z => (.normal, [(0, .sl false 1 (List.map by8 b)), (4, .int .u8 x3), (5, .int .u8 z), (6, .int .u8 191)], [], [])) (fun _ => [0, 4, 5, 6]) (fun _ => []) ?_ ?_
          · clear h
            replace h := hj36
            clear hj36
            refine WP_cond (b := c34) rfl (fun hb35 => ?_) (fun hb35 => ?_)
            · replace h := bif_t hb35 h
              refine WP_reg [0, 4, 5, 6] [] ?_
              refine WPO_f ?_
              cases h
              exact rfl
            · replace h := bif_f hb35 h
              refine WP_skip ?_
              cases h
              exact rfl
          refine WP_seq ?_
          refine WP_seq ?_
          refine WP_reg [0, 4, 5, 6, 77] [] ?_
          refine WPO_f ?_
          refine fun c37 hc37 => ?_
          replace h := letB_inv hc37 h
          obtain ⟨j39, hj39, h⟩ := bind_inv h
          refine WP_cut j39 (fun z => (.normal, [(0, .sl false 1 (List.map by8 b)), (4, .int .u8 x3), (5, .int .u8 j36), (6, .int .u8 z)], [], [])) (fun _ => [0, 4, 5, 6]) (fun _ => []) ?_ ?_
          · clear h
            replace h := hj39
            clear hj39
            refine WP_cond (b := c37) rfl (fun hb38 => ?_) (fun hb38 => ?_)
            · replace h := bif_t hb38 h
              refine WP_reg [0, 4, 5, 6] [] ?_
              refine WPO_f ?_
              cases h
              exact rfl
            · replace h := bif_f hb38 h
              refine WP_skip ?_
              cases h
              exact rfl
          refine WP_seq ?_
          refine WP_seq ?_
          refine WP_reg [0, 4, 97] [] ?_
          refine WPO_then 3 ?_
          refine WPO_f ?_
          refine fun c40 hc40 => ?_
          replace h := letB_inv hc40 h
          obtain ⟨g41, hg41, h⟩ := bind_inv h
          refine WPO_grp 3 83 [0, 4, 5, 6, 83] g41 ?_ ?_
          · clear h
            replace h := hg41
            clear hg41
            cases hb43 : c40 with
            | true =>
              replace h := bif_t hb43 h
              refine WPO_f ?_
              refine fun c42 hc42 => ?_
              replace h := letB_inv hc42 h
              cases h
              exact ⟨rfl, rfl, rfl⟩
            | false =>
              replace h := bif_f hb43 h
              cases h
              refine WPO_f ?_
              exact ⟨rfl, rfl, rfl⟩
          refine WPO_then 1 ?_
          refine WPO_f ?_
          obtain ⟨g44, hg44, h⟩ := bind_inv h
          refine WPO_grp 5 89 [0, 4, 89] g44 ?_ ?_
          · clear h
            replace h := hg44
            clear hg44
            cases hb46 : g41 with
            | true =>
              replace h := bif_t hb46 h
              refine WPO_f ?_
              obtain ⟨y45, hy45, h⟩ := bind_inv h
              refine ⟨_, _, CallT.any (casementref01_tail_ok hy45) rfl _ rfl, ?_⟩
              cases h
              exact ⟨rfl, rfl, rfl⟩
            | false =>
              replace h := bif_f hb46 h
              cases h
              refine WPO_f ?_
              exact ⟨rfl, rfl, rfl⟩
          refine WPO_then 1 ?_
          refine WPO_f ?_
          obtain ⟨g47, hg47, h⟩ := bind_inv h
          refine WPO_grp 3 93 [0, 4, 93] g47 ?_ ?_
          · clear h
            replace h := hg47
            clear hg47
            cases hb49 : g44 with
            | true =>
              replace h := bif_t hb49 h
              refine WPO_f ?_
              obtain ⟨y48, hy48, h⟩ := bind_inv h
              refine ⟨_, _, CallT.any (casementref01_tail_ok hy48) rfl _ rfl, ?_⟩
              cases h
              exact ⟨rfl, rfl, rfl⟩
            | false =>
              replace h := bif_f hb49 h
              cases h
              refine WPO_f ?_
              exact ⟨rfl, rfl, rfl⟩
          refine WPO_then 1 ?_
          refine WPO_f ?_
          obtain ⟨g50, hg50, h⟩ := bind_inv h
          refine WPO_grp 3 97 [0, 4, 97] g50 ?_ ?_
          · clear h
            replace h := hg50
            clear hg50
            cases hb52 : g47 with
            | true =>
              replace h := bif_t hb52 h
              refine WPO_f ?_
              obtain ⟨y51, hy51, h⟩ := bind_inv h
              refine ⟨_, _, CallT.any (casementref01_tail_ok hy51) rfl _ rfl, ?_⟩
              cases h
              exact ⟨rfl, rfl, rfl⟩
            | false =>
              replace h := bif_f hb52 h
              cases h
              refine WPO_f ?_
              exact ⟨rfl, rfl, rfl⟩
          refine WPO_f ?_
          refine WP_cond (b := g50) rfl (fun hb53 => ?_) (fun hb53 => ?_)
          · replace h := bif_t hb53 h
            refine WP_seq ?_
            refine WP_reg [2, 3] [] ?_
            refine WPO_t ?_
            refine And.intro (by decide) ?_
            obtain ⟨x54, hx54, h⟩ := bind_inv h
            refine And.intro (idx_nn hx54) ⟨_, idx_get by8 hx54, ?_⟩
            refine And.intro (by decide) ?_
            obtain ⟨x55, hx55, h⟩ := bind_inv h
            refine And.intro (idx_nn hx55) ⟨_, idx_get by8 hx55, ?_⟩
            refine And.intro (by decide) ?_
            obtain ⟨x56, hx56, h⟩ := bind_inv h
            refine And.intro (idx_nn hx56) ⟨_, idx_get by8 hx56, ?_⟩
            refine WP_ret ?_
            cases h
            exact ⟨rfl, rfl, rfl, rfl, rfl⟩
          · replace h := bif_f hb53 h
            refine WP_skip ?_
            refine WP_seq ?_
            refine WP_reg [2, 3] [] ?_
            refine WPO_f ?_
            refine WP_ret ?_
            cases h
            exact ⟨rfl, rfl, rfl, rfl, rfl⟩
noncomputable def casementref01_Runes_l1 (b : List Int) (out : List Int) (i : Int) : Option ((List Int × Int) ⊕ List Int) :=
  letB (decide (i < (b.length : Int))) fun c1 =>
  bif c1 then (
    Option.bind (
      (subA b i).bind fun x3 =>
      (casementref01_Whole x3).bind fun y4 =>
      letB (decide (y4.1 = 0)) fun c5 =>
      Option.bind (
        bif c5 then (
          (app out [65533]).bind fun x7 =>
          some ((x7, w64 (i + 1))))
        else (
          (app out [y4.2]).bind fun x8 =>
          some ((x8, w64 (i + y4.1)))) : Option (List Int × Int)) fun j9 =>
      some ((j9.1, j9.2)) : Option (List Int × Int)) fun j10 =>
    some (.inl (j10.1, j10.2)))
  else (
    some (.inr out))
noncomputable def casementref01_Runes (b : List Int) : Option (List Int) :=
  (iter (fun s => casementref01_Runes_l1 b s.1 s.2 : (List Int × Int) → Option ((List Int × Int) ⊕ List Int)) ([], 0)).bind fun j11 =>
  some j11
set_option maxRecDepth 20000 in
theorem casementref01_Runes_ok {b : List Int} {r : List Int} (h : casementref01_Runes b = some r) : CallT true (RF ET) 17 [.sl false 1 (List.map by8 b)] [] (.sl true 1 (List.map ei32 r)) [] := by
  refine CallT.quiet (con_low (af := a17) rfl rfl ?_) rfl
  unfold casementref01_Runes at h
  refine WP_seq ?_
  refine WP_reg [0] [] ?_
  refine WPO_f ?_
  refine ⟨.sl false 1 [], .sl _ _, ?_⟩
  refine WP_seq ?_
  refine WP_reg [0, 3] [] ?_
  refine WPO_f ?_
  refine ⟨List.map ei32 ([] : List Int), rfl, ?_⟩
  refine WP_seq ?_
  refine WP_seq ?_
  refine WP_reg [0, 3, 4] [] ?_
  refine WPO_f ?_
  refine WP_block ?_
  obtain ⟨j11, hj11, h⟩ := bind_inv h
  refine WP_iter hj11 [] (fun s => ([(0, .sl false 1 (List.map by8 b)), (3, .sl true 1 (List.map ei32 s.1)), (4, .int .i64 s.2)], [], [])) (fun _ => [3]) (fun _ => []) (fun z => (.exit 0, [(3, .sl true 1 (List.map ei32 z))], [], [])) ?_ ?_ ?_
  · exact rfl
  · clear h
    rintro ⟨out, i⟩ x h
    replace h : casementref01_Runes_l1 b out i = some x := h
    unfold casementref01_Runes_l1 at h
    show T.WP _ _ [(0, .sl false 1 (List.map by8 b)), (3, .sl true 1 (List.map ei32 out)), (4, .int .i64 i)] [] [] _
    refine WP_seq ?_
    refine WP_seq ?_
    refine WP_reg [0, 3, 4, 11] [] ?_
    refine WPO_f ?_
    refine ⟨_, (List.length_map ..).symm, ?_⟩
    refine fun c1 hc1 => ?_
    replace h := letB_inv hc1 h
    refine WP_cond (b := c1) rfl (fun hb2 => ?_) (fun hb2 => ?_)
    · replace h := bif_t hb2 h
      refine WP_skip ?_
      obtain ⟨j10, hj10, h⟩ := bind_inv h
      refine WP_cut j10 (fun z => (.normal, [(0, .sl false 1 (List.map by8 b)), (3, .sl true 1 (List.map ei32 z.1)), (4, .int .i64 z.2)], [], [])) (fun _ => [0, 3, 4]) (fun _ => []) ?_ ?_
      · clear h
        replace h := hj10
        clear hj10
        refine WP_block ?_
        refine WP_seq ?_
        refine WP_reg [0, 3, 4, 5, 6] [] ?_
        refine WPO_f ?_
        obtain ⟨x3, hx3, h⟩ := bind_inv h
        refine And.intro (subA_a hx3) (And.intro (subA_le by8 hx3) ⟨_, subA_eq by8 hx3, ?_⟩)
        obtain ⟨y4, hy4, h⟩ := bind_inv h
        refine ⟨_, _, CallT.any (casementref01_Whole_ok hy4) rfl _ rfl, ?_⟩
        refine WP_seq ?_
        refine WP_reg [0, 3, 4, 5, 6, 20] [] ?_
        refine WPO_f ?_
        refine fun c5 hc5 => ?_
        replace h := letB_inv hc5 h
        obtain ⟨j9, hj9, h⟩ := bind_inv h
        refine WP_cut j9 (fun z => (.normal, [(0, .sl false 1 (List.map by8 b)), (3, .sl true 1 (List.map ei32 z.1)), (4, .int .i64 z.2)], [], [])) (fun _ => [0, 3, 4]) (fun _ => []) ?_ ?_
        · clear h
          replace h := hj9
          clear hj9
          refine WP_cond (b := c5) rfl (fun hb6 => ?_) (fun hb6 => ?_)
          · replace h := bif_t hb6 h
            refine WP_seq ?_
            refine WP_reg [0, 3, 4] [] ?_
            refine WPO_f ?_
            refine ⟨List.map ei32 ([65533] : List Int), rfl, ?_⟩
            obtain ⟨x7, hx7, h⟩ := bind_inv h
            refine And.intro (app_le ei32 hx7) ⟨_, app_eq ei32 hx7, ?_⟩
            refine WP_reg [0, 3, 4] [] ?_
            refine WPO_f ?_
            cases h
            exact rfl
          · replace h := bif_f hb6 h
            refine WP_seq ?_
            refine WP_reg [0, 3, 4, 5] [] ?_
            refine WPO_f ?_
            refine ⟨List.map ei32 ([y4.2] : List Int), rfl, ?_⟩
            obtain ⟨x8, hx8, h⟩ := bind_inv h
            refine And.intro (app_le ei32 hx8) ⟨_, app_eq ei32 hx8, ?_⟩
            refine WP_reg [0, 3, 4] [] ?_
            refine WPO_f ?_
            cases h
            exact rfl
        cases h
        exact rfl
      cases h
      exact ⟨_, rfl, rfl⟩
    · replace h := bif_f hb2 h
      refine WP_exit ?_
      cases h
      exact ⟨_, rfl, rfl⟩
  refine WP_seq ?_
  refine WP_reg [2] [] ?_
  refine WPO_f ?_
  refine WP_ret ?_
  cases h
  exact ⟨rfl, rfl, rfl, rfl, rfl⟩
noncomputable def casementlaw04_EscText_l1 (b : List Int) (plain : List Int) (t20 : Int) : Option ((List Int × Int) ⊕ List Int) :=
  letB (decide (t20 < (b.length : Int))) fun c3 =>
  bif c3 then (
    Option.bind (
      (idx b t20).bind fun x5 =>
      letB (decide (x5 ≥ 32)) fun c6 =>
      (bif c6 then (
        letB (decide (x5 ≠ 127)) fun c8 =>
        some (c8)) else some false).bind fun g7 =>
      Option.bind (
        bif g7 then (
          (app plain [x5]).bind fun x11 =>
          some (x11))
        else (
          some (plain)) : Option (List Int)) fun j12 =>
      some (j12) : Option (List Int)) fun j13 =>
    some (.inl (j13, w64 (t20 + 1))))
  else (
    some (.inr plain))
noncomputable def casementlaw04_EscText_l2 (y17 : List Act × ParserM) (y18 : List Int) (t50 : Int) : Option (Int ⊕ (Unit ⊕ Unit)) :=
  letB (decide (t50 < (y18.length : Int))) fun c21 =>
  bif c21 then (
    (idx y17.1 t50).bind fun x23 =>
    letB (decide (x23.Kind ≠ 1)) fun c24 =>
    (bif c24 then some true else (
      (idx y17.1 t50).bind fun x26 =>
      (idx y18 t50).bind fun x27 =>
      letB (decide (x26.R ≠ x27)) fun c28 =>
      some (c28))).bind fun g25 =>
    bif g25 then (
      some (.inr (.inl ())))
    else (
      some (.inl (w64 (t50 + 1)))))
  else (
    some (.inr (.inr ())))
noncomputable def casementlaw04_EscText (b : List Int) (which : Int) : Option Bool :=
  (casementlaw04_alive).bind fun y1 =>
  bif (!y1) then (
    some false)
  else (
    (iter (fun s => casementlaw04_EscText_l1 b s.1 s.2 : (List Int × Int) → Option ((List Int × Int) ⊕ List Int)) ([], 0)).bind fun j14 =>
    (app [] j14).bind fun x15 =>
    (app x15 [24]).bind fun x16 =>
    (esc_Parser_Feed (ParserM.mk (Reader.mk []) 0 false false (ActM.mk 0 0 0 0 [] (some []) []) 0 [] []) x16).bind fun y17 =>
    (casementref01_Runes j14).bind fun y18 =>
    letB (decide ((y17.1.length : Int) ≠ (y18.length : Int))) fun c19 =>
    bif c19 then (
      some false)
    else (
      (iter (fun s => casementlaw04_EscText_l2 y17 y18 s : Int → Option (Int ⊕ (Unit ⊕ Unit))) 0).bind fun j31 =>
      match j31 with
      | .inl z32 => (
        some false)
      | .inr z33 => (
        (idx [93, 80, 88, 94, 95] (Int.tmod (iAnd .i64 which 1023) 5)).bind fun x34 =>
        (app [27, x34] j14).bind fun x35 =>
        (app x35 [27, 92]).bind fun x36 =>
        (esc_Parser_Feed y17.2 x36).bind fun y37 =>
        letB (decide ((y37.1.length : Int) ≠ 1)) fun c38 =>
        (bif c38 then some true else (
          (idx y37.1 0).bind fun x40 =>
          letB (decide (x40.Kind ≠ 5)) fun c41 =>
          some (c41))).bind fun g39 =>
        (bif g39 then some true else (
          (idx y37.1 0).bind fun x44 =>
          letB (decide (x44.Final ≠ x34)) fun c45 =>
          some (c45))).bind fun g43 =>
        bif g43 then (
          some false)
        else (
          (idx y37.1 0).bind fun x48 =>
          (subB j14 (min (j14.length : Int) 256)).bind fun x49 =>
          (bstr x49).bind fun x50 =>
          letB (decide (x48.Text = x50)) fun c51 =>
          (bif c51 then (
            (esc_Parser_Idle y37.2).bind fun y53 =>
            some (y53)) else some false).bind fun g52 =>
          some g52))))
set_option maxRecDepth 20000 in
theorem casementlaw04_EscText_ok {b : List Int} {which : Int} {r : Bool} (h : casementlaw04_EscText b which = some r) : CallT true (RF ET) 6 [.sl false 1 (List.map by8 b), .int .i64 which] [] (.bool r) [] := by
  refine CallT.quiet (con_low (af := a6) rfl rfl ?_) rfl
  unfold casementlaw04_EscText at h
  refine WP_seq ?_
  refine WP_reg [0, 1] [] ?_
  refine WPO_f ?_
  refine WP_seq ?_
  refine WP_seq ?_
  refine WP_reg [0, 1, 16] [] ?_
  refine WPO_f ?_
  obtain ⟨y1, hy1, h⟩ := bind_inv h
  refine ⟨_, _, CallT.any (casementlaw04_alive_ok hy1) rfl _ rfl, ?_⟩
  refine WP_cond (b := (!y1)) rfl (fun hb2 => ?_) (fun hb2 => ?_)
  · replace h := bif_t hb2 h
    refine WP_seq ?_
    refine WP_reg [4] [] ?_
    refine WPO_f ?_
    refine WP_ret ?_
    cases h
    exact ⟨rfl, rfl, rfl, rfl, rfl⟩
  · replace h := bif_f hb2 h
    refine WP_skip ?_
    refine WP_seq ?_
    refine WP_reg [0, 1, 5] [] ?_
    refine WPO_f ?_
    refine ⟨List.map by8 ([] : List Int), rfl, ?_⟩
    refine WP_seq ?_
    refine WP_seq ?_
    refine WP_reg [1, 5, 18, 19, 20] [] ?_
    refine WPO_f ?_
    refine ⟨_, (List.length_map ..).symm, ?_⟩
    refine WP_block ?_
    obtain ⟨j14, hj14, h⟩ := bind_inv h
    refine WP_iter hj14 [] (fun s => ([(1, .int .i64 which), (5, .sl true 1 (List.map by8 s.1)), (18, .sl false 1 (List.map by8 b)), (19, .int .i64 (b.length : Int)), (20, .int .i64 s.2)], [], [])) (fun _ => [1, 5]) (fun _ => []) (fun z => (.exit 0, [(1, .int .i64 which), (5, .sl true 1 (List.map by8 z))], [], [])) ?_ ?_ ?_
    · exact rfl
    · clear h
      rintro ⟨plain, t20⟩ x h
      replace h : casementlaw04_EscText_l1 b plain t20 = some x := h
      unfold casementlaw04_EscText_l1 at h
      show T.WP _ _ [(1, .int .i64 which), (5, .sl true 1 (List.map by8 plain)), (18, .sl false 1 (List.map by8 b)), (19, .int .i64 (b.length : Int)), (20, .int .i64 t20)] [] [] _
      refine WP_seq ?_
      refine WP_reg [1, 5, 18, 19, 20, 21] [] ?_
      refine WPO_f ?_
      refine fun c3 hc3 => ?_
      replace h := letB_inv hc3 h
      refine WP_seq ?_
      refine WP_cond (b := c3) rfl (fun hb4 => ?_) (fun hb4 => ?_)
      · replace h := bif_t hb4 h
        refine WP_skip ?_
        refine WP_seq ?_
        obtain ⟨j13, hj13, h⟩ := bind_inv h
        refine WP_cut j13 (fun z => (.normal, [(1, .int .i64 which), (5, .sl true 1 (List.map by8 z)), (18, .sl false 1 (List.map by8 b)), (19, .int .i64 (b.length : Int)), (20, .int .i64 t20)], [], [])) (fun _ => [1, 5, 18, 19, 20]) (fun _ => []) ?_ ?_
        · clear h
          replace h := hj13
          clear hj13
          refine WP_block ?_
          refine WP_seq ?_
          refine WP_reg [1, 5, 7, 18, 19, 20] [] ?_
          refine WPO_f ?_
          obtain ⟨x5, hx5, h⟩ := bind_inv h
          refine And.intro (idx_nn hx5) ⟨_, idx_get by8 hx5, ?_⟩
          refine WP_seq ?_
          refine WP_reg [1, 5, 7, 18, 19, 20, 29] [] ?_
          refine WPO_then 3 ?_
          refine WPO_f ?_
          refine fun c6 hc6 => ?_
          replace h := letB_inv hc6 h
          obtain ⟨g7, hg7, h⟩ := bind_inv h
          refine WPO_grp 3 29 [1, 5, 7, 18, 19, 20, 29] g7 ?_ ?_
          · clear h
            replace h := hg7
            clear hg7
            cases hb9 : c6 with
            | true =>
              replace h := bif_t hb9 h
              refine WPO_f ?_
              refine fun c8 hc8 => ?_
              replace h := letB_inv hc8 h
              cases h
              exact ⟨rfl, rfl, rfl⟩
            | false =>
              replace h := bif_f hb9 h
              cases h
              refine WPO_f ?_
              exact ⟨rfl, rfl, rfl⟩
          refine WPO_f ?_
          obtain ⟨j12, hj12, h⟩ := bind_inv h
          refine WP_cut j12 (fun z => (.normal, [(1, .int .i64 which), (5, .sl true 1 (List.map by8 z)), (18, .sl false 1 (List.map by8 b)), (19, .int .i64 (b.length : Int)), (20, .int .i64 t20)], [], [])) (fun _ => [1, 5, 18, 19, 20]) (fun _ => []) ?_ ?_
          · clear h
            replace h := hj12
            clear hj12
            refine WP_cond (b := g7) rfl (fun hb10 => ?_) (fun hb10 => ?_)
            · replace h := bif_t hb10 h
              refine WP_reg [1, 5, 18, 19, 20] [] ?_
              refine WPO_f ?_
              refine ⟨List.map by8 ([x5] : List Int), rfl, ?_⟩
              obtain ⟨x11, hx11, h⟩ := bind_inv h
              refine And.intro (app_le by8 hx11) ⟨_, app_eq by8 hx11, ?_⟩
              cases h
              exact rfl
            · replace h := bif_f hb10 h
              refine WP_skip ?_
              cases h
              exact rfl
          cases h
          exact rfl
        refine WP_reg [1, 5, 18, 19, 20] [] ?_
        refine WPO_f ?_
        cases h
        exact ⟨_, rfl, rfl⟩
      · replace h := bif_f hb4 h
        refine WP_exit ?_
        cases h
        exact ⟨_, rfl, rfl⟩
    refine WP_seq ?_
    refine WP_reg [1, 5, 8] [] ?_
    refine WPO_f ?_
    refine ⟨.sl false 1 [], .sl _ _, ?_⟩
    refine ⟨.sl true 1 [], .sl _ _, ?_⟩
    refine ⟨.sl true 1 [], .sl _ _, ?_⟩
    refine ⟨.sl true 7 [], .sl _ _, ?_⟩
    refine WP_seq ?_
    refine WP_reg [1, 5, 8, 9] [] ?_
    refine WPO_f ?_
    refine ⟨List.map by8 ([] : List Int), rfl, ?_⟩
    obtain ⟨x15, hx15, h⟩ := bind_inv h
    refine And.intro (app_le by8 hx15) ⟨_, app_eq by8 hx15, ?_⟩
    refine ⟨List.map by8 ([24] : List Int), rfl, ?_⟩
    obtain ⟨x16, hx16, h⟩ := bind_inv h
    refine And.intro (app_le by8 hx16) ⟨_, app_eq by8 hx16, ?_⟩
    obtain ⟨y17, hy17, h⟩ := bind_inv h
    refine ⟨_, _, CallT.sub (i := 0) (esc_Parser_Feed_ok hy17) rfl _ rfl rfl (ParserM.flat _) (ParserM.flat _), ?_⟩
    refine WP_seq ?_
    refine WP_reg [1, 5, 8, 9, 10] [] ?_
    refine WPO_f ?_
    obtain ⟨y18, hy18, h⟩ := bind_inv h
    refine ⟨_, _, CallT.any (casementref01_Runes_ok hy18) rfl _ rfl, ?_⟩
    refine WP_seq ?_
    refine WP_seq ?_
    refine WP_reg [1, 5, 8, 9, 10, 47] [] ?_
    refine WPO_f ?_
    refine ⟨_, (List.length_map ..).symm, ?_⟩
    refine ⟨_, (List.length_map ..).symm, ?_⟩
    refine fun c19 hc19 => ?_
    replace h := letB_inv hc19 h
    refine WP_cond (b := c19) rfl (fun hb20 => ?_) (fun hb20 => ?_)
    · replace h := bif_t hb20 h
      refine WP_seq ?_
      refine WP_reg [4] [] ?_
      refine WPO_f ?_
      refine WP_ret ?_
      cases h
      exact ⟨rfl, rfl, rfl, rfl, rfl⟩
    · replace h := bif_f hb20 h
      refine WP_skip ?_
      refine WP_seq ?_
      refine WP_seq ?_
      refine WP_reg [1, 5, 8, 9, 10, 49, 50] [] ?_
      refine WPO_f ?_
      refine ⟨_, (List.length_map ..).symm, ?_⟩
      refine WP_block ?_
      obtain ⟨j31, hj31, h⟩ := bind_inv h
      refine WP_iter hj31 [] (fun s => ([(1, .int .i64 which), (5, .sl false 1 (List.map by8 j14)), (8, .ptr 0 0), (9, .sl false 7 (List.map Act.e y17.1)), (10, .sl false 1 (List.map ei32 y18)), (49, .int .i64 (y18.length : Int)), (50, .int .i64 s)], [], [(ParserM.m y17.2)])) (fun e => match e with | .ret => [4] | .exit 2 => [1, 5, 8] | _ => []) (fun e => match e with | .ret => [] | .exit 2 => [] | _ => []) (fun r => match r with | .inl z => (.ret, [(4, .bool false)], [], [(ParserM.m y17.2)]) | .inr z => (.exit 2, [(1, .int .i64 which), (5, .sl false 1 (List.map by8 j14)), (8, .ptr 0 0)], [], [(ParserM.m y17.2)])) ?_ ?_ ?_
      · exact rfl
      · clear h
        rintro t50 x h
        replace h : casementlaw04_EscText_l2 y17 y18 t50 = some x := h
        unfold casementlaw04_EscText_l2 at h
        show T.WP _ _ [(1, .int .i64 which), (5, .sl false 1 (List.map by8 j14)), (8, .ptr 0 0), (9, .sl false 7 (List.map Act.e y17.1)), (10, .sl false 1 (List.map ei32 y18)), (49, .int .i64 (y18.length : Int)), (50, .int .i64 t50)] [] [(ParserM.m y17.2)] _
        refine WP_seq ?_
        refine WP_reg [1, 5, 8, 9, 10, 49, 50, 51] [] ?_
        refine WPO_f ?_
        refine fun c21 hc21 => ?_
        replace h := letB_inv hc21 h
        refine WP_seq ?_
        refine WP_cond (b := c21) rfl (fun hb22 => ?_) (fun hb22 => ?_)
        · replace h := bif_t hb22 h
          refine WP_skip ?_
          refine WP_seq ?_
          refine WP_block ?_
          refine WP_seq ?_
          refine WP_reg [1, 5, 8, 9, 10, 11, 49, 50] [] ?_
          refine WPO_f ?_
          refine WP_seq ?_
          refine WP_reg [1, 5, 8, 9, 10, 49, 50, 70] [] ?_
          refine WPO_then 7 ?_
          refine WPO_t ?_
          obtain ⟨x23, hx23, h⟩ := bind_inv h
          refine And.intro (idx_nn hx23) ⟨_, idx_get Act.e hx23, ?_⟩
          refine fun c24 hc24 => ?_
          replace h := letB_inv hc24 h
          obtain ⟨g25, hg25, h⟩ := bind_inv h
          refine WPO_grp 11 70 [1, 5, 8, 9, 10, 49, 50, 70] g25 ?_ ?_
          · clear h
            replace h := hg25
            clear hg25
            cases hb29 : c24 with
            | false =>
              replace h := bif_f hb29 h
              refine WPO_t ?_
              obtain ⟨x26, hx26, h⟩ := bind_inv h
              refine And.intro (idx_nn hx26) ⟨_, idx_get Act.e hx26, ?_⟩
              obtain ⟨x27, hx27, h⟩ := bind_inv h
              refine And.intro (idx_nn hx27) ⟨_, idx_get ei32 hx27, ?_⟩
              refine fun c28 hc28 => ?_
              replace h := letB_inv hc28 h
              cases h
              exact ⟨rfl, rfl, rfl⟩
            | true =>
              replace h := bif_t hb29 h
              cases h
              refine WPO_t ?_
              exact ⟨rfl, rfl, rfl⟩
          refine WPO_t ?_
          refine WP_cond (b := g25) rfl (fun hb30 => ?_) (fun hb30 => ?_)
          · replace h := bif_t hb30 h
            refine WP_seq ?_
            refine WP_reg [4] [] ?_
            refine WPO_f ?_
            refine WP_ret ?_
            cases h
            exact ⟨_, rfl, rfl⟩
          · replace h := bif_f hb30 h
            refine WP_skip ?_
            refine WP_reg [1, 5, 8, 9, 10, 49, 50] [] ?_
            refine WPO_f ?_
            cases h
            exact ⟨_, rfl, rfl⟩
        · replace h := bif_f hb22 h
          refine WP_exit ?_
          cases h
          exact ⟨_, rfl, rfl⟩
      rcases j31 with z32 | z33
      · cases h
        exact ⟨rfl, rfl, rfl, rfl, rfl⟩
      · refine WP_seq ?_
        refine WP_reg [5, 8, 12] [] ?_
        refine WPO_f ?_
        refine And.intro (by decide) ?_
        obtain ⟨x34, hx34, h⟩ := bind_inv h
        refine And.intro (idx_nn hx34) ⟨_, idx_at hx34, ?_⟩
        refine WP_seq ?_
        refine WP_reg [5, 8, 12, 13] [] ?_
        refine WPO_f ?_
        refine ⟨List.map by8 ([27, x34] : List Int), rfl, ?_⟩
        obtain ⟨x35, hx35, h⟩ := bind_inv h
        refine And.intro (app_le by8 hx35) ⟨_, app_eq by8 hx35, ?_⟩
        refine ⟨List.map by8 ([27, 92] : List Int), rfl, ?_⟩
        obtain ⟨x36, hx36, h⟩ := bind_inv h
        refine And.intro (app_le by8 hx36) ⟨_, app_eq by8 hx36, ?_⟩
        refine WP_seq ?_
        refine WP_reg [5, 8, 12, 14] [] ?_
        refine WPO_f ?_
        obtain ⟨y37, hy37, h⟩ := bind_inv h
        refine ⟨_, _, CallT.sub (i := 0) (esc_Parser_Feed_ok hy37) rfl _ rfl rfl (ParserM.flat _) (ParserM.flat _), ?_⟩
        refine WP_seq ?_
        refine WP_seq ?_
        refine WP_reg [5, 8, 14, 101] [] ?_
        refine WPO_then 4 ?_
        refine WPO_f ?_
        refine ⟨_, (List.length_map ..).symm, ?_⟩
        refine fun c38 hc38 => ?_
        replace h := letB_inv hc38 h
        obtain ⟨g39, hg39, h⟩ := bind_inv h
        refine WPO_grp 6 93 [5, 8, 12, 14, 93] g39 ?_ ?_
        · clear h
          replace h := hg39
          clear hg39
          cases hb42 : c38 with
          | false =>
            replace h := bif_f hb42 h
            refine WPO_f ?_
            obtain ⟨x40, hx40, h⟩ := bind_inv h
            refine And.intro (idx_nn hx40) ⟨_, idx_get Act.e hx40, ?_⟩
            refine fun c41 hc41 => ?_
            replace h := letB_inv hc41 h
            cases h
            exact ⟨rfl, rfl, rfl⟩
          | true =>
            replace h := bif_t hb42 h
            cases h
            refine WPO_f ?_
            exact ⟨rfl, rfl, rfl⟩
        refine WPO_then 1 ?_
        refine WPO_f ?_
        obtain ⟨g43, hg43, h⟩ := bind_inv h
        refine WPO_grp 7 101 [5, 8, 14, 101] g43 ?_ ?_
        · clear h
          replace h := hg43
          clear hg43
          cases hb46 : g39 with
          | false =>
            replace h := bif_f hb46 h
            refine WPO_f ?_
            obtain ⟨x44, hx44, h⟩ := bind_inv h
            refine And.intro (idx_nn hx44) ⟨_, idx_get Act.e hx44, ?_⟩
            refine fun c45 hc45 => ?_
            replace h := letB_inv hc45 h
            cases h
            exact ⟨rfl, rfl, rfl⟩
          | true =>
            replace h := bif_t hb46 h
            cases h
            refine WPO_f ?_
            exact ⟨rfl, rfl, rfl⟩
        refine WPO_f ?_
        refine WP_cond (b := g43) rfl (fun hb47 => ?_) (fun hb47 => ?_)
        · replace h := bif_t hb47 h
          refine WP_seq ?_
          refine WP_reg [4] [] ?_
          refine WPO_f ?_
          refine WP_ret ?_
          cases h
          exact ⟨rfl, rfl, rfl, rfl, rfl⟩
        · replace h := bif_f hb47 h
          refine WP_skip ?_
          refine WP_seq ?_
          refine WP_reg [4] [] ?_
          refine WPO_then 12 ?_
          refine WPO_t ?_
          obtain ⟨x48, hx48, h⟩ := bind_inv h
          refine And.intro (idx_nn hx48) ⟨_, idx_get Act.e hx48, ?_⟩
          refine ⟨_, (List.length_map ..).symm, ?_⟩
          obtain ⟨x49, hx49, h⟩ := bind_inv h
          refine And.intro (subB_b hx49) (And.intro (subB_le by8 hx49) ⟨_, subB_eq by8 hx49, ?_⟩)
          obtain ⟨x50, hx50, h⟩ := bind_inv h
          refine ⟨_, bstr_inv hx50, ?_⟩
          refine fun c51 hc51 => ?_
          replace h := letB_inv hc51 h
          obtain ⟨g52, hg52, h⟩ := bind_inv h
          refine WPO_grp 2 115 [115] g52 ?_ ?_
          · clear h
            replace h := hg52
            clear hg52
            cases hb54 : c51 with
            | true =>
              replace h := bif_t hb54 h
              refine WPO_t ?_
              obtain ⟨y53, hy53, h⟩ := bind_inv h
              refine ⟨_, _, CallT.sub (i := 0) (esc_Parser_Idle_ok hy53) rfl _ rfl rfl (ParserM.flat _) (ParserM.flat _), ?_⟩
              cases h
              exact ⟨rfl, rfl, rfl⟩
            | false =>
              replace h := bif_f hb54 h
              cases h
              refine WPO_t ?_
              exact ⟨rfl, rfl, rfl⟩
          refine WPO_t ?_
          refine WP_ret ?_
          cases h
          exact ⟨rfl, rfl, rfl, rfl, rfl⟩
end Go.Proofs.YtggbcchebiedjaaDoor.Am.Esc

set_option linter.all false
namespace Go.Proofs.YtggbcchebiedjaaDoor.Am.Esc
open Go.Proofs.YtggbcchebiedjaaDoor.Am.T
theorem w64_id {n : Int} (h1 : -9223372036854775808 ≤ n) (h2 : n ≤ 9223372036854775807) : w64 n = n := by
  show IntKind.wrap .i64 n = n
  rw [IntKind.wrap_i64]; omega
def Byts (l : List Int) : Prop := ∀ x ∈ l, 0 ≤ x ∧ x < 256
theorem Byts.get {l : List Int} (h : Byts l) (i : Nat) : 0 ≤ l.getD i 0 ∧ l.getD i 0 < 256 := by
  rw [List.getD_eq_getElem?_getD]
  cases hi : l[i]? with
  | none => exact ⟨Int.le_refl _, by decide⟩
  | some x => exact h x (List.mem_of_getElem? hi)
theorem Byts.drop {l : List Int} (h : Byts l) (n : Nat) : Byts (l.drop n) := fun x hx => h x (List.mem_of_mem_drop hx)
theorem Byts.append {l l' : List Int} (h : Byts l) (h' : Byts l') : Byts (l ++ l') := fun x hx => by
  rcases List.mem_append.1 hx with h1 | h1
  · exact h x h1
  · exact h' x h1
theorem idx_is {α : Type} {d : α} {l : List α} {i : Int} (h0 : 0 ≤ i) (h : i < l.length) : idx l i = some (l.getD i.toNat d) := by
  unfold idx
  rw [if_pos h0, List.getD_eq_getElem?_getD, List.getElem?_eq_getElem (by omega)]; rfl
def firstOk (x : Int) : Bool := decide (0 ≤ iAnd .u8 x 7) && decide (iAnd .u8 x 7 ≤ 4) && decide (0 ≤ iShr .u8 x 4) && decide (iShr .u8 x 4 < 16) && (decide (x ≥ 240) || decide (2 ≤ iAnd .u8 x 7))
theorem first_all : tab1L.all firstOk = true := by decide +kernel
theorem first_len : tab1L.length = 256 := by decide +kernel
theorem second_len : tab2L.length = 16 := by decide +kernel
theorem first_at {b : Int} (h : 0 ≤ b ∧ b < 256) : ∃ x, idx tab1L b = some x ∧ (0 ≤ iAnd .u8 x 7 ∧ iAnd .u8 x 7 ≤ 4) ∧ (0 ≤ iShr .u8 x 4 ∧ iShr .u8 x 4 < 16) ∧ (x ≥ 240 ∨ 2 ≤ iAnd .u8 x 7) := by
  refine ⟨_, idx_is (d := 0) h.1 (by have := first_len; omega), ?_⟩
  have hm : tab1L.getD b.toNat 0 ∈ tab1L := by
    rw [List.getD_eq_getElem?_getD, List.getElem?_eq_getElem (by rw [first_len]; omega)]
    exact List.getElem_mem _
  have := List.all_eq_true.1 first_all _ hm
  clear hm
  generalize tab1L.getD b.toNat 0 = x at this ⊢
  simp only [firstOk, Bool.and_eq_true, Bool.or_eq_true, decide_eq_true_eq] at this
  obtain ⟨⟨⟨⟨h1, h2⟩, h3⟩, h4⟩, h5⟩ := this
  exact ⟨⟨h1, h2⟩, ⟨h3, h4⟩, h5⟩
theorem second_at {i : Int} (h : 0 ≤ i ∧ i < 16) : ∃ x, idx tab2L i = some x := ⟨_, idx_is (d := ⟨0, 0⟩) h.1 (by have := second_len; omega)⟩
theorem full_some {b : List Int} (hb : Byts b) : ∃ t, unicode_utf8_FullRune b = some t ∧ (t = true → b ≠ []) ∧ (t = false → b.length ≤ 3) := by
  unfold unicode_utf8_FullRune
  simp only [letB]
  by_cases h0 : b.length = 0
  · refine ⟨false, ?_, by simp, fun _ => by omega⟩
    rw [show decide ((b.length : Int) = 0) = true from decide_eq_true (by omega)]; rfl
  · rw [show decide ((b.length : Int) = 0) = false from decide_eq_false (by omega)]
    have hn : b ≠ [] := fun h => h0 (by rw [h]; rfl)
    obtain ⟨x, hx, hs, hr, _⟩ := first_at (hb.get 0)
    obtain ⟨y, hy⟩ := second_at hr
    simp only [cond_false]
    rw [idx_is (d := 0) (Int.le_refl 0) (by omega)]
    simp only [Option.bind_some, Int.toNat_zero]
    rw [hx]
    simp only [Option.bind_some]
    rw [w64_id (by omega) (by omega)]
    by_cases hl : (b.length : Int) ≥ iAnd .u8 x 7
    · exact ⟨true, by rw [decide_eq_true hl]; rfl, fun _ => hn, fun h => by cases h⟩
    · rw [decide_eq_false hl, hy]
      simp only [cond_false, Option.bind_some]
      have hl3 : b.length ≤ 3 := by omega
      have key : ∀ o : Option Bool, (∃ t, o = some t) → ∃ t, o = some t ∧ (t = true → b ≠ []) ∧ (t = false → b.length ≤ 3) := fun o ⟨t, h⟩ => ⟨t, h, fun _ => hn, fun _ => hl3⟩
      apply key
      by_cases h1 : (b.length : Int) > 1
      · rw [decide_eq_true h1, idx_is (d := 0) (i := 1) (by omega) (by omega)]
        simp only [cond_true, Option.bind_some]
        cases decide (b.getD (Int.toNat 1) 0 < y.lo) <;> cases decide (y.hi < b.getD (Int.toNat 1) 0) <;> simp only [cond_true, cond_false, Option.bind_some] <;> first | exact ⟨_, rfl⟩ | skip
        by_cases h2 : (b.length : Int) > 2
        · rw [decide_eq_true h2, idx_is (d := 0) (i := 2) (by omega) (by omega)]
          simp only [cond_true, Option.bind_some]
          cases decide (b.getD (Int.toNat 2) 0 < 128) <;> cases decide (191 < b.getD (Int.toNat 2) 0) <;> exact ⟨_, rfl⟩
        · rw [decide_eq_false h2]; exact ⟨_, rfl⟩
      · rw [decide_eq_false h1]
        simp only [cond_false, Option.bind_some]
        rw [decide_eq_false (show ¬ (b.length : Int) > 2 by omega)]; exact ⟨_, rfl⟩
theorem dec_some {b : List Int} (hb : Byts b) (hn : b ≠ []) : ∃ r n, unicode_utf8_DecodeRune b = some (r, n) ∧ 1 ≤ n ∧ n ≤ (b.length : Int) := by
  have h0 : 0 < b.length := List.length_pos_iff.2 hn
  have slow : ∃ r n, unicode_utf8_decodeRuneSlow b = some (r, n) ∧ 1 ≤ n ∧ n ≤ (b.length : Int) := by
    unfold unicode_utf8_decodeRuneSlow
    simp only [letB]
    rw [show decide ((b.length : Int) < 1) = false from decide_eq_false (by omega)]
    simp only [cond_false]
    obtain ⟨x, hx, hs, hr, hh⟩ := first_at (hb.get 0)
    obtain ⟨y, hy⟩ := second_at hr
    rw [idx_is (d := 0) (i := 0) (by omega) (by omega)]
    simp only [Option.bind_some, Int.toNat_zero]
    rw [hx]
    simp only [Option.bind_some]
    by_cases h240 : x ≥ 240
    · rw [decide_eq_true h240]; exact ⟨_, _, rfl, by omega, by omega⟩
    · rw [decide_eq_false h240, hy]
      have h2 : 2 ≤ iAnd .u8 x 7 := hh.resolve_left h240
      simp only [cond_false, Option.bind_some]
      rw [w64_id (n := iAnd .u8 x 7) (by omega) (by omega)]
      by_cases hl : (b.length : Int) < iAnd .u8 x 7
      · rw [decide_eq_true hl]; exact ⟨_, _, rfl, by omega, by omega⟩
      · rw [decide_eq_false hl, idx_is (d := 0) (i := 1) (by omega) (by omega)]
        simp only [cond_false, Option.bind_some]
        have bad : ∃ r n, (some (65533, 1) : Option (Int × Int)) = some (r, n) ∧ 1 ≤ n ∧ n ≤ (b.length : Int) := ⟨_, _, rfl, by omega, by omega⟩
        cases decide (b.getD (Int.toNat 1) 0 < y.lo) <;> cases decide (y.hi < b.getD (Int.toNat 1) 0) <;> simp only [cond_true, cond_false, Option.bind_some] <;> first | exact bad | skip
        by_cases hs2 : iAnd .u8 x 7 ≤ 2
        · rw [decide_eq_true hs2]; exact ⟨_, _, rfl, by omega, by omega⟩
        · rw [decide_eq_false hs2, idx_is (d := 0) (i := 2) (by omega) (by omega)]
          simp only [cond_false, Option.bind_some]
          cases decide (b.getD (Int.toNat 2) 0 < 128) <;> cases decide (191 < b.getD (Int.toNat 2) 0) <;> simp only [cond_true, cond_false, Option.bind_some] <;> first | exact bad | skip
          by_cases hs3 : iAnd .u8 x 7 ≤ 3
          · rw [decide_eq_true hs3]; exact ⟨_, _, rfl, by omega, by omega⟩
          · rw [decide_eq_false hs3, idx_is (d := 0) (i := 3) (by omega) (by omega)]
            simp only [cond_false, Option.bind_some]
            cases decide (b.getD (Int.toNat 3) 0 < 128) <;> cases decide (191 < b.getD (Int.toNat 3) 0) <;> simp only [cond_true, cond_false, Option.bind_some] <;> first | exact bad | exact ⟨_, _, rfl, by omega, by omega⟩
  unfold unicode_utf8_DecodeRune
  have hl : unicode_utf8_DecodeRune_l2 b = some (.inr (if b.getD 0 0 < 128 then .inl (w32 (b.getD 0 0)) else .inr ())) := by
    unfold unicode_utf8_DecodeRune_l2
    simp only [letB]
    rw [show decide (0 < (b.length : Int)) = true from decide_eq_true (by omega), idx_is (d := 0) (i := 0) (by omega) (by omega)]
    simp only [cond_true, Option.bind_some, Int.toNat_zero]
    by_cases h : b.getD 0 0 < 128
    · rw [decide_eq_true h, if_pos h]; rfl
    · rw [decide_eq_false h, if_neg h]; rfl
  rw [iter_inr hl]
  simp only [Option.bind_some]
  by_cases h : b.getD 0 0 < 128
  · rw [if_pos h]; exact ⟨_, _, rfl, by omega, by omega⟩
  · rw [if_neg h]
    obtain ⟨r, n, h1, h2, h3⟩ := slow
    exact ⟨r, n, by simp only [Option.bind_some, h1], h2, h3⟩
theorem feed_some : ∀ (k : Nat) {all : List Int} {out : List Int}, Byts all → all.length ≤ k → out.length + all.length ≤ most →
    ∃ rs rest, iter (fun s => glyph_Reader_Feed_in32_0_l1 s.1 s.2 : (List Int × List Int) → Option ((List Int × List Int) ⊕ (List Int × List Int))) (out, all) = some (out ++ rs, rest) ∧ rest.length ≤ 3 ∧ rs.length + rest.length ≤ all.length ∧ Byts rest
  | k, all, out, hb, hk, hm => by
    obtain ⟨t, ht, h1, h2⟩ := full_some hb
    cases t with
    | false =>
      refine ⟨[], all, ?_, h2 rfl, by simp, hb⟩
      rw [iter_inr (r := (out, all)) (by simp only [glyph_Reader_Feed_in32_0_l1, ht, Option.bind_some]; rfl), List.append_nil]
    | true =>
      obtain ⟨r, n, hd, hn1, hn2⟩ := dec_some hb (h1 rfl)
      have hl : 0 < all.length := List.length_pos_iff.2 (h1 rfl)
      have hstep : glyph_Reader_Feed_in32_0_l1 out all = some (.inl (out ++ [r], all.drop n.toNat)) := by
        unfold glyph_Reader_Feed_in32_0_l1
        rw [ht]
        simp only [Option.bind_some, cond_true, hd]
        rw [app_some (by simp; omega)]
        simp only [Option.bind_some]
        unfold subA
        rw [if_pos ⟨by omega, hn2⟩]; rfl
      match k with
      | 0 => omega
      | k + 1 =>
        obtain ⟨rs, rest, e, e1, e2, e3⟩ := feed_some k (all := all.drop n.toNat) (out := out ++ [r]) (hb.drop _) (by simp; omega) (by simp; omega)
        refine ⟨r :: rs, rest, ?_, e1, by simp at e2 ⊢; omega, e3⟩
        rw [iter_inl (s' := (out ++ [r], all.drop n.toNat)) (by exact hstep), e]
        simp
end Go.Proofs.YtggbcchebiedjaaDoor.Am.Esc

set_option linter.all false
namespace Go.Proofs.YtggbcchebiedjaaDoor.Am.Esc
open Go.Proofs.YtggbcchebiedjaaDoor.Am.T
def pr (r : Int) : Act := ⟨1, r, 0, 0, [], [], []⟩
def putE (p : ParserM) (zs : List Act) : ParserM := { p with out := p.out ++ zs }
theorem print_loop (rs : List Int) (hr : rs.length ≤ most) : ∀ (k : Nat) (i : Nat) (p : ParserM), i + k = rs.length → p.out.length + k ≤ most →
    iter (fun s => esc_Parser_print_l1 rs s.1 s.2 : (Int × ParserM) → Option ((Int × ParserM) ⊕ ParserM)) ((i : Int), p) = some (putE p ((rs.drop i).map pr))
  | 0, i, p, hi, ho => by
    have hm : most = 4294967296 := rfl
    rw [iter_inr (r := p) (by
      simp only [esc_Parser_print_l1, letB]
      rw [decide_eq_false (by omega)]; rfl)]
    rw [List.drop_of_length_le (by omega)]
    simp [putE]
  | k + 1, i, p, hi, ho => by
    have hm : most = 4294967296 := rfl
    have hd : rs.drop i = rs.getD i 0 :: rs.drop (i + 1) := by
      rw [List.getD_eq_getElem?_getD, List.getElem?_eq_getElem (by omega)]; exact List.drop_eq_getElem_cons (by omega)
    rw [iter_inl (s' := (((i + 1 : Nat) : Int), putE p [pr (rs.getD i 0)])) (by
      simp only [esc_Parser_print_l1, letB]
      rw [decide_eq_true (by omega), idx_is (d := 0) (by omega) (by omega)]
      simp only [cond_true, Option.bind_some, Int.toNat_natCast, esc_Parser_say]
      rw [app_some (by simp; omega)]
      simp only [Option.bind_some]
      rw [w64_id (by omega) (by omega)]; rfl)]
    rw [print_loop rs hr k (i + 1) _ (by omega) (by simp [putE]; omega), hd]
    simp [putE]
theorem print_is {p : ParserM} {rs : List Int} (h : p.out.length + rs.length ≤ most) : esc_Parser_print p rs = some (putE p (rs.map pr)) := by
  unfold esc_Parser_print
  have := print_loop rs (by omega) rs.length 0 p (by omega) h
  rw [List.drop_zero] at this
  have e : iter (fun s => esc_Parser_print_l1 rs s.1 s.2 : (Int × ParserM) → Option ((Int × ParserM) ⊕ ParserM)) (0, p) = some (putE p (rs.map pr)) := this
  rw [e]; rfl
noncomputable def gF (all : List Int) : List Int × List Int := (iter (fun s => glyph_Reader_Feed_in32_0_l1 s.1 s.2 : (List Int × List Int) → Option ((List Int × List Int) ⊕ (List Int × List Int))) ([], all)).getD ([], all)
theorem gF_is {all : List Int} (hb : Byts all) (hl : all.length ≤ most) :
    iter (fun s => glyph_Reader_Feed_in32_0_l1 s.1 s.2 : (List Int × List Int) → Option ((List Int × List Int) ⊕ (List Int × List Int))) ([], all) = some (gF all) ∧ (gF all).2.length ≤ 3 ∧ (gF all).1.length + (gF all).2.length ≤ all.length ∧ Byts (gF all).2 := by
  obtain ⟨rs, rest, e, h1, h2, h3⟩ := feed_some all.length (all := all) (out := []) hb (Nat.le_refl _) (by simpa using hl)
  have hg : gF all = (rs, rest) := by unfold gF; rw [e]; rfl
  rw [hg]
  exact ⟨by rw [e]; rfl, h1, h2, h3⟩
noncomputable def plainE (p : ParserM) (c : Int) : ParserM := putE { p with text := ⟨(gF (p.text.waits ++ [c])).2⟩ } ((gF (p.text.waits ++ [c])).1.map pr)
def restE (p : ParserM) : ParserM := putE { p with text := ⟨[]⟩ } ((List.replicate p.text.waits.length 65533).map pr)
def beginE (p : ParserM) (s : Int) : ParserM := ⟨p.text, s, false, true, ⟨0, 0, 0, 0, [], some [], []⟩, 0, [], p.out⟩
def interE (p : ParserM) (c : Int) : ParserM := if p.act.Inter.length = 2 then { p with spoiled := true } else { p with act := { p.act with Inter := p.act.Inter ++ [c] } }
def behindE (p : ParserM) (c : Int) : ParserM :=
  if c < 48 then interE p c else if c = 91 ∧ p.act.Inter = [] then beginE p 2
  else if p.act.Inter = [] ∧ c ∈ [93, 80, 88, 94, 95] then { beginE p 3 with act := { (beginE p 3).act with Final := c } }
  else { (if c < 127 ∧ p.spoiled = false then putE p [⟨3, 0, c, 0, p.act.Inter, [], []⟩] else p) with in_ := 0 }
def endE (p : ParserM) (c : Int) : ParserM :=
  if p.spoiled = false then putE { p with in_ := 0, act := { p.act with Kind := 4, Final := c, Params := none } } [{ p.act with Kind := 4, Final := c, Params := p.act.Params.getD [] }] else { p with in_ := 0 }
def num1 (p : ParserM) : ParserM := if p.count = 0 then { p with act := { p.act with Params := some [-1] }, count := 1 } else p
def numberE (p : ParserM) (c : Int) : ParserM :=
  let q := num1 p
  let ps := q.act.Params.getD []
  if c = 59 then { q with act := { q.act with Params := some (if q.count + 1 ≤ 16 then ps ++ [-1] else ps) }, count := q.count + 1 }
  else { q with act := { q.act with Params := some (if q.count ≤ 16 then upI ps (q.count - 1) (min (w64 ((w64 ((max (ps.getD (q.count - 1).toNat 0) 0) * 10)) + (w64 (w8 (c - 48))))) 9999) else ps) } }
def sequenceE (p : ParserM) (c : Int) : ParserM :=
  if c ≥ 128 then { p with in_ := 0, first := false } else if c < 48 then interE { p with first := false } c else if c ≥ 64 then endE { p with first := false } c
  else if c ≥ 60 ∧ p.first = true then { p with first := false, act := { p.act with Priv := c } }
  else if c = 58 ∨ c ≥ 60 ∨ p.act.Inter ≠ [] then { p with spoiled := true, first := false } else numberE { p with first := false } c
def endStringE (p : ParserM) : ParserM := putE { p with in_ := 0 } [⟨5, 0, p.act.Final, 0, [], [], p.payload⟩]
def collectE (p : ParserM) (c : Int) : ParserM :=
  if c = 7 then endStringE p else if c = 27 then { p with in_ := 4 } else if c = 24 ∨ c = 26 then { p with in_ := 0 }
  else if c ≥ 32 ∧ p.payload.length < 256 then { p with payload := p.payload ++ [c] } else p
noncomputable def onE (p : ParserM) (c : Int) : ParserM := if p.in_ = 1 then behindE p c else if p.in_ = 2 then sequenceE p c else plainE p c
def flushE (p : ParserM) (c : Int) : ParserM := if c < 32 ∨ c = 127 then restE p else p
noncomputable def outE (q : ParserM) (c : Int) : ParserM :=
  if c = 24 ∨ c = 26 then { q with in_ := 0 } else if c = 27 then beginE q 1 else if c < 32 then putE q [⟨2, 0, c, 0, [], [], []⟩] else if c ≠ 127 then onE q c else q
noncomputable def endsE (q : ParserM) (c : Int) : ParserM := if c = 92 then endStringE q else outE (flushE (beginE q 1) c) c
noncomputable def byteE (p : ParserM) (c : Int) : ParserM :=
  if (flushE p c).in_ = 3 then collectE (flushE p c) c else if (flushE p c).in_ = 4 then endsE (flushE p c) c else outE (flushE p c) c
structure Ok (n : Nat) (p : ParserM) : Prop where
  inn : 0 ≤ p.in_ ∧ p.in_ ≤ 4
  wts : Byts p.text.waits ∧ p.text.waits.length ≤ 3
  pay : Byts p.payload ∧ p.payload.length ≤ 256
  int : p.act.Inter.length ≤ 2
  num : p.in_ = 2 → ∃ ps, p.act.Params = some ps ∧ 0 ≤ p.count ∧ p.count ≤ n ∧ ps.length = min p.count.toNat 16
theorem flush_in {p : ParserM} {c : Int} : (flushE p c).in_ = p.in_ := by unfold flushE restE putE; split <;> rfl
theorem Ok.flush {n : Nat} {p : ParserM} {c : Int} (h : Ok n p) : Ok n (flushE p c) := by
  unfold flushE restE putE
  split
  · exact ⟨h.inn, ⟨fun _ hx => (by cases hx), Nat.zero_le _⟩, h.pay, h.int, h.num⟩
  · exact h
theorem flush_out {n : Nat} {p : ParserM} {c : Int} (h : Ok n p) : (flushE p c).out.length ≤ p.out.length + 3 := by
  unfold flushE restE putE
  split
  · simp; exact h.wts.2
  · omega
theorem most_is : most = 4294967296 := rfl
theorem rest_is {n : Nat} {p : ParserM} (h : Ok n p) (ho : p.out.length + 3 ≤ most) : ((glyph_Reader_Rest_in32_0 p).bind fun y6 => (esc_Parser_print y6.2 y6.1).bind fun y7 => some y7) = some (restE p) := by
  have hw := h.wts.2
  have hr : slices_Repeat_31 [65533] (p.text.waits.length : Int) = some (List.replicate p.text.waits.length 65533) := by
    show (if 0 ≤ (p.text.waits.length : Int) ∧ (p.text.waits.length : Int) ≤ 3 then some (List.replicate (p.text.waits.length : Int).toNat 65533) else none) = _
    rw [if_pos ⟨by omega, by omega⟩]; rfl
  unfold glyph_Reader_Rest_in32_0
  rw [hr]
  simp only [Option.bind_some, Int.toNat_natCast]
  rw [print_is (by simp; omega)]; rfl
end Go.Proofs.YtggbcchebiedjaaDoor.Am.Esc

set_option linter.all false
namespace Go.Proofs.YtggbcchebiedjaaDoor.Am.Esc
open Go.Proofs.YtggbcchebiedjaaDoor.Am.T
theorem rune_small : ∀ k : Nat, k < 16 → runeT (w32 ((32 + k : Nat) : Int)) = [((32 + k : Nat) : Int)] := by decide +kernel
theorem inter_is {p : ParserM} {c : Int} (hi : p.act.Inter.length ≤ 2) (hc : 32 ≤ c ∧ c < 48) : esc_Parser_inter p c = some (interE p c) := by
  have hr : runeT (w32 c) = [c] := by
    have := rune_small (c - 32).toNat (by omega)
    rwa [show ((32 + (c - 32).toNat : Nat) : Int) = c by omega] at this
  unfold interE
  simp only [esc_Parser_inter, letB, hr]
  by_cases h : p.act.Inter.length = 2
  · rw [if_pos h, decide_eq_true (by omega)]; rfl
  · rw [if_neg h, decide_eq_false (by omega)]
    simp only [cond_false, sadd]
    rw [if_pos (by simp; omega)]; rfl
theorem index_loop (l : List Int) (v : Int) (hl : l.length ≤ most) : ∀ (k i : Nat), i + k = l.length →
    ∃ j, iter (fun s => slices_Index_51_l1 l v s : Int → Option (Int ⊕ (Int ⊕ Unit))) (i : Int) = some j ∧ (match j with | .inl n => 0 ≤ n ∧ v ∈ l.drop i | .inr _ => v ∉ l.drop i)
  | 0, i, hi => by
    refine ⟨.inr (), iter_inr ?_, ?_⟩
    · simp only [slices_Index_51_l1, letB]
      rw [decide_eq_false (by omega)]; rfl
    · rw [List.drop_of_length_le (by omega)]; simp
  | k + 1, i, hi => by
    have hm := most_is
    have hd : l.drop i = l.getD i 0 :: l.drop (i + 1) := by
      rw [List.getD_eq_getElem?_getD, List.getElem?_eq_getElem (by omega)]; exact List.drop_eq_getElem_cons (by omega)
    by_cases he : v = l.getD i 0
    · refine ⟨.inl (i : Int), iter_inr ?_, ?_⟩
      · simp only [slices_Index_51_l1, letB]
        rw [decide_eq_true (by omega), idx_is (d := 0) (by omega) (by omega)]
        simp only [cond_true, Option.bind_some, Int.toNat_natCast]
        rw [decide_eq_true he]; rfl
      · exact ⟨by omega, by rw [hd, he]; exact List.mem_cons_self⟩
    · obtain ⟨j, e, hj⟩ := index_loop l v hl k (i + 1) (by omega)
      refine ⟨j, ?_, ?_⟩
      · rw [iter_inl (s' := ((i + 1 : Nat) : Int)) (by
          simp only [slices_Index_51_l1, letB]
          rw [decide_eq_true (by omega), idx_is (d := 0) (by omega) (by omega)]
          simp only [cond_true, Option.bind_some, Int.toNat_natCast]
          rw [decide_eq_false he, w64_id (by omega) (by omega)]; rfl), e]
      · rw [hd]
        cases j with
        | inl n => exact ⟨hj.1, .tail _ hj.2⟩
        | inr _ => intro hh; rcases List.mem_cons.1 hh with h | h; exact he h; exact hj h
theorem contains_is {l : List Int} {v : Int} (hl : l.length ≤ most) : slices_Contains_40 l v = some (decide (v ∈ l)) := by
  obtain ⟨j, e, hj⟩ := index_loop l v hl l.length 0 (by omega)
  have e : iter (fun s => slices_Index_51_l1 l v s : Int → Option (Int ⊕ (Int ⊕ Unit))) 0 = some j := e
  simp only [slices_Contains_40, slices_Index_51, e, Option.bind_some, letB]
  cases j with
  | inl n =>
    have hj : 0 ≤ n ∧ v ∈ l := hj
    simp only [Option.bind_some]
    rw [decide_eq_true (by omega : n ≥ 0), decide_eq_true hj.2]
  | inr _ =>
    have hj : v ∉ l := hj
    simp only [Option.bind_some]
    rw [decide_eq_false hj]; rfl
theorem say_is {p : ParserM} {a : Act} (h : p.out.length + 1 ≤ most) : esc_Parser_say p a = some (putE p [a]) := by
  unfold esc_Parser_say
  rw [app_some (by simpa using h)]; rfl
theorem begin_is {p : ParserM} {s : Int} : esc_Parser_begin p s = some (beginE p s) := rfl
theorem behind_is {p : ParserM} {c : Int} (hi : p.act.Inter.length ≤ 2) (hc : 32 ≤ c) (ho : p.out.length + 1 ≤ most) : esc_Parser_behind p c = some (behindE p c) := by
  unfold esc_Parser_behind behindE
  simp only [letB]
  by_cases h1 : c < 48
  · rw [decide_eq_true h1, if_pos h1, inter_is hi ⟨hc, h1⟩]; rfl
  rw [decide_eq_false h1, if_neg h1, contains_is (by simp [most_is])]
  simp only [cond_false, Option.bind_some, begin_is]
  by_cases h2 : c = 91
  · rw [decide_eq_true h2]
    by_cases h3 : p.act.Inter = []
    · rw [decide_eq_true h3, if_pos ⟨h2, h3⟩]; rfl
    · rw [decide_eq_false h3, if_neg (by simp [h3]), if_neg (by simp [h3])]
      simp only [cond_true, cond_false, Option.bind_some]
      by_cases h4 : c < 127
      · rw [decide_eq_true h4]
        cases h5 : p.spoiled with
        | true => rw [if_neg (by simp)]; rfl
        | false =>
          rw [if_pos ⟨h4, rfl⟩]
          simp only [cond_true, Option.bind_some, Bool.not_false, say_is ho]
      · rw [decide_eq_false h4, if_neg (by simp [h4])]; rfl
  · rw [decide_eq_false h2, if_neg (by simp [h2])]
    simp only [cond_false, Option.bind_some]
    by_cases h3 : p.act.Inter = []
    · rw [decide_eq_true h3]
      by_cases h6 : c ∈ ([93, 80, 88, 94, 95] : List Int)
      · rw [decide_eq_true h6, if_pos ⟨h3, h6⟩]; rfl
      · rw [decide_eq_false h6, if_neg (by simp [h6])]
        simp only [cond_true, cond_false, Option.bind_some]
        by_cases h4 : c < 127
        · rw [decide_eq_true h4]
          cases h5 : p.spoiled with
          | true => rw [if_neg (by simp)]; rfl
          | false =>
            rw [if_pos ⟨h4, rfl⟩]
            simp only [cond_true, Option.bind_some, Bool.not_false, say_is ho]
        · rw [decide_eq_false h4, if_neg (by simp [h4])]; rfl
    · rw [decide_eq_false h3, if_neg (by simp [h3])]
      simp only [cond_false, Option.bind_some]
      by_cases h4 : c < 127
      · rw [decide_eq_true h4]
        cases h5 : p.spoiled with
        | true => rw [if_neg (by simp)]; rfl
        | false =>
          rw [if_pos ⟨h4, rfl⟩]
          simp only [cond_true, Option.bind_some, Bool.not_false, say_is ho]
      · rw [decide_eq_false h4, if_neg (by simp [h4])]; rfl
theorem end_is {p : ParserM} {c : Int} {ps : List Int} (hp : p.act.Params = some ps) (ho : p.out.length + 1 ≤ most) : esc_Parser_end p c = some (endE p c) := by
  unfold esc_Parser_end endE
  rw [hp]
  simp only [Option.bind_some, Option.getD_some]
  cases h5 : p.spoiled with
  | true =>
    rw [if_neg (by simp)]
    simp only [Bool.not_true, cond_false, Option.bind_some, ← hp]
  | false =>
    rw [if_pos rfl]
    simp only [Bool.not_false, cond_true]
    rw [say_is (by exact ho)]
    simp only [Option.bind_some]
theorem endString_is {p : ParserM} (hp : Byts p.payload) (ho : p.out.length + 1 ≤ most) : esc_Parser_endString p = some (endStringE p) := by
  unfold esc_Parser_endString endStringE bstr
  rw [show (p.payload.all fun b => decide (0 ≤ b ∧ b < 256)) = true from List.all_eq_true.2 fun x hx => decide_eq_true (hp x hx)]
  simp only [cond_true, Option.bind_some]
  rw [say_is (by exact ho)]; rfl
theorem collect_is {p : ParserM} {c : Int} (hp : Byts p.payload) (hl : p.payload.length ≤ 256) (ho : p.out.length + 1 ≤ most) : esc_Parser_collect p c = some (collectE p c) := by
  unfold esc_Parser_collect collectE
  simp only [letB]
  by_cases h1 : c = 7
  · rw [decide_eq_true h1, if_pos h1, endString_is hp ho]; rfl
  rw [decide_eq_false h1, if_neg h1]
  by_cases h2 : c = 27
  · rw [decide_eq_true h2, if_pos h2]; rfl
  rw [decide_eq_false h2, if_neg h2]
  simp only [cond_false]
  by_cases h3 : c = 24
  · rw [decide_eq_true h3, if_pos (.inl h3)]; rfl
  rw [decide_eq_false h3]
  simp only [cond_false]
  by_cases h4 : c = 26
  · rw [decide_eq_true h4, if_pos (.inr h4)]; rfl
  rw [decide_eq_false h4, if_neg (by simp [h3, h4])]
  simp only [cond_false, Option.bind_some]
  by_cases h5 : c ≥ 32
  · rw [decide_eq_true h5]
    simp only [cond_true, Option.bind_some]
    by_cases h6 : p.payload.length < 256
    · rw [decide_eq_true (by omega), if_pos ⟨h5, h6⟩]
      simp only [cond_true, Option.bind_some]
      rw [app_some (by simp [most_is]; omega)]; rfl
    · rw [decide_eq_false (by omega), if_neg (by simp [h6])]; rfl
  · rw [decide_eq_false h5, if_neg (by simp [h5])]; rfl
theorem number_is {n : Nat} {p : ParserM} {c : Int} {ps : List Int} (hp : p.act.Params = some ps) (h0 : 0 ≤ p.count) (hn : p.count ≤ n) (hN : n ≤ 4611686018427387904) (hl : ps.length = min p.count.toNat 16) :
    esc_Parser_number p c = some (numberE p c) ∧ (numberE p c).out = p.out ∧ (numberE p c).text = p.text ∧ (numberE p c).payload = p.payload ∧ (numberE p c).in_ = p.in_ ∧ (numberE p c).act.Inter = p.act.Inter ∧
      ∃ qs, (numberE p c).act.Params = some qs ∧ 0 ≤ (numberE p c).count ∧ (numberE p c).count ≤ (n + 1 + 1 : Nat) ∧ qs.length = min (numberE p c).count.toNat 16 := by
  obtain ⟨q, hq⟩ : ∃ q, q = num1 p := ⟨_, rfl⟩
  have hq1 : ∃ qs, q.act.Params = some qs ∧ 1 ≤ q.count ∧ q.count ≤ (n + 1 : Nat) ∧ qs.length = min q.count.toNat 16 ∧ q.out = p.out ∧ q.text = p.text ∧ q.payload = p.payload ∧ q.in_ = p.in_ ∧ q.act.Inter = p.act.Inter := by
    rw [hq]
    unfold num1
    by_cases h : p.count = 0
    · rw [if_pos h]; exact ⟨[-1], rfl, by show (1 : Int) ≤ 1; omega, by show (1 : Int) ≤ _; omega, rfl, rfl, rfl, rfl, rfl, rfl⟩
    · rw [if_neg h]; exact ⟨ps, hp, by omega, by omega, hl, rfl, rfl, rfl, rfl, rfl⟩
  have hj : (bif decide (p.count = 0) then some ({ p with act := { p.act with Params := some [(-1)] }, count := 1 }) else some p : Option ParserM) = some q := by
    rw [hq]; unfold num1
    by_cases h : p.count = 0
    · rw [decide_eq_true h, if_pos h]; rfl
    · rw [decide_eq_false h, if_neg h]; rfl
  obtain ⟨qs, h1, h2, h3, h4, h5, h6, h7, h8, h9⟩ := hq1
  have hm := most_is
  unfold esc_Parser_number numberE
  simp only [letB]
  rw [hj, ← hq]
  simp only [Option.bind_some, h1, Option.getD_some]
  by_cases c1 : c = 59
  · rw [decide_eq_true c1, if_pos c1, w64_id (by omega) (by omega)]
    simp only [cond_true]
    by_cases c2 : q.count + 1 ≤ 16
    · rw [decide_eq_true c2, if_pos c2]
      simp only [cond_true]
      rw [app_some (by simp; omega)]
      exact ⟨rfl, h5, h6, h7, h8, h9, _, rfl, by (try simp only); omega, by (try simp only); omega, by (try simp only); simp only [List.length_append, List.length_cons, List.length_nil]; omega⟩
    · rw [decide_eq_false c2, if_neg c2]
      exact ⟨rfl, h5, h6, h7, h8, h9, _, rfl, by (try simp only); omega, by (try simp only); omega, by (try simp only); omega⟩
  · rw [decide_eq_false c1, if_neg c1]
    simp only [cond_false]
    by_cases c2 : q.count ≤ 16
    · rw [decide_eq_true c2, if_pos c2]
      simp only [cond_true]
      rw [w64_id (n := q.count - 1) (by omega) (by omega), idx_is (d := 0) (by omega) (by omega)]
      exact ⟨rfl, h5, h6, h7, h8, h9, _, rfl, by (try simp only); omega, by (try simp only); omega, by simp only [upI, List.length_set]; omega⟩
    · rw [decide_eq_false c2, if_neg c2]
      exact ⟨rfl, h5, h6, h7, h8, h9, _, rfl, by (try simp only); omega, by (try simp only); omega, by (try simp only); omega⟩
theorem sequence_is {n : Nat} {p : ParserM} {c : Int} (hk : Ok n p) (h2 : p.in_ = 2) (hN : n ≤ 4611686018427387904) (hc : 32 ≤ c) (ho : p.out.length + 1 ≤ most) : esc_Parser_sequence p c = some (sequenceE p c) := by
  obtain ⟨ps, hp, k0, k1, k2⟩ := hk.num h2
  unfold esc_Parser_sequence sequenceE
  simp only [letB]
  by_cases c1 : c ≥ 128
  · rw [decide_eq_true c1, if_pos c1]; rfl
  rw [decide_eq_false c1, if_neg c1]
  by_cases c2 : c < 48
  · rw [decide_eq_true c2, if_pos c2, inter_is (p := { p with first := false }) hk.int ⟨hc, c2⟩]; rfl
  rw [decide_eq_false c2, if_neg c2]
  by_cases c3 : c ≥ 64
  · rw [decide_eq_true c3, if_pos c3, end_is (p := { p with first := false }) hp ho]; rfl
  rw [decide_eq_false c3, if_neg c3]
  simp only [cond_false]
  have hnum := (number_is (p := { p with first := false }) (c := c) hp k0 k1 hN k2).1
  by_cases c4 : c ≥ 60
  · rw [decide_eq_true c4]
    cases hf : p.first with
    | true => rw [if_pos ⟨c4, rfl⟩]; rfl
    | false =>
      rw [if_neg (by simp), if_pos (.inr (.inl c4))]
      simp only [cond_true, cond_false, Option.bind_some]
      by_cases c5 : c = 58
      · rw [decide_eq_true c5]; rfl
      · rw [decide_eq_false c5]; rfl
  · rw [decide_eq_false c4, if_neg (by simp [c4])]
    simp only [cond_false, Option.bind_some]
    by_cases c5 : c = 58
    · rw [decide_eq_true c5, if_pos (.inl c5)]; rfl
    · rw [decide_eq_false c5]
      simp only [cond_false, Option.bind_some]
      by_cases c6 : p.act.Inter = []
      · rw [decide_eq_false (by simpa using c6), if_neg (by simp [c4, c5, c6]), hnum]; rfl
      · rw [decide_eq_true c6, if_pos (.inr (.inr c6))]; rfl
theorem plain_is {n : Nat} {p : ParserM} {c : Int} (hk : Ok n p) (hc : 0 ≤ c ∧ c < 256) (ho : p.out.length + 4 ≤ most) : esc_Parser_plain p c = some (plainE p c) := by
  have hm := most_is
  have hw := hk.wts
  have hb : Byts (p.text.waits ++ [c]) := hw.1.append (fun x hx => by simp at hx; subst hx; exact hc)
  obtain ⟨e, e1, e2, e3⟩ := gF_is hb (by simp; omega)
  have h1 : slices_Clone_52 p.text.waits = some p.text.waits := by unfold slices_Clone_52; rw [app_some (by simp; omega)]; rfl
  have h2 : slices_Clone_52 (gF (p.text.waits ++ [c])).2 = some (gF (p.text.waits ++ [c])).2 := by unfold slices_Clone_52; rw [app_some (by simp; omega)]; rfl
  unfold esc_Parser_plain glyph_Reader_Feed_in32_0
  rw [h1]
  simp only [Option.bind_some]
  rw [app_some (by simp; omega)]
  simp only [Option.bind_some]
  rw [e]
  simp only [Option.bind_some]
  rw [h2]
  simp only [Option.bind_some]
  rw [print_is (by simp at e2 ⊢; omega)]; rfl
end Go.Proofs.YtggbcchebiedjaaDoor.Am.Esc

set_option linter.all false
namespace Go.Proofs.YtggbcchebiedjaaDoor.Am.Esc
open Go.Proofs.YtggbcchebiedjaaDoor.Am.T
theorem on_is {s : Int} : esc_state_on s = some (if s = 1 then 32 else if s = 2 then 33 else if s = 3 then 34 else if s = 4 then 35 else 36) := by
  unfold esc_state_on
  simp only [letB]
  by_cases h1 : s = 1
  · rw [decide_eq_true h1, if_pos h1]; rfl
  rw [decide_eq_false h1, if_neg h1]
  by_cases h2 : s = 2
  · rw [decide_eq_true h2, if_pos h2]; rfl
  rw [decide_eq_false h2, if_neg h2]
  by_cases h3 : s = 3
  · rw [decide_eq_true h3, if_pos h3]; rfl
  rw [decide_eq_false h3, if_neg h3]
  by_cases h4 : s = 4
  · rw [decide_eq_true h4, if_pos h4]; rfl
  rw [decide_eq_false h4, if_neg h4]; rfl
noncomputable def dispE (rec35 : ParserM → Int → Option ParserM) (q : ParserM) (c : Int) : Option ParserM :=
  (esc_state_on q.in_).bind fun y => ((bif decide (y = 32) then esc_Parser_behind q c else bif decide (y = 33) then esc_Parser_sequence q c else bif decide (y = 34) then esc_Parser_collect q c else bif decide (y = 35) then rec35 q c else bif decide (y = 36) then esc_Parser_plain q c else none : Option ParserM)).bind fun y15 => some (y15)
theorem disp_is {rec35 : ParserM → Int → Option ParserM} {n : Nat} {q : ParserM} {c : Int} (hk : Ok n q) (hN : n ≤ 4611686018427387904) (hc : 32 ≤ c ∧ c < 256) (h3 : q.in_ ≠ 3) (h4 : q.in_ ≠ 4) (ho : q.out.length + 4 ≤ most) :
    dispE rec35 q c = some (onE q c) := by
  unfold dispE onE
  rw [on_is]
  by_cases h1 : q.in_ = 1
  · rw [if_pos h1, if_pos h1]
    simp only [Option.bind_some]
    show ((esc_Parser_behind q c).bind fun y => some y) = _
    rw [behind_is hk.int hc.1 (by omega)]; rfl
  rw [if_neg h1, if_neg h1]
  by_cases h2 : q.in_ = 2
  · rw [if_pos h2, if_pos h2]
    show ((esc_Parser_sequence q c).bind fun y => some y) = _
    rw [sequence_is hk h2 hN hc.1 (by omega)]; rfl
  rw [if_neg h2, if_neg h2, if_neg h3, if_neg h4]
  show ((esc_Parser_plain q c).bind fun y => some y) = _
  rw [plain_is hk ⟨by omega, hc.2⟩ ho]; rfl
theorem byteF_is {rec18 rec35 : ParserM → Int → Option ParserM} {n : Nat} {p : ParserM} {c : Int} (hk : Ok n p) (hN : n ≤ 4611686018427387904) (hc : 0 ≤ c ∧ c < 256) (ho : p.out.length + 8 ≤ most) {r : ParserM}
    (h4 : p.in_ = 4 → rec35 (flushE p c) c = some r) : esc_Parser_byteF rec18 rec35 p c = some (if p.in_ = 4 then r else byteE p c) := by
  have hq := hk.flush (c := c)
  have hqo := flush_out (c := c) hk
  have hqi := flush_in (p := p) (c := c)
  have first : (((bif decide (c < 32) then some true else some (decide (c = 127)) : Option Bool).bind fun g2 =>
      (bif g2 then ((glyph_Reader_Rest_in32_0 p).bind fun y6 => (esc_Parser_print y6.2 y6.1).bind fun y7 => some y7) else some p : Option ParserM)) : Option ParserM) = some (flushE p c) := by
    unfold flushE
    by_cases h1 : c < 32
    · rw [decide_eq_true h1, if_pos (.inl h1)]
      exact rest_is hk (by omega)
    · rw [decide_eq_false h1]
      by_cases h2 : c = 127
      · rw [decide_eq_true h2, if_pos (.inr h2)]
        exact rest_is hk (by omega)
      · rw [decide_eq_false h2, if_neg (by simp [h1, h2])]; rfl
  have second : ∀ q : ParserM, Ok n q → q.in_ = p.in_ → q.out.length + 5 ≤ most → (p.in_ = 4 → rec35 q c = some r) → (Option.bind (
    letB (decide (q.in_ = 3)) fun c9 =>
    (bif c9 then some true else (
      letB (decide (q.in_ = 4)) fun c11 =>
      some (c11))).bind fun g10 =>
    Option.bind (
      bif g10 then (dispE rec35 q c)
      else (
        letB (decide (c = 24)) fun c17 =>
        (bif c17 then some true else (
          letB (decide (c = 26)) fun c19 =>
          some (c19))).bind fun g18 =>
        Option.bind (
          bif g18 then (
            some ({ q with in_ := 0 }))
          else (
            letB (decide (c = 27)) fun c22 =>
            Option.bind (
              bif c22 then (
                (esc_Parser_begin q 1).bind fun y24 =>
                some (y24))
              else (
                letB (decide (c < 32)) fun c25 =>
                Option.bind (
                  bif c25 then (
                    (esc_Parser_say q (Act.mk 2 0 c 0 [] [] [])).bind fun y27 =>
                    some (y27))
                  else (
                    letB (decide (c ≠ 127)) fun c28 =>
                    Option.bind (
                      bif c28 then (dispE rec35 q c)
                      else (
                        some (q)) : Option ParserM) fun j33 =>
                    some (j33)) : Option ParserM) fun j34 =>
                some (j34)) : Option ParserM) fun j35 =>
            some (j35)) : Option ParserM) fun j36 =>
        some (j36)) : Option ParserM) fun j37 =>
    some (j37) : Option ParserM) fun j38 =>
      some j38) = some (if q.in_ = 4 then r else if q.in_ = 3 then collectE q c else outE q c) := by
    intro q hq hqi hqo h4
    by_cases i3 : q.in_ = 3
    · have hd : dispE rec35 q c = some (collectE q c) := by
        unfold dispE
        rw [on_is, i3]
        show ((esc_Parser_collect q c).bind fun y => some y) = _
        rw [collect_is hq.pay.1 hq.pay.2 (by omega)]; rfl
      rw [hd, if_neg (by omega), if_pos i3, i3]; rfl
    by_cases i4 : q.in_ = 4
    · have hd : dispE rec35 q c = some r := by
        unfold dispE
        rw [on_is, i4]
        show ((rec35 q c).bind fun y => some y) = _
        rw [h4 (by omega)]; rfl
      rw [hd, if_pos i4, i4]; rfl
    rw [if_neg i4, if_neg i3]
    simp only [letB]
    rw [decide_eq_false i3, decide_eq_false i4]
    unfold outE
    by_cases c24 : c = 24
    · rw [if_pos (.inl c24), decide_eq_true c24]; rfl
    by_cases c26 : c = 26
    · rw [if_pos (.inr c26), decide_eq_false c24, decide_eq_true c26]; rfl
    rw [if_neg (by omega), decide_eq_false c24, decide_eq_false c26]
    by_cases c27 : c = 27
    · rw [if_pos c27, decide_eq_true c27]; rfl
    rw [if_neg c27, decide_eq_false c27]
    by_cases c32 : c < 32
    · rw [if_pos c32, decide_eq_true c32, say_is (by omega)]; rfl
    rw [if_neg c32, decide_eq_false c32]
    by_cases c127 : c = 127
    · rw [if_neg (by omega), decide_eq_false (by omega)]; rfl
    · rw [if_pos c127, decide_eq_true c127, disp_is hq hN (by omega) i3 i4 (by omega)]; rfl
  have e := second (flushE p c) hq hqi (by omega) h4
  have e' : esc_Parser_byteF rec18 rec35 p c = some (if (flushE p c).in_ = 4 then r else if (flushE p c).in_ = 3 then collectE (flushE p c) c else outE (flushE p c) c) := by
    rw [← e]
    unfold esc_Parser_byteF
    simp only [letB] at first ⊢
    rw [← Option.bind_assoc]
    rw [first]
    rfl
  rw [e', hqi]
  unfold byteE
  by_cases i4 : p.in_ = 4
  · rw [if_pos i4, if_pos i4]
  · rw [if_neg i4, if_neg i4, hqi]
    by_cases i3 : p.in_ = 3
    · rw [if_pos i3, if_pos i3]
    · rw [if_neg i3, if_neg i3, if_neg i4]
end Go.Proofs.YtggbcchebiedjaaDoor.Am.Esc

set_option linter.all false
namespace Go.Proofs.YtggbcchebiedjaaDoor.Am.Esc
open Go.Proofs.YtggbcchebiedjaaDoor.Am.T
structure St (n m : Nat) (p : ParserM) : Prop where
  ok : Ok n p
  len : p.out.length ≤ m
  par : ∀ a ∈ p.out, a.Params.length ≤ 16
theorem Ok.mono {n n' : Nat} {p : ParserM} (h : Ok n p) (hn : n ≤ n') : Ok n' p :=
  ⟨h.inn, h.wts, h.pay, h.int, fun e => let ⟨ps, a, b, c, d⟩ := h.num e; ⟨ps, a, b, by omega, d⟩⟩
theorem St.mono {n n' m m' : Nat} {p : ParserM} (h : St n m p) (hn : n ≤ n') (hm : m ≤ m') : St n' m' p :=
  ⟨h.ok.mono hn, Nat.le_trans h.len hm, h.par⟩
theorem St.put {n m k : Nat} {p : ParserM} {zs : List Act} (h : St n m p) (hz : zs.length ≤ k) (hp : ∀ a ∈ zs, a.Params.length ≤ 16) : St n (m + k) (putE p zs) :=
  ⟨⟨h.ok.inn, h.ok.wts, h.ok.pay, h.ok.int, h.ok.num⟩, by have := h.len; simp [putE]; omega, fun a ha => by
    rcases List.mem_append.1 ha with ha | ha
    · exact h.par a ha
    · exact hp a ha⟩
theorem pr_par {rs : List Int} : ∀ a ∈ rs.map pr, a.Params.length ≤ 16 := by
  intro a ha
  obtain ⟨r, _, e⟩ := List.mem_map.1 ha
  subst e; exact Nat.zero_le _
theorem St.flush {n m : Nat} {p : ParserM} {c : Int} (h : St n m p) : St n (m + 3) (flushE p c) := by
  unfold flushE restE
  split
  · refine St.put (p := { p with text := ⟨[]⟩ }) ⟨⟨h.ok.inn, ⟨fun _ hx => (by cases hx), Nat.zero_le _⟩, h.ok.pay, h.ok.int, h.ok.num⟩, h.len, h.par⟩ ?_ pr_par
    simp; exact h.ok.wts.2
  · exact h.mono (Nat.le_refl _) (by omega)
theorem St.begin {n m : Nat} {p : ParserM} {s : Int} (h : St n m p) (hs : 0 ≤ s ∧ s ≤ 4) : St n m (beginE p s) :=
  ⟨⟨hs, h.ok.wts, ⟨fun _ hx => (by cases hx), Nat.zero_le _⟩, Nat.zero_le _, fun _ => ⟨[], rfl, Int.le_refl _, by show (0 : Int) ≤ _; omega, rfl⟩⟩, h.len, h.par⟩
theorem St.ground {n m : Nat} {p : ParserM} (h : St n m p) : St n m { p with in_ := 0 } :=
  ⟨⟨⟨Int.le_refl _, by show (0 : Int) ≤ 4; omega⟩, h.ok.wts, h.ok.pay, h.ok.int, fun e => by exact absurd e (show ¬((0 : Int) = 2) by omega)⟩, h.len, h.par⟩
theorem St.inter {n m : Nat} {p : ParserM} {c : Int} (h : St n m p) : St n m (interE p c) := by
  unfold interE
  split
  · exact ⟨⟨h.ok.inn, h.ok.wts, h.ok.pay, h.ok.int, h.ok.num⟩, h.len, h.par⟩
  · refine ⟨⟨h.ok.inn, h.ok.wts, h.ok.pay, ?_, h.ok.num⟩, h.len, h.par⟩
    have := h.ok.int
    simp; omega
theorem one_par {a : Act} (h : a.Params.length ≤ 16) : ∀ b ∈ [a], b.Params.length ≤ 16 := by
  intro b hb; simp at hb; subst hb; exact h
theorem St.behind {n m : Nat} {p : ParserM} {c : Int} (h : St n m p) : St n (m + 1) (behindE p c) := by
  unfold behindE
  split
  · exact h.inter.mono (Nat.le_refl _) (by omega)
  split
  · exact (h.begin ⟨by omega, by omega⟩).mono (Nat.le_refl _) (by omega)
  split
  · have := h.begin (s := 3) ⟨by omega, by omega⟩
    exact ⟨⟨this.ok.inn, this.ok.wts, this.ok.pay, this.ok.int, this.ok.num⟩, Nat.le_succ_of_le this.len, this.par⟩
  refine St.ground ?_
  split
  · exact h.put (by simp) (one_par (Nat.zero_le _))
  · exact h.mono (Nat.le_refl _) (by omega)
theorem St.end_ {n m : Nat} {p : ParserM} {c : Int} (h : St n m p) (h2 : p.in_ = 2) : St n (m + 1) (endE p c) := by
  unfold endE
  obtain ⟨ps, hp, _, _, hl⟩ := h.ok.num h2
  split
  · refine St.put (p := { p with in_ := 0, act := { p.act with Kind := 4, Final := c, Params := none } }) ⟨⟨h.ground.ok.inn, h.ok.wts, h.ok.pay, h.ok.int, fun e => by exact absurd e (show ¬((0 : Int) = 2) by omega)⟩, h.len, h.par⟩ (by simp) (one_par ?_)
    rw [hp]; simp; omega
  · exact h.ground.mono (Nat.le_refl _) (by omega)
theorem St.sequence {n m : Nat} {p : ParserM} {c : Int} (h : St n m p) (h2 : p.in_ = 2) (hN : n ≤ 4611686018427387904) : St (n + 2) (m + 1) (sequenceE p c) := by
  have h' : St n m { p with first := false } := ⟨⟨h.ok.inn, h.ok.wts, h.ok.pay, h.ok.int, h.ok.num⟩, h.len, h.par⟩
  unfold sequenceE
  split
  · exact h'.ground.mono (by omega) (by omega)
  split
  · exact h'.inter.mono (by omega) (by omega)
  split
  · exact (h'.end_ h2).mono (by omega) (by omega)
  split
  · exact ⟨⟨h.ok.inn, h.ok.wts, h.ok.pay, h.ok.int, (h'.ok.mono (by omega : n ≤ n + 2)).num⟩, Nat.le_succ_of_le h.len, h.par⟩
  split
  · exact ⟨⟨h.ok.inn, h.ok.wts, h.ok.pay, h.ok.int, (h'.ok.mono (by omega : n ≤ n + 2)).num⟩, Nat.le_succ_of_le h.len, h.par⟩
  · obtain ⟨ps, hp, k0, k1, k2⟩ := h'.ok.num h2
    obtain ⟨_, e1, e2, e3, e4, e5, qs, q1, q2, q3, q4⟩ := number_is (p := { p with first := false }) (c := c) hp k0 k1 hN k2
    refine ⟨⟨by rw [e4]; exact h.ok.inn, by rw [e2]; exact h.ok.wts, by rw [e3]; exact h.ok.pay, by rw [e5]; exact h.ok.int, fun _ => ⟨qs, q1, q2, q3, q4⟩⟩, by rw [e1]; exact Nat.le_succ_of_le h.len, by rw [e1]; exact h.par⟩
theorem St.endString {n m : Nat} {p : ParserM} (h : St n m p) : St n (m + 1) (endStringE p) := by
  unfold endStringE
  exact St.put h.ground (by simp) (one_par (Nat.zero_le _))
theorem St.collect {n m : Nat} {p : ParserM} {c : Int} (h : St n m p) (h3 : p.in_ = 3) (hc : 0 ≤ c ∧ c < 256) : St n (m + 1) (collectE p c) := by
  unfold collectE
  split
  · exact h.endString
  split
  · exact ⟨⟨⟨by show (0 : Int) ≤ 4; omega, by show (4 : Int) ≤ 4; omega⟩, h.ok.wts, h.ok.pay, h.ok.int, fun e => by exact absurd e (show ¬((4 : Int) = 2) by omega)⟩, Nat.le_succ_of_le h.len, h.par⟩
  split
  · exact h.ground.mono (Nat.le_refl _) (by omega)
  split
  · rename_i hh
    refine ⟨⟨h.ok.inn, h.ok.wts, ⟨h.ok.pay.1.append (fun x hx => by simp at hx; subst hx; exact hc), ?_⟩, h.ok.int, h.ok.num⟩, Nat.le_succ_of_le h.len, h.par⟩
    simp; omega
  · exact h.mono (Nat.le_refl _) (by omega)
theorem St.plain {n m : Nat} {p : ParserM} {c : Int} (h : St n m p) (hc : 0 ≤ c ∧ c < 256) : St n (m + 4) (plainE p c) := by
  unfold plainE
  have hm := most_is
  have hw := h.ok.wts
  have hb : Byts (p.text.waits ++ [c]) := hw.1.append (fun x hx => by simp at hx; subst hx; exact hc)
  obtain ⟨e, e1, e2, e3⟩ := gF_is hb (by simp; omega)
  refine St.put (p := { p with text := ⟨(gF (p.text.waits ++ [c])).2⟩ }) ⟨⟨h.ok.inn, ⟨e3, e1⟩, h.ok.pay, h.ok.int, h.ok.num⟩, h.len, h.par⟩ ?_ pr_par
  simp at e2 ⊢; omega
theorem St.on {n m : Nat} {p : ParserM} {c : Int} (h : St n m p) (hc : 0 ≤ c ∧ c < 256) (hN : n ≤ 4611686018427387904) : St (n + 2) (m + 4) (onE p c) := by
  unfold onE
  split
  · exact h.behind.mono (by omega) (by omega)
  split
  · rename_i h2; exact (h.sequence h2 hN).mono (by omega) (by omega)
  · exact (h.plain hc).mono (by omega) (by omega)
theorem St.outer {n m : Nat} {p : ParserM} {c : Int} (h : St n m p) (hc : 0 ≤ c ∧ c < 256) (hN : n ≤ 4611686018427387904) : St (n + 2) (m + 4) (outE p c) := by
  unfold outE
  split
  · exact h.ground.mono (by omega) (by omega)
  split
  · exact (h.begin ⟨by omega, by omega⟩).mono (by omega) (by omega)
  split
  · exact (h.put (k := 1) (by simp) (one_par (Nat.zero_le _))).mono (by omega) (by omega)
  split
  · exact h.on hc hN
  · exact h.mono (by omega) (by omega)
theorem St.ends {n m : Nat} {p : ParserM} {c : Int} (h : St n m p) (hc : 0 ≤ c ∧ c < 256) (hN : n ≤ 4611686018427387904) : St (n + 2) (m + 7) (endsE p c) := by
  unfold endsE
  split
  · exact h.endString.mono (by omega) (by omega)
  · exact ((h.begin (s := 1) ⟨by omega, by omega⟩).flush (c := c)).outer hc hN
theorem St.byte {n m : Nat} {p : ParserM} {c : Int} (h : St n m p) (hc : 0 ≤ c ∧ c < 256) (hN : n ≤ 4611686018427387904) : St (n + 2) (m + 10) (byteE p c) := by
  have hf := h.flush (c := c)
  unfold byteE
  split
  · rename_i h3; exact (hf.collect h3 hc).mono (by omega) (by omega)
  split
  · exact hf.ends hc hN
  · exact (hf.outer hc hN).mono (by omega) (by omega)
theorem byte_is {n m : Nat} {p : ParserM} {c : Int} (h : St n m p) (hc : 0 ≤ c ∧ c < 256) (hN : n ≤ 4611686018427387904) (hm : m + 20 ≤ most) : esc_Parser_byte p c = some (byteE p c) := by
  have base : ∀ (k : Nat) (q : ParserM) (m' : Nat), St n m' q → m' + 8 ≤ most → q.in_ ≠ 4 → (esc_Parser_byteG (k + 1)).1 q c = some (byteE q c) := by
    intro k q m' hq hm' h4
    have hlen := hq.len
    have := byteF_is (rec18 := (esc_Parser_byteG k).1) (rec35 := (esc_Parser_byteG k).2) (r := q) hq.ok hN hc (by omega) (fun e => absurd e h4)
    rw [if_neg h4] at this
    exact this
  have hlen := h.len
  by_cases h4 : p.in_ = 4
  · have hf := h.flush (c := c)
    have hflen := hf.len
    have e1 : (esc_Parser_byteG 2).2 (flushE p c) c = some (endsE (flushE p c) c) := by
      show esc_Parser_endsF ((esc_Parser_byteG 1).1) ((esc_Parser_byteG 1).2) (flushE p c) c = _
      unfold esc_Parser_endsF endsE
      simp only [letB]
      by_cases h92 : c = 92
      · rw [decide_eq_true h92, if_pos h92, endString_is hf.ok.pay.1 (by omega)]; rfl
      · rw [decide_eq_false h92, if_neg h92]
        simp only [cond_false, begin_is, Option.bind_some]
        rw [base 0 (beginE (flushE p c) 1) (m + 3) (hf.begin ⟨by omega, by omega⟩) (by omega) (by show ¬((1 : Int) = 4); omega)]
        simp only [Option.bind_some]
        congr 1
        unfold byteE
        have hi : (flushE (beginE (flushE p c) 1) c).in_ = 1 := flush_in
        rw [if_neg (by rw [hi]; omega), if_neg (by rw [hi]; omega)]
    have := byteF_is (rec18 := (esc_Parser_byteG 2).1) (rec35 := (esc_Parser_byteG 2).2) (r := endsE (flushE p c) c) h.ok hN hc (by omega) (fun _ => e1)
    rw [if_pos h4] at this
    have e2 : byteE p c = endsE (flushE p c) c := by
      unfold byteE
      rw [if_neg (by rw [flush_in, h4]; omega), if_pos (by rw [flush_in, h4])]
    rw [e2]; exact this
  · exact base 2 p m h (by omega) h4
def S (x : List Act) (p : ParserM) : ParserM := { p with out := x ++ p.out }
end Go.Proofs.YtggbcchebiedjaaDoor.Am.Esc
