/-
A part of the proof of a law: tw c, tw pure, tw law, tw nil, tw rec, ly p, ly f, ly m, ly s, ly l, ly t, ly w, ly p b, ly y, ly z, ly pl, ly p c, ly ra, ly rb, ly u.
-/
import Derived.Test.YtakdnfneikbjjaaGreatDoorAmLayoutReadsRow4
namespace Go.Proofs.YtakdnfneikbjjaaGreatDoor.Am.T
open Go.Proofs.YtakdnfneikbjjaaGreatDoor.Am
section
variable {ρ : List Nat} {cf : CF} {L : Ts} {B : Bs} {M : Ms} {st : St}
theorem zf1 {σ : Nat → V} (h : Ag ρ L σ) {o : AOper} {t : TV} {v : V} (hd : Den ρ t v) {l : Nat → List V} {m : Am.Ms} {k : Ts → Prop} (hk : putW o t L k) : ∃ σ', zdv o (v, ⟨σ, l, m⟩) = some ⟨σ', l, m⟩ ∧ ∃ L', Ag ρ L' σ' ∧ k L' := by
  unfold putW at hk
  unfold zdv
  cases hdst : o.dst with
  | none =>
    simp only [hdst] at hk
    cases hkt : o.kt with
    | false =>
      rw [hkt] at hk
      exact ⟨σ, rfl, L, h, hk⟩
    | true =>
      rw [hkt] at hk
      simp only [cond_true] at hk
      obtain ⟨hs, hk⟩ := bifF hk
      have hu : t ≠ .undef := by rintro rfl; exact hk
      have hk2 : k L := by cases t <;> first | exact hk | exact absurd rfl hu
      exact ⟨σ, by simp [St.put, hd.selfPlace hu hs], L, h, hk2⟩
  | some d =>
    simp only [hdst] at hk
    cases hkt : o.kt with
    | false =>
      rw [hkt] at hk
      exact ⟨upd σ d v, by simp [St.put], _, h.upd d hd, hk⟩
    | true =>
      rw [hkt] at hk
      simp only [cond_true] at hk
      obtain ⟨hs, hk⟩ := bifF hk
      have hu : t ≠ .undef := by rintro rfl; exact hk
      have hk2 : mapK (killTV d) L fun L' => k ((d, t) :: L') := by cases t <;> first | exact hk | exact absurd rfl hu
      obtain ⟨L', h1, h2⟩ := zcv h (fun _ _ h => Den.killTV d h) hk2
      exact ⟨upd (killT d σ) d v, by simp [St.put, hd.selfPlace hu hs], _, Ag.upd h1 d hd, h2⟩
theorem zhl {σ : Nat → V} (h : Ag ρ L σ) {o : AOper} {l : Nat → List V} {m : Am.Ms} {k : Ts → Prop} (hk : zjL o L k) : ∃ σ', St.put ⟨σ, l, m⟩ o.kt o.dst (.tuple []) = ⟨σ', l, m⟩ ∧ ∃ L', Ag ρ L' σ' ∧ k L' := by
  unfold zjL at hk
  cases hdst : o.dst with
  | none => simp only [hdst] at hk; exact ⟨σ, rfl, L, h, hk⟩
  | some d =>
    simp only [hdst] at hk
    cases hkt : o.kt with
    | false => rw [hkt] at hk; exact ⟨_, rfl, _, h.upd d (.tuple .nil), hk⟩
    | true =>
      rw [hkt] at hk
      simp only [cond_true] at hk
      obtain ⟨L', h1, h2⟩ := zcv h (fun _ _ h => Den.killTV d h) hk
      exact ⟨_, rfl, _, Ag.upd h1 d (.tuple .nil), h2⟩
structure WPO (d : Bool) (cf : CF) (os : List AOper) (L : Ts) (B : Bs) (M : Ms) (K : Ts → Bs → Ms → Prop) : Prop where
  go : ∀ ρ st, Rel ρ L B M st → ∃ st', (if d then runD cf os st else zbG cf os st) = some st' ∧ ∃ ρ' L' B' M', Rel ρ' L' B' M' st' ∧ Fr ρ st.m ρ' st'.m ∧ K L' B' M'
theorem zfg : ∀ {os : List AOper} {ρ : List Nat} {L : Ts} {B : Bs} {M : Ms} {st : St} {k : Ts → Bs → Ms → Prop} (_ : Rel ρ L B M st) (_ : wpOps cf os L B M k),
    ∃ st', zbG cf os st = some st' ∧ ∃ ρ' L' B' M', Rel ρ' L' B' M' st' ∧ Fr ρ st.m ρ' st'.m ∧ k L' B' M'
  | [], ρ, L, B, M, st, k, h, hk => ⟨st, rfl, ρ, L, B, M, h, .refl _ _, hk⟩
  | o :: os, ρ, L, B, M, st, k, h, hk => by
    have doit : (wpOp false cf o.op L B M fun v L1 B1 m1 => putW o v L1 fun L2 => wpOps cf os L2 B1 m1 k) → ∃ st1, (evalOp cf st o.op).bind (zdv o) = some st1 ∧ ∃ st', zbG cf os st1 = some st' ∧ ∃ ρ' L' B' M', Rel ρ' L' B' M' st' ∧ Fr ρ st.m ρ' st'.m ∧ k L' B' M' := fun hk => by
      obtain ⟨v, st1, e, _, ρ1, t, L1, B1, M1, hd, h1, hf1, hk⟩ := zf0 h hk
      obtain ⟨σ', e2, L2, h2, hk⟩ := zf1 (l := st1.l) (m := st1.m) h1.a hd hk
      obtain ⟨st', e3, ρ', L', B', M', h3, hf3, hk⟩ := zfg (st := ⟨σ', st1.l, st1.m⟩) ⟨h2, h1.b, h1.m⟩ hk
      exact ⟨_, by rw [e]; exact e2, st', e3, ρ', L', B', M', h3, hf1.trans hf3, hk⟩
    have skip : ∀ {b want : Bool} {g : Nat}, (zjL o L fun L2 => wpOps cf os L2 B M k) → ∃ st', zbG cf os (st.put o.kt o.dst (.tuple [])) = some st' ∧ ∃ ρ' L' B' M', Rel ρ' L' B' M' st' ∧ Fr ρ st.m ρ' st'.m ∧ k L' B' M' := fun {b want g} hk => by
      obtain ⟨σ', e2, L2, h2, hk⟩ := zhl (l := st.l) (m := st.m) h.a hk
      obtain ⟨st', e3, r⟩ := zfg (st := ⟨σ', st.l, st.m⟩) ⟨h2, h.b, h.m⟩ hk
      exact ⟨st', by rw [e2]; exact e3, r⟩
    unfold wpOps at hk
    cases hg : o.guard with
    | none =>
      rw [hg] at hk
      obtain ⟨st1, e, st', e2, r⟩ := doit hk
      exact ⟨st', by simp only [zbG, zcY, hg, e, Option.bind_some, e2], r⟩
    | some q =>
      obtain ⟨g, want⟩ := q
      rw [hg] at hk
      simp only at hk
      split at hk
      · rename_i b hf
        have hv := (h.a g _ hf).bool_inv
        by_cases hbw : b = want
        · subst hbw
          simp only [beq_self_eq_true, cond_true] at hk
          obtain ⟨st1, e, st', e2, r⟩ := doit hk
          exact ⟨st', by simp only [zbG, zcY, hg, hv, if_true, e, Option.bind_some, e2], r⟩
        · have : (b == want) = false := by simpa using hbw
          rw [this] at hk
          simp only [cond_false] at hk
          obtain ⟨st', e3, r⟩ := skip (b := b) (want := want) (g := g) hk
          exact ⟨st', by simp only [zbG, zcY, hg, hv]; rw [if_neg hbw]; exact e3, r⟩
      · rename_i hf
        obtain ⟨cs', hv, hcs⟩ := (h.a g _ hf).tuple_inv
        cases hcs
        obtain ⟨st', e3, r⟩ := skip (b := true) (want := want) (g := g) hk
        exact ⟨st', by simp only [zbG, zcY, hg, hv]; exact e3, r⟩
      · exact hk.elim
theorem zgn (h : Ag ρ L st.σ) {lean : Bool} : ∀ {r : List Nat}, zlx lean L r = true → (r.all fun s => rootOk lean (st.σ s)) = true
  | [], _ => rfl
  | s :: r, hr => by
    unfold zlx at hr
    cases hf : fnd L s with
    | none => simp only [hf] at hr; cases hr
    | some v =>
      simp only [hf, yae] at hr
      rw [List.all_cons, yae]
      exact ⟨(h s v hf).rootOk hr.1, zgn h hr.2⟩
theorem zeV {t : TV} {v : V} (h : Den ρ t v) (hn : ziF t = true) : zgD v = true := by
  cases h with
  | base h0 => cases h0 <;> first | rfl | cases hn
  | loc j o => cases hn
  | _ => rfl
theorem zhm (h : Ag ρ L st.σ) : ∀ {r : List Nat}, zoy L r = true → (r.all fun s => zgD (st.σ s)) = true
  | [], _ => rfl
  | s :: r, hr => by
    unfold zoy at hr
    cases hf : fnd L s with
    | none => simp only [hf] at hr; cases hr
    | some v =>
      simp only [hf, yae] at hr
      rw [List.all_cons, yae]
      exact ⟨zeV (h s v hf) hr.1, zhm h hr.2⟩
theorem zjS {j : Nat} {t : TV} {v : V} (h : Den ρ t v) (hr : zno j t = true) : zkf j v = true := by
  cases t with
  | loc i o => rw [h.loc_inv]; exact hr
  | _ => cases hr
theorem zjT {j : Nat} (h : Ag ρ L st.σ) : ∀ {r : List Nat}, faW j L r = true → (r.all fun s => zkf j (st.σ s)) = true
  | [], _ => rfl
  | s :: r, hr => by
    unfold faW at hr
    cases hf : fnd L s with
    | none => simp only [hf] at hr; cases hr
    | some v =>
      simp only [hf, yae] at hr
      rw [List.all_cons, yae]
      exact ⟨zjS (h s v hf) hr.1, zjT h hr.2⟩
theorem znA {o : AOper} {t : TV} {v : V} (h : Den ρ t v) (hr : znp o t = true) : zeY o v = true := by
  simp only [znp, yae] at hr
  obtain ⟨h1, h2⟩ := hr
  simp only [zeY, yae]
  refine ⟨h.rootOk h1, ?_⟩
  cases hm : o.mark with
  | none => rfl
  | quiet =>
    rw [hm] at h2
    simp only [yae] at h2
    simp only [yae]
    refine ⟨zeV h h2.1, ?_⟩
    cases h with
    | base h0 => cases h0 <;> first | rfl | cases h2.1
    | place _ => exact absurd h2.2 (by simp)
    | el _ _ _ _ => exact absurd h2.2 (by simp)
    | _ => rfl
  | mem =>
    rw [hm] at h2
    simp only [yae] at h2
    simp only [yae]
    refine ⟨zeV h h2.1, ?_⟩
    cases h with
    | base h0 => cases h0 <;> first | rfl | cases h2.1
    | place _ => exact absurd h2.2 (by simp)
    | el _ _ _ _ => exact absurd h2.2 (by simp)
    | _ => rfl
  | fa j => rw [hm] at h2; exact zjS h h2
  | _ => rw [hm] at h2; exact zeV h h2
theorem zjU {ts : List Nat} {st : St} : (clears ts st).m = st.m ∧ (clears ts st).l = st.l := ⟨zci, zcA⟩
theorem znB {st st' : St} {x : Opd} {v : V} (h : getO st x = some (v, st')) : st'.m = st.m ∧ st'.l = st.l := by
  rw [zbk h]; exact zjU
theorem zjV {st st' : St} {sz s : Nat} {y : Opd} {v : V} (hs : st.σ s = .nils ∨ ∃ o z xs, st.σ s = .slice o z xs) (he : evalOp cf st (.append sz (.u s .take) y) = some (v, st')) : st'.m = st.m ∧ st'.l = st.l := by
  simp only [evalOp, yab] at he
  obtain ⟨p, hp, q, hq, ys, hys, he⟩ := he
  obtain ⟨pv, p2⟩ := p
  obtain ⟨qv, q2⟩ := q
  have hpv : pv = st.σ s := by
    simp only [getO, yaa, yac] at hp
    exact hp.1.symm
  have e1 := znB hp
  have e2 := znB hq
  have e3 : q2.m = st.m ∧ q2.l = st.l := ⟨e2.1.trans e1.1, e2.2.trans e1.2⟩
  simp only at he
  subst hpv
  rcases hs with hs | ⟨o, z, xs, hs⟩
  · rw [hs] at he
    simp only at he
    split at he
    · cases he; exact e3
    · split at he
      · cases he; exact e3
      · cases he
  · rw [hs] at he
    cases o with
    | true =>
      simp only at he
      split at he
      · cases he; exact e3
      · cases he
    | false => cases he
theorem zoA {st st' : St} {f : Nat} {args : List Opd} {v : V} (he : evalOp cf st (.callP f args) = some (v, st')) : st'.m = st.m ∧ st'.l = st.l := by
  simp only [evalOp, yab] at he
  obtain ⟨p, hp, he⟩ := he
  have e1 : p.2.m = st.m ∧ p.2.l = st.l := by rw [zbu hp]; exact zjU
  split at he
  · simp only [yab] at he
    obtain ⟨q, _, he⟩ := he
    split at he
    · cases he; exact e1
    · cases he
  · cases he
theorem zjW (h : Ag ρ L st.σ) {op : AOp} {v : V} {st' : St} {k : Prop} (he : evalOp cf st op = some (v, st')) (hk : znq op L k) : (st'.m = st.m ∧ st'.l = st.l) ∧ k := by
  unfold znq at hk
  split at hk
  · exact ⟨zoA he, hk⟩
  · rename_i sz s y
    cases hf : fnd L s with
    | none => rw [hf] at hk; exact hk.elim
    | some t =>
      rw [hf] at hk
      have hd := h s t hf
      cases t with
      | sl o z xs =>
        refine ⟨zjV ?_ he, hk⟩
        rcases hd.sl_inv with ⟨ys, e, _⟩ | ⟨e, _⟩
        · exact .inr ⟨_, _, _, e⟩
        · exact .inl e
      | nils => exact ⟨zjV (.inl hd.nils_inv) he, hk⟩
      | _ => exact hk.elim
  · exact hk.elim
theorem zk1 (h : Ag ρ L st.σ) {o : AOper} {v : V} {st' : St} {k : Prop} (he : evalOp cf st o.op = some (v, st')) (hl : o.op.isCall = true → st'.l = st.l ∧ (znn o.mark = true → st'.m = st.m)) (hk : zpl o L k) : zbg o st st' = true ∧ k := by
  unfold zpl at hk
  unfold zbg
  have ptr : ∀ mk, (match o.op.ptr? with
      | none => k
      | some p => rdC L p fun v => match v with
        | .loc i _ => bif mk == Mark.loc i then k else False
        | .ptr _ _ => bif mk == Mark.mem then k else False
        | .ro _ _ => bif mk == Mark.free then k else False
        | _ => False) → (match o.op.ptr? with
      | none => true
      | some p => match getC st p with
        | some (.loc i _) => mk == .loc i
        | some (.ptr _ _) => mk == .mem
        | some (.ro _ _) => mk == .free
        | _ => false) = true ∧ k := fun mk hk => by
    cases hp : o.op.ptr? with
    | none => rw [hp] at hk; exact ⟨rfl, hk⟩
    | some p =>
      rw [hp] at hk
      obtain ⟨v, t, e, hd, hk⟩ := zar h hk
      simp only [e]
      cases t with
      | loc i o => rw [hd.loc_inv]; exact bifT hk
      | ptr i o => obtain ⟨b, rfl, _⟩ := hd.ptr_inv; exact bifT hk
      | ro i o => obtain ⟨b, rfl, _⟩ := hd.ro_inv; exact bifT hk
      | _ => exact hk.elim
  cases hm : o.mark with
  | none => rw [hm] at hk; exact ⟨rfl, hk⟩
  | cool =>
    rw [hm] at hk
    simp only at hk ⊢
    cases hp : o.op.ptr? with
    | some p => rw [hp] at hk; exact hk.elim
    | none =>
      rw [hp] at hk
      obtain ⟨h1, h2⟩ := bifT hk
      exact ⟨zhm h h1, h2⟩
  | fa j =>
    rw [hm] at hk
    obtain ⟨h1, h2⟩ := bifT hk
    exact ⟨zjT h h1, h2⟩
  | quiet =>
    rw [hm] at hk
    have hp : (st'.m = st.m ∧ st'.l = st.l) ∧ k := by
      cases hc : o.op.isCall with
      | true =>
        simp only [hc, cond_true] at hk
        obtain ⟨h1, h2⟩ := hl hc
        exact ⟨⟨h2 (by rw [hm]; rfl), h1⟩, hk⟩
      | false =>
        simp only [hc, cond_false] at hk
        exact zjW h he hk
    exact ⟨by simp only [hp.1, and_self, decide_true], hp.2⟩
  | loc j => rw [hm] at hk; exact ptr _ hk
  | mem => rw [hm] at hk; exact ptr _ hk
  | free => rw [hm] at hk; exact ptr _ hk
theorem zmm {o : AOper} (h : zkV o.op = true) : o.lean = false := by
  cases ho : o.op <;> rw [ho] at h <;> first | (cases h; done) | skip
  unfold AOper.lean
  rw [ho]
  simp [AOp.pure, AOp.still, AOp.builds]
theorem znC {o : AOper} (h : zkV o.op = true) {v : V} {st st' : St} (he : evalOp cf st o.op = some (v, st')) : v = .undef := by
  cases ho : o.op <;> rw [ho] at h he <;> first | (cases h; done) | skip
  simp only [evalOp, yab] at he
  obtain ⟨_, _, _, _, he⟩ := he
  split at he
  · simp only [yab, yaa, yac] at he
    obtain ⟨_, _, he, _⟩ := he
    exact he.symm
  · cases he
theorem znD (h : Rel ρ L B M st) {o : AOper} {k : Ts → Bs → Ms → Prop} (hk : doD cf o L B M k) : ∃ st', zay cf o st = some st' ∧ ∃ ρ' L' B' M', Rel ρ' L' B' M' st' ∧ Fr ρ st.m ρ' st'.m ∧ k L' B' M' := by
  unfold doD at hk
  by_cases hT : o.op.isT = true
  · rw [hT] at hk
    obtain ⟨v, st1, e, hl, ρ1, t, L1, B1, M1, hd, h1, hf1, hk⟩ := zf0 h hk
    obtain ⟨σ', e2, L2, h2, hk⟩ := zf1 (l := st1.l) (m := st1.m) h1.a hd hk
    refine ⟨⟨σ', st1.l, st1.m⟩, ?_, ρ1, L2, B1, M1, ⟨h2, h1.b, h1.m⟩, hf1, hk⟩
    unfold zay
    rw [hT, if_pos rfl, e]
    exact e2
  have hT : o.op.isT = false := by simpa using hT
  rw [hT] at hk
  obtain ⟨hr, hk⟩ := bifT hk
  obtain ⟨v, st1, e, hl, ρ1, t, L1, B1, M1, hd, h1, hf1, hk⟩ := zf0 h hk
  obtain ⟨hro, hk⟩ := bifT hk
  obtain ⟨hm, hk⟩ := zk1 h.a e hl hk
  obtain ⟨σ', e2, L2, h2, hk⟩ := zf1 (l := st1.l) (m := st1.m) h1.a hd hk
  refine ⟨⟨σ', st1.l, st1.m⟩, ?_, ρ1, L2, B1, M1, ⟨h2, h1.b, h1.m⟩, hf1, hk⟩
  have hro2 : zeY o v = true := by
    rw [Bool.or_eq_true] at hro
    rcases hro with hro | hro
    · unfold zoW at hro
      rw [yae] at hro
      obtain ⟨hro, hfa⟩ := hro
      have h1 := zmm hro
      rw [znC hro e]
      unfold zeY
      rw [h1]
      cases hmk : o.mark with
      | fa _ => rw [hmk] at hfa; cases hfa
      | _ => rfl
    · exact znA hd hro
  unfold zay
  rw [hT]
  simp only [yas, if_false]
  rw [if_pos (zgn h.a hr), e]
  simp only [Option.bind_some, putD, hro2, hm, Bool.and_self, if_true]
  exact e2
theorem zhn : ∀ {os : List AOper} {ρ : List Nat} {L : Ts} {B : Bs} {M : Ms} {st : St} {k : Ts → Bs → Ms → Prop} (_ : Rel ρ L B M st) (_ : wpD cf os L B M k),
    ∃ st', runD cf os st = some st' ∧ ∃ ρ' L' B' M', Rel ρ' L' B' M' st' ∧ Fr ρ st.m ρ' st'.m ∧ k L' B' M'
  | [], ρ, L, B, M, st, k, h, hk => ⟨st, rfl, ρ, L, B, M, h, .refl _ _, hk⟩
  | o :: os, ρ, L, B, M, st, k, h, hk => by
    have doit : (doD cf o L B M fun L2 B1 m1 => wpD cf os L2 B1 m1 k) → ∃ st1, zay cf o st = some st1 ∧ ∃ st', runD cf os st1 = some st' ∧ ∃ ρ' L' B' M', Rel ρ' L' B' M' st' ∧ Fr ρ st.m ρ' st'.m ∧ k L' B' M' := fun hk => by
      obtain ⟨st1, e, ρ1, L1, B1, M1, h1, hf1, hk⟩ := znD h hk
      obtain ⟨st', e3, ρ', L', B', M', h3, hf3, hk⟩ := zhn h1 hk
      exact ⟨_, e, st', e3, ρ', L', B', M', h3, hf1.trans hf3, hk⟩
    have skip : ∀ {b want : Bool} {g : Nat}, (zjL o L fun L2 => wpD cf os L2 B M k) → ∃ st', runD cf os (st.put o.kt o.dst (.tuple [])) = some st' ∧ ∃ ρ' L' B' M', Rel ρ' L' B' M' st' ∧ Fr ρ st.m ρ' st'.m ∧ k L' B' M' := fun {b want g} hk => by
      obtain ⟨σ', e2, L2, h2, hk⟩ := zhl (l := st.l) (m := st.m) h.a hk
      obtain ⟨st', e3, r⟩ := zhn (st := ⟨σ', st.l, st.m⟩) ⟨h2, h.b, h.m⟩ hk
      exact ⟨st', by rw [e2]; exact e3, r⟩
    unfold wpD at hk
    cases hg : o.guard with
    | none =>
      rw [hg] at hk
      obtain ⟨st1, e, st', e2, r⟩ := doit hk
      exact ⟨st', by simp only [runD, zc8, hg, e, Option.bind_some, e2], r⟩
    | some q =>
      obtain ⟨g, want⟩ := q
      rw [hg] at hk
      simp only at hk
      split at hk
      · rename_i b hf
        have hv := (h.a g _ hf).bool_inv
        by_cases hbw : b = want
        · subst hbw
          simp only [beq_self_eq_true, cond_true] at hk
          obtain ⟨st1, e, st', e2, r⟩ := doit hk
          exact ⟨st', by simp only [runD, zc8, hg, hv, if_true, e, Option.bind_some, e2], r⟩
        · have : (b == want) = false := by simpa using hbw
          rw [this] at hk
          simp only [cond_false] at hk
          obtain ⟨st', e3, r⟩ := skip (b := b) (want := want) (g := g) hk
          exact ⟨st', by simp only [runD, zc8, hg, hv]; rw [if_neg hbw]; exact e3, r⟩
      · rename_i hf
        obtain ⟨cs', hv, hcs⟩ := (h.a g _ hf).tuple_inv
        cases hcs
        obtain ⟨st', e3, r⟩ := skip (b := true) (want := want) (g := g) hk
        exact ⟨st', by simp only [runD, zc8, hg, hv]; exact e3, r⟩
      · exact hk.elim
theorem zac {os : List AOper} {K : Ts → Bs → Ms → Prop} (h : wpOps cf os L B M K) : WPO false cf os L B M K := ⟨fun _ _ hr => zfg hr h⟩
theorem zf2 {os : List AOper} {K : Ts → Bs → Ms → Prop} (h : wpD cf os L B M K) : WPO true cf os L B M K := ⟨fun _ _ hr => zhn hr h⟩
theorem zbS {σ : Nat → V} (h : Ag ρ L σ) : ∀ {r : List Nat} {k : Ts → Prop}, zcb L r k → ∃ L', Ag ρ L' σ ∧ (∀ s v, fnd L' s = some v → s ∈ r) ∧ k L'
  | [], k, hk => ⟨[], fun s v hv => (nomatch hv), fun s v hv => (nomatch hv), hk⟩
  | s :: r, k, hk => by
    unfold zcb at hk
    cases hs : fnd L s with
    | none =>
      rw [hs] at hk
      obtain ⟨L', h1, h2, h3⟩ := zbS h hk
      exact ⟨L', h1, fun t v hv => .tail _ (h2 t v hv), h3⟩
    | some v =>
      rw [hs] at hk
      obtain ⟨L', h1, h2, h3⟩ := zbS h (k := fun r' => k ((s, v) :: r')) hk
      refine ⟨_, fun t x hx => ?_, fun t x hx => ?_, h3⟩
      · rw [zcB] at hx
        split at hx
        · rename_i e; subst e; cases hx; exact h _ _ hs
        · exact h1 t x hx
      · rw [zcB] at hx
        split at hx
        · rename_i e; subst e; exact .head _
        · exact .tail _ (h2 t x hx)
theorem zbN {l : Nat → List V} (h : AgB ρ B l) : ∀ {r : List Nat} {k : Bs → Prop}, zcb B r k → ∃ B', AgB ρ B' l ∧ k B'
  | [], k, hk => ⟨[], fun s v hv => (nomatch hv), hk⟩
  | s :: r, k, hk => by
    unfold zcb at hk
    cases hs : fnd B s with
    | none => rw [hs] at hk; exact zbN h hk
    | some v =>
      rw [hs] at hk
      obtain ⟨L', h1, h3⟩ := zbN h (k := fun r' => k ((s, v) :: r')) hk
      refine ⟨_, fun t x hx => ?_, h3⟩
      rw [zcB] at hx
      split at hx
      · rename_i e; subst e; cases hx; exact h _ _ hs
      · exact h1 t x hx
theorem zec : ∀ {a b : List AOper} {st : St}, zbG cf (a ++ b) st = (zbG cf a st).bind (zbG cf b)
  | [], b, st => rfl
  | o :: a, b, st => by
    show (zcY cf o st).bind (zbG cf (a ++ b)) = ((zcY cf o st).bind (zbG cf a)).bind (zbG cf b)
    rw [Option.bind_assoc]
    congr 1
    funext st1
    exact zec
theorem zfh : ∀ {a b : List AOper} {st : St}, runD cf (a ++ b) st = (runD cf a st).bind (runD cf b)
  | [], b, st => rfl
  | o :: a, b, st => by
    show (zc8 cf o st).bind (runD cf (a ++ b)) = ((zc8 cf o st).bind (runD cf a)).bind (runD cf b)
    rw [Option.bind_assoc]
    congr 1
    funext st1
    exact zfh
def zjX {α : Type} (L : List (Nat × α)) : List Nat → List (Nat × α)
  | [] => []
  | s :: r => match fnd L s with
    | some v => (s, v) :: zjX L r
    | none => zjX L r
theorem zf3 {α : Type} {L : List (Nat × α)} : ∀ {r : List Nat} {k : List (Nat × α) → Prop}, zcb L r k ↔ k (zjX L r)
  | [], k => Iff.rfl
  | s :: r, k => by
    unfold zcb zjX
    cases fnd L s with
    | none => exact zf3
    | some v => exact zf3 (k := fun r' => k ((s, v) :: r'))
theorem zas {d : Bool} {os : List AOper} {K : Ts → Bs → Ms → Prop} (n s : Nat) (lv : List Nat) (y : Bool)
    (h : WPO d cf (os.take n) L B M fun L1 B1 M1 => zcb L1 lv fun L' => L' = zjX ((s, .bool y) :: L) lv ∧ B1 = B ∧ M1 = M)
    (g : zcb ((s, .bool y) :: L) lv fun L2 => WPO d cf (os.drop n) L2 B M K) : WPO d cf os L B M K := by
  refine ⟨fun ρ st hr => ?_⟩
  obtain ⟨st1, e1, ρ1, L1, B1, M1, h1, hf1, hk⟩ := h.go ρ st hr
  obtain ⟨L', h2, _, rfl, rfl, rfl⟩ := zbS h1.a hk
  obtain ⟨st2, e2, ρ2, L3, B3, M3, h4, hf2, hk⟩ := (zf3.1 g).go ρ1 st1 ⟨h2, h1.b, h1.m⟩
  refine ⟨st2, ?_, ρ2, L3, B3, M3, h4, hf1.trans hf2, hk⟩
  rw [← List.take_append_drop n os]
  cases d with
  | false => simp only [yas, if_false] at e1 e2 ⊢; rw [zec, e1]; exact e2
  | true => simp only [if_true] at e1 e2 ⊢; rw [zfh, e1]; exact e2
variable {Q : Ex → Ts → Bs → Ms → Prop}
theorem zad {d : Bool} {os : List AOper} (lv lb : List Nat) (h : WPO d cf os L B M fun L1 B1 M1 => zcb L1 lv fun L2 => zcb B1 lb fun B2 => Q .normal L2 B2 M1) : WP cf (.region d os) L B M Q := by
  refine ⟨fun ρ st hr => ?_⟩
  obtain ⟨st1, e1, ρ1, L1, B1, M1, h1, hf1, hk⟩ := h.go ρ st hr
  obtain ⟨L', h2, _, hk⟩ := zbS h1.a hk
  obtain ⟨B', h3, hk⟩ := zbN h1.b hk
  refine ⟨.normal, st1, ?_, ρ1, L', B', M1, ⟨h2, h3, h1.m⟩, hf1, hk⟩
  cases d with
  | false => simp only [yas, if_false] at e1; simp only [exec, e1, Option.bind_some]
  | true => simp only [if_true] at e1; simp only [exec, e1, Option.bind_some]
theorem zah (h : Q .normal L B M) : WP cf .skip L B M Q := ⟨fun ρ st hr => ⟨_, st, rfl, ρ, L, B, M, hr, .refl _ _, h⟩⟩
theorem zao (h : Q .ret L B M) : WP cf .ret L B M Q := ⟨fun ρ st hr => ⟨_, st, rfl, ρ, L, B, M, hr, .refl _ _, h⟩⟩
theorem zcO {i : Nat} (h : Q (.exit i) L B M) : WP cf (.exit i) L B M Q := ⟨fun ρ st hr => ⟨_, st, rfl, ρ, L, B, M, hr, .refl _ _, h⟩⟩
theorem zaa {a b : ACode} (h : WP cf a L B M fun e L1 B1 M1 => match e with
    | .normal => WP cf b L1 B1 M1 Q
    | .exit i => Q (.exit i) L1 B1 M1
    | .ret => Q .ret L1 B1 M1) : WP cf (.seq a b) L B M Q := by
  refine ⟨fun ρ st hr => ?_⟩
  obtain ⟨e, st1, h1, ρ1, L1, B1, M1, h2, hf, hk⟩ := h.go ρ st hr
  cases e with
  | normal =>
    obtain ⟨e, st2, h4, ρ2, L2, B2, M2, h5, hf2, hk⟩ := hk.go ρ1 st1 h2
    exact ⟨e, st2, by simp only [exec, h1, Option.bind_some, h4], ρ2, L2, B2, M2, h5, hf.trans hf2, hk⟩
  | exit i => exact ⟨_, st1, by simp only [exec, h1, Option.bind_some], ρ1, L1, B1, M1, h2, hf, hk⟩
  | ret => exact ⟨_, st1, by simp only [exec, h1, Option.bind_some], ρ1, L1, B1, M1, h2, hf, hk⟩
theorem zag {s : Nat} {t e : ACode} {b : Bool} (hs : fnd L s = some (.bool b)) (ht : b = true → WP cf t L B M Q) (he : b = false → WP cf e L B M Q) : WP cf (.cond (.t s) t e) L B M Q := by
  refine ⟨fun ρ st hr => ?_⟩
  have hv := (hr.a s _ hs).bool_inv
  cases b with
  | true =>
    obtain ⟨e1, st1, h1, r⟩ := (ht rfl).go ρ st hr
    exact ⟨e1, st1, by simp only [exec, getC, hv, V.hasOwn, V.own1, V.own0]; exact h1, r⟩
  | false =>
    obtain ⟨e1, st1, h1, r⟩ := (he rfl).go ρ st hr
    exact ⟨e1, st1, by simp only [exec, getC, hv, V.hasOwn, V.own1, V.own0]; exact h1, r⟩
theorem zaN {i : Nat} {b : ACode} (h : WP cf b L B M fun e L1 B1 M1 => match e with
    | .normal => Q .normal L1 B1 M1
    | .exit j => bif Nat.beq j i then Q .normal L1 B1 M1 else Q (.exit j) L1 B1 M1
    | .ret => Q .ret L1 B1 M1) : WP cf (.block i b) L B M Q := by
  refine ⟨fun ρ st hr => ?_⟩
  obtain ⟨e, st1, h1, ρ1, L1, B1, M1, h2, hf, hk⟩ := h.go ρ st hr
  cases e with
  | normal => exact ⟨.normal, st1, by simp only [exec, h1, Option.bind_some], ρ1, L1, B1, M1, h2, hf, hk⟩
  | exit j =>
    simp only at hk
    by_cases hj : j = i
    · subst hj
      have : Nat.beq j j = true := by simp
      rw [this] at hk
      exact ⟨.normal, st1, by simp only [exec, h1, Option.bind_some, if_true], ρ1, L1, B1, M1, h2, hf, hk⟩
    · have : Nat.beq j i = false := by
        cases hb : Nat.beq j i with
        | false => rfl
        | true => exact absurd (yap hb) hj
      rw [this] at hk
      exact ⟨.exit j, st1, by simp only [exec, h1, Option.bind_some]; rw [if_neg hj], ρ1, L1, B1, M1, h2, hf, hk⟩
  | ret => exact ⟨.ret, st1, by simp only [exec, h1, Option.bind_some], ρ1, L1, B1, M1, h2, hf, hk⟩
theorem zbZ {R : Type} {c : ACode} (r : R) (X : R → Ex × Ts × Bs × Ms) (lv lb : Ex → List Nat)
    (h : WP cf c L B M fun e L1 B1 M1 => zcb L1 (lv e) fun L2 => zcb B1 (lb e) fun B2 => X r = (e, L2, B2, M1)) (g : Q (X r).1 (X r).2.1 (X r).2.2.1 (X r).2.2.2) : WP cf c L B M Q := by
  refine ⟨fun ρ st hr => ?_⟩
  obtain ⟨e, st1, h1, ρ1, L1, B1, M1, h2, hf, hk⟩ := h.go ρ st hr
  obtain ⟨L', h3, _, hk⟩ := zbS h2.a hk
  obtain ⟨B', h4, hk⟩ := zbN h2.b hk
  rw [hk] at g
  exact ⟨e, st1, h1, ρ1, L', B', M1, ⟨h3, h4, h2.m⟩, hf, g⟩
end
section
variable {S R : Type}
def zfi (step : S → Option (S ⊕ R)) : Nat → S → Option R
  | 0, _ => none
  | n + 1, s => match step s with
    | none => none
    | some (.inl s') => zfi step n s'
    | some (.inr r) => some r
open Classical in
noncomputable def iter (step : S → Option (S ⊕ R)) (s : S) : Option R :=
  if h : ∃ n r, zfi step n s = some r then some h.choose_spec.choose else none
theorem zid {step : S → Option (S ⊕ R)} : ∀ {n : Nat} {s : S} {r : R}, zfi step n s = some r → zfi step (n + 1) s = some r
  | 0, _, _, h => by cases h
  | n + 1, s, r, h => by
    simp only [zfi] at h
    rw [zfi]
    cases hs : step s with
    | none => rw [hs] at h; cases h
    | some x =>
      rw [hs] at h
      cases x with
      | inl s' => exact zid h
      | inr r => exact h
theorem zlD {step : S → Option (S ⊕ R)} {n m : Nat} (hm : n ≤ m) {s : S} {r : R} (h : zfi step n s = some r) : zfi step m s = some r := by
  induction m with
  | zero => have : n = 0 := by omega
            subst this; exact h
  | succ m ih =>
    by_cases e : n = m + 1
    · subst e; exact h
    · exact zid (ih (by omega))
theorem zgB {step : S → Option (S ⊕ R)} {s : S} {r : R} : iter step s = some r ↔ ∃ n, zfi step n s = some r := by
  unfold iter
  constructor
  · intro h
    split at h
    · rename_i hx
      have := hx.choose_spec.choose_spec
      simp only [yaa] at h
      rw [← h]
      exact ⟨_, this⟩
    · cases h
  · rintro ⟨n, h⟩
    have hx : ∃ n r, zfi step n s = some r := ⟨n, r, h⟩
    rw [dif_pos hx]
    have h1 := hx.choose_spec.choose_spec
    have h2 := zlD (Nat.le_max_left hx.choose n) h1
    have h3 := zlD (Nat.le_max_right hx.choose n) h
    rw [h2] at h3
    exact h3
theorem zaO {step : S → Option (S ⊕ R)} {s s' : S} (h : step s = some (.inl s')) : iter step s = iter step s' := by
  apply Option.ext
  intro r
  rw [zgB, zgB]
  constructor
  · rintro ⟨n, hn⟩
    cases n with
    | zero => cases hn
    | succ n => simp only [zfi, h] at hn; exact ⟨n, hn⟩
  · rintro ⟨n, hn⟩
    exact ⟨n + 1, by simp only [zfi, h]; exact hn⟩
theorem zaB {step : S → Option (S ⊕ R)} {s : S} {r : R} (h : step s = some (.inr r)) : iter step s = some r :=
  zgB.2 ⟨1, by simp only [zfi, h]⟩
theorem zds {cf : CF} {L : Ts} {B : Bs} {M : Ms} {Q : Ex → Ts → Bs → Ms → Prop} {live : List Nat} {b : ACode} {step : S → Option (S ⊕ R)} {s0 : S} {r0 : R} (h : iter step s0 = some r0)
    (lb : List Nat) (I : S → Ts × Bs × Ms) (lv lb2 : Ex → List Nat) (X : R → Ex × Ts × Bs × Ms)
    (h0 : zcb L live fun L0 => zcb B lb fun B0 => I s0 = (L0, B0, M))
    (hs : ∀ s x, step s = some x → WP cf b (I s).1 (I s).2.1 (I s).2.2 fun e L1 B1 M1 => match e with
      | .normal => zcb L1 live fun L2 => zcb B1 lb fun B2 => ∃ s', x = .inl s' ∧ I s' = (L2, B2, M1)
      | .exit i => zcb L1 (lv (.exit i)) fun L2 => zcb B1 (lb2 (.exit i)) fun B2 => ∃ r, x = .inr r ∧ X r = (.exit i, L2, B2, M1)
      | .ret => zcb L1 (lv .ret) fun L2 => zcb B1 (lb2 .ret) fun B2 => ∃ r, x = .inr r ∧ X r = (.ret, L2, B2, M1))
    (g : Q (X r0).1 (X r0).2.1 (X r0).2.2.1 (X r0).2.2.2) : WP cf (.loop live b) L B M Q := by
  have key : ∀ n s r, zfi step n s = some r → ∀ ρ st, (∀ t v, fnd (I s).1 t = some v → t ∈ live) → Rel ρ (I s).1 (I s).2.1 (I s).2.2 st →
      ∃ e st', exec cf (.loop live b) st = some (e, st') ∧ ∃ ρ' L' B' M', Rel ρ' L' B' M' st' ∧ Fr ρ st.m ρ' st'.m ∧ X r = (e, L', B', M') := by
    intro n
    induction n with
    | zero => intro s r hn; cases hn
    | succ n ih =>
      intro s r hn ρ st hlive hR
      have hL' : Ag ρ (I s).1 (keep live st.σ) := fun t v hv => by
        unfold keep
        rw [if_pos (hlive t v hv)]; exact hR.a t v hv
      simp only [zfi] at hn
      cases hst : step s with
      | none => rw [hst] at hn; cases hn
      | some x =>
        rw [hst] at hn
        obtain ⟨e, st1, h1, ρ1, L1, B1, M1, h2, hf, hk⟩ := (hs s x hst).go ρ { st with σ := keep live st.σ } ⟨hL', hR.b, hR.m⟩
        have hstep := zi5 (round := fun st => exec cf b { st with σ := keep live st.σ }) (st := st)
        cases e with
        | normal =>
          obtain ⟨L2, h4, h5, hk⟩ := zbS h2.a hk
          obtain ⟨B2, h7, s', rfl, hI⟩ := zbN h2.b hk
          simp only at hn
          obtain ⟨e, st2, h6, ρ2, L3, B3, M3, h8, hf2, hX⟩ := ih s' r hn ρ1 st1 (by rw [hI]; exact h5) (by rw [hI]; exact ⟨h4, h7, h2.m⟩)
          refine ⟨e, st2, ?_, ρ2, L3, B3, M3, h8, hf.trans hf2, hX⟩
          simp only [exec] at h6 ⊢
          rw [hstep, h1]
          exact h6
        | exit i =>
          obtain ⟨L2, h4, h5, hk⟩ := zbS h2.a hk
          obtain ⟨B2, h7, r', rfl, hI⟩ := zbN h2.b hk
          simp only [yaa] at hn
          subst hn
          refine ⟨.exit i, st1, ?_, ρ1, L2, B2, M1, ⟨h4, h7, h2.m⟩, hf, hI⟩
          simp only [exec]
          rw [hstep, h1]; rfl
        | ret =>
          obtain ⟨L2, h4, h5, hk⟩ := zbS h2.a hk
          obtain ⟨B2, h7, r', rfl, hI⟩ := zbN h2.b hk
          simp only [yaa] at hn
          subst hn
          refine ⟨.ret, st1, ?_, ρ1, L2, B2, M1, ⟨h4, h7, h2.m⟩, hf, hI⟩
          simp only [exec]
          rw [hstep, h1]; rfl
  refine ⟨fun ρ st hR => ?_⟩
  obtain ⟨n, hn⟩ := zgB.1 h
  obtain ⟨L0, h1, h2, hk⟩ := zbS hR.a h0
  obtain ⟨B0, h3, hI⟩ := zbN hR.b hk
  obtain ⟨e, st', h4, ρ', L', B', M', h5, hf, hX⟩ := key n s0 r0 hn ρ st (by rw [hI]; exact h2) (by rw [hI]; exact ⟨h1, h3, hR.m⟩)
  rw [hX] at g
  exact ⟨e, st', h4, ρ', L', B', M', h5, hf, g⟩
end
def resW : List ARes → Ts → Bs → Ms → (List TV → Ms → Prop) → Prop
  | [], _, _, m, k => k [] m
  | .tmp s :: r, L, B, m, k => match fnd L s with
    | some v => resW r ((s, .undef) :: L) B m fun vs m' => k (v :: vs) m'
    | none => False
  | .cell s agg n :: r, L, B, m, k => match fnd L s with
    | some a => loadW agg n .take L B m a fun v B' m' => resW r L B' m' fun vs m'' => k (v :: vs) m''
    | none => False
def znE : List TV → TV
  | [v] => v
  | vs => .tuple vs
def znF : Nat → List TV → Ts
  | _, [] => []
  | i, v :: r => (i, v) :: znF (i + 1) r
def TV.flat0 : TV → Bool
  | .bool _ | .int _ _ | .str _ | .nilp | .nils | .sl _ _ _ | .nilf | .nili | .err _ | .undef => true
  | .func _ cs => cs.isEmpty
  | _ => false
def TV.flat1 : TV → Bool
  | .agg cs => cs.all TV.flat0
  | v => v.flat0
def zpW (M : Ms) : Bool := M.all fun cs => cs.all TV.flat0
section
variable {ρ : List Nat} {cf : CF} {L : Ts} {B : Bs} {M : Ms} {st : St}
theorem zf4 : ∀ {rs : List ARes} {ρ : List Nat} {L : Ts} {B : Bs} {M : Ms} {st : St} {k : List TV → Ms → Prop} (_ : Rel ρ L B M st) (_ : resW rs L B M k), ∃ vs st', zeo st rs = some (vs, st') ∧ ∃ ts M', Pw (Den ρ) ts vs ∧ Mg ρ M' st'.m ∧ Fr ρ st.m ρ st'.m ∧ k ts M'
  | [], ρ, L, B, M, st, k, h, hk => ⟨[], st, rfl, [], M, .nil, h.m, .refl _ _, hk⟩
  | .tmp s :: r, ρ, L, B, M, st, k, h, hk => by
    unfold resW at hk
    cases hs : fnd L s with
    | none => simp only [hs] at hk
    | some v =>
      simp only [hs] at hk
      obtain ⟨vs, st', e, ts, M', h1, h2, hf, hk⟩ := zf4 (st := { st with σ := upd st.σ s .undef }) (h.sig (h.a.upd s (.undef' _))) hk
      exact ⟨st.σ s :: vs, st', by simp only [zeo, e, Option.bind_some], v :: ts, M', .cons (h.a s v hs) h1, h2, hf, hk⟩
  | .cell s agg n :: r, ρ, L, B, M, st, k, h, hk => by
    unfold resW at hk
    cases hs : fnd L s with
    | none => simp only [hs] at hk
    | some a =>
      simp only [hs] at hk
      obtain ⟨v, st1, e, t, B1, M1, hd, h1, hf1, hk⟩ := zhe h (h.a s a hs) hk
      obtain ⟨vs, st', e3, ts, M', h2, h3, hf2, hk⟩ := zf4 h1 hk
      exact ⟨v :: vs, st', by simp only [zeo, e, Option.bind_some, e3], t :: ts, M', .cons hd h2, h3, hf1.trans hf2, hk⟩
theorem zjY : ∀ {args : List TV} {args' : List V} (_ : Pw (Den ρ) args args') {i s : Nat} {t : TV}, fnd (znF i args) s = some t → i ≤ s ∧ Den ρ t (args'.getD (s - i) .undef)
  | [], _, _, i, s, v, h => by cases h
  | x :: args, y :: args', .cons h1 h2, i, s, v, h => by
    unfold znF at h
    rw [zcB] at h
    split at h
    · rename_i e; subst e; cases h; simpa using h1
    · obtain ⟨h3, h4⟩ := zjY h2 h
      refine ⟨by omega, ?_⟩
      rw [show s - i = (s - (i + 1)) + 1 from by omega]
      simpa using h4
theorem Den.flat0 {t : TV} {v : V} (h : Den ρ t v) (hf : t.flat0 = true) : Den0 t v := by
  cases h with
  | base h => exact h
  | func f h =>
    cases h with
    | nil => exact .func f
    | cons _ _ => cases hf
  | _ => cases hf
theorem Den.low0' {t : TV} {v : V} (h : Den ρ t v) (hf : t.low0 = true) : Den0 t v := by
  cases h with
  | base h => exact h
  | func f h =>
    cases h with
    | nil => exact .func f
    | cons _ _ => cases hf
  | _ => cases hf
theorem Pw.all_imp {α β : Type} {R R' : α → β → Prop} {p : α → Bool} (hm : ∀ x y, R x y → p x = true → R' x y) {l : List α} {l' : List β} (h : Pw R l l') (ha : l.all p = true) : Pw R' l l' := by
  induction h with
  | nil => exact .nil
  | cons hr _ ih =>
    simp only [List.all_cons, yae] at ha
    exact .cons (hm _ _ hr ha.1) (ih ha.2)
theorem Den.flat1 {t : TV} {v : V} (h : Den ρ t v) (hf : t.flat1 = true) (ρ' : List Nat) : Den ρ' t v := by
  cases h with
  | agg h => exact .agg (Pw.all_imp (p := TV.flat0) (fun _ _ h hf => .base (h.flat0 hf)) h hf)
  | base h => exact .base h
  | func f h =>
    cases h with
    | nil => exact .func f .nil
    | cons _ _ => cases hf
  | _ => cases hf
theorem Den.lower1 {t : TV} {v : V} (h : Den ρ t v) (hf : t.low1 = true) (ρ' : List Nat) : Den ρ' t v := by
  cases h with
  | agg h => exact .agg (Pw.all_imp (p := TV.low0) (fun _ _ h hf => .base (h.low0' hf)) h hf)
  | base h => exact .base h
  | func f h =>
    cases h with
    | nil => exact .func f .nil
    | cons _ _ => cases hf
  | _ => cases hf
theorem Den.lower {t : TV} {v : V} (h : Den ρ t v) (hf : t.low2 = true) (ρ' : List Nat) : Den ρ' t v := by
  cases h with
  | tuple h => exact .tuple (Pw.all_imp (p := TV.low1) (fun _ _ h hf => h.lower1 hf ρ') h hf)
  | agg h => exact (Den.agg h).lower1 hf ρ'
  | base h => exact .base h
  | func f h =>
    cases h with
    | nil => exact .func f .nil
    | cons _ _ => cases hf
  | _ => cases hf
theorem zmn {ts : List TV} {vs : List V} (h : Pw (Den ρ) ts vs) : Den ρ (znE ts) (zg9 vs) := by
  cases h with
  | nil => exact .tuple .nil
  | cons h t =>
    cases t with
    | nil => exact h
    | cons h2 t2 => exact .tuple (.cons h (.cons h2 t2))
theorem zpE {af : AFunc} {args : List TV} {K : List TV → Ms → Prop} (hl : Nat.beq args.length af.np = true)
    (h : WP cf af.body (znF 0 args) [] M fun e L B M1 => match e with
      | .exit _ => False
      | _ => resW af.results L B M1 fun vs M2 => vs.all TV.ok1 = true ∧ K vs M2) {m : Am.Ms} {args' : List V} (hm : Mg ρ M m) (ha : Pw (Den ρ) args args') :
    ∃ vs m2 ρ' ts M2, runF cf af args' m = some (zg9 vs, if (zg9 vs).top2 ≤ m.length then m2.take m.length else m2) ∧ Pw (Den ρ') ts vs ∧ Mg ρ' M2 m2 ∧ Fr ρ m ρ' m2 ∧ K ts M2 := by
  obtain ⟨e, st, h1, ρ1, L, B, M1, hR, hf, hk⟩ := h.go ρ ⟨fun i => args'.getD i .undef, fun _ => [], m⟩ ⟨fun s v hv => by have := (zjY ha hv).2; simpa using this, fun s v hv => (nomatch hv), hm⟩
  have hlen : args'.length = af.np := by rw [← ha.length]; exact yap hl
  have fin : (resW af.results L B M1 fun vs M2 => vs.all TV.ok1 = true ∧ K vs M2) → (e = .normal ∨ e = .ret) → ∃ vs m2 ρ' ts M2, runF cf af args' m = some (zg9 vs, if (zg9 vs).top2 ≤ m.length then m2.take m.length else m2) ∧ Pw (Den ρ') ts vs ∧ Mg ρ' M2 m2 ∧ Fr ρ m ρ' m2 ∧ K ts M2 := fun hk he => by
    obtain ⟨vs, st', e2, ts, M2, h2, h3, hf2, ho, hK⟩ := zf4 hR hk
    have hf3 := hf.trans hf2
    refine ⟨vs, st'.m, ρ1, ts, M2, ?_, h2, h3, hf3, hK⟩
    have er : zhN st af.results = some (zg9 vs, st') := by
      unfold zhN
      rw [e2]
      simp only [Option.bind_some]
      rw [if_pos (Pw.all (p := TV.ok1) (q := V.ok1) (fun _ _ h ho => Den.ok1 h ho) h2 ho)]
      match vs with
      | [] => rfl
      | [v] => rfl
      | v :: w :: r => rfl
    unfold runF
    rw [if_pos hlen, h1]
    rcases he with rfl | rfl
    · simp only [Option.bind_some, er]; rw [if_pos hf3.2.1]
    · simp only [Option.bind_some, er]; rw [if_pos hf3.2.1]
  cases e with
  | normal => exact fin hk (.inl rfl)
  | ret => exact fin hk (.inr rfl)
  | exit i => exact hk.elim
theorem Fr.take {m m2 : Am.Ms} {e : List Nat} (h : Fr ρ m (ρ ++ e) m2) : Fr ρ m ρ (m2.take m.length) ∧ (m2.take m.length).length = m.length := by
  obtain ⟨_, h2, h3⟩ := h
  have hl : (m2.take m.length).length = m.length := by rw [List.length_take]; omega
  exact ⟨⟨⟨[], by simp, by simp⟩, by omega, fun c hc hn => by rw [List.getElem?_take, if_pos hc]; exact h3 c hc hn⟩, hl⟩
theorem Mg.take {m m2 : Am.Ms} {e : List Nat} {M2 : Ms} (h0 : Mg ρ M m) (h : Mg (ρ ++ e) M2 m2) (hd : ∀ (i b : Nat) (cs : List TV) (cs' : List V), ρ[i]? = some b → M2[i]? = some cs → Pw (Den (ρ ++ e)) cs cs' → Pw (Den ρ) cs cs') : Mg ρ (M2.take M.length) (m2.take m.length) := by
  have hl := h.2.1
  have hl0 := h0.2.1
  rw [yar] at hl
  refine ⟨h0.1, by rw [List.length_take]; omega, fun i b hi => ?_⟩
  obtain ⟨cs, cs', h1, h2, h3⟩ := h.2.2 i b (by rw [yaq (zax hi)]; exact hi)
  have hlt := zax hi
  refine ⟨cs, cs', ?_, ?_, hd i b cs cs' hi h1 h3⟩
  · rw [List.getElem?_take, if_pos (by omega)]; exact h1
  · rw [List.getElem?_take, if_pos (h0.lt (List.mem_of_getElem? hi))]; exact h2
theorem zaX {T : Table} {f : Nat} {af : AFunc} (hf : T.code f = some af) {args : List TV} {r : TV} {M' : Ms} (hl : Nat.beq args.length af.np = true)
    (h : WP (RF T) af.body (znF 0 args) [] M fun e L B M1 => match e with
      | .exit _ => False
      | _ => resW af.results L B M1 fun vs M2 => vs.all TV.ok1 = true ∧ znE vs = r ∧ r.low2 = true ∧ M2.take M.length = M' ∧ zpW M' = true) : zam false (RF T) f args M r M' := by
  intro ρ m args' hm ha
  obtain ⟨vs, m2, ρ', ts, M2, h1, h2, h3, hfr, rfl, hr, rfl, hfl⟩ := zpE hl h hm ha
  obtain ⟨e, rfl, _⟩ := hfr.1
  have hd := (zmn h2).lower hr ρ
  have ht : (zg9 vs).top2 = 0 := hd.low2 hr
  rw [if_pos (by omega)] at h1
  obtain ⟨hf1, hf2⟩ := hfr.take
  refine ⟨_, _, ρ, zpS hf h1, hd, hm.take h3 fun i b cs cs' hi hM hp => ?_, hf1, fun _ => hf2, fun hh => by cases hh⟩
  have hlt : i < M.length := by rw [← hm.2.1]; exact zax hi
  have hmem : cs ∈ M2.take M.length := List.mem_of_getElem? (i := i) (by rw [List.getElem?_take, if_pos hlt]; exact hM)
  have := yam.1 hfl cs hmem
  exact Pw.all_imp (p := TV.flat0) (fun _ _ h hf => .base (h.flat0 hf)) hp this
end
section
variable {cf : CF} {f : Nat} {args : List TV} {r : TV}
theorem zam.quiet (h : zam false cf f args [] r []) (hr : r.low2 = true) : zam true cf f args [] r [] := by
  intro ρ m args' hm ha
  obtain ⟨r', m', ρ', h1, h2, h3, h4, h5, _⟩ := h ρ m args' hm ha
  refine ⟨r', m', ρ', h1, h2, h3, h4, h5, fun _ => ?_⟩
  have hρ : ρ = [] := List.length_eq_zero_iff.1 hm.2.1
  subst hρ
  refine List.ext_getElem? fun i => ?_
  by_cases hi : i < m.length
  · exact h4.2.2 i hi (by simp)
  · rw [List.getElem?_eq_none (by rw [h5 hr]; omega), List.getElem?_eq_none (by omega)]
theorem zam.any {q : Bool} (h : zam true cf f args [] r []) (hr : r.low2 = true) (M : Ms) (ha : args.all TV.flat1 = true) : zam q cf f args M r M := by
  intro ρ m args' hm hd
  obtain ⟨r', m', ρ', h1, h2, _, _, _, h6⟩ := h [] m args' ⟨List.nodup_nil, rfl, fun i b hi => by simp at hi⟩ (Pw.all_imp (p := TV.flat1) (fun _ _ h hf => h.flat1 hf []) hd ha)
  have := h6 rfl
  subst this
  exact ⟨r', m', ρ, h1, h2.lower hr ρ, hm, .refl _ _, fun _ => rfl, fun _ => rfl⟩
def renT (π : List Nat) : TV → TV
  | .ptr i o => .ptr (π.getD i 0) o
  | t => t
def TV.argP : TV → Bool
  | .ptr j _ => Nat.beq j 0
  | t => t.flat1
theorem zam.sub {q : Bool} {i : Nat} {c c' : List TV} (h : zam q cf f args [c] r [c']) (hr : r.low2 = true) (M : Ms) (hi : M[i]? = some c) (ha : args.all TV.argP = true) (hc : c.all TV.flat0 = true) (hc' : c'.all TV.flat0 = true) : zam q cf f (args.map (renT [i])) M r (M.set i c') := by
  intro ρ m args' hm hd
  obtain ⟨b, cs', hb, hcs, hpw⟩ := hm.has hi
  have hm0 : Mg [b] [c] m := ⟨by simp, rfl, fun j d hj => by
    match j, hj with
    | 0, hj =>
      simp only [List.getElem?_cons_zero, yaa] at hj
      subst hj
      exact ⟨c, cs', rfl, hcs, Pw.all_imp (p := TV.flat0) (fun _ _ h hf => .base (h.flat0 hf)) hpw hc⟩
    | j + 1, hj => simp at hj⟩
  have hargs : Pw (Den [b]) args args' := by
    clear h
    induction args generalizing args' with
    | nil => cases hd; exact .nil
    | cons t ts ih =>
      rw [List.map_cons] at hd
      simp only [List.all_cons, yae] at ha
      cases hd with
      | cons hd1 hd2 =>
        refine .cons ?_ (ih ha.2 _ hd2)
        have flat : ∀ {t : TV} {v : V}, Den ρ t v → t.flat1 = true → Den [b] t v := fun h hf => h.flat1 hf _
        cases t with
        | ptr j o =>
          have hj : j = 0 := yap ha.1
          subst hj
          obtain ⟨b2, rfl, hb2⟩ := Den.ptr_inv (show Den ρ (.ptr i o) _ from hd1)
          rw [hb] at hb2
          cases hb2
          exact .ptr o rfl
        | _ => exact flat hd1 ha.1
  obtain ⟨r', m', ρ', h1, h2, h3, h4, h5, h6⟩ := h [b] m args' hm0 hargs
  obtain ⟨⟨e, rfl, heb⟩, h7, h8⟩ := h4
  have he : e = [] := by
    have := h3.2.1
    simp only [yar, List.length_cons, List.length_nil] at this
    exact List.length_eq_zero_iff.1 (by omega)
  subst he
  obtain ⟨d, d', g1, g2, g3⟩ := h3.2.2 0 b rfl
  simp only [List.getElem?_cons_zero, yaa] at g1
  subst g1
  refine ⟨r', m', ρ, h1, h2.lower hr ρ, ⟨hm.1, by rw [List.length_set]; exact hm.2.1, fun j x hj => ?_⟩, ⟨⟨[], by simp, by simp⟩, h7, fun x hx hn => h8 x hx (fun hh => hn ?_)⟩, h5, h6⟩
  · obtain ⟨y, y', k1, k2, k3⟩ := hm.2.2 j x hj
    by_cases hij : i = j
    · subst hij
      rw [hb] at hj; cases hj
      exact ⟨_, d', List.getElem?_set_self (zax k1), g2, Pw.all_imp (p := TV.flat0) (fun _ _ h hf => .base (h.flat0 hf)) g3 hc'⟩
    · have hne : x ∉ [b] := fun hh => by
        rw [yao.1 hh] at hj
        exact hij (zjM hm.1 hb hj)
      exact ⟨y, y', by rw [List.getElem?_set_ne hij]; exact k1, by rw [h8 x (zax k2) hne]; exact k2, k3⟩
  · rw [yao.1 hh]; exact List.mem_of_getElem? hb
end
end Go.Proofs.YtakdnfneikbjjaaGreatDoor.Am.T

namespace Go.Proofs.YtakdnfneikbjjaaGreatDoor.Am.T
open Go.Proofs.YtakdnfneikbjjaaGreatDoor.Am
abbrev w64 (n : Int) : Int := IntKind.wrap .i64 n
abbrev w8 (n : Int) : Int := IntKind.wrap .u8 n
def letB {α : Type} (b : Bool) (f : Bool → Option α) : Option α := f b
theorem zaf {α : Type} {b c : Bool} {f : Bool → Option α} {r : α} (hc : b = c) (h : letB b f = some r) : f c = some r := by subst hc; exact h
theorem zab {α β : Type} {o : Option α} {f : α → Option β} {r : β} (h : o.bind f = some r) : ∃ x, o = some x ∧ f x = some r := yab.1 h
theorem zaj {α : Type} {b : Bool} {x y : α} {r : α} (hb : b = true) (h : (bif b then x else y) = r) : x = r := by subst hb; exact h
theorem zak {α : Type} {b : Bool} {x y : α} {r : α} (hb : b = false) (h : (bif b then x else y) = r) : y = r := by subst hb; exact h
section
variable {α : Type}
def idx (l : List α) (i : Int) : Option α := if 0 ≤ i then l[i.toNat]? else none
theorem zb0 {l : List α} {i : Int} {x : α} (h : idx l i = some x) : 0 ≤ i := by
 unfold idx at h; split at h
 ·assumption
 ·cases h
theorem zie {l : List α} {i : Int} {x : α} (h : idx l i = some x) : l[i.toNat]? = some x := by
 unfold idx at h; split at h
 ·exact h
 ·cases h
theorem zpF {l : List α} {i : Int} {x : α} (h : idx l i = some x) : i.toNat < l.length := zax (zie h)
theorem zdG {l : List α} {i : Int} {x : α} (e : α → List TV) (h : idx l i = some x) : (l.map e)[i.toNat]? = some (e x) := by
 rw [List.getElem?_map, zie h]; rfl
theorem zpn {l : List α} {i : Int} {x : α} (e : α → List TV) (h : idx l i = some x) : 0 ≤ i ∧ i.toNat < (l.map e).length := ⟨zb0 h, by rw [yal]; exact zpF h⟩
def app (a b : List α) : Option (List α) := if a.length + b.length ≤ most then some (a ++ b) else none
theorem znG {a b y : List α} (e : α → List TV) (h : app a b = some y) : (a.map e).length + (b.map e).length ≤ most := by
 unfold app at h; split at h
 ·simpa using ‹_›
 ·cases h
theorem znH {a b y : List α} (e : α → List TV) (h : app a b = some y) : y.map e = a.map e ++ b.map e := by
 unfold app at h; split at h
 ·cases h; exact List.map_append
 ·cases h
def subA (l : List α) (a : Int) : Option (List α) := if 0 ≤ a ∧ a ≤ l.length then some (l.drop a.toNat) else none
def subB (l : List α) (b : Int) : Option (List α) := if 0 ≤ b ∧ b ≤ l.length then some (l.take b.toNat) else none
theorem ziI {l y : List α} {a : Int} (h : subA l a = some y) : 0 ≤ a ∧ a ≤ l.length ∧ y = l.drop a.toNat := by
 unfold subA at h; split at h
 ·cases h; rename_i hh; exact ⟨hh.1, hh.2, rfl⟩
 ·cases h
theorem ziJ {l y : List α} {b : Int} (h : subB l b = some y) : 0 ≤ b ∧ b ≤ l.length ∧ y = l.take b.toNat := by
 unfold subB at h; split at h
 ·cases h; rename_i hh; exact ⟨hh.1, hh.2, rfl⟩
 ·cases h
theorem zpG {l y : List α} {a : Int} (h : subA l a = some y) : 0 ≤ a := (ziI h).1
theorem zpH {l y : List α} {b : Int} (h : subB l b = some y) : 0 ≤ b := (ziJ h).1
theorem zoB {l y : List α} {a : Int} (h : subA l a = some y) : a.toNat ≤ l.length ∧ l.length ≤ l.length := by
 have := ziI h; omega
theorem zoC {l y : List α} {a : Int} (h : subA l a = some y) : y = (l.drop a.toNat).take (l.length - a.toNat) := by
 obtain ⟨_, _, rfl⟩ := ziI h; rw [List.take_of_length_le (by rw [List.length_drop]; omega)]
theorem zoD {l y : List α} {b : Int} (h : subB l b = some y) : 0 ≤ b.toNat ∧ b.toNat ≤ l.length := by
 have := ziJ h; omega
theorem zoE {l y : List α} {b : Int} (h : subB l b = some y) : y = (l.drop 0).take (b.toNat - 0) := by
 obtain ⟨_, _, rfl⟩ := ziJ h; rfl
end
theorem zai {cf : CF} {L : Ts} {B : Bs} {M : Ms} {d : Bool} {os : List AOper} {K : Ts → Bs → Ms → Prop} (n : Nat)
  (h : WPO d cf (os.take n) L B M fun L1 B1 M1 => WPO d cf (os.drop n) L1 B1 M1 K) : WPO d cf os L B M K := by
 refine ⟨fun ρ st hr => ?_⟩
 obtain ⟨st1, e1, ρ1, L1, B1, M1, h1, hf1, hk⟩ := h.go ρ st hr
 obtain ⟨st2, e2, ρ2, L3, B3, M3, h4, hf2, hk⟩ := hk.go ρ1 st1 h1
 refine ⟨st2, ?_, ρ2, L3, B3, M3, h4, hf1.trans hf2, hk⟩
 rw [← List.take_append_drop n os]
 cases d with
 | false => simp only [yas, if_false] at e1 e2 ⊢; rw [zec, e1]; exact e2
 | true => simp only [if_true] at e1 e2 ⊢; rw [zfh, e1]; exact e2
end Go.Proofs.YtakdnfneikbjjaaGreatDoor.Am.T

namespace Go.Proofs.YtakdnfneikbjjaaGreatDoor.Am.T
variable {ρ : List Nat} {cf : CF} {f : Nat} {args : List TV} {M : Ms} {r : TV}
theorem zpo (ρ : List Nat) (m : Am.Ms) : Fr ρ m ρ m := ⟨⟨[], (List.append_nil _).symm, fun _ h => by cases h⟩, Nat.le_refl _, fun _ _ _ => rfl⟩
theorem zam.pure (h : ∀ ρ m args', Pw (Den ρ) args args' → ∃ r', cf f args' m = some (r', m) ∧ Den ρ r r') : zam true cf f args M r M := fun ρ m a hM ha =>
 let ⟨r', e, hd⟩ := h ρ m a ha
 ⟨r', m, ρ, e, hd, hM, zpo ρ m, fun _ => rfl, fun _ => rfl⟩
theorem zam.law {q : Bool} {b : Bool} {args' : List V} (h : zam q cf f args [] (.bool b) []) (ha : Pw (Den []) args args') : ∃ m', cf f args' [] = some (.bool b, m') := by
 obtain ⟨r', m', ρ', e, hd, _, _, _, _⟩ := h [] [] args' ⟨List.nodup_nil, rfl, fun i b h => by cases h⟩ ha
 cases hd with
 | base hd => cases hd; exact ⟨m', e⟩
theorem zoY {α β : Type} {R : α → β → Prop} {l : List β} (h : Pw R [] l) : l = [] := by cases h; rfl
theorem zk2 {α β : Type} {R : α → β → Prop} {a : α} {s : List α} {l : List β} (h : Pw R (a :: s) l) : ∃ b l', l = b :: l' ∧ R a b ∧ Pw R s l' := by cases h with | cons h t => exact ⟨_, _, rfl, h, t⟩
end Go.Proofs.YtakdnfneikbjjaaGreatDoor.Am.T

set_option linter.all false
namespace Go.Proofs.YtakdnfneikbjjaaGreatDoor.Am.T
theorem zam.alive {cf : CF} {f : Nat} (h : ∀ m, cf f [] m = some (.bool true, m)) : zam true cf f [] [] (.bool true) [] :=
 zam.pure fun ρ m a ha => by
  rw [zoY ha]
  exact ⟨.bool true, h m, .base (.bool true)⟩
end Go.Proofs.YtakdnfneikbjjaaGreatDoor.Am.T

set_option linter.all false
namespace Go.Proofs.YtakdnfneikbjjaaGreatDoor.Am.T
variable {α : Type} {e : α → List TV} {cs : List α → List (List TV)}
theorem zcD (hm : ∀ l, cs l = l.map e) {l : List α} {i : Int} {x : α} (h : idx l i = some x) : (cs l)[i.toNat]? = some (e x) := by rw [hm]; exact zdG e h
theorem zoF (hm : ∀ l, cs l = l.map e) {l : List α} {i : Int} {x : α} (h : idx l i = some x) : 0 ≤ i ∧ i.toNat < (cs l).length := by rw [hm]; exact zpn e h
theorem ziK (hm : ∀ l, cs l = l.map e) {a b y : List α} (h : app a b = some y) : (cs a).length + (cs b).length ≤ most := by rw [hm, hm]; exact znG e h
theorem ziL (hm : ∀ l, cs l = l.map e) {a b y : List α} (h : app a b = some y) : cs y = cs a ++ cs b := by rw [hm, hm, hm]; exact znH e h
theorem lenR (hm : ∀ l, cs l = l.map e) {l : List α} : (cs l).length = l.length := by rw [hm, yal]
end Go.Proofs.YtakdnfneikbjjaaGreatDoor.Am.T

set_option linter.all false
namespace Go.Proofs.YtakdnfneikbjjaaGreatDoor.Am.Lay10
open Go.Proofs.YtakdnfneikbjjaaGreatDoor.Am.T
noncomputable def zbT : Option Bool := some true
theorem zej {r : Bool} (h : zbT = some r) : zam true (RF ET) 11 [] [] (.bool r) [] := by
 cases h
 exact zam.alive fun m => zoS rfl rfl
def pU (acc : Int) : List Int → Int × Bool
 | [] => (acc, false)
 | c :: l => if 48 ≤ c ∧ c ≤ 57 then (if 1844674407370955162 ≤ acc then (65535, true) else if 65535 < acc * 10 + (c - 48) then (65535, true) else pU (acc * 10 + (c - 48)) l) else (0, true)
def zbK (s : List Int) : Option (Int × Bool) := if s.length ≤ 281474976710656 then some (if s = [] then (0, true) else pU 0 s) else none
theorem zpI : ∀ (l : List UInt8) (acc : Nat), (match Lib.parseUintM 65535 acc l with | .ok v => ((v : Int), false) | .range => (65535, true) | _ => (0, true)) = pU acc (l.map zc0)
 | [], acc => rfl
 | c :: l, acc => by
  unfold Lib.parseUintM
  simp only [List.map_cons, pU, zc0]
  by_cases h : 48 ≤ c.toNat ∧ c.toNat ≤ 57
  ·rw [if_pos h, if_pos (show (48 : Int) ≤ (c.toNat : Int) ∧ (c.toNat : Int) ≤ 57 by omega)]
   by_cases h1 : 1844674407370955162 ≤ acc
   ·rw [if_pos h1, if_pos (show (1844674407370955162 : Int) ≤ (acc : Int) by omega)]
   ·rw [if_neg h1, if_neg (show ¬ (1844674407370955162 : Int) ≤ (acc : Int) by omega)]
    by_cases h2 : 65535 < acc * 10 + (c.toNat - 48)
    ·rw [if_pos h2, if_pos (show (65535 : Int) < (acc : Int) * 10 + ((c.toNat : Int) - 48) by omega)]
    ·rw [if_neg h2, if_neg (show ¬ (65535 : Int) < (acc : Int) * 10 + ((c.toNat : Int) - 48) by omega), zpI l (acc * 10 + (c.toNat - 48))]
     congr 1; omega
  ·rw [if_neg h, if_neg (show ¬ ((48 : Int) ≤ (c.toNat : Int) ∧ (c.toNat : Int) ≤ 57) by omega)]
theorem zeZ {s : List Int} {r : Int × Bool} (h : zbK s = some r) : zam true (RF ET) 87 [.str s, .int .i64 10, .int .i64 16] [] (.tuple [.int .u64 r.1, .err r.2]) [] := by
 unfold zbK at h
 split at h
 ·rename_i hl
  simp only [yaa] at h
  subst h
  refine zam.pure fun ρ m a ha => ?_
  obtain ⟨y, _, rfl, hy, ha⟩ := zk2 ha
  obtain ⟨z, _, rfl, hz, ha⟩ := zk2 ha
  obtain ⟨u, _, rfl, hu, ha⟩ := zk2 ha
  rw [zoY ha, hz.int_inv, hu.int_inv]
  obtain ⟨b, rfl, rfl⟩ := hy.str_inv
  refine ⟨uRes (Lib.parseUintB 16 b), zoS rfl (if_pos (by simpa using hl)), ?_⟩
  have key : (if b.map zc0 = [] then ((0 : Int), true) else pU 0 (b.map zc0)) = (match Lib.parseUintB 16 b with | .ok v => ((v : Int), false) | .range => (65535, true) | _ => (0, true)) := by
   unfold Lib.parseUintB
   by_cases hb : b = []
   ·subst hb; rfl
   ·rw [if_neg (by simpa using hb), if_neg hb]
    exact (zpI b 0).symm
  rw [key]
  cases Lib.parseUintB 16 b with
  | ok v => exact .tuple (.cons (.base (.int _ _)) (.cons (.base .errn) .nil))
  | range => exact .tuple (.cons (.base (.int _ _)) (.cons (.base .erri) .nil))
  | _ => exact .tuple (.cons (.base (.int _ _)) (.cons (.base .erri) .nil))
 ·cases h
structure Size where
 Kind : Int
 N : Int
def Size.c (x : Size) : List TV := [.int .i64 x.Kind, .int .i64 x.N]
noncomputable def zco (s_ : Size) : Option Int :=
 Option.bind (
  letB (decide (s_.Kind = 0)) fun c1 =>
  Option.bind (
   bif c1 then (
    some (.inl ()))
   else (
    letB (decide (s_.Kind = 1)) fun c3 =>
    (bif c3 then (
     letB (decide (s_.N ≥ 1)) fun c5 =>
     some (c5)) else some false).bind fun g4 =>
    (bif g4 then (
     letB (decide (s_.N ≤ 200)) fun c8 =>
     some (c8)) else some false).bind fun g7 =>
    Option.bind (
     bif g7 then (
      some (.inl ()))
     else (
      letB (decide (s_.Kind = 2)) fun c11 =>
      (bif c11 then (
       letB (decide (s_.N ≥ 1)) fun c13 =>
       some (c13)) else some false).bind fun g12 =>
      (bif g12 then (
       letB (decide (s_.N ≤ 100)) fun c16 =>
       some (c16)) else some false).bind fun g15 =>
      bif g15 then (
       some (.inl ()))
      else (
       some (.inr ()))) : Option (Unit ⊕ Unit)) fun j19 =>
    match j19 with
    | .inl z20 => (
     some (.inl ()))
    | .inr z21 => (
     some (.inr ()))) : Option (Unit ⊕ Unit)) fun j22 =>
  match j22 with
  | .inl z23 => (
   some (.inl ()))
  | .inr z24 => (
   some (.inr ())) : Option (Unit ⊕ Unit)) fun j25 =>
 match j25 with
 | .inl z26 => (
  some 0)
 | .inr z27 => (
  some 1)
set_option maxRecDepth 20000 in
theorem ze8 {s_ : Size} {r : Int} (h : zco s_ = some r) : zam true (RF ET) 58 [.agg (Size.c s_)] [] (.int .i64 r) [] := by
 refine zam.quiet (zaX (af := a58) rfl rfl ?_) rfl
 unfold zco at h
 refine zaa ?_
 refine zad [1] [0] ?_
 refine zac ?_
 refine zaa ?_
 obtain ⟨j25, hj25, h⟩ := zab h
 refine zbZ j25 (fun r => match r with | .inl z => (.normal, [], [(0, (Size.c s_))], []) | .inr z => (.ret, [(2, .int .i64 1)], [(0, (Size.c s_))], [])) (fun e => match e with | .normal => [] | .ret => [2] | _ => []) (fun e => match e with | .normal => [0] | .ret => [0] | _ => []) ?_ ?_
 ·clear h
  replace h := hj25
  clear hj25
  refine zaN ?_
  refine zaa ?_
  refine zad [1, 3] [0] ?_
  refine zac ?_
  refine fun c1 hc1 => ?_
  replace h := zaf hc1 h
  obtain ⟨j22, hj22, h⟩ := zab h
  refine zbZ j22 (fun r => match r with | .inl z => (.normal, [], [(0, (Size.c s_))], []) | .inr z => (.ret, [(2, .int .i64 1)], [(0, (Size.c s_))], [])) (fun e => match e with | .normal => [] | .ret => [2] | _ => []) (fun e => match e with | .normal => [0] | .ret => [0] | _ => []) ?_ ?_
  ·clear h
   replace h := hj22
   clear hj22
   refine zag (b := c1) rfl (fun hb2 => ?_) (fun hb2 => ?_)
   ·replace h := zaj hb2 h
    refine zah ?_
    cases h
    exact rfl
   ·replace h := zak hb2 h
    refine zaa ?_
    refine zad [1, 7] [0] ?_
    refine zai 4 ?_
    refine zac ?_
    refine fun c3 hc3 => ?_
    replace h := zaf hc3 h
    obtain ⟨g4, hg4, h⟩ := zab h
    refine zas 4 15 [1, 15] g4 ?_ ?_
    ·clear h
     replace h := hg4
     clear hg4
     cases hb6 : c3 with
     | true =>
      replace h := zaj hb6 h
      refine zac ?_
      refine fun c5 hc5 => ?_
      replace h := zaf hc5 h
      cases h
      exact ⟨rfl, rfl, rfl⟩
     | false =>
      replace h := zak hb6 h
      cases h
      refine zac ?_
      exact ⟨rfl, rfl, rfl⟩
    refine zai 1 ?_
    refine zac ?_
    obtain ⟨g7, hg7, h⟩ := zab h
    refine zas 4 20 [1, 20] g7 ?_ ?_
    ·clear h
     replace h := hg7
     clear hg7
     cases hb9 : g4 with
     | true =>
      replace h := zaj hb9 h
      refine zac ?_
      refine fun c8 hc8 => ?_
      replace h := zaf hc8 h
      cases h
      exact ⟨rfl, rfl, rfl⟩
     | false =>
      replace h := zak hb9 h
      cases h
      refine zac ?_
      exact ⟨rfl, rfl, rfl⟩
    refine zac ?_
    obtain ⟨j19, hj19, h⟩ := zab h
    refine zbZ j19 (fun r => match r with | .inl z => (.normal, [], [(0, (Size.c s_))], []) | .inr z => (.ret, [(2, .int .i64 1)], [(0, (Size.c s_))], [])) (fun e => match e with | .normal => [] | .ret => [2] | _ => []) (fun e => match e with | .normal => [0] | .ret => [0] | _ => []) ?_ ?_
    ·clear h
     replace h := hj19
     clear hj19
     refine zag (b := g7) rfl (fun hb10 => ?_) (fun hb10 => ?_)
     ·replace h := zaj hb10 h
      refine zah ?_
      cases h
      exact rfl
     ·replace h := zak hb10 h
      refine zaa ?_
      refine zad [21] [0] ?_
      refine zai 4 ?_
      refine zac ?_
      refine fun c11 hc11 => ?_
      replace h := zaf hc11 h
      obtain ⟨g12, hg12, h⟩ := zab h
      refine zas 4 29 [1, 29] g12 ?_ ?_
      ·clear h
       replace h := hg12
       clear hg12
       cases hb14 : c11 with
       | true =>
        replace h := zaj hb14 h
        refine zac ?_
        refine fun c13 hc13 => ?_
        replace h := zaf hc13 h
        cases h
        exact ⟨rfl, rfl, rfl⟩
       | false =>
        replace h := zak hb14 h
        cases h
        refine zac ?_
        exact ⟨rfl, rfl, rfl⟩
      refine zai 1 ?_
      refine zac ?_
      obtain ⟨g15, hg15, h⟩ := zab h
      refine zas 4 34 [34] g15 ?_ ?_
      ·clear h
       replace h := hg15
       clear hg15
       cases hb17 : g12 with
       | true =>
        replace h := zaj hb17 h
        refine zac ?_
        refine fun c16 hc16 => ?_
        replace h := zaf hc16 h
        cases h
        exact ⟨rfl, rfl, rfl⟩
       | false =>
        replace h := zak hb17 h
        cases h
        refine zac ?_
        exact ⟨rfl, rfl, rfl⟩
      refine zac ?_
      refine zag (b := g15) rfl (fun hb18 => ?_) (fun hb18 => ?_)
      ·replace h := zaj hb18 h
       refine zah ?_
       cases h
       exact rfl
      ·replace h := zak hb18 h
       refine zaa ?_
       refine zad [2] [0] ?_
       refine zac ?_
       refine zao ?_
       cases h
       exact rfl
    rcases j19 with z20 | z21
    ·cases h
     exact rfl
    ·cases h
     exact rfl
  rcases j22 with z23 | z24
  ·cases h
   exact rfl
  ·cases h
   exact rfl
 rcases j25 with z26 | z27
 ·refine zaa ?_
  refine zad [2] [0] ?_
  refine zac ?_
  refine zao ?_
  cases h
  exact ⟨rfl, rfl, rfl, rfl, rfl⟩
 ·cases h
  exact ⟨rfl, rfl, rfl, rfl, rfl⟩
structure Rect where
 X : Int
 Y : Int
 W : Int
 H : Int
def Rect.c (x : Rect) : List TV := [.int .i64 x.X, .int .i64 x.Y, .int .i64 x.W, .int .i64 x.H]
structure Plan where
 Kind : Int
 Size : Size
 Name : List Int
 Kids : List Plan
 Float : List Rect
mutual
def Plan.e' : Plan → List TV
 | ⟨a0, a1, a2, a3, a4⟩ => [.int .i64 a0, .int .i64 a1.Kind, .int .i64 a1.N, .str a2, .sl false 6 (Plan.cs a3), .sl false 4 (List.map Rect.c a4)]
def Plan.cs : List Plan → List (List TV)
 | [] => []
 | x :: l => Plan.e' x :: Plan.cs l
end
def Plan.e (x : Plan) : List TV := [.int .i64 x.Kind, .int .i64 x.Size.Kind, .int .i64 x.Size.N, .str x.Name, .sl false 6 (Plan.cs x.Kids), .sl false 4 (List.map Rect.c x.Float)]
theorem Plan.e_is (x : Plan) : Plan.e' x = Plan.e x := by
 cases x; simp only [Plan.e', Plan.e]
theorem Plan.cs_is : ∀ l : List Plan, Plan.cs l = l.map Plan.e
 | [] => rfl
 | x :: l => by rw [Plan.cs, Plan.e_is, Plan.cs_is l]; rfl
def Plan.c (x : Plan) : List TV := [.int .i64 x.Kind, .int .i64 x.Size.Kind, .int .i64 x.Size.N, .str x.Name, .sl true 6 (Plan.cs x.Kids), .sl false 4 (List.map Rect.c x.Float)]
noncomputable def layout_measureF_l1 (p : Plan) (deep : Int) (rec34 : Plan → Int → Int → Option (Bool × Int)) (t47 : Int) (leaves' : Int) : Option ((Int × Int) ⊕ ((Plan × Int) ⊕ Int)) :=
 letB (decide (t47 < (p.Kids.length : Int))) fun c29 =>
 bif c29 then (
  (idx p.Kids t47).bind fun x31 =>
  letB (decide (p.Kind = 4)) fun c32 =>
  (bif c32 then (
   letB (decide (x31.Kind ≠ 1)) fun c34 =>
   some (c34)) else some false).bind fun g33 =>
  bif g33 then (
   bif true then (
    some (.inr (.inl (x31, leaves'))))
   else (
    some (.inl (w64 (t47 + 1), leaves'))))
  else (
   (rec34 x31 (w64 (deep + 1)) leaves').bind fun y37 =>
   bif (!y37.1) then (
    some (.inr (.inl (x31, y37.2))))
   else (
    some (.inl (w64 (t47 + 1), y37.2)))))
 else (
  some (.inr (.inr leaves')))
noncomputable def zbl (rec34 : Plan → Int → Int → Option (Bool × Int)) (p : Plan) (deep : Int) (leaves : Int) : Option (Bool × Int) :=
 letB (decide (deep > 12)) fun c1 =>
 (bif c1 then some true else (
  (zco p.Size).bind fun y3 =>
  letB (decide (y3 ≠ 0)) fun c4 =>
  some (c4))).bind fun g2 =>
 bif g2 then (
  some (false, leaves))
 else (
  Option.bind (
   letB (decide (p.Kind = 1)) fun c7 =>
   Option.bind (
    bif c7 then (
     letB (decide ((w64 (leaves + 1)) ≤ 24)) fun c9 =>
     some (.inr (c9, w64 (leaves + 1))))
    else (
     letB (decide (p.Kind = 2)) fun c10 =>
     Option.bind (
      bif c10 then (
       some (c10))
      else (
       letB (decide (p.Kind = 3)) fun c12 =>
       Option.bind (
        bif c12 then (
         some (c12))
        else (
         letB (decide (p.Kind = 4)) fun c14 =>
         some (c14)) : Option Bool) fun j15 =>
       some (j15)) : Option Bool) fun j16 =>
     bif j16 then (
      some (.inl ()))
     else (
      some (.inr (false, leaves)))) : Option (Unit ⊕ (Bool × Int))) fun j18 =>
   match j18 with
   | .inl z19 => (
    some (.inl ()))
   | .inr z20 => (
    some (.inr (z20.1, z20.2))) : Option (Unit ⊕ (Bool × Int))) fun j21 =>
  match j21 with
  | .inl z22 => (
   letB (decide ((p.Kids.length : Int) < 1)) fun c24 =>
   (bif c24 then some true else (
    letB (decide ((p.Kids.length : Int) > 16)) fun c26 =>
    some (c26))).bind fun g25 =>
   bif g25 then (
    some (false, leaves))
   else (
    (iter (fun s => layout_measureF_l1 p deep rec34 s.1 s.2 : (Int × Int) → Option ((Int × Int) ⊕ ((Plan × Int) ⊕ Int))) (0, leaves)).bind fun j40 =>
    match j40 with
    | .inl z41 => (
     some (false, z41.2))
    | .inr z42 => (
     some (true, z42))))
  | .inr z23 => (
   some (z23.1, z23.2)))
set_option maxRecDepth 20000 in
theorem zfG {rec34 : Plan → Int → Int → Option (Bool × Int)} (rec34_ok : ∀ (a0 : Plan) (a1 : Int) (a2 : Int) (r : Bool × Int), rec34 a0 a1 a2 = some r → zam false (RF ET) 34 [.agg (Plan.e a0), .int .i64 a1, .ptr 0 0] [[.int .i64 a2]] (.bool r.1) [[.int .i64 r.2]]) {p : Plan} {deep : Int} {leaves : Int} {r : Bool × Int} (h : zbl rec34 p deep leaves = some r) : zam false (RF ET) 34 [.agg (Plan.e p), .int .i64 deep, .ptr 0 0] [[.int .i64 leaves]] (.bool r.1) [[.int .i64 r.2]] := by
 refine zaX (af := a34) rfl rfl ?_
 unfold zbl at h
 refine zaa ?_
 refine zad [1, 2, 3] [0] ?_
 refine zac ?_
 refine zaa ?_
 refine zaa ?_
 refine zad [1, 2, 3, 16] [0] ?_
 refine zai 3 ?_
 refine zac ?_
 refine fun c1 hc1 => ?_
 replace h := zaf hc1 h
 obtain ⟨g2, hg2, h⟩ := zab h
 refine zas 5 16 [1, 2, 3, 16] g2 ?_ ?_
 ·clear h
  replace h := hg2
  clear hg2
  cases hb5 : c1 with
  | false =>
   replace h := zak hb5 h
   refine zac ?_
   obtain ⟨y3, hy3, h⟩ := zab h
   refine ⟨_, ze8 hy3, ?_⟩
   refine fun c4 hc4 => ?_
   replace h := zaf hc4 h
   cases h
   exact ⟨rfl, rfl, rfl⟩
  | true =>
   replace h := zaj hb5 h
   cases h
   refine zac ?_
   exact ⟨rfl, rfl, rfl⟩
 refine zac ?_
 refine zag (b := g2) rfl (fun hb6 => ?_) (fun hb6 => ?_)
 ·replace h := zaj hb6 h
  refine zaa ?_
  refine zad [6] [0] ?_
  refine zac ?_
  refine zao ?_
  cases h
  exact ⟨rfl, rfl, rfl, rfl, rfl⟩
 ·replace h := zak hb6 h
  refine zah ?_
  refine zaa ?_
  refine zaa ?_
  refine zad [1, 2, 3, 18] [0] ?_
  refine zac ?_
  obtain ⟨j21, hj21, h⟩ := zab h
  refine zbZ j21 (fun r => match r with | .inl z => (.normal, [(1, .int .i64 deep), (2, .ptr 0 0), (3, .loc 0 0)], [(0, (Plan.e p))], [[.int .i64 leaves]]) | .inr z => (.ret, [(6, .bool z.1)], [(0, (Plan.e p))], [[.int .i64 z.2]])) (fun e => match e with | .normal => [1, 2, 3] | .ret => [6] | _ => []) (fun e => match e with | .normal => [0] | .ret => [0] | _ => []) ?_ ?_
  ·clear h
   replace h := hj21
   clear hj21
   refine zaN ?_
   refine zaa ?_
   refine zad [1, 2, 3, 18, 19] [0] ?_
   refine zac ?_
   refine fun c7 hc7 => ?_
   replace h := zaf hc7 h
   obtain ⟨j18, hj18, h⟩ := zab h
   refine zbZ j18 (fun r => match r with | .inl z => (.normal, [(1, .int .i64 deep), (2, .ptr 0 0), (3, .loc 0 0)], [(0, (Plan.e p))], [[.int .i64 leaves]]) | .inr z => (.ret, [(6, .bool z.1)], [(0, (Plan.e p))], [[.int .i64 z.2]])) (fun e => match e with | .normal => [1, 2, 3] | .ret => [6] | _ => []) (fun e => match e with | .normal => [0] | .ret => [0] | _ => []) ?_ ?_
   ·clear h
    replace h := hj18
    clear hj18
    refine zag (b := c7) rfl (fun hb8 => ?_) (fun hb8 => ?_)
    ·replace h := zaj hb8 h
     refine zaa ?_
     refine zad [2] [0] ?_
     refine zac ?_
     refine zaa ?_
     refine zad [6] [0] ?_
     refine zac ?_
     refine fun c9 hc9 => ?_
     replace h := zaf hc9 h
     refine zao ?_
     cases h
     exact rfl
    ·replace h := zak hb8 h
     refine zaa ?_
     refine zaa ?_
     refine zad [1, 2, 3, 18, 30] [0] ?_
     refine zac ?_
     refine fun c10 hc10 => ?_
     replace h := zaf hc10 h
     obtain ⟨j16, hj16, h⟩ := zab h
     refine zbZ j16 (fun z => (.normal, [(1, .int .i64 deep), (2, .ptr 0 0), (3, .loc 0 0), (30, .bool z)], [(0, (Plan.e p))], [[.int .i64 leaves]])) (fun _ => [1, 2, 3, 30]) (fun _ => [0]) ?_ ?_
     ·clear h
      replace h := hj16
      clear hj16
      refine zag (b := c10) rfl (fun hb11 => ?_) (fun hb11 => ?_)
      ·replace h := zaj hb11 h
       refine zah ?_
       cases h
       exact rfl
      ·replace h := zak hb11 h
       refine zaa ?_
       refine zad [1, 2, 3, 18, 30] [0] ?_
       refine zac ?_
       refine fun c12 hc12 => ?_
       replace h := zaf hc12 h
       obtain ⟨j15, hj15, h⟩ := zab h
       refine zbZ j15 (fun z => (.normal, [(1, .int .i64 deep), (2, .ptr 0 0), (3, .loc 0 0), (30, .bool z)], [(0, (Plan.e p))], [[.int .i64 leaves]])) (fun _ => [1, 2, 3, 30]) (fun _ => [0]) ?_ ?_
       ·clear h
        replace h := hj15
        clear hj15
        refine zag (b := c12) rfl (fun hb13 => ?_) (fun hb13 => ?_)
        ·replace h := zaj hb13 h
         refine zah ?_
         cases h
         exact rfl
        ·replace h := zak hb13 h
         refine zad [1, 2, 3, 30] [0] ?_
         refine zac ?_
         refine fun c14 hc14 => ?_
         replace h := zaf hc14 h
         cases h
         exact rfl
       cases h
       exact rfl
     refine zag (b := j16) rfl (fun hb17 => ?_) (fun hb17 => ?_)
     ·replace h := zaj hb17 h
      refine zah ?_
      cases h
      exact rfl
     ·replace h := zak hb17 h
      refine zaa ?_
      refine zad [6] [0] ?_
      refine zac ?_
      refine zao ?_
      cases h
      exact rfl
   rcases j18 with z19 | z20
   ·cases h
    exact rfl
   ·cases h
    exact rfl
  rcases j21 with z22 | z23
  ·refine zaa ?_
   refine zaa ?_
   refine zad [1, 2, 3, 43] [0] ?_
   refine zai 5 ?_
   refine zac ?_
   refine ⟨_, (lenR Plan.cs_is).symm, ?_⟩
   refine fun c24 hc24 => ?_
   replace h := zaf hc24 h
   obtain ⟨g25, hg25, h⟩ := zab h
   refine zas 5 43 [1, 2, 3, 43] g25 ?_ ?_
   ·clear h
    replace h := hg25
    clear hg25
    cases hb27 : c24 with
    | false =>
     replace h := zak hb27 h
     refine zac ?_
     refine ⟨_, (lenR Plan.cs_is).symm, ?_⟩
     refine fun c26 hc26 => ?_
     replace h := zaf hc26 h
     cases h
     exact ⟨rfl, rfl, rfl⟩
    | true =>
     replace h := zaj hb27 h
     cases h
     refine zac ?_
     exact ⟨rfl, rfl, rfl⟩
   refine zac ?_
   refine zag (b := g25) rfl (fun hb28 => ?_) (fun hb28 => ?_)
   ·replace h := zaj hb28 h
    refine zaa ?_
    refine zad [6] [0] ?_
    refine zac ?_
    refine zao ?_
    cases h
    exact ⟨rfl, rfl, rfl, rfl, rfl⟩
   ·replace h := zak hb28 h
    refine zah ?_
    refine zaa ?_
    refine zaa ?_
    refine zad [1, 2, 3, 45, 46, 47] [0] ?_
    refine zac ?_
    refine ⟨_, (lenR Plan.cs_is).symm, ?_⟩
    refine zaN ?_
    obtain ⟨j40, hj40, h⟩ := zab h
    refine zds hj40 [0] (fun s => ([(1, .int .i64 deep), (2, .ptr 0 0), (3, .loc 0 0), (45, .sl false 6 (Plan.cs p.Kids)), (46, .int .i64 (p.Kids.length : Int)), (47, .int .i64 s.1)], [(0, (Plan.e p))], [[.int .i64 s.2]])) (fun e => match e with | .ret => [6] | .exit 1 => [] | _ => []) (fun e => match e with | .ret => [0, 1] | .exit 1 => [0] | _ => []) (fun r => match r with | .inl z => (.ret, [(6, .bool false)], [(0, (Plan.e p)), (1, (Plan.e z.1))], [[.int .i64 z.2]]) | .inr z => (.exit 1, [], [(0, (Plan.e p))], [[.int .i64 z]])) ?_ ?_ ?_
    ·exact rfl
    ·clear h
     rintro ⟨t47, leaves'⟩ x h
     replace h : layout_measureF_l1 p deep rec34 t47 leaves' = some x := h
     unfold layout_measureF_l1 at h
     show T.WP _ _ [(1, .int .i64 deep), (2, .ptr 0 0), (3, .loc 0 0), (45, .sl false 6 (Plan.cs p.Kids)), (46, .int .i64 (p.Kids.length : Int)), (47, .int .i64 t47)] [(0, (Plan.e p))] [[.int .i64 leaves']] _
     refine zaa ?_
     refine zad [1, 2, 3, 45, 46, 47, 48] [0] ?_
     refine zac ?_
     refine fun c29 hc29 => ?_
     replace h := zaf hc29 h
     refine zaa ?_
     refine zag (b := c29) rfl (fun hb30 => ?_) (fun hb30 => ?_)
     ·replace h := zaj hb30 h
      refine zah ?_
      refine zaa ?_
      refine zaN ?_
      refine zaa ?_
      refine zad [1, 2, 3, 8, 45, 46, 47] [0, 1] ?_
      refine zac ?_
      obtain ⟨x31, hx31, h⟩ := zab h
      refine And.intro (zb0 hx31) ⟨_, zcD Plan.cs_is hx31, ?_⟩
      refine ⟨.sl true 6 [], .sl _ _, ?_⟩
      refine ⟨.sl false 4 [], .sl _ _, ?_⟩
      refine zaa ?_
      refine zad [1, 2, 3, 45, 46, 47, 60, 61, 62, 63, 64, 65, 66] [0, 1] ?_
      refine zai 4 ?_
      refine zac ?_
      refine fun c32 hc32 => ?_
      replace h := zaf hc32 h
      obtain ⟨g33, hg33, h⟩ := zab h
      refine zas 4 58 [1, 2, 3, 8, 45, 46, 47, 58] g33 ?_ ?_
      ·clear h
       replace h := hg33
       clear hg33
       cases hb35 : c32 with
       | true =>
        replace h := zaj hb35 h
        refine zac ?_
        refine fun c34 hc34 => ?_
        replace h := zaf hc34 h
        cases h
        exact ⟨rfl, rfl, rfl⟩
       | false =>
        replace h := zak hb35 h
        cases h
        refine zac ?_
        exact ⟨rfl, rfl, rfl⟩
      refine zac ?_
      cases hb36 : g33 with
      | true =>
       replace h := zaj hb36 h
       refine zag (b := true) rfl (fun hb39 => ?_) (fun hb39 => ?_)
       ·replace h := zaj hb39 h
        refine zaa ?_
        refine zad [6] [0, 1] ?_
        refine zac ?_
        refine zao ?_
        cases h
        exact ⟨_, rfl, rfl⟩
       ·replace h := zak hb39 h
        refine zah ?_
        refine zad [1, 2, 3, 45, 46, 47, 60, 61, 62, 63, 64, 65] [0, 1] ?_
        refine zac ?_
        cases h
        exact ⟨_, rfl, rfl⟩
      | false =>
       replace h := zak hb36 h
       obtain ⟨y37, hy37, h⟩ := zab h
       refine ⟨_, _, zam.sub (i := 0) (rec34_ok _ _ _ _ hy37) rfl _ rfl rfl rfl rfl, ?_⟩
       refine zag (b := (!y37.1)) rfl (fun hb38 => ?_) (fun hb38 => ?_)
       ·replace h := zaj hb38 h
        refine zaa ?_
        refine zad [6] [0, 1] ?_
        refine zac ?_
        refine zao ?_
        cases h
        exact ⟨_, rfl, rfl⟩
       ·replace h := zak hb38 h
        refine zah ?_
        refine zad [1, 2, 3, 45, 46, 47, 61, 62, 63, 64, 65] [0, 1] ?_
        refine zac ?_
        cases h
        exact ⟨_, rfl, rfl⟩
     ·replace h := zak hb30 h
      refine zcO ?_
      cases h
      exact ⟨_, rfl, rfl⟩
    rcases j40 with z41 | z42
    ·cases h
     exact ⟨rfl, rfl, rfl, rfl, rfl⟩
    ·refine zaa ?_
     refine zad [6] [0] ?_
     refine zac ?_
     refine zao ?_
     cases h
     exact ⟨rfl, rfl, rfl, rfl, rfl⟩
  ·cases h
   exact ⟨rfl, rfl, rfl, rfl, rfl⟩
noncomputable def zbm : Nat → (Plan → Int → Int → Option (Bool × Int))
 | 0 => fun _ _ _ => none
 | k + 1 => zbl ((zbm k))
theorem zdB : ∀ k, (∀ (a0 : Plan) (a1 : Int) (a2 : Int) (r : Bool × Int), ((zbm k)) a0 a1 a2 = some r → zam false (RF ET) 34 [.agg (Plan.e a0), .int .i64 a1, .ptr 0 0] [[.int .i64 a2]] (.bool r.1) [[.int .i64 r.2]])
 | 0 => (fun _ _ _ _ h => by cases h)
 | k + 1 => (fun _ _ _ _ h => zfG ((zdB k)) h)
noncomputable def zdH (a0 : Plan) (a1 : Int) (a2 : Int) : Option (Bool × Int) := (zbm 30) a0 a1 a2
theorem zf5 {a0 : Plan} {a1 : Int} {a2 : Int} {r : Bool × Int} (h : zdH a0 a1 a2 = some r) : zam false (RF ET) 34 [.agg (Plan.e a0), .int .i64 a1, .ptr 0 0] [[.int .i64 a2]] (.bool r.1) [[.int .i64 r.2]] := (zdB 30) a0 a1 a2 r h
noncomputable def zb6 (p : Plan) : Option Int :=
 (zdH p 1 0).bind fun y1 =>
 (bif (!y1.1) then some true else (
  letB (decide ((p.Float.length : Int) > (w64 (24 - y1.2)))) fun c3 =>
  some (c3))).bind fun g2 =>
 bif g2 then (
  some 100)
 else (
  some 0)
set_option maxRecDepth 20000 in
theorem zeD {p : Plan} {r : Int} (h : zb6 p = some r) : zam true (RF ET) 15 [.agg (Plan.e p)] [] (.int .i64 r) [] := by
 refine zam.quiet (zaX (af := a15) rfl rfl ?_) rfl
 unfold zb6 at h
 refine zaa ?_
 refine zad [1] [0] ?_
 refine zac ?_
 refine zaa ?_
 refine zad [1, 3] [0] ?_
 refine zac ?_
 refine zaa ?_
 refine zaa ?_
 refine zad [14] [0] ?_
 refine zai 4 ?_
 refine zac ?_
 obtain ⟨y1, hy1, h⟩ := zab h
 refine ⟨_, _, zam.sub (i := 0) (zf5 hy1) rfl _ rfl rfl rfl rfl, ?_⟩
 obtain ⟨g2, hg2, h⟩ := zab h
 refine zas 7 14 [14] g2 ?_ ?_
 ·clear h
  replace h := hg2
  clear hg2
  cases hb4 : (!y1.1) with
  | false =>
   replace h := zak hb4 h
   refine zac ?_
   refine ⟨_, (yal ..).symm, ?_⟩
   refine fun c3 hc3 => ?_
   replace h := zaf hc3 h
   cases h
   exact ⟨rfl, rfl, rfl⟩
  | true =>
   replace h := zaj hb4 h
   cases h
   refine zac ?_
   exact ⟨rfl, rfl, rfl⟩
 refine zac ?_
 refine zag (b := g2) rfl (fun hb5 => ?_) (fun hb5 => ?_)
 ·replace h := zaj hb5 h
  refine zaa ?_
  refine zad [2] [0] ?_
  refine zac ?_
  refine zao ?_
  cases h
  exact ⟨rfl, rfl, rfl, rfl, rfl⟩
 ·replace h := zak hb5 h
  refine zah ?_
  refine zaa ?_
  refine zad [2] [0] ?_
  refine zac ?_
  refine zao ?_
  cases h
  exact ⟨rfl, rfl, rfl, rfl, rfl⟩
noncomputable def zcP (n : Int) (lo : Int) (hi : Int) : Option Int :=
 some (max lo (min n hi))
set_option maxRecDepth 20000 in
theorem zdf {n : Int} {lo : Int} {hi : Int} {r : Int} (h : zcP n lo hi = some r) : zam true (RF ET) 55 [.int .i64 n, .int .i64 lo, .int .i64 hi] [] (.int .i64 r) [] := by
 refine zam.quiet (zaX (af := a55) rfl rfl ?_) rfl
 unfold zcP at h
 refine zaa ?_
 refine zad [0, 1, 2] [] ?_
 refine zac ?_
 refine zaa ?_
 refine zad [6] [] ?_
 refine zac ?_
 refine zao ?_
 cases h
 exact ⟨rfl, rfl, rfl, rfl, rfl⟩
noncomputable def zdV (r_ : Rect) : Option Rect :=
 (zcP r_.X (-5000) 5000).bind fun y1 =>
 (zcP r_.Y (-5000) 5000).bind fun y2 =>
 (zcP r_.W 0 (min 200 (w64 (5000 - y1)))).bind fun y3 =>
 (zcP r_.H 0 (min 200 (w64 (5000 - y2)))).bind fun y4 =>
 letB (decide (y3 = 0)) fun c5 =>
 (bif c5 then some true else (
  letB (decide (y4 = 0)) fun c7 =>
  some (c7))).bind fun g6 =>
 bif g6 then (
  some (Rect.mk 0 0 0 0))
 else (
  some (Rect.mk y1 y2 y3 y4))
set_option maxRecDepth 20000 in
theorem ziM {r_ : Rect} {r : Rect} (h : zdV r_ = some r) : zam true (RF ET) 25 [.agg (Rect.c r_)] [] (.agg (Rect.c r)) [] := by
 refine zam.quiet (zaX (af := a25) rfl rfl ?_) rfl
 unfold zdV at h
 refine zaa ?_
 refine zad [1, 2] [0, 1] ?_
 refine zac ?_
 refine zaa ?_
 refine zad [1, 2] [0, 1] ?_
 refine zf2 ?_
 obtain ⟨y1, hy1, h⟩ := zab h
 refine ⟨_, zdf hy1, ?_⟩
 obtain ⟨y2, hy2, h⟩ := zab h
 refine ⟨_, zdf hy2, ?_⟩
 refine zaa ?_
 refine zad [1, 2] [0, 1] ?_
 refine zf2 ?_
 obtain ⟨y3, hy3, h⟩ := zab h
 refine ⟨_, zdf hy3, ?_⟩
 obtain ⟨y4, hy4, h⟩ := zab h
 refine ⟨_, zdf hy4, ?_⟩
 refine zaa ?_
 refine zaa ?_
 refine zad [1, 2, 34] [0, 1] ?_
 refine zai 4 ?_
 refine zac ?_
 refine fun c5 hc5 => ?_
 replace h := zaf hc5 h
 obtain ⟨g6, hg6, h⟩ := zab h
 refine zas 4 34 [1, 2, 34] g6 ?_ ?_
 ·clear h
  replace h := hg6
  clear hg6
  cases hb8 : c5 with
  | false =>
   replace h := zak hb8 h
   refine zac ?_
   refine fun c7 hc7 => ?_
   replace h := zaf hc7 h
   cases h
   exact ⟨rfl, rfl, rfl⟩
  | true =>
   replace h := zaj hb8 h
   cases h
   refine zac ?_
   exact ⟨rfl, rfl, rfl⟩
 refine zac ?_
 refine zag (b := g6) rfl (fun hb9 => ?_) (fun hb9 => ?_)
 ·replace h := zaj hb9 h
  refine zaa ?_
  refine zad [2] [0, 1] ?_
  refine zac ?_
  refine zao ?_
  cases h
  exact ⟨rfl, rfl, rfl, rfl, rfl⟩
 ·replace h := zak hb9 h
  refine zah ?_
  refine zaa ?_
  refine zad [2] [0, 1] ?_
  refine zac ?_
  refine zao ?_
  cases h
  exact ⟨rfl, rfl, rfl, rfl, rfl⟩
noncomputable def zaC (n : Int) (lo : Int) (hi : Int) : Option Int :=
 letB (decide (n < lo)) fun c1 =>
 bif c1 then (
  some lo)
 else (
  letB (decide (n > hi)) fun c3 =>
  bif c3 then (
   some hi)
  else (
   some n))
set_option maxRecDepth 20000 in
theorem zba {n : Int} {lo : Int} {hi : Int} {r : Int} (h : zaC n lo hi = some r) : zam true (RF ET) 64 [.int .i64 n, .int .i64 lo, .int .i64 hi] [] (.int .i64 r) [] := by
 refine zam.quiet (zaX (af := a64) rfl rfl ?_) rfl
 unfold zaC at h
 refine zaa ?_
 refine zad [0, 1, 2] [] ?_
 refine zac ?_
 refine zaa ?_
 refine zaa ?_
 refine zad [0, 1, 2, 9] [] ?_
 refine zac ?_
 refine fun c1 hc1 => ?_
 replace h := zaf hc1 h
 refine zag (b := c1) rfl (fun hb2 => ?_) (fun hb2 => ?_)
 ·replace h := zaj hb2 h
  refine zaa ?_
  refine zad [6] [] ?_
  refine zac ?_
  refine zao ?_
  cases h
  exact ⟨rfl, rfl, rfl, rfl, rfl⟩
 ·replace h := zak hb2 h
  refine zah ?_
  refine zaa ?_
  refine zaa ?_
  refine zad [0, 2, 13] [] ?_
  refine zac ?_
  refine fun c3 hc3 => ?_
  replace h := zaf hc3 h
  refine zag (b := c3) rfl (fun hb4 => ?_) (fun hb4 => ?_)
  ·replace h := zaj hb4 h
   refine zaa ?_
   refine zad [6] [] ?_
   refine zac ?_
   refine zao ?_
   cases h
   exact ⟨rfl, rfl, rfl, rfl, rfl⟩
  ·replace h := zak hb4 h
   refine zah ?_
   refine zaa ?_
   refine zad [6] [] ?_
   refine zac ?_
   refine zao ?_
   cases h
   exact ⟨rfl, rfl, rfl, rfl, rfl⟩
noncomputable def zbn (r_ : Rect) : Option Rect :=
 (zaC r_.X (-5000) 5000).bind fun y1 =>
 (zaC r_.Y (-5000) 5000).bind fun y2 =>
 (zaC r_.W 0 200).bind fun y3 =>
 (zaC r_.H 0 200).bind fun y4 =>
 letB (decide ((w64 (y1 + y3)) > 5000)) fun c5 =>
 Option.bind (
  bif c5 then (
   some (w64 (5000 - y1)))
  else (
   some (y3)) : Option Int) fun j7 =>
 letB (decide ((w64 (y2 + y4)) > 5000)) fun c8 =>
 Option.bind (
  bif c8 then (
   some (w64 (5000 - y2)))
  else (
   some (y4)) : Option Int) fun j10 =>
 letB (decide (j7 = 0)) fun c11 =>
 (bif c11 then some true else (
  letB (decide (j10 = 0)) fun c13 =>
  some (c13))).bind fun g12 =>
 bif g12 then (
  some (Rect.mk 0 0 0 0))
 else (
  some (Rect.mk y1 y2 j7 j10))
set_option maxRecDepth 20000 in
theorem zek {r_ : Rect} {r : Rect} (h : zbn r_ = some r) : zam true (RF ET) 39 [.agg (Rect.c r_)] [] (.agg (Rect.c r)) [] := by
 refine zam.quiet (zaX (af := a39) rfl rfl ?_) rfl
 unfold zbn at h
 refine zaa ?_
 refine zad [1, 2] [0, 1] ?_
 refine zac ?_
 refine zaa ?_
 refine zad [1, 2, 3] [0, 1] ?_
 refine zac ?_
 obtain ⟨y1, hy1, h⟩ := zab h
 refine ⟨_, zba hy1, ?_⟩
 refine zaa ?_
 refine zad [1, 2, 3, 4] [0, 1] ?_
 refine zac ?_
 obtain ⟨y2, hy2, h⟩ := zab h
 refine ⟨_, zba hy2, ?_⟩
 refine zaa ?_
 refine zad [1, 2, 3, 4, 5] [0, 1] ?_
 refine zac ?_
 obtain ⟨y3, hy3, h⟩ := zab h
 refine ⟨_, zba hy3, ?_⟩
 refine zaa ?_
 refine zad [2, 3, 4, 5, 6] [0, 1] ?_
 refine zac ?_
 obtain ⟨y4, hy4, h⟩ := zab h
 refine ⟨_, zba hy4, ?_⟩
 refine zaa ?_
 refine zaa ?_
 refine zad [2, 3, 4, 5, 6, 22] [0, 1] ?_
 refine zac ?_
 refine fun c5 hc5 => ?_
 replace h := zaf hc5 h
 obtain ⟨j7, hj7, h⟩ := zab h
 refine zbZ j7 (fun z => (.normal, [(2, .loc 1 0), (3, .int .i64 y1), (4, .int .i64 y2), (5, .int .i64 z), (6, .int .i64 y4)], [(0, (Rect.c r_)), (1, [.int .i64 0, .int .i64 0, .int .i64 0, .int .i64 0])], [])) (fun _ => [2, 3, 4, 5, 6]) (fun _ => [0, 1]) ?_ ?_
 ·clear h
  replace h := hj7
  clear hj7
  refine zag (b := c5) rfl (fun hb6 => ?_) (fun hb6 => ?_)
  ·replace h := zaj hb6 h
   refine zad [2, 3, 4, 5, 6] [0, 1] ?_
   refine zac ?_
   cases h
   exact rfl
  ·replace h := zak hb6 h
   refine zah ?_
   cases h
   exact rfl
 refine zaa ?_
 refine zaa ?_
 refine zad [2, 3, 4, 5, 6, 28] [0, 1] ?_
 refine zac ?_
 refine fun c8 hc8 => ?_
 replace h := zaf hc8 h
 obtain ⟨j10, hj10, h⟩ := zab h
 refine zbZ j10 (fun z => (.normal, [(2, .loc 1 0), (3, .int .i64 y1), (4, .int .i64 y2), (5, .int .i64 j7), (6, .int .i64 z)], [(0, (Rect.c r_)), (1, [.int .i64 0, .int .i64 0, .int .i64 0, .int .i64 0])], [])) (fun _ => [2, 3, 4, 5, 6]) (fun _ => [0, 1]) ?_ ?_
 ·clear h
  replace h := hj10
  clear hj10
  refine zag (b := c8) rfl (fun hb9 => ?_) (fun hb9 => ?_)
  ·replace h := zaj hb9 h
   refine zad [2, 3, 4, 5, 6] [0, 1] ?_
   refine zac ?_
   cases h
   exact rfl
  ·replace h := zak hb9 h
   refine zah ?_
   cases h
   exact rfl
 refine zaa ?_
 refine zaa ?_
 refine zad [2, 3, 4, 5, 6, 36] [0, 1] ?_
 refine zai 3 ?_
 refine zac ?_
 refine fun c11 hc11 => ?_
 replace h := zaf hc11 h
 obtain ⟨g12, hg12, h⟩ := zab h
 refine zas 3 36 [2, 3, 4, 5, 6, 36] g12 ?_ ?_
 ·clear h
  replace h := hg12
  clear hg12
  cases hb14 : c11 with
  | false =>
   replace h := zak hb14 h
   refine zac ?_
   refine fun c13 hc13 => ?_
   replace h := zaf hc13 h
   cases h
   exact ⟨rfl, rfl, rfl⟩
  | true =>
   replace h := zaj hb14 h
   cases h
   refine zac ?_
   exact ⟨rfl, rfl, rfl⟩
 refine zac ?_
 refine zag (b := g12) rfl (fun hb15 => ?_) (fun hb15 => ?_)
 ·replace h := zaj hb15 h
  refine zaa ?_
  refine zad [2] [0, 1] ?_
  refine zac ?_
  refine zao ?_
  cases h
  exact ⟨rfl, rfl, rfl, rfl, rfl⟩
 ·replace h := zak hb15 h
  refine zah ?_
  refine zaa ?_
  refine zad [2] [0, 1] ?_
  refine zac ?_
  refine zao ?_
  cases h
  exact ⟨rfl, rfl, rfl, rfl, rfl⟩
end Go.Proofs.YtakdnfneikbjjaaGreatDoor.Am.Lay10

set_option linter.all false
namespace Go.Proofs.YtakdnfneikbjjaaGreatDoor.Am.Lay10
open Go.Proofs.YtakdnfneikbjjaaGreatDoor.Am.T
theorem or_s {c d : Bool} : (bif c then some true else some d) = some (c || d) := by cases c <;> rfl
theorem zoG {c d : Bool} : (bif c then some d else some false) = some (c && d) := by cases c <;> rfl
theorem zoH {α : Type} {c : Bool} {a b : α} : (bif c then some a else some b) = some (bif c then a else b) := by cases c <;> rfl
theorem znI : most = 4294967296 := rfl
theorem zaI {n : Int} (h1 : -9223372036854775808 ≤ n) (h2 : n ≤ 9223372036854775807) : w64 n = n := by
 simp only [IntKind.wrap_i64]; omega
theorem zpJ {α : Type} {d : α} {l : List α} {i : Int} (h0 : 0 ≤ i) (h : i < l.length) : idx l i = some (l.getD i.toNat d) := by
 unfold idx
 have h2 : i.toNat < l.length := by omega
 simp [h0, h2]
def cl (n lo hi : Int) : Int := max lo (min n hi)
theorem zeW {n lo hi : Int} (h : lo ≤ hi) : zaC n lo hi = some (cl n lo hi) := by
 unfold zaC cl
 simp only [letB]
 by_cases h1 : n < lo
 ·rw [yav h1]; show some lo = _; congr 1; omega
 ·rw [yau h1]
  by_cases h2 : n > hi
  ·rw [yav h2]; show some hi = _; congr 1; omega
  ·rw [yau h2]; show some n = _; congr 1; omega
def zjZ (r : Rect) : Rect :=
 let x := cl r.X (-5000) 5000
 let y := cl r.Y (-5000) 5000
 let w := cl r.W 0 (min 200 (5000 - x))
 let h := cl r.H 0 (min 200 (5000 - y))
 if w = 0 ∨ h = 0 then ⟨0, 0, 0, 0⟩ else ⟨x, y, w, h⟩
theorem zeX {n lo hi : Int} (h : lo ≤ hi) : lo ≤ cl n lo hi ∧ cl n lo hi ≤ hi := by unfold cl; omega
theorem zoI (r : Rect) : zdV r = some (zjZ r) := by
 have hx := zeX (n := r.X) (show (-5000 : Int) ≤ 5000 by omega)
 have hy := zeX (n := r.Y) (show (-5000 : Int) ≤ 5000 by omega)
 unfold zdV zcP zjZ
 simp only [Option.bind_some, letB, or_s]
 rw [show max (-5000) (min r.X 5000) = cl r.X (-5000) 5000 from rfl, show max (-5000) (min r.Y 5000) = cl r.Y (-5000) 5000 from rfl]
 generalize cl r.X (-5000) 5000 = x at *
 generalize cl r.Y (-5000) 5000 = y at *
 rw [zaI (by omega) (by omega), zaI (by omega) (by omega)]
 rw [show max 0 (min r.W (min 200 (5000 - x))) = cl r.W 0 (min 200 (5000 - x)) from rfl, show max 0 (min r.H (min 200 (5000 - y))) = cl r.H 0 (min 200 (5000 - y)) from rfl]
 by_cases h1 : cl r.W 0 (min 200 (5000 - x)) = 0
 ·rw [yav h1, if_pos (.inl h1)]; rfl
 ·rw [yau h1]
  by_cases h2 : cl r.H 0 (min 200 (5000 - y)) = 0
  ·rw [yav h2, if_pos (.inr h2)]; rfl
  ·rw [yau h2, if_neg (by omega)]; rfl
theorem znJ (r : Rect) : zbn r = some (zjZ r) := by
 have hx := zeX (n := r.X) (show (-5000 : Int) ≤ 5000 by omega)
 have hy := zeX (n := r.Y) (show (-5000 : Int) ≤ 5000 by omega)
 have hw := zeX (n := r.W) (show (0 : Int) ≤ 200 by omega)
 have hh := zeX (n := r.H) (show (0 : Int) ≤ 200 by omega)
 unfold zbn zjZ
 rw [zeW (by omega), zeW (by omega), zeW (by omega), zeW (by omega)]
 simp only [Option.bind_some, letB, zoH, or_s]
 have ew : cl r.W 0 (min 200 (5000 - cl r.X (-5000) 5000)) = if cl r.X (-5000) 5000 + cl r.W 0 200 > 5000 then 5000 - cl r.X (-5000) 5000 else cl r.W 0 200 := by
  generalize cl r.X (-5000) 5000 = x at *
  unfold cl at *
  split <;> omega
 have eh : cl r.H 0 (min 200 (5000 - cl r.Y (-5000) 5000)) = if cl r.Y (-5000) 5000 + cl r.H 0 200 > 5000 then 5000 - cl r.Y (-5000) 5000 else cl r.H 0 200 := by
  generalize cl r.Y (-5000) 5000 = y at *
  unfold cl at *
  split <;> omega
 rw [ew, eh]
 generalize cl r.X (-5000) 5000 = x at *
 generalize cl r.Y (-5000) 5000 = y at *
 generalize cl r.W 0 200 = w at *
 generalize cl r.H 0 200 = h at *
 rw [zaI (n := x + w) (by omega) (by omega), zaI (n := y + h) (by omega) (by omega), zaI (n := 5000 - x) (by omega) (by omega), zaI (n := 5000 - y) (by omega) (by omega)]
 have e1 : (bif decide (x + w > 5000) then 5000 - x else w) = if x + w > 5000 then 5000 - x else w := by
  by_cases c : x + w > 5000
  ·rw [yav c, if_pos c]; rfl
  ·rw [yau c, if_neg c]; rfl
 have e2 : (bif decide (y + h > 5000) then 5000 - y else h) = if y + h > 5000 then 5000 - y else h := by
  by_cases c : y + h > 5000
  ·rw [yav c, if_pos c]; rfl
  ·rw [yau c, if_neg c]; rfl
 rw [e1, e2]
 generalize (if x + w > 5000 then 5000 - x else w) = w'
 generalize (if y + h > 5000 then 5000 - y else h) = h'
 by_cases h1 : w' = 0
 ·rw [yav h1, if_pos (.inl h1)]; rfl
 ·rw [yau h1]
  by_cases h2 : h' = 0
  ·rw [yav h2, if_pos (.inr h2)]; rfl
  ·rw [yau h2, if_neg (by omega)]; rfl
end Go.Proofs.YtakdnfneikbjjaaGreatDoor.Am.Lay10

set_option linter.all false
namespace Go.Proofs.YtakdnfneikbjjaaGreatDoor.Am.Lay10
open Go.Proofs.YtakdnfneikbjjaaGreatDoor.Am.T
def sizeOK (s : Size) : Prop := s.Kind = 0 ∨ (s.Kind = 1 ∧ 1 ≤ s.N ∧ s.N ≤ 200) ∨ (s.Kind = 2 ∧ 1 ≤ s.N ∧ s.N ≤ 100)
instance (s : Size) : Decidable (sizeOK s) := by unfold sizeOK; infer_instance
theorem zlE (s : Size) : zco s = some (if sizeOK s then 0 else 1) := by
 unfold zco sizeOK
 simp only [letB, Option.bind_some, zoG]
 by_cases h0 : s.Kind = 0
 ·simp [h0]
 ·by_cases h1 : s.Kind = 1
  ·have h2 : ¬ s.Kind = 2 := by omega
   by_cases ha : s.N ≥ 1 <;> by_cases hb : s.N ≤ 200 <;> simp [h1, ha, hb]
  ·by_cases h2 : s.Kind = 2
   ·by_cases ha : s.N ≥ 1 <;> by_cases hb : s.N ≤ 100 <;> simp [h2, ha, hb]
   ·simp [h0, h1, h2]
def zeE (p : Plan) : Prop := p.Kind = 2 ∨ p.Kind = 3 ∨ p.Kind = 4
instance (p : Plan) : Decidable (zeE p) := by unfold zeE; infer_instance
def mKids (f : Plan → Int → Bool × Int) (q : Plan) : List Plan → Int → Bool × Int
 | [], n => (true, n)
 | k :: ks, n => if q.Kind = 4 ∧ k.Kind ≠ 1 then (false, n) else if (f k n).1 = true then mKids f q ks (f k n).2 else (false, (f k n).2)
def mT : Nat → Plan → Int → Bool × Int
 | 0, _, n => (false, n)
 | d + 1, p, n => if ¬ sizeOK p.Size then (false, n) else if p.Kind = 1 then (decide (n + 1 ≤ 24), n + 1) else
  if ¬ zeE p then (false, n) else if p.Kids.length < 1 ∨ 16 < p.Kids.length then (false, n) else mKids (mT d) p p.Kids n
def Rng (n : Int) (r : Bool × Int) : Prop := n ≤ r.2 ∧ r.2 ≤ 25 ∧ (r.1 = true → r.2 ≤ 24)
theorem zho {f : Plan → Int → Bool × Int} {q : Plan} (hf : ∀ k n, 0 ≤ n → n ≤ 24 → Rng n (f k n)) : ∀ (ks : List Plan) (n : Int), 0 ≤ n → n ≤ 24 → Rng n (mKids f q ks n)
 | [], n, h0, h1 => ⟨Int.le_refl _, by show n ≤ 25; omega, fun _ => h1⟩
 | k :: ks, n, h0, h1 => by
  have h2 := hf k n h0 h1
  unfold mKids
  split
  ·exact ⟨Int.le_refl _, by show n ≤ 25; omega, fun h => by cases h⟩
  ·split
   ·rename_i hb
    have h3 := h2.2.2 hb
    have h4 := h2.1
    have := zho (q := q) hf ks (f k n).2 (by omega) h3
    exact ⟨Int.le_trans h4 this.1, this.2.1, this.2.2⟩
   ·exact ⟨h2.1, h2.2.1, fun h => by cases h⟩
theorem zgC : ∀ (d : Nat) (p : Plan) (n : Int), 0 ≤ n → n ≤ 24 → Rng n (mT d p n)
 | 0, p, n, h0, h1 => ⟨Int.le_refl _, by show n ≤ 25; omega, fun h => by cases h⟩
 | d + 1, p, n, h0, h1 => by
  have triv : Rng n (false, n) := ⟨Int.le_refl _, by show n ≤ 25; omega, fun h => by cases h⟩
  unfold mT
  split
  ·exact triv
  ·split
   ·exact ⟨by show n ≤ n + 1; omega, by show n + 1 ≤ 25; omega, fun h => of_decide_eq_true h⟩
   ·split
    ·exact triv
    ·split
     ·exact triv
     ·exact zho (zgC d) _ _ h0 h1
theorem znK {rec : Plan → Int → Int → Option (Bool × Int)} {p : Plan} {deep : Int} {f : Plan → Int → Bool × Int} (hd : 0 ≤ deep ∧ deep ≤ 100) (hl : p.Kids.length ≤ 16) (hr : ∀ k n, 0 ≤ n → n ≤ 24 → rec k (deep + 1) n = some (f k n)) (hf : ∀ k n, 0 ≤ n → n ≤ 24 → Rng n (f k n)) :
  ∀ (ks : List Plan) (i : Nat) (n : Int), 0 ≤ n → n ≤ 24 → i + ks.length = p.Kids.length → p.Kids.drop i = ks →
  ∃ j, iter (fun s => layout_measureF_l1 p deep rec s.1 s.2 : (Int × Int) → Option ((Int × Int) ⊕ ((Plan × Int) ⊕ Int))) ((i : Int), n) = some j ∧ (match j with | .inl z => (false, z.2) | .inr z => (true, z)) = mKids f p ks n
 | [], i, n, h0, h1, hi, hk => by
  refine ⟨.inr n, zaB ?_, rfl⟩
  simp only [layout_measureF_l1, letB]
  rw [yau (by simp only [List.length_nil] at hi; omega)]; rfl
 | k :: ks, i, n, h0, h1, hi, hk => by
  simp only [List.length_cons] at hi
  have hlt : i < p.Kids.length := by omega
  have hget : p.Kids[i] = k := by
   have := List.getElem_drop (xs := p.Kids) (i := i) (j := 0) (h := by simp; omega)
   simp only [hk, List.getElem_cons_zero, Nat.add_zero] at this
   exact this.symm
  have hidx : idx p.Kids (i : Int) = some k := by
   rw [zpJ (d := p) (by omega) (by omega), Int.toNat_natCast, yad, yai hlt, hget]; rfl
  have hdrop : p.Kids.drop (i + 1) = ks := by rw [← List.drop_drop, hk]; rfl
  have key : layout_measureF_l1 p deep rec (i : Int) n = if p.Kind = 4 ∧ k.Kind ≠ 1 then some (.inr (.inl (k, n))) else if (f k n).1 = true then some (.inl (((i + 1 : Nat) : Int), (f k n).2)) else some (.inr (.inl (k, (f k n).2))) := by
   simp only [layout_measureF_l1, letB]
   rw [yav (show (i : Int) < (p.Kids.length : Int) by omega), zaI (by omega) (by omega), zaI (by omega) (by omega)]
   simp only [cond_true, hidx, Option.bind_some, zoG]
   by_cases h4 : p.Kind = 4 ∧ k.Kind ≠ 1
   ·rw [yav h4.1, yav h4.2, if_pos h4]; rfl
   ·rw [if_neg h4]
    have : (decide (p.Kind = 4) && decide (k.Kind ≠ 1)) = false := by
     simp only [Bool.and_eq_false_iff, decide_eq_false_iff_not]
     by_cases h : p.Kind = 4
     ·exact .inr fun hh => h4 ⟨h, hh⟩
     ·exact .inl h
    rw [this, hr k n h0 h1]
    simp only [cond_false, Option.bind_some]
    cases (f k n).1 <;> rfl
  unfold mKids
  by_cases h4 : p.Kind = 4 ∧ k.Kind ≠ 1
  ·rw [if_pos h4] at key ⊢
   exact ⟨_, zaB key, rfl⟩
  ·rw [if_neg h4] at key ⊢
   by_cases hb : (f k n).1 = true
   ·rw [if_pos hb] at key ⊢
    obtain ⟨r1, r2, r3⟩ := hf k n h0 h1
    obtain ⟨j, e1, e2⟩ := znK hd hl hr hf ks (i + 1) (f k n).2 (by omega) (r3 hb) (by omega) hdrop
    exact ⟨j, (zaO key).trans e1, e2⟩
   ·rw [if_neg hb] at key ⊢
    exact ⟨_, zaB key, rfl⟩
theorem zpp {p : Plan} : (Option.bind (bif decide (p.Kind = 2) then some (decide (p.Kind = 2)) else Option.bind (bif decide (p.Kind = 3) then some (decide (p.Kind = 3)) else some (decide (p.Kind = 4))) fun j15 => some j15) fun j => some j) = some (decide (zeE p)) := by
 unfold zeE
 by_cases h2 : p.Kind = 2
 ·simp [h2]
 ·by_cases h3 : p.Kind = 3
  ·simp [h3]
  ·simp [h2, h3]
theorem zif : ∀ (d k : Nat) (deep : Int) (p : Plan) (n : Int), deep = 13 - (d : Int) → d ≤ 12 → d + 1 ≤ k → 0 ≤ n → n ≤ 24 → zbm k p deep n = some (mT d p n)
 | d, 0, deep, p, n, hd, hd2, hk, h0, h1 => by omega
 | 0, k + 1, deep, p, n, hd, hd2, hk, h0, h1 => by
  show zbl (zbm k) p deep n = _
  unfold zbl
  simp only [letB]
  rw [yav (show deep > 12 by omega)]
  rfl
 | d + 1, k + 1, deep, p, n, hd, hd2, hk, h0, h1 => by
  show zbl (zbm k) p deep n = _
  unfold zbl mT
  simp only [letB]
  rw [yau (show ¬ deep > 12 by omega), zlE, zaI (n := n + 1) (by omega) (by omega)]
  simp only [cond_false, Option.bind_some]
  by_cases hs : sizeOK p.Size
  ·rw [if_pos hs, if_neg (by simpa using hs)]
   simp only [ne_eq, not_true_eq_false, decide_false, cond_false]
   by_cases hk1 : p.Kind = 1
   ·rw [if_pos hk1, yav hk1]; rfl
   ·rw [if_neg hk1, yau hk1]
    simp only [cond_false]
    have hkd := zpp (p := p)
    by_cases hko : zeE p
    ·rw [if_neg (by simpa using hko)]
     rw [yav hko] at hkd
     have hkd2 : (Option.bind (bif decide (p.Kind = 2) then some (decide (p.Kind = 2)) else Option.bind (bif decide (p.Kind = 3) then some (decide (p.Kind = 3)) else some (decide (p.Kind = 4))) fun j15 => some j15) fun j16 => (bif j16 then some (.inl ()) else some (.inr (false, n)) : Option (Unit ⊕ (Bool × Int)))) = some (.inl ()) := by
      have := congrArg (fun o => Option.bind o fun j => (bif j then some (.inl ()) else some (.inr (false, n)) : Option (Unit ⊕ (Bool × Int)))) hkd
      simpa only [Option.bind_assoc, Option.bind_some, cond_true] using this
     rw [hkd2]
     simp only [Option.bind_some, or_s]
     by_cases hlen : p.Kids.length < 1 ∨ 16 < p.Kids.length
     ·rw [if_pos hlen]
      have : (decide ((p.Kids.length : Int) < 1) || decide ((p.Kids.length : Int) > 16)) = true := by
       simp only [Bool.or_eq_true, yat]; omega
      rw [this]; rfl
     ·rw [if_neg hlen]
      have : (decide ((p.Kids.length : Int) < 1) || decide ((p.Kids.length : Int) > 16)) = false := by
       simp only [Bool.or_eq_false_iff, decide_eq_false_iff_not]; omega
      rw [this]
      simp only [cond_false]
      obtain ⟨j, e1, e2⟩ := znK (f := mT d) (rec := zbm k) (p := p) (deep := deep) ⟨by omega, by omega⟩ (by omega) (fun x m a b => zif d k (deep + 1) x m (by omega) (by omega) (by omega) a b) (zgC d) p.Kids 0 n h0 h1 (by omega) rfl
      rw [show (0 : Int) = ((0 : Nat) : Int) from rfl, e1, ← e2]
      simp only [Option.bind_some]
      cases j <;> rfl
    ·rw [if_pos (by simpa using hko)]
     rw [yau hko] at hkd
     have hkd2 : (Option.bind (bif decide (p.Kind = 2) then some (decide (p.Kind = 2)) else Option.bind (bif decide (p.Kind = 3) then some (decide (p.Kind = 3)) else some (decide (p.Kind = 4))) fun j15 => some j15) fun j16 => (bif j16 then some (.inl ()) else some (.inr (false, n)) : Option (Unit ⊕ (Bool × Int)))) = some (.inr (false, n)) := by
      have := congrArg (fun o => Option.bind o fun j => (bif j then some (.inl ()) else some (.inr (false, n)) : Option (Unit ⊕ (Bool × Int)))) hkd
      simpa only [Option.bind_assoc, Option.bind_some, cond_false] using this
     rw [hkd2]
     rfl
  ·rw [if_neg hs, if_pos hs]; rfl
theorem zmo (p : Plan) : zb6 p = some (if (mT 12 p 0).1 = true ∧ (p.Float.length : Int) ≤ 24 - (mT 12 p 0).2 then 0 else 100) := by
 have h := zgC 12 p 0 (by omega) (by omega)
 unfold Rng at h
 unfold zb6 zdH
 rw [zif 12 30 1 p 0 (by omega) (by omega) (by omega) (by omega) (by omega)]
 simp only [Option.bind_some, letB, or_s]
 generalize mT 12 p 0 = r at *
 rw [zaI (by omega) (by omega)]
 cases hb : r.1 with
 | false => rw [if_neg (by simp)]; rfl
 | true =>
  by_cases hf : (p.Float.length : Int) ≤ 24 - r.2
  ·rw [if_pos ⟨rfl, hf⟩, yau (by omega)]; rfl
  ·rw [if_neg (fun h => hf h.2), yav (by omega)]; rfl
end Go.Proofs.YtakdnfneikbjjaaGreatDoor.Am.Lay10

set_option linter.all false
namespace Go.Proofs.YtakdnfneikbjjaaGreatDoor.Am.Lay10
open Go.Proofs.YtakdnfneikbjjaaGreatDoor.Am.T
theorem zbL {α : Type} {l : List α} {i : Nat} (h : i < l.length) : idx l (i : Int) = some l[i] := by
 unfold idx
 rw [if_pos (by omega), Int.toNat_natCast, yai h]
theorem zhp {α : Type} {l : List α} {x : α} (h : l.length < 1000000) : app l [x] = some (l ++ [x]) := by
 unfold app
 rw [if_pos (by rw [znI]; simp; omega)]
theorem zdC {α : Type} {l ks : List α} {k : α} {i : Nat} (hk : l.drop i = k :: ks) : ∃ h : i < l.length, l[i] = k ∧ l.drop (i + 1) = ks := by
 have hlt : i < l.length := by
  have := congrArg List.length hk
  simp at this; omega
 refine ⟨hlt, ?_, by rw [← List.drop_drop, hk]; rfl⟩
 have := List.drop_eq_getElem_cons hlt
 rw [hk] at this
 exact (List.cons.inj this).1.symm
end Go.Proofs.YtakdnfneikbjjaaGreatDoor.Am.Lay10

set_option linter.all false
namespace Go.Proofs.YtakdnfneikbjjaaGreatDoor.Am.Lay10
open Go.Proofs.YtakdnfneikbjjaaGreatDoor.Am.T
def Rt : Nat → Plan → Prop
 | 0, _ => False
 | d + 1, p => sizeOK p.Size ∧ (p.Kind = 1 ∨ (p.Kind ≠ 1 ∧ zeE p ∧ 1 ≤ p.Kids.length ∧ p.Kids.length ≤ 16 ∧ ∀ k ∈ p.Kids, Rt d k ∧ (p.Kind = 4 → k.Kind = 1)))
def sumN : List Nat → Nat
 | [] => 0
 | x :: l => x + sumN l
def lv : Nat → Plan → Nat
 | 0, _ => 0
 | d + 1, p => if p.Kind = 1 then 1 else sumN (p.Kids.map (lv d))
theorem zhq {d : Nat} {q : Plan} (hd : ∀ k n n', 0 ≤ n → n ≤ 24 → mT d k n = (true, n') → Rt d k ∧ n' = n + lv d k) : ∀ (ks : List Plan) (n n' : Int), 0 ≤ n → n ≤ 24 → mKids (mT d) q ks n = (true, n') → (∀ k ∈ ks, Rt d k ∧ (q.Kind = 4 → k.Kind = 1)) ∧ n' = n + sumN (ks.map (lv d))
 | [], n, n', h0, h1, h => by
  unfold mKids at h
  cases h
  exact ⟨fun _ h => (by cases h), by simp [sumN]⟩
 | k :: ks, n, n', h0, h1, h => by
  unfold mKids at h
  split at h
  ·cases h
  ·rename_i h4
   split at h
   ·rename_i hb
    have hr := zgC d k n h0 h1
    obtain ⟨a, b⟩ := hd k n (mT d k n).2 h0 h1 (Prod.ext hb rfl)
    have h4' := hr.2.2 hb
    have h5' := hr.1
    obtain ⟨c, e⟩ := zhq hd ks _ n' (by omega) h4' h
    refine ⟨fun x hx => ?_, ?_⟩
    ·rcases List.mem_cons.1 hx with rfl | hx
     ·exact ⟨a, fun h => Classical.byContradiction fun hh => h4 ⟨h, hh⟩⟩
     ·exact c x hx
    ·simp only [List.map_cons, sumN]; omega
   ·cases h
theorem zlF : ∀ (d : Nat) (p : Plan) (n n' : Int), 0 ≤ n → n ≤ 24 → mT d p n = (true, n') → Rt d p ∧ n' = n + lv d p
 | 0, p, n, n', h0, h1, h => by cases h
 | d + 1, p, n, n', h0, h1, h => by
  unfold mT at h
  unfold Rt lv
  split at h
  ·cases h
  ·rename_i hs
   have hs : sizeOK p.Size := Classical.not_not.1 hs
   split at h
   ·rename_i hk
    obtain ⟨_, rfl⟩ := Prod.mk.inj h
    rw [if_pos hk]
    exact ⟨⟨hs, .inl hk⟩, rfl⟩
   ·rename_i hk
    split at h
    ·cases h
    ·rename_i hko
     have hko : zeE p := Classical.not_not.1 hko
     split at h
     ·cases h
     ·rename_i hlen
      obtain ⟨a, b⟩ := zhq (zlF d) p.Kids n n' h0 h1 h
      rw [if_neg hk]
      exact ⟨⟨hs, .inr ⟨hk, hko, by omega, by omega, a⟩⟩, b⟩
theorem Rt.sizeOK {d : Nat} {p : Plan} (h : Rt d p) : sizeOK p.Size := by
 cases d with
 | zero => exact h.elim
 | succ d => exact h.1
end Go.Proofs.YtakdnfneikbjjaaGreatDoor.Am.Lay10

set_option linter.all false
namespace Go.Proofs.YtakdnfneikbjjaaGreatDoor.Am.Lay10
open Go.Proofs.YtakdnfneikbjjaaGreatDoor.Am.T
def okP (p : Plan) : Prop := (mT 12 p 0).1 = true ∧ (p.Float.length : Int) ≤ 24 - (mT 12 p 0).2
theorem zhr {p : Plan} (h : okP p) : Rt 12 p ∧ (mT 12 p 0).2 = lv 12 p ∧ lv 12 p + p.Float.length ≤ 24 := by
 obtain ⟨h1, h2⟩ := h
 obtain ⟨a, b⟩ := zlF 12 p 0 (mT 12 p 0).2 (by omega) (by omega) (Prod.ext h1 rfl)
 exact ⟨a, by omega, by omega⟩
end Go.Proofs.YtakdnfneikbjjaaGreatDoor.Am.Lay10

set_option linter.all false
namespace Go.Proofs.YtakdnfneikbjjaaGreatDoor.Am.Lay10
open Go.Proofs.YtakdnfneikbjjaaGreatDoor.Am.T
end Go.Proofs.YtakdnfneikbjjaaGreatDoor.Am.Lay10

set_option linter.all false
namespace Go.Proofs.YtakdnfneikbjjaaGreatDoor.Am.Lay10
open Go.Proofs.YtakdnfneikbjjaaGreatDoor.Am.T
noncomputable def zbo (s_ : Size) : Option Bool :=
 letB (decide (s_.Kind = 0)) fun c1 =>
 (bif c1 then some true else (
  letB (decide (s_.Kind = 1)) fun c3 =>
  (bif c3 then (
   letB (decide (s_.N ≥ 1)) fun c5 =>
   some (c5)) else some false).bind fun g4 =>
  (bif g4 then (
   letB (decide (s_.N ≤ 200)) fun c8 =>
   some (c8)) else some false).bind fun g7 =>
  some (g7))).bind fun g2 =>
 (bif g2 then some true else (
  letB (decide (s_.Kind = 2)) fun c12 =>
  (bif c12 then (
   letB (decide (s_.N ≥ 1)) fun c14 =>
   some (c14)) else some false).bind fun g13 =>
  (bif g13 then (
   letB (decide (s_.N ≤ 100)) fun c17 =>
   some (c17)) else some false).bind fun g16 =>
  some (g16))).bind fun g11 =>
 some g11
set_option maxRecDepth 20000 in
theorem zel {s_ : Size} {r : Bool} (h : zbo s_ = some r) : zam true (RF ET) 63 [.agg (Size.c s_)] [] (.bool r) [] := by
 refine zam.quiet (zaX (af := a63) rfl rfl ?_) rfl
 unfold zbo at h
 refine zaa ?_
 refine zad [1] [0] ?_
 refine zac ?_
 refine zaa ?_
 refine zad [2] [0] ?_
 refine zai 4 ?_
 refine zac ?_
 refine fun c1 hc1 => ?_
 replace h := zaf hc1 h
 obtain ⟨g2, hg2, h⟩ := zab h
 refine zas 14 20 [1, 20] g2 ?_ ?_
 ·clear h
  replace h := hg2
  clear hg2
  cases hb10 : c1 with
  | false =>
   replace h := zak hb10 h
   refine zai 4 ?_
   refine zac ?_
   refine fun c3 hc3 => ?_
   replace h := zaf hc3 h
   obtain ⟨g4, hg4, h⟩ := zab h
   refine zas 4 14 [1, 6, 14] g4 ?_ ?_
   ·clear h
    replace h := hg4
    clear hg4
    cases hb6 : c3 with
    | true =>
     replace h := zaj hb6 h
     refine zac ?_
     refine fun c5 hc5 => ?_
     replace h := zaf hc5 h
     cases h
     exact ⟨rfl, rfl, rfl⟩
    | false =>
     replace h := zak hb6 h
     cases h
     refine zac ?_
     exact ⟨rfl, rfl, rfl⟩
   refine zai 1 ?_
   refine zac ?_
   obtain ⟨g7, hg7, h⟩ := zab h
   refine zas 4 19 [1, 6, 19] g7 ?_ ?_
   ·clear h
    replace h := hg7
    clear hg7
    cases hb9 : g4 with
    | true =>
     replace h := zaj hb9 h
     refine zac ?_
     refine fun c8 hc8 => ?_
     replace h := zaf hc8 h
     cases h
     exact ⟨rfl, rfl, rfl⟩
    | false =>
     replace h := zak hb9 h
     cases h
     refine zac ?_
     exact ⟨rfl, rfl, rfl⟩
   refine zac ?_
   cases h
   exact ⟨rfl, rfl, rfl⟩
  | true =>
   replace h := zaj hb10 h
   cases h
   refine zac ?_
   exact ⟨rfl, rfl, rfl⟩
 refine zai 1 ?_
 refine zac ?_
 obtain ⟨g11, hg11, h⟩ := zab h
 refine zas 14 35 [35] g11 ?_ ?_
 ·clear h
  replace h := hg11
  clear hg11
  cases hb19 : g2 with
  | false =>
   replace h := zak hb19 h
   refine zai 4 ?_
   refine zac ?_
   refine fun c12 hc12 => ?_
   replace h := zaf hc12 h
   obtain ⟨g13, hg13, h⟩ := zab h
   refine zas 4 29 [1, 21, 29] g13 ?_ ?_
   ·clear h
    replace h := hg13
    clear hg13
    cases hb15 : c12 with
    | true =>
     replace h := zaj hb15 h
     refine zac ?_
     refine fun c14 hc14 => ?_
     replace h := zaf hc14 h
     cases h
     exact ⟨rfl, rfl, rfl⟩
    | false =>
     replace h := zak hb15 h
     cases h
     refine zac ?_
     exact ⟨rfl, rfl, rfl⟩
   refine zai 1 ?_
   refine zac ?_
   obtain ⟨g16, hg16, h⟩ := zab h
   refine zas 4 34 [21, 34] g16 ?_ ?_
   ·clear h
    replace h := hg16
    clear hg16
    cases hb18 : g13 with
    | true =>
     replace h := zaj hb18 h
     refine zac ?_
     refine fun c17 hc17 => ?_
     replace h := zaf hc17 h
     cases h
     exact ⟨rfl, rfl, rfl⟩
    | false =>
     replace h := zak hb18 h
     cases h
     refine zac ?_
     exact ⟨rfl, rfl, rfl⟩
   refine zac ?_
   cases h
   exact ⟨rfl, rfl, rfl⟩
  | true =>
   replace h := zaj hb19 h
   cases h
   refine zac ?_
   exact ⟨rfl, rfl, rfl⟩
 refine zac ?_
 refine zao ?_
 cases h
 exact ⟨rfl, rfl, rfl, rfl, rfl⟩
noncomputable def casementref10_leavesF_l1 (p : Plan) (deep : Int) (rec38 : Plan → Int → Option Int) (n : Int) (i : Int) : Option ((Int × Int) ⊕ (Unit ⊕ Int)) :=
 letB (decide (i < (p.Kids.length : Int))) fun c19 =>
 (bif c19 then (
  letB (decide (n ≤ 24)) fun c21 =>
  some (c21)) else some false).bind fun g20 =>
 bif g20 then (
  letB (decide (p.Kind = 4)) fun c24 =>
  (bif c24 then (
   (idx p.Kids i).bind fun x26 =>
   letB (decide (x26.Kind ≠ 1)) fun c27 =>
   some (c27)) else some false).bind fun g25 =>
  bif g25 then (
   some (.inr (.inl ())))
  else (
   (idx p.Kids i).bind fun x30 =>
   (rec38 x30 (w64 (deep + 1))).bind fun y31 =>
   some (.inl (w64 (n + y31), w64 (i + 1)))))
 else (
  some (.inr (.inr n)))
noncomputable def zaJ (rec38 : Plan → Int → Option Int) (p : Plan) (deep : Int) : Option Int :=
 letB (decide (deep > 12)) fun c1 =>
 (bif c1 then some true else (
  (zbo p.Size).bind fun y3 =>
  some ((!y3)))).bind fun g2 =>
 bif g2 then (
  some 25)
 else (
  letB (decide (p.Kind = 1)) fun c6 =>
  bif c6 then (
   some 1)
  else (
   letB (decide (p.Kind < 2)) fun c8 =>
   (bif c8 then some true else (
    letB (decide (p.Kind > 4)) fun c10 =>
    some (c10))).bind fun g9 =>
   (bif g9 then some true else (
    letB (decide ((p.Kids.length : Int) < 1)) fun c13 =>
    some (c13))).bind fun g12 =>
   (bif g12 then some true else (
    letB (decide ((p.Kids.length : Int) > 16)) fun c16 =>
    some (c16))).bind fun g15 =>
   bif g15 then (
    some 25)
   else (
    (iter (fun s => casementref10_leavesF_l1 p deep rec38 s.1 s.2 : (Int × Int) → Option ((Int × Int) ⊕ (Unit ⊕ Int))) (0, 0)).bind fun j32 =>
    match j32 with
    | .inl z33 => (
     some 25)
    | .inr z34 => (
     some z34))))
set_option maxRecDepth 20000 in
theorem zdW {rec38 : Plan → Int → Option Int} (rec38_ok : ∀ (a0 : Plan) (a1 : Int) (r : Int), rec38 a0 a1 = some r → zam true (RF ET) 38 [.agg (Plan.e a0), .int .i64 a1] [] (.int .i64 r) []) {p : Plan} {deep : Int} {r : Int} (h : zaJ rec38 p deep = some r) : zam true (RF ET) 38 [.agg (Plan.e p), .int .i64 deep] [] (.int .i64 r) [] := by
 refine zam.quiet (zaX (af := a38) rfl rfl ?_) rfl
 unfold zaJ at h
 refine zaa ?_
 refine zad [1, 2] [0] ?_
 refine zac ?_
 refine zaa ?_
 refine zaa ?_
 refine zad [1, 2, 14] [0] ?_
 refine zai 3 ?_
 refine zac ?_
 refine fun c1 hc1 => ?_
 replace h := zaf hc1 h
 obtain ⟨g2, hg2, h⟩ := zab h
 refine zas 5 14 [1, 2, 14] g2 ?_ ?_
 ·clear h
  replace h := hg2
  clear hg2
  cases hb4 : c1 with
  | false =>
   replace h := zak hb4 h
   refine zac ?_
   obtain ⟨y3, hy3, h⟩ := zab h
   refine ⟨_, zel hy3, ?_⟩
   cases h
   exact ⟨rfl, rfl, rfl⟩
  | true =>
   replace h := zaj hb4 h
   cases h
   refine zac ?_
   exact ⟨rfl, rfl, rfl⟩
 refine zac ?_
 refine zag (b := g2) rfl (fun hb5 => ?_) (fun hb5 => ?_)
 ·replace h := zaj hb5 h
  refine zaa ?_
  refine zad [4] [0] ?_
  refine zac ?_
  refine zao ?_
  cases h
  exact ⟨rfl, rfl, rfl, rfl, rfl⟩
 ·replace h := zak hb5 h
  refine zah ?_
  refine zaa ?_
  refine zaa ?_
  refine zad [1, 2, 17] [0] ?_
  refine zac ?_
  refine fun c6 hc6 => ?_
  replace h := zaf hc6 h
  refine zag (b := c6) rfl (fun hb7 => ?_) (fun hb7 => ?_)
  ·replace h := zaj hb7 h
   refine zaa ?_
   refine zad [4] [0] ?_
   refine zac ?_
   refine zao ?_
   cases h
   exact ⟨rfl, rfl, rfl, rfl, rfl⟩
  ·replace h := zak hb7 h
   refine zah ?_
   refine zaa ?_
   refine zaa ?_
   refine zad [1, 2, 37] [0] ?_
   refine zai 4 ?_
   refine zac ?_
   refine fun c8 hc8 => ?_
   replace h := zaf hc8 h
   obtain ⟨g9, hg9, h⟩ := zab h
   refine zas 4 25 [1, 2, 25] g9 ?_ ?_
   ·clear h
    replace h := hg9
    clear hg9
    cases hb11 : c8 with
    | false =>
     replace h := zak hb11 h
     refine zac ?_
     refine fun c10 hc10 => ?_
     replace h := zaf hc10 h
     cases h
     exact ⟨rfl, rfl, rfl⟩
    | true =>
     replace h := zaj hb11 h
     cases h
     refine zac ?_
     exact ⟨rfl, rfl, rfl⟩
   refine zai 1 ?_
   refine zac ?_
   obtain ⟨g12, hg12, h⟩ := zab h
   refine zas 5 31 [1, 2, 31] g12 ?_ ?_
   ·clear h
    replace h := hg12
    clear hg12
    cases hb14 : g9 with
    | false =>
     replace h := zak hb14 h
     refine zac ?_
     refine ⟨_, (lenR Plan.cs_is).symm, ?_⟩
     refine fun c13 hc13 => ?_
     replace h := zaf hc13 h
     cases h
     exact ⟨rfl, rfl, rfl⟩
    | true =>
     replace h := zaj hb14 h
     cases h
     refine zac ?_
     exact ⟨rfl, rfl, rfl⟩
   refine zai 1 ?_
   refine zac ?_
   obtain ⟨g15, hg15, h⟩ := zab h
   refine zas 5 37 [1, 2, 37] g15 ?_ ?_
   ·clear h
    replace h := hg15
    clear hg15
    cases hb17 : g12 with
    | false =>
     replace h := zak hb17 h
     refine zac ?_
     refine ⟨_, (lenR Plan.cs_is).symm, ?_⟩
     refine fun c16 hc16 => ?_
     replace h := zaf hc16 h
     cases h
     exact ⟨rfl, rfl, rfl⟩
    | true =>
     replace h := zaj hb17 h
     cases h
     refine zac ?_
     exact ⟨rfl, rfl, rfl⟩
   refine zac ?_
   refine zag (b := g15) rfl (fun hb18 => ?_) (fun hb18 => ?_)
   ·replace h := zaj hb18 h
    refine zaa ?_
    refine zad [4] [0] ?_
    refine zac ?_
    refine zao ?_
    cases h
    exact ⟨rfl, rfl, rfl, rfl, rfl⟩
   ·replace h := zak hb18 h
    refine zah ?_
    refine zaa ?_
    refine zad [1, 2, 5] [0] ?_
    refine zac ?_
    refine zaa ?_
    refine zaa ?_
    refine zad [1, 2, 5, 6] [0] ?_
    refine zac ?_
    refine zaN ?_
    obtain ⟨j32, hj32, h⟩ := zab h
    refine zds hj32 [0] (fun s => ([(1, .int .i64 deep), (2, .loc 0 0), (5, .int .i64 s.1), (6, .int .i64 s.2)], [(0, (Plan.e p))], [])) (fun e => match e with | .ret => [4] | .exit 0 => [5] | _ => []) (fun e => match e with | .ret => [0] | .exit 0 => [0] | _ => []) (fun r => match r with | .inl z => (.ret, [(4, .int .i64 25)], [(0, (Plan.e p))], []) | .inr z => (.exit 0, [(5, .int .i64 z)], [(0, (Plan.e p))], [])) ?_ ?_ ?_
    ·exact rfl
    ·clear h
     rintro ⟨n, i⟩ x h
     replace h : casementref10_leavesF_l1 p deep rec38 n i = some x := h
     unfold casementref10_leavesF_l1 at h
     show T.WP _ _ [(1, .int .i64 deep), (2, .loc 0 0), (5, .int .i64 n), (6, .int .i64 i)] [(0, (Plan.e p))] [] _
     refine zaa ?_
     refine zaa ?_
     refine zad [1, 2, 5, 6, 46] [0] ?_
     refine zai 6 ?_
     refine zac ?_
     refine ⟨_, (lenR Plan.cs_is).symm, ?_⟩
     refine fun c19 hc19 => ?_
     replace h := zaf hc19 h
     obtain ⟨g20, hg20, h⟩ := zab h
     refine zas 3 46 [1, 2, 5, 6, 46] g20 ?_ ?_
     ·clear h
      replace h := hg20
      clear hg20
      cases hb22 : c19 with
      | true =>
       replace h := zaj hb22 h
       refine zac ?_
       refine fun c21 hc21 => ?_
       replace h := zaf hc21 h
       cases h
       exact ⟨rfl, rfl, rfl⟩
      | false =>
       replace h := zak hb22 h
       cases h
       refine zac ?_
       exact ⟨rfl, rfl, rfl⟩
     refine zac ?_
     refine zag (b := g20) rfl (fun hb23 => ?_) (fun hb23 => ?_)
     ·replace h := zaj hb23 h
      refine zah ?_
      refine zaa ?_
      refine zaN ?_
      refine zaa ?_
      refine zaa ?_
      refine zad [1, 2, 5, 6, 60] [0] ?_
      refine zai 4 ?_
      refine zac ?_
      refine fun c24 hc24 => ?_
      replace h := zaf hc24 h
      obtain ⟨g25, hg25, h⟩ := zab h
      refine zas 8 60 [1, 2, 5, 6, 60] g25 ?_ ?_
      ·clear h
       replace h := hg25
       clear hg25
       cases hb28 : c24 with
       | true =>
        replace h := zaj hb28 h
        refine zac ?_
        obtain ⟨x26, hx26, h⟩ := zab h
        refine And.intro (zb0 hx26) ⟨_, zcD Plan.cs_is hx26, ?_⟩
        refine fun c27 hc27 => ?_
        replace h := zaf hc27 h
        cases h
        exact ⟨rfl, rfl, rfl⟩
       | false =>
        replace h := zak hb28 h
        cases h
        refine zac ?_
        exact ⟨rfl, rfl, rfl⟩
      refine zac ?_
      refine zag (b := g25) rfl (fun hb29 => ?_) (fun hb29 => ?_)
      ·replace h := zaj hb29 h
       refine zaa ?_
       refine zad [4] [0] ?_
       refine zac ?_
       refine zao ?_
       cases h
       exact ⟨_, rfl, rfl⟩
      ·replace h := zak hb29 h
       refine zah ?_
       refine zad [1, 2, 5, 6] [0] ?_
       refine zac ?_
       obtain ⟨x30, hx30, h⟩ := zab h
       refine And.intro (zb0 hx30) ⟨_, zcD Plan.cs_is hx30, ?_⟩
       obtain ⟨y31, hy31, h⟩ := zab h
       refine ⟨_, _, zam.any (rec38_ok _ _ _ hy31) rfl _ rfl, ?_⟩
       refine zad [1, 2, 5, 6] [0] ?_
       refine zac ?_
       cases h
       exact ⟨_, rfl, rfl⟩
     ·replace h := zak hb23 h
      refine zcO ?_
      cases h
      exact ⟨_, rfl, rfl⟩
    rcases j32 with z33 | z34
    ·cases h
     exact ⟨rfl, rfl, rfl, rfl, rfl⟩
    ·refine zaa ?_
     refine zad [4] [0] ?_
     refine zac ?_
     refine zao ?_
     cases h
     exact ⟨rfl, rfl, rfl, rfl, rfl⟩
noncomputable def zaK : Nat → (Plan → Int → Option Int)
 | 0 => fun _ _ => none
 | k + 1 => zaJ ((zaK k))
theorem zcw : ∀ k, (∀ (a0 : Plan) (a1 : Int) (r : Int), ((zaK k)) a0 a1 = some r → zam true (RF ET) 38 [.agg (Plan.e a0), .int .i64 a1] [] (.int .i64 r) [])
 | 0 => (fun _ _ _ h => by cases h)
 | k + 1 => (fun _ _ _ h => zdW ((zcw k)) h)
noncomputable def zcd (a0 : Plan) (a1 : Int) : Option Int := (zaK 30) a0 a1
theorem zed {a0 : Plan} {a1 : Int} {r : Int} (h : zcd a0 a1 = some r) : zam true (RF ET) 38 [.agg (Plan.e a0), .int .i64 a1] [] (.int .i64 r) [] := (zcw 30) a0 a1 r h
noncomputable def zaL (p : Plan) : Option Bool :=
 letB (decide ((p.Float.length : Int) ≤ 24)) fun c1 =>
 (bif c1 then (
  (zcd p 1).bind fun y3 =>
  letB (decide ((w64 (y3 + (p.Float.length : Int))) ≤ 24)) fun c4 =>
  some (c4)) else some false).bind fun g2 =>
 some g2
set_option maxRecDepth 20000 in
theorem zem {p : Plan} {r : Bool} (h : zaL p = some r) : zam true (RF ET) 14 [.agg (Plan.e p)] [] (.bool r) [] := by
 refine zam.quiet (zaX (af := a14) rfl rfl ?_) rfl
 unfold zaL at h
 refine zaa ?_
 refine zad [1] [0] ?_
 refine zac ?_
 refine zaa ?_
 refine zad [2] [0] ?_
 refine zai 5 ?_
 refine zf2 ?_
 refine ⟨_, (yal ..).symm, ?_⟩
 refine fun c1 hc1 => ?_
 replace h := zaf hc1 h
 obtain ⟨g2, hg2, h⟩ := zab h
 refine zas 8 15 [15] g2 ?_ ?_
 ·clear h
  replace h := hg2
  clear hg2
  cases hb5 : c1 with
  | true =>
   replace h := zaj hb5 h
   refine zf2 ?_
   obtain ⟨y3, hy3, h⟩ := zab h
   refine ⟨_, _, zam.any (zed hy3) rfl _ rfl, ?_⟩
   refine ⟨_, (yal ..).symm, ?_⟩
   refine fun c4 hc4 => ?_
   replace h := zaf hc4 h
   cases h
   exact ⟨rfl, rfl, rfl⟩
  | false =>
   replace h := zak hb5 h
   cases h
   refine zf2 ?_
   exact ⟨rfl, rfl, rfl⟩
 refine zf2 ?_
 refine zao ?_
 cases h
 exact ⟨rfl, rfl, rfl, rfl, rfl⟩
structure Val where
 Kind : Int
 Text : List Int
 Int : Int
 Bool : Bool
def Val.c (x : Val) : List TV := [.int .i64 x.Kind, .str x.Text, .int .i64 x.Int, .bool x.Bool]
structure Prop_ where
 Name : List Int
 Val : Val
def Prop_.c (x : Prop_) : List TV := [.str x.Name, .int .i64 x.Val.Kind, .str x.Val.Text, .int .i64 x.Val.Int, .bool x.Val.Bool]
structure Node where
 Name : List Int
 Args : List Val
 Props : List Prop_
 Kids : List Node
mutual
def Node.e' : Node → List TV
 | ⟨a0, a1, a2, a3⟩ => [.str a0, .sl false 4 (List.map Val.c a1), .sl false 5 (List.map Prop_.c a2), .sl false 4 (Node.cs a3)]
def Node.cs : List Node → List (List TV)
 | [] => []
 | x :: l => Node.e' x :: Node.cs l
end
def Node.e (x : Node) : List TV := [.str x.Name, .sl false 4 (List.map Val.c x.Args), .sl false 5 (List.map Prop_.c x.Props), .sl false 4 (Node.cs x.Kids)]
theorem Node.e_is (x : Node) : Node.e' x = Node.e x := by
 cases x; simp only [Node.e', Node.e]
theorem Node.cs_is : ∀ l : List Node, Node.cs l = l.map Node.e
 | [] => rfl
 | x :: l => by rw [Node.cs, Node.e_is, Node.cs_is l]; rfl
end Go.Proofs.YtakdnfneikbjjaaGreatDoor.Am.Lay10

set_option linter.all false
namespace Go.Proofs.YtakdnfneikbjjaaGreatDoor.Am.Lay10
open Go.Proofs.YtakdnfneikbjjaaGreatDoor.Am.T
theorem zoJ (s : Size) : zbo s = some (decide (sizeOK s)) := by
 unfold zbo sizeOK
 simp only [letB, zoG, or_s, Option.bind_some]
 by_cases k0 : s.Kind = 0 <;> by_cases k1 : s.Kind = 1 <;> by_cases k2 : s.Kind = 2 <;> by_cases a : s.N ≥ 1 <;> by_cases b : s.N ≤ 200 <;> by_cases c : s.N ≤ 100 <;> first | (exfalso; omega) | simp [*]
end Go.Proofs.YtakdnfneikbjjaaGreatDoor.Am.Lay10

set_option linter.all false
namespace Go.Proofs.YtakdnfneikbjjaaGreatDoor.Am.Lay10
open Go.Proofs.YtakdnfneikbjjaaGreatDoor.Am.T
end Go.Proofs.YtakdnfneikbjjaaGreatDoor.Am.Lay10

set_option linter.all false
namespace Go.Proofs.YtakdnfneikbjjaaGreatDoor.Am.Lay10
open Go.Proofs.YtakdnfneikbjjaaGreatDoor.Am.T
def lvK (f : Plan → Int) (q : Plan) : List Plan → Int → Int
 | [], n => n
 | k :: ks, n => if n ≤ 24 then (if q.Kind = 4 ∧ k.Kind ≠ 1 then 25 else lvK f q ks (n + f k)) else n
def lvR : Nat → Plan → Int
 | 0, _ => 25
 | d + 1, p => if ¬ sizeOK p.Size then 25 else if p.Kind = 1 then 1 else if p.Kind < 2 ∨ p.Kind > 4 ∨ p.Kids.length < 1 ∨ p.Kids.length > 16 then 25 else lvK (lvR d) p p.Kids 0
theorem zj0 {f : Plan → Int} {q : Plan} {B : Int} (hB : 25 ≤ B) (hf : ∀ k, 0 ≤ f k ∧ f k ≤ B) : ∀ (ks : List Plan) (n : Int), 0 ≤ n → n ≤ 24 + B → 0 ≤ lvK f q ks n ∧ lvK f q ks n ≤ 24 + B
 | [], n, h0, h1 => ⟨h0, h1⟩
 | k :: ks, n, h0, h1 => by
  unfold lvK
  split
  ·split
   ·omega
   ·have := hf k
    exact zj0 hB hf ks (n + f k) (by omega) (by omega)
  ·exact ⟨h0, h1⟩
theorem zeF : ∀ (d : Nat) (p : Plan), 0 ≤ lvR d p ∧ lvR d p ≤ 25 + 24 * d
 | 0, p => by unfold lvR; omega
 | d + 1, p => by
  unfold lvR
  split
  ·omega
  ·split
   ·omega
   ·split
    ·omega
    ·have := zj0 (q := p) (B := 25 + 24 * d) (by omega) (zeF d) p.Kids 0 (by omega) (by omega)
     omega
theorem zpq {f : Plan → Int} {q : Plan} {ks : List Plan} {n : Int} (h : 24 < n) : lvK f q ks n = n := by
 cases ks with
 | nil => rfl
 | cons k ks => unfold lvK; rw [if_neg (by omega)]
theorem zj1 {d : Nat} {q : Plan} (hd : ∀ k, (Rt d k ∧ lv d k ≤ 24 → lvR d k = lv d k) ∧ (lvR d k ≤ 24 → Rt d k ∧ lv d k ≤ 24)) : ∀ (ks : List Plan) (n : Int), 0 ≤ n →
  ((∀ k ∈ ks, Rt d k ∧ (q.Kind = 4 → k.Kind = 1)) ∧ n + sumN (ks.map (lv d)) ≤ 24 → lvK (lvR d) q ks n = n + sumN (ks.map (lv d))) ∧ (lvK (lvR d) q ks n ≤ 24 → (∀ k ∈ ks, Rt d k ∧ (q.Kind = 4 → k.Kind = 1)) ∧ n + sumN (ks.map (lv d)) ≤ 24)
 | [], n, h0 => ⟨fun _ => by simp [lvK, sumN], fun h => ⟨fun k hk => (by cases hk), by simpa [lvK, sumN] using h⟩⟩
 | k :: ks, n, h0 => by
  obtain ⟨i1, i2⟩ := zj1 (q := q) hd ks (n + lvR d k) (by have := zeF d k; omega)
  obtain ⟨d1, d2⟩ := hd k
  simp only [List.map_cons, sumN]
  refine ⟨fun ⟨h1, h2⟩ => ?_, fun h => ?_⟩
  ·obtain ⟨r1, r2⟩ := h1 k (.head _)
   have e := d1 ⟨r1, by omega⟩
   unfold lvK
   rw [if_pos (by omega), if_neg (fun hc => hc.2 (r2 hc.1)), i1 ⟨fun x hx => h1 x (.tail _ hx), by omega⟩, e]
   omega
  ·unfold lvK at h
   split at h
   ·split at h
    ·omega
    ·rename_i hn hc
     by_cases hbig : 24 < n + lvR d k
     ·rw [zpq hbig] at h; omega
     ·have hR := zeF d k
      obtain ⟨r1, r2⟩ := d2 (by omega)
      have e := d1 ⟨r1, r2⟩
      obtain ⟨j1, j2⟩ := i2 h
      refine ⟨fun x hx => ?_, by omega⟩
      rcases List.mem_cons.1 hx with rfl | hx
      ·exact ⟨r1, fun h4 => Classical.byContradiction fun hne => hc ⟨h4, hne⟩⟩
      ·exact j1 x hx
   ·omega
theorem zj2 : ∀ (d : Nat) (p : Plan), (Rt d p ∧ lv d p ≤ 24 → lvR d p = lv d p) ∧ (lvR d p ≤ 24 → Rt d p ∧ lv d p ≤ 24)
 | 0, p => ⟨fun h => h.1.elim, fun h => by unfold lvR at h; omega⟩
 | d + 1, p => by
  obtain ⟨k1, k2⟩ := zj1 (q := p) (zj2 d) p.Kids 0 (Int.le_refl _)
  refine ⟨fun ⟨h1, h2⟩ => ?_, fun h => ?_⟩
  ·obtain ⟨hs, h | ⟨hk, hko, hn0, hl, hks⟩⟩ := h1
   ·unfold lvR lv
    rw [if_neg (by simpa using hs), if_pos h, if_pos h]; rfl
   ·unfold lv at h2 ⊢
    unfold lvR
    rw [if_neg hk] at h2 ⊢
    unfold zeE at hko
    rw [if_neg (by simpa using hs), if_neg hk, if_neg (by omega), k1 ⟨hks, by omega⟩]
    omega
  ·unfold lvR at h
   split at h
   ·omega
   ·rename_i hs
    split at h
    ·rename_i h1
     refine ⟨⟨by simpa using hs, .inl h1⟩, ?_⟩
     unfold lv
     rw [if_pos h1]; omega
    ·rename_i h1
     split at h
     ·omega
     ·rename_i hc
      obtain ⟨j1, j2⟩ := k2 h
      refine ⟨⟨by simpa using hs, .inr ⟨h1, by unfold zeE; omega, by omega, by omega, j1⟩⟩, ?_⟩
      unfold lv
      rw [if_neg h1]; omega
theorem zlG {p : Plan} {deep : Int} {rec : Plan → Int → Option Int} {d : Nat} (hd12 : d ≤ 12) (hl : p.Kids.length ≤ 16) (hdeep : 0 ≤ deep ∧ deep ≤ 100) (hrec : ∀ k, rec k (deep + 1) = some (lvR d k)) :
  ∀ (ks : List Plan) (i : Nat) (n : Int), p.Kids.drop i = ks → i + ks.length = p.Kids.length → 0 ≤ n → n ≤ 1000 →
  ∃ j, iter (fun s => casementref10_leavesF_l1 p deep rec s.1 s.2 : (Int × Int) → Option ((Int × Int) ⊕ (Unit ⊕ Int))) (n, (i : Int)) = some j ∧ (match j with | .inl _ => 25 | .inr z => z) = lvK (lvR d) p ks n
 | [], i, n, hd, hi, h0, h1 => by
  refine ⟨.inr n, zaB ?_, rfl⟩
  simp only [casementref10_leavesF_l1, letB]
  rw [yau (by simp only [List.length_nil] at hi; omega)]; rfl
 | k :: ks, i, n, hd, hi, h0, h1 => by
  obtain ⟨hlt, hget, hdrop⟩ := zdC hd
  simp only [List.length_cons] at hi
  have hidx : idx p.Kids (i : Int) = some k := by rw [zbL hlt, hget]
  unfold lvK
  by_cases hn : n ≤ 24
  ·rw [if_pos hn]
   by_cases hc : p.Kind = 4 ∧ k.Kind ≠ 1
   ·rw [if_pos hc]
    refine ⟨.inl (), zaB ?_, rfl⟩
    simp only [casementref10_leavesF_l1, letB]
    rw [yav (show (i : Int) < (p.Kids.length : Int) by omega), yav hn, yav hc.1]
    simp only [cond_true, Option.bind_some, hidx]
    rw [yav hc.2]; rfl
   ·rw [if_neg hc]
    have hR := zeF d k
    obtain ⟨j, e, r⟩ := zlG hd12 hl hdeep hrec ks (i + 1) (n + lvR d k) hdrop (by omega) (by omega) (by omega)
    refine ⟨j, (zaO ?_).trans e, r⟩
    simp only [casementref10_leavesF_l1, letB]
    rw [yav (show (i : Int) < (p.Kids.length : Int) by omega), yav hn, zaI (n := (i : Int) + 1) (by omega) (by omega), zaI (n := deep + 1) (by omega) (by omega)]
    simp only [cond_true, Option.bind_some, hidx, hrec]
    have hg : (bif decide (p.Kind = 4) then some (decide (k.Kind ≠ 1)) else some false) = some false := by
     by_cases h4 : p.Kind = 4
     ·rw [yav h4, yau (fun h => hc ⟨h4, h⟩)]; rfl
     ·rw [yau h4]; rfl
    simp only [hg, Option.bind_some, cond_false]
    rw [zaI (by omega) (by omega)]
    rfl
  ·rw [if_neg hn]
   refine ⟨.inr n, zaB ?_, rfl⟩
   simp only [casementref10_leavesF_l1, letB]
   rw [yav (show (i : Int) < (p.Kids.length : Int) by omega), yau hn]; rfl
theorem zj3 : ∀ (d k : Nat) (deep : Int) (p : Plan), deep = 13 - (d : Int) → d ≤ 12 → d + 1 ≤ k → zaK k p deep = some (lvR d p)
 | d, 0, deep, p, hd, hd2, hk => by omega
 | 0, k + 1, deep, p, hd, hd2, hk => by
  show zaJ (zaK k) p deep = _
  unfold zaJ
  simp only [letB]
  rw [yav (by omega)]; rfl
 | d + 1, k + 1, deep, p, hd, hd2, hk => by
  show zaJ (zaK k) p deep = _
  unfold zaJ lvR
  simp only [letB, zoJ, Option.bind_some]
  rw [yau (by omega)]
  by_cases hs : sizeOK p.Size
  ·rw [yav hs, if_neg (by simpa using hs)]
   simp only [cond_false, Option.bind_some, Bool.not_true]
   by_cases h1 : p.Kind = 1
   ·rw [yav h1, if_pos h1]; rfl
   ·rw [yau h1, if_neg h1]
    simp only [cond_false, or_s, Option.bind_some]
    by_cases hc : p.Kind < 2 ∨ p.Kind > 4 ∨ p.Kids.length < 1 ∨ p.Kids.length > 16
    ·rw [if_pos hc]
     have : (((decide (p.Kind < 2) || decide (p.Kind > 4)) || decide ((p.Kids.length : Int) < 1)) || decide ((p.Kids.length : Int) > 16)) = true := by
      simp only [Bool.or_eq_true, yat]; omega
     rw [this]; rfl
    ·rw [if_neg hc]
     have : (((decide (p.Kind < 2) || decide (p.Kind > 4)) || decide ((p.Kids.length : Int) < 1)) || decide ((p.Kids.length : Int) > 16)) = false := by
      simp only [Bool.or_eq_false_iff, decide_eq_false_iff_not]; omega
     rw [this]
     obtain ⟨j, e, r⟩ := zlG (p := p) (deep := deep) (rec := zaK k) (d := d) (by omega) (by omega) (by omega) (fun q => zj3 d k (deep + 1) q (by omega) (by omega) (by omega)) p.Kids 0 0 rfl (by omega) (by omega) (by omega)
     simp only [show ((0 : Nat) : Int) = 0 from rfl] at e
     simp only [cond_false, e, Option.bind_some]
     cases j with
     | inl u => simp only at r ⊢; rw [r]
     | inr z => simp only at r ⊢; rw [r]
  ·rw [yau hs, if_pos hs]; rfl
theorem zhs : ∀ (d : Nat) (p : Plan) (n : Int), 0 ≤ n → Rt d p → n + lv d p ≤ 24 → mT d p n = (true, n + lv d p)
 | 0, p, n, h0, h, hs => h.elim
 | d + 1, p, n, h0, h, hs => by
  obtain ⟨hso, h | ⟨hk, hko, hn0, hl, hks⟩⟩ := h
  ·unfold mT lv at *
   rw [if_pos h] at hs ⊢
   rw [if_neg (by simpa using hso), if_pos h, yav (by omega)]; rfl
  ·unfold mT lv at *
   rw [if_neg hk] at hs ⊢
   rw [if_neg (by simpa using hso), if_neg hk, if_neg (by simpa using hko), if_neg (by omega)]
   have key : ∀ (ks : List Plan) (n : Int), 0 ≤ n → (∀ k ∈ ks, Rt d k ∧ (p.Kind = 4 → k.Kind = 1)) → n + sumN (ks.map (lv d)) ≤ 24 → mKids (mT d) p ks n = (true, n + sumN (ks.map (lv d))) := by
    intro ks
    induction ks with
    | nil => intro n _ _ _; simp [mKids, sumN]
    | cons k ks ih =>
     intro n hn hh hle
     obtain ⟨r1, r2⟩ := hh k (.head _)
     simp only [List.map_cons, sumN] at hle ⊢
     have e := zhs d k n hn r1 (by omega)
     unfold mKids
     rw [if_neg (fun hc => hc.2 (r2 hc.1)), e, if_pos rfl, ih (n + lv d k) (by omega) (fun x hx => hh x (.tail _ hx)) (by omega)]
     simp only [yac, true_and]; omega
   exact key p.Kids n h0 hks hs
theorem ziN (p : Plan) : okP p ↔ p.Float.length ≤ 24 ∧ lvR 12 p + p.Float.length ≤ 24 := by
 obtain ⟨r1, r2⟩ := zj2 12 p
 constructor
 ·intro h
  obtain ⟨h1, h2, h3⟩ := zhr h
  rw [r1 ⟨h1, by omega⟩]; omega
 ·rintro ⟨h1, h2⟩
  obtain ⟨q1, q2⟩ := r2 (by omega)
  have e := r1 ⟨q1, q2⟩
  have m := zhs 12 p 0 (Int.le_refl _) q1 (by omega)
  unfold okP
  rw [m]
  exact ⟨rfl, by simp only; omega⟩
instance (p : Plan) : Decidable (okP p) := inferInstanceAs (Decidable (_ ∧ _))
theorem zk3 (p : Plan) (hf : p.Float.length < 1000000000) : zaL p = some (decide (okP p)) := by
 have hR := zeF 12 p
 unfold zaL zcd
 simp only [letB]
 rw [zj3 12 30 1 p (by omega) (by omega) (by omega)]
 simp only [Option.bind_some]
 rw [zaI (by omega) (by omega)]
 simp only [zoG, Option.bind_some]
 congr 1
 rw [Bool.eq_iff_iff]
 simp only [yae, yat, ziN]
 omega
theorem zj4 (p : Plan) : zaL p = some (decide (okP p)) := by
 by_cases hf : p.Float.length ≤ 24
 ·exact zk3 p (by omega)
 ·unfold zaL
  simp only [letB]
  rw [yau (show ¬ (p.Float.length : Int) ≤ 24 by omega), yau (fun h => hf ((ziN p).1 h).1)]
  rfl
end Go.Proofs.YtakdnfneikbjjaaGreatDoor.Am.Lay10

set_option linter.all false
namespace Go.Proofs.YtakdnfneikbjjaaGreatDoor.Am.Lay10
open Go.Proofs.YtakdnfneikbjjaaGreatDoor.Am.T
noncomputable def layout_property_l1 (n : Node) (name : List Int) (t10 : Int) : Option (Int ⊕ ((Val × Prop_) ⊕ Unit)) :=
 letB (decide (t10 < (n.Props.length : Int))) fun c1 =>
 bif c1 then (
  (idx n.Props t10).bind fun x3 =>
  letB (decide (x3.Name = name)) fun c4 =>
  bif c4 then (
   some (.inr (.inl (x3.Val, x3))))
  else (
   some (.inl (w64 (t10 + 1)))))
 else (
  some (.inr (.inr ())))
noncomputable def zbM (n : Node) (name : List Int) : Option Val :=
 (iter (fun s => layout_property_l1 n name s : Int → Option (Int ⊕ ((Val × Prop_) ⊕ Unit))) 0).bind fun j6 =>
 match j6 with
 | .inl z7 => (
  some z7.1)
 | .inr z8 => (
  some (Val.mk 0 [] 0 false))
set_option maxRecDepth 20000 in
theorem zdD {n : Node} {name : List Int} {r : Val} (h : zbM n name = some r) : zam true (RF ET) 69 [.agg (Node.e n), .str name] [] (.agg (Val.c r)) [] := by
 refine zam.quiet (zaX (af := a69) rfl rfl ?_) rfl
 unfold zbM at h
 refine zaa ?_
 refine zad [1, 2, 4] [0, 1] ?_
 refine zac ?_
 refine zaa ?_
 refine zaa ?_
 refine zad [1, 4, 8, 9, 10] [0, 1] ?_
 refine zac ?_
 refine ⟨_, (yal ..).symm, ?_⟩
 refine zaN ?_
 obtain ⟨j6, hj6, h⟩ := zab h
 refine zds hj6 [0, 1] (fun s => ([(1, .str name), (4, .loc 1 0), (8, .sl false 5 (List.map Prop_.c n.Props)), (9, .int .i64 (n.Props.length : Int)), (10, .int .i64 s)], [(0, (Node.e n)), (1, [.int .i64 0, .str [], .int .i64 0, .bool false])], [])) (fun e => match e with | .ret => [4] | .exit 0 => [4] | _ => []) (fun e => match e with | .ret => [0, 1, 2] | .exit 0 => [0, 1] | _ => []) (fun r => match r with | .inl z => (.ret, [(4, .loc 1 0)], [(0, (Node.e n)), (1, (Val.c z.1)), (2, (Prop_.c z.2))], []) | .inr z => (.exit 0, [(4, .loc 1 0)], [(0, (Node.e n)), (1, [.int .i64 0, .str [], .int .i64 0, .bool false])], [])) ?_ ?_ ?_
 ·exact rfl
 ·clear h
  rintro t10 x h
  replace h : layout_property_l1 n name t10 = some x := h
  unfold layout_property_l1 at h
  show T.WP _ _ [(1, .str name), (4, .loc 1 0), (8, .sl false 5 (List.map Prop_.c n.Props)), (9, .int .i64 (n.Props.length : Int)), (10, .int .i64 t10)] [(0, (Node.e n)), (1, [.int .i64 0, .str [], .int .i64 0, .bool false])] [] _
  refine zaa ?_
  refine zad [1, 4, 8, 9, 10, 11] [0, 1] ?_
  refine zac ?_
  refine fun c1 hc1 => ?_
  replace h := zaf hc1 h
  refine zaa ?_
  refine zag (b := c1) rfl (fun hb2 => ?_) (fun hb2 => ?_)
  ·replace h := zaj hb2 h
   refine zah ?_
   refine zaa ?_
   refine zaN ?_
   refine zaa ?_
   refine zad [1, 4, 6, 8, 9, 10] [0, 1, 2] ?_
   refine zac ?_
   obtain ⟨x3, hx3, h⟩ := zab h
   refine And.intro (zb0 hx3) ⟨_, zdG Prop_.c hx3, ?_⟩
   refine zaa ?_
   refine zad [1, 4, 6, 8, 9, 10, 17] [0, 1, 2] ?_
   refine zac ?_
   refine fun c4 hc4 => ?_
   replace h := zaf hc4 h
   refine zag (b := c4) rfl (fun hb5 => ?_) (fun hb5 => ?_)
   ·replace h := zaj hb5 h
    refine zaa ?_
    refine zad [4] [0, 1, 2] ?_
    refine zac ?_
    refine zao ?_
    cases h
    exact ⟨_, rfl, rfl⟩
   ·replace h := zak hb5 h
    refine zah ?_
    refine zad [1, 4, 8, 9, 10] [0, 1, 2] ?_
    refine zac ?_
    cases h
    exact ⟨_, rfl, rfl⟩
  ·replace h := zak hb2 h
   refine zcO ?_
   cases h
   exact ⟨_, rfl, rfl⟩
 rcases j6 with z7 | z8
 ·cases h
  exact ⟨rfl, rfl, rfl, rfl, rfl⟩
 ·refine zaa ?_
  refine zad [4] [0, 1] ?_
  refine zac ?_
  refine zao ?_
  cases h
  exact ⟨rfl, rfl, rfl, rfl, rfl⟩
noncomputable def zbO (n : Node) (name : List Int) : Option Int :=
 (zbM n name).bind fun y1 =>
 letB (decide (y1.Kind ≠ 2)) fun c2 =>
 bif c2 then (
  some 0)
 else (
  some y1.Int)
set_option maxRecDepth 20000 in
theorem zcE {n : Node} {name : List Int} {r : Int} (h : zbO n name = some r) : zam true (RF ET) 44 [.agg (Node.e n), .str name] [] (.int .i64 r) [] := by
 refine zam.quiet (zaX (af := a44) rfl rfl ?_) rfl
 unfold zbO at h
 refine zaa ?_
 refine zad [1, 2] [0] ?_
 refine zac ?_
 refine zaa ?_
 refine zad [5] [0, 1] ?_
 refine zac ?_
 obtain ⟨y1, hy1, h⟩ := zab h
 refine ⟨_, _, zam.any (zdD hy1) rfl _ rfl, ?_⟩
 refine zaa ?_
 refine zaa ?_
 refine zad [5, 11] [0, 1] ?_
 refine zac ?_
 refine fun c2 hc2 => ?_
 replace h := zaf hc2 h
 refine zag (b := c2) rfl (fun hb3 => ?_) (fun hb3 => ?_)
 ·replace h := zaj hb3 h
  refine zaa ?_
  refine zad [4] [0, 1] ?_
  refine zac ?_
  refine zao ?_
  cases h
  exact ⟨rfl, rfl, rfl, rfl, rfl⟩
 ·replace h := zak hb3 h
  refine zah ?_
  refine zaa ?_
  refine zad [4] [0, 1] ?_
  refine zac ?_
  refine zao ?_
  cases h
  exact ⟨rfl, rfl, rfl, rfl, rfl⟩
noncomputable def zaw (s_ : List Int) (suffix : List Int) : Option Bool :=
 letB (decide ((s_.length : Int) ≥ (suffix.length : Int))) fun c1 =>
 (bif c1 then (
  (subA s_ (w64 ((s_.length : Int) - (suffix.length : Int)))).bind fun x3 =>
  letB (decide (x3 = suffix)) fun c4 =>
  some (c4)) else some false).bind fun g2 =>
 some g2
set_option maxRecDepth 20000 in
theorem zbx {s_ : List Int} {suffix : List Int} {r : Bool} (h : zaw s_ suffix = some r) : zam true (RF ET) 104 [.str s_, .str suffix] [] (.bool r) [] := by
 refine zam.quiet (zaX (af := a104) rfl rfl ?_) rfl
 unfold zaw at h
 refine zaa ?_
 refine zad [0, 1] [] ?_
 refine zac ?_
 refine zaa ?_
 refine zad [4] [] ?_
 refine zai 6 ?_
 refine zac ?_
 refine fun c1 hc1 => ?_
 replace h := zaf hc1 h
 obtain ⟨g2, hg2, h⟩ := zab h
 refine zas 10 20 [20] g2 ?_ ?_
 ·clear h
  replace h := hg2
  clear hg2
  cases hb5 : c1 with
  | true =>
   replace h := zaj hb5 h
   refine zac ?_
   obtain ⟨x3, hx3, h⟩ := zab h
   refine And.intro (zpG hx3) (And.intro (zoB hx3) ⟨_, zoC hx3, ?_⟩)
   refine fun c4 hc4 => ?_
   replace h := zaf hc4 h
   cases h
   exact ⟨rfl, rfl, rfl⟩
  | false =>
   replace h := zak hb5 h
   cases h
   refine zac ?_
   exact ⟨rfl, rfl, rfl⟩
 refine zac ?_
 refine zao ?_
 cases h
 exact ⟨rfl, rfl, rfl, rfl, rfl⟩
noncomputable def zca (s_ : List Int) (suffix : List Int) : Option Bool :=
 (zaw s_ suffix).bind fun y1 =>
 some y1
set_option maxRecDepth 20000 in
theorem ze0 {s_ : List Int} {suffix : List Int} {r : Bool} (h : zca s_ suffix = some r) : zam true (RF ET) 85 [.str s_, .str suffix] [] (.bool r) [] := by
 refine zam.quiet (zaX (af := a85) rfl rfl ?_) rfl
 unfold zca at h
 refine zaa ?_
 refine zad [0, 1] [] ?_
 refine zac ?_
 refine zaa ?_
 refine zad [4] [] ?_
 refine zac ?_
 obtain ⟨y1, hy1, h⟩ := zab h
 refine ⟨_, zbx hy1, ?_⟩
 refine zao ?_
 cases h
 exact ⟨rfl, rfl, rfl, rfl, rfl⟩
noncomputable def zaP (s_ : List Int) (suffix : List Int) : Option (List Int) :=
 (zaw s_ suffix).bind fun y1 =>
 bif y1 then (
  (subB s_ (w64 ((s_.length : Int) - (suffix.length : Int)))).bind fun x3 =>
  some x3)
 else (
  some s_)
set_option maxRecDepth 20000 in
theorem zcx {s_ : List Int} {suffix : List Int} {r : List Int} (h : zaP s_ suffix = some r) : zam true (RF ET) 105 [.str s_, .str suffix] [] (.str r) [] := by
 refine zam.quiet (zaX (af := a105) rfl rfl ?_) rfl
 unfold zaP at h
 refine zaa ?_
 refine zad [0, 1] [] ?_
 refine zac ?_
 refine zaa ?_
 refine zaa ?_
 refine zad [0, 1, 7] [] ?_
 refine zac ?_
 obtain ⟨y1, hy1, h⟩ := zab h
 refine ⟨_, zbx hy1, ?_⟩
 refine zag (b := y1) rfl (fun hb2 => ?_) (fun hb2 => ?_)
 ·replace h := zaj hb2 h
  refine zaa ?_
  refine zad [4] [] ?_
  refine zac ?_
  obtain ⟨x3, hx3, h⟩ := zab h
  refine And.intro (zpH hx3) (And.intro (zoD hx3) ⟨_, zoE hx3, ?_⟩)
  refine zao ?_
  cases h
  exact ⟨rfl, rfl, rfl, rfl, rfl⟩
 ·replace h := zak hb2 h
  refine zah ?_
  refine zaa ?_
  refine zad [4] [] ?_
  refine zac ?_
  refine zao ?_
  cases h
  exact ⟨rfl, rfl, rfl, rfl, rfl⟩
noncomputable def zb1 (s_ : List Int) (suffix : List Int) : Option (List Int) :=
 (zaP s_ suffix).bind fun y1 =>
 some y1
set_option maxRecDepth 20000 in
theorem zeG {s_ : List Int} {suffix : List Int} {r : List Int} (h : zb1 s_ suffix = some r) : zam true (RF ET) 86 [.str s_, .str suffix] [] (.str r) [] := by
 refine zam.quiet (zaX (af := a86) rfl rfl ?_) rfl
 unfold zb1 at h
 refine zaa ?_
 refine zad [0, 1] [] ?_
 refine zac ?_
 refine zaa ?_
 refine zad [4] [] ?_
 refine zac ?_
 obtain ⟨y1, hy1, h⟩ := zab h
 refine ⟨_, zcx hy1, ?_⟩
 refine zao ?_
 cases h
 exact ⟨rfl, rfl, rfl, rfl, rfl⟩
noncomputable def zdt (n : Node) : Option (Size × Bool) :=
 (zbM n [115, 105, 122, 101]).bind fun y1 =>
 Option.bind (
  letB (decide (y1.Kind = 2)) fun c2 =>
  Option.bind (
   bif c2 then (
    some ((Size.mk 1 y1.Int)))
   else (
    letB (decide (y1.Kind = 1)) fun c4 =>
    (bif c4 then (
     (zca y1.Text [37]).bind fun y6 =>
     some (y6)) else some false).bind fun g5 =>
    Option.bind (
     bif g5 then (
      (zb1 y1.Text [37]).bind fun y9 =>
      (zbK y9).bind fun y10 =>
      letB (!(y10.2)) fun c11 =>
      (bif c11 then (
       letB (decide ((y9.length : Int) ≤ 3)) fun c13 =>
       some (c13)) else some false).bind fun g12 =>
      Option.bind (
       bif g12 then (
        some ((Size.mk 2 (w64 y10.1))))
       else (
        some ((Size.mk 0 0))) : Option Size) fun j16 =>
      some (j16))
     else (
      some ((Size.mk 0 0))) : Option Size) fun j17 =>
    some (j17)) : Option Size) fun j18 =>
  some (j18) : Option Size) fun j19 =>
 (zco j19).bind fun y20 =>
 letB (decide (y20 = 0)) fun c21 =>
 some (j19, c21)
set_option maxRecDepth 20000 in
theorem zhJ {n : Node} {r : Size × Bool} (h : zdt n = some r) : zam true (RF ET) 70 [.agg (Node.e n)] [] (.tuple [.agg (Size.c r.1), .bool r.2]) [] := by
 refine zam.quiet (zaX (af := a70) rfl rfl ?_) rfl
 unfold zdt at h
 refine zaa ?_
 refine zad [1, 2] [0, 1] ?_
 refine zac ?_
 refine zaa ?_
 refine zad [2, 4] [0, 1, 2] ?_
 refine zac ?_
 obtain ⟨y1, hy1, h⟩ := zab h
 refine ⟨_, _, zam.any (zdD hy1) rfl _ rfl, ?_⟩
 refine zaa ?_
 refine zad [2, 4, 5] [0, 1, 2, 3] ?_
 refine zac ?_
 refine zaa ?_
 obtain ⟨j19, hj19, h⟩ := zab h
 refine zbZ j19 (fun z => (.normal, [(2, .loc 1 0), (5, .loc 3 0)], [(0, (Node.e n)), (1, [.int .i64 0, .int .i64 0]), (2, (Val.c y1)), (3, (Size.c z))], [])) (fun _ => [2, 5]) (fun _ => [0, 1, 2, 3]) ?_ ?_
 ·clear h
  replace h := hj19
  clear hj19
  refine zaN ?_
  refine zaa ?_
  refine zad [2, 4, 5, 11] [0, 1, 2, 3] ?_
  refine zac ?_
  refine fun c2 hc2 => ?_
  replace h := zaf hc2 h
  obtain ⟨j18, hj18, h⟩ := zab h
  refine zbZ j18 (fun z => (.normal, [(2, .loc 1 0), (5, .loc 3 0)], [(0, (Node.e n)), (1, [.int .i64 0, .int .i64 0]), (2, (Val.c y1)), (3, (Size.c z))], [])) (fun _ => [2, 5]) (fun _ => [0, 1, 2, 3]) ?_ ?_
  ·clear h
   replace h := hj18
   clear hj18
   refine zag (b := c2) rfl (fun hb3 => ?_) (fun hb3 => ?_)
   ·replace h := zaj hb3 h
    refine zad [2, 5] [0, 1, 2, 3] ?_
    refine zac ?_
    cases h
    exact rfl
   ·replace h := zak hb3 h
    refine zaa ?_
    refine zad [2, 4, 5, 18] [0, 1, 2, 3] ?_
    refine zai 4 ?_
    refine zac ?_
    refine fun c4 hc4 => ?_
    replace h := zaf hc4 h
    obtain ⟨g5, hg5, h⟩ := zab h
    refine zas 4 26 [2, 4, 5, 26] g5 ?_ ?_
    ·clear h
     replace h := hg5
     clear hg5
     cases hb7 : c4 with
     | true =>
      replace h := zaj hb7 h
      refine zac ?_
      obtain ⟨y6, hy6, h⟩ := zab h
      refine ⟨_, ze0 hy6, ?_⟩
      cases h
      exact ⟨rfl, rfl, rfl⟩
     | false =>
      replace h := zak hb7 h
      cases h
      refine zac ?_
      exact ⟨rfl, rfl, rfl⟩
    refine zac ?_
    obtain ⟨j17, hj17, h⟩ := zab h
    refine zbZ j17 (fun z => (.normal, [(2, .loc 1 0), (5, .loc 3 0)], [(0, (Node.e n)), (1, [.int .i64 0, .int .i64 0]), (2, (Val.c y1)), (3, (Size.c z))], [])) (fun _ => [2, 5]) (fun _ => [0, 1, 2, 3]) ?_ ?_
    ·clear h
     replace h := hj17
     clear hj17
     refine zag (b := g5) rfl (fun hb8 => ?_) (fun hb8 => ?_)
     ·replace h := zaj hb8 h
      refine zaa ?_
      refine zad [2, 5, 6] [0, 1, 2, 3] ?_
      refine zac ?_
      obtain ⟨y9, hy9, h⟩ := zab h
      refine ⟨_, zeG hy9, ?_⟩
      refine zaa ?_
      refine zad [2, 5, 6, 7, 8] [0, 1, 2, 3] ?_
      refine zac ?_
      obtain ⟨y10, hy10, h⟩ := zab h
      refine ⟨_, _, zam.any (zeZ hy10) rfl _ rfl, ?_⟩
      refine zaa ?_
      refine zad [2, 5, 7, 41] [0, 1, 2, 3] ?_
      refine zai 3 ?_
      refine zac ?_
      refine fun c11 hc11 => ?_
      replace h := zaf hc11 h
      obtain ⟨g12, hg12, h⟩ := zab h
      refine zas 4 41 [2, 5, 7, 41] g12 ?_ ?_
      ·clear h
       replace h := hg12
       clear hg12
       cases hb14 : c11 with
       | true =>
        replace h := zaj hb14 h
        refine zac ?_
        refine fun c13 hc13 => ?_
        replace h := zaf hc13 h
        cases h
        exact ⟨rfl, rfl, rfl⟩
       | false =>
        replace h := zak hb14 h
        cases h
        refine zac ?_
        exact ⟨rfl, rfl, rfl⟩
      refine zac ?_
      obtain ⟨j16, hj16, h⟩ := zab h
      refine zbZ j16 (fun z => (.normal, [(2, .loc 1 0), (5, .loc 3 0)], [(0, (Node.e n)), (1, [.int .i64 0, .int .i64 0]), (2, (Val.c y1)), (3, (Size.c z))], [])) (fun _ => [2, 5]) (fun _ => [0, 1, 2, 3]) ?_ ?_
      ·clear h
       replace h := hj16
       clear hj16
       refine zag (b := g12) rfl (fun hb15 => ?_) (fun hb15 => ?_)
       ·replace h := zaj hb15 h
        refine zad [2, 5] [0, 1, 2, 3] ?_
        refine zac ?_
        cases h
        exact rfl
       ·replace h := zak hb15 h
        refine zah ?_
        cases h
        exact rfl
      cases h
      exact rfl
     ·replace h := zak hb8 h
      refine zah ?_
      cases h
      exact rfl
    cases h
    exact rfl
  cases h
  exact rfl
 refine zaa ?_
 refine zad [2, 3] [0, 1, 2, 3] ?_
 refine zf2 ?_
 obtain ⟨y20, hy20, h⟩ := zab h
 refine ⟨_, ze8 hy20, ?_⟩
 refine fun c21 hc21 => ?_
 replace h := zaf hc21 h
 refine zao ?_
 cases h
 exact ⟨rfl, rfl, rfl, rfl, rfl⟩
noncomputable def zc1 (name : List Int) : Option Int :=
 letB (decide (name = [112, 97, 110, 101])) fun c1 =>
 bif c1 then (
  some 1)
 else (
  letB (decide (name = [99, 111, 108, 115])) fun c3 =>
  bif c3 then (
   some 2)
  else (
   letB (decide (name = [114, 111, 119, 115])) fun c5 =>
   bif c5 then (
    some 3)
   else (
    letB (decide (name = [115, 116, 97, 99, 107])) fun c7 =>
    bif c7 then (
     some 4)
    else (
     some 0))))
set_option maxRecDepth 20000 in
theorem zht {name : List Int} {r : Int} (h : zc1 name = some r) : zam true (RF ET) 71 [.str name] [] (.int .i64 r) [] := by
 refine zam.quiet (zaX (af := a71) rfl rfl ?_) rfl
 unfold zc1 at h
 refine zaa ?_
 refine zad [0] [] ?_
 refine zac ?_
 refine zaa ?_
 refine zaa ?_
 refine zad [3] [] ?_
 refine zac ?_
 refine zaN ?_
 refine zaa ?_
 refine zad [3, 4] [] ?_
 refine zac ?_
 refine fun c1 hc1 => ?_
 replace h := zaf hc1 h
 refine zag (b := c1) rfl (fun hb2 => ?_) (fun hb2 => ?_)
 ·replace h := zaj hb2 h
  refine zaa ?_
  refine zad [2] [] ?_
  refine zac ?_
  refine zao ?_
  cases h
  exact ⟨rfl, rfl, rfl, rfl, rfl⟩
 ·replace h := zak hb2 h
  refine zaa ?_
  refine zad [3, 6] [] ?_
  refine zac ?_
  refine fun c3 hc3 => ?_
  replace h := zaf hc3 h
  refine zag (b := c3) rfl (fun hb4 => ?_) (fun hb4 => ?_)
  ·replace h := zaj hb4 h
   refine zaa ?_
   refine zad [2] [] ?_
   refine zac ?_
   refine zao ?_
   cases h
   exact ⟨rfl, rfl, rfl, rfl, rfl⟩
  ·replace h := zak hb4 h
   refine zaa ?_
   refine zad [3, 8] [] ?_
   refine zac ?_
   refine fun c5 hc5 => ?_
   replace h := zaf hc5 h
   refine zag (b := c5) rfl (fun hb6 => ?_) (fun hb6 => ?_)
   ·replace h := zaj hb6 h
    refine zaa ?_
    refine zad [2] [] ?_
    refine zac ?_
    refine zao ?_
    cases h
    exact ⟨rfl, rfl, rfl, rfl, rfl⟩
   ·replace h := zak hb6 h
    refine zaa ?_
    refine zad [10] [] ?_
    refine zac ?_
    refine fun c7 hc7 => ?_
    replace h := zaf hc7 h
    refine zag (b := c7) rfl (fun hb8 => ?_) (fun hb8 => ?_)
    ·replace h := zaj hb8 h
     refine zaa ?_
     refine zad [2] [] ?_
     refine zac ?_
     refine zao ?_
     cases h
     exact ⟨rfl, rfl, rfl, rfl, rfl⟩
    ·replace h := zak hb8 h
     refine zah ?_
     refine zaa ?_
     refine zad [2] [] ?_
     refine zac ?_
     refine zao ?_
     cases h
     exact ⟨rfl, rfl, rfl, rfl, rfl⟩
noncomputable def layout_planF_l1 (n : Node) (deep : Int) (rec45 : Node → Int → Int → Option (Plan × Bool × Int)) (t78 : Int) (p : Plan) (nodes' : Int) : Option ((Int × Plan × Int) ⊕ ((Plan × Node × Plan × Int) ⊕ (Plan × Int))) :=
 letB (decide (t78 < (n.Kids.length : Int))) fun c25 =>
 bif c25 then (
  (idx n.Kids t78).bind fun x27 =>
  (rec45 x27 (w64 (deep + 1)) nodes').bind fun y28 =>
  bif (!y28.2.1) then (
   some (.inr (.inl (p, x27, y28.1, y28.2.2))))
  else (
   (app p.Kids [y28.1]).bind fun x30 =>
   some (.inl (w64 (t78 + 1), { p with Kids := x30 }, y28.2.2))))
 else (
  some (.inr (.inr (p, nodes'))))
noncomputable def zbP (rec45 : Node → Int → Int → Option (Plan × Bool × Int)) (n : Node) (deep : Int) (nodes : Int) : Option (Plan × Bool × Int) :=
 (zdt n).bind fun y1 =>
 (zc1 n.Name).bind fun y2 =>
 (bif (!y1.2) then some true else (
  letB (decide (y2 = 0)) fun c4 =>
  some (c4))).bind fun g3 =>
 (bif g3 then some true else (
  letB (decide (deep > 12)) fun c7 =>
  some (c7))).bind fun g6 =>
 (bif g6 then some true else (
  letB (decide ((w64 (nodes + 1)) > 288)) fun c10 =>
  some (c10))).bind fun g9 =>
 bif g9 then (
  some ((Plan.mk y2 y1.1 [] [] []), false, w64 (nodes + 1)))
 else (
  letB (decide (y2 = 1)) fun c13 =>
  bif c13 then (
   letB (decide ((n.Args.length : Int) > 0)) fun c15 =>
   (bif c15 then (
    (idx n.Args 0).bind fun x17 =>
    letB (decide (x17.Kind = 1)) fun c18 =>
    some (c18)) else some false).bind fun g16 =>
   Option.bind (
    bif g16 then (
     (idx n.Args 0).bind fun x21 =>
     some ((Plan.mk y2 y1.1 x21.Text [] [])))
    else (
     some ((Plan.mk y2 y1.1 [] [] []))) : Option Plan) fun j22 =>
   some (j22, true, w64 (nodes + 1)))
  else (
   letB (decide ((n.Kids.length : Int) > 16)) fun c23 =>
   bif c23 then (
    some ((Plan.mk y2 y1.1 [] [] []), false, w64 (nodes + 1)))
   else (
    (iter (fun s => layout_planF_l1 n deep rec45 s.1 s.2.1 s.2.2 : (Int × Plan × Int) → Option ((Int × Plan × Int) ⊕ ((Plan × Node × Plan × Int) ⊕ (Plan × Int)))) (0, (Plan.mk y2 y1.1 [] [] []), w64 (nodes + 1))).bind fun j31 =>
    match j31 with
    | .inl z32 => (
     some (z32.1, false, z32.2.2.2))
    | .inr z33 => (
     some (z33.1, true, z33.2)))))
set_option maxRecDepth 20000 in
theorem zhu {rec45 : Node → Int → Int → Option (Plan × Bool × Int)} (rec45_ok : ∀ (a0 : Node) (a1 : Int) (a2 : Int) (r : Plan × Bool × Int), rec45 a0 a1 a2 = some r → zam false (RF ET) 45 [.agg (Node.e a0), .int .i64 a1, .ptr 0 0] [[.int .i64 a2]] (.tuple [.agg (Plan.e r.1), .bool r.2.1]) [[.int .i64 r.2.2]]) {n : Node} {deep : Int} {nodes : Int} {r : Plan × Bool × Int} (h : zbP rec45 n deep nodes = some r) : zam false (RF ET) 45 [.agg (Node.e n), .int .i64 deep, .ptr 0 0] [[.int .i64 nodes]] (.tuple [.agg (Plan.e r.1), .bool r.2.1]) [[.int .i64 r.2.2]] := by
 refine zaX (af := a45) rfl rfl ?_
 unfold zbP at h
 refine zaa ?_
 refine zad [1, 2, 3, 6] [0, 1] ?_
 refine zac ?_
 refine ⟨.sl true 6 [], .sl _ _, ?_⟩
 refine ⟨.sl false 4 [], .sl _ _, ?_⟩
 refine zaa ?_
 refine zad [1, 2, 3, 6, 8, 9] [0, 1, 2] ?_
 refine zac ?_
 obtain ⟨y1, hy1, h⟩ := zab h
 refine ⟨_, _, zam.any (zhJ hy1) rfl _ rfl, ?_⟩
 refine zaa ?_
 refine zad [1, 2, 3, 6, 9, 10] [0, 1, 2, 3] ?_
 refine zf2 ?_
 obtain ⟨y2, hy2, h⟩ := zab h
 refine ⟨_, zht hy2, ?_⟩
 refine ⟨.sl true 6 [], .sl _ _, ?_⟩
 refine ⟨.sl false 4 [], .sl _ _, ?_⟩
 refine ⟨.sl true 6 [], .sl _ _, ?_⟩
 refine ⟨.sl false 4 [], .sl _ _, ?_⟩
 refine zaa ?_
 refine zad [1, 2, 3, 6, 9, 10] [0, 1, 2, 3] ?_
 refine zac ?_
 refine zaa ?_
 refine zaa ?_
 refine zad [1, 2, 3, 6, 10, 46] [0, 1, 2, 3] ?_
 refine zai 3 ?_
 refine zac ?_
 obtain ⟨g3, hg3, h⟩ := zab h
 refine zas 4 36 [1, 2, 3, 6, 10, 36] g3 ?_ ?_
 ·clear h
  replace h := hg3
  clear hg3
  cases hb5 : (!y1.2) with
  | false =>
   replace h := zak hb5 h
   refine zac ?_
   refine fun c4 hc4 => ?_
   replace h := zaf hc4 h
   cases h
   exact ⟨rfl, rfl, rfl⟩
  | true =>
   replace h := zaj hb5 h
   cases h
   refine zac ?_
   exact ⟨rfl, rfl, rfl⟩
 refine zai 1 ?_
 refine zac ?_
 obtain ⟨g6, hg6, h⟩ := zab h
 refine zas 3 40 [1, 2, 3, 6, 10, 40] g6 ?_ ?_
 ·clear h
  replace h := hg6
  clear hg6
  cases hb8 : g3 with
  | false =>
   replace h := zak hb8 h
   refine zac ?_
   refine fun c7 hc7 => ?_
   replace h := zaf hc7 h
   cases h
   exact ⟨rfl, rfl, rfl⟩
  | true =>
   replace h := zaj hb8 h
   cases h
   refine zac ?_
   exact ⟨rfl, rfl, rfl⟩
 refine zai 1 ?_
 refine zac ?_
 obtain ⟨g9, hg9, h⟩ := zab h
 refine zas 5 46 [1, 2, 3, 6, 10, 46] g9 ?_ ?_
 ·clear h
  replace h := hg9
  clear hg9
  cases hb11 : g6 with
  | false =>
   replace h := zak hb11 h
   refine zac ?_
   refine fun c10 hc10 => ?_
   replace h := zaf hc10 h
   cases h
   exact ⟨rfl, rfl, rfl⟩
  | true =>
   replace h := zaj hb11 h
   cases h
   refine zac ?_
   exact ⟨rfl, rfl, rfl⟩
 refine zac ?_
 refine zag (b := g9) rfl (fun hb12 => ?_) (fun hb12 => ?_)
 ·replace h := zaj hb12 h
  refine zaa ?_
  refine zad [6, 7] [0, 1, 2, 3] ?_
  refine zac ?_
  refine zao ?_
  cases h
  exact ⟨rfl, rfl, rfl, rfl, rfl⟩
 ·replace h := zak hb12 h
  refine zah ?_
  refine zaa ?_
  refine zaa ?_
  refine zad [1, 2, 3, 6, 10, 50] [0, 1, 2, 3] ?_
  refine zac ?_
  refine fun c13 hc13 => ?_
  replace h := zaf hc13 h
  refine zag (b := c13) rfl (fun hb14 => ?_) (fun hb14 => ?_)
  ·replace h := zaj hb14 h
   refine zaa ?_
   refine zaa ?_
   refine zad [3, 6, 10, 62] [0, 1, 2, 3] ?_
   refine zai 5 ?_
   refine zac ?_
   refine ⟨_, (yal ..).symm, ?_⟩
   refine fun c15 hc15 => ?_
   replace h := zaf hc15 h
   obtain ⟨g16, hg16, h⟩ := zab h
   refine zas 7 62 [3, 6, 10, 62] g16 ?_ ?_
   ·clear h
    replace h := hg16
    clear hg16
    cases hb19 : c15 with
    | true =>
     replace h := zaj hb19 h
     refine zac ?_
     obtain ⟨x17, hx17, h⟩ := zab h
     refine And.intro (zb0 hx17) ⟨_, zdG Val.c hx17, ?_⟩
     refine fun c18 hc18 => ?_
     replace h := zaf hc18 h
     cases h
     exact ⟨rfl, rfl, rfl⟩
    | false =>
     replace h := zak hb19 h
     cases h
     refine zac ?_
     exact ⟨rfl, rfl, rfl⟩
   refine zac ?_
   obtain ⟨j22, hj22, h⟩ := zab h
   refine zbZ j22 (fun z => (.normal, [(6, .loc 1 0), (10, .loc 3 0)], [(0, (Node.e n)), (1, [.int .i64 0, .int .i64 0, .int .i64 0, .str [], .sl true 6 (Plan.cs []), .sl false 4 (List.map Rect.c [])]), (2, (Size.c y1.1)), (3, (Plan.c z))], [[.int .i64 (w64 (nodes + 1))]])) (fun _ => [6, 10]) (fun _ => [0, 1, 2, 3]) ?_ ?_
   ·clear h
    replace h := hj22
    clear hj22
    refine zag (b := g16) rfl (fun hb20 => ?_) (fun hb20 => ?_)
    ·replace h := zaj hb20 h
     refine zad [6, 10] [0, 1, 2, 3] ?_
     refine zac ?_
     obtain ⟨x21, hx21, h⟩ := zab h
     refine And.intro (zb0 hx21) ⟨_, zdG Val.c hx21, ?_⟩
     cases h
     exact rfl
    ·replace h := zak hb20 h
     refine zah ?_
     cases h
     exact rfl
   refine zaa ?_
   refine zad [6, 7] [0, 1, 2, 3] ?_
   refine zac ?_
   refine zao ?_
   cases h
   exact ⟨rfl, rfl, rfl, rfl, rfl⟩
  ·replace h := zak hb14 h
   refine zah ?_
   refine zaa ?_
   refine zaa ?_
   refine zad [1, 2, 3, 6, 10, 73] [0, 1, 2, 3] ?_
   refine zac ?_
   refine ⟨_, (lenR Node.cs_is).symm, ?_⟩
   refine fun c23 hc23 => ?_
   replace h := zaf hc23 h
   refine zag (b := c23) rfl (fun hb24 => ?_) (fun hb24 => ?_)
   ·replace h := zaj hb24 h
    refine zaa ?_
    refine zad [6, 7] [0, 1, 2, 3] ?_
    refine zac ?_
    refine zao ?_
    cases h
    exact ⟨rfl, rfl, rfl, rfl, rfl⟩
   ·replace h := zak hb24 h
    refine zah ?_
    refine zaa ?_
    refine zaa ?_
    refine zad [1, 2, 6, 10, 76, 77, 78] [0, 1, 2, 3] ?_
    refine zac ?_
    refine ⟨_, (lenR Node.cs_is).symm, ?_⟩
    refine zaN ?_
    obtain ⟨j31, hj31, h⟩ := zab h
    refine zds hj31 [0, 1, 2, 3] (fun s => ([(1, .int .i64 deep), (2, .ptr 0 0), (6, .loc 1 0), (10, .loc 3 0), (76, .sl false 4 (Node.cs n.Kids)), (77, .int .i64 (n.Kids.length : Int)), (78, .int .i64 s.1)], [(0, (Node.e n)), (1, [.int .i64 0, .int .i64 0, .int .i64 0, .str [], .sl true 6 (Plan.cs []), .sl false 4 (List.map Rect.c [])]), (2, (Size.c y1.1)), (3, (Plan.c s.2.1))], [[.int .i64 s.2.2]])) (fun e => match e with | .ret => [6, 7] | .exit 0 => [6, 10] | _ => []) (fun e => match e with | .ret => [0, 1, 2, 4, 5] | .exit 0 => [0, 1, 2, 3] | _ => []) (fun r => match r with | .inl z => (.ret, [(6, .loc 1 0), (7, .bool false)], [(0, (Node.e n)), (1, (Plan.e z.1)), (2, (Size.c y1.1)), (4, (Node.e z.2.1)), (5, (Plan.e z.2.2.1))], [[.int .i64 z.2.2.2]]) | .inr z => (.exit 0, [(6, .loc 1 0), (10, .loc 3 0)], [(0, (Node.e n)), (1, [.int .i64 0, .int .i64 0, .int .i64 0, .str [], .sl true 6 (Plan.cs []), .sl false 4 (List.map Rect.c [])]), (2, (Size.c y1.1)), (3, (Plan.c z.1))], [[.int .i64 z.2]])) ?_ ?_ ?_
    ·exact rfl
    ·clear h
     rintro ⟨t78, p, nodes'⟩ x h
     replace h : layout_planF_l1 n deep rec45 t78 p nodes' = some x := h
     unfold layout_planF_l1 at h
     show T.WP _ _ [(1, .int .i64 deep), (2, .ptr 0 0), (6, .loc 1 0), (10, .loc 3 0), (76, .sl false 4 (Node.cs n.Kids)), (77, .int .i64 (n.Kids.length : Int)), (78, .int .i64 t78)] [(0, (Node.e n)), (1, [.int .i64 0, .int .i64 0, .int .i64 0, .str [], .sl true 6 (Plan.cs []), .sl false 4 (List.map Rect.c [])]), (2, (Size.c y1.1)), (3, (Plan.c p))] [[.int .i64 nodes']] _
     refine zaa ?_
     refine zad [1, 2, 6, 10, 76, 77, 78, 79] [0, 1, 2, 3] ?_
     refine zac ?_
     refine fun c25 hc25 => ?_
     replace h := zaf hc25 h
     refine zaa ?_
     refine zag (b := c25) rfl (fun hb26 => ?_) (fun hb26 => ?_)
     ·replace h := zaj hb26 h
      refine zah ?_
      refine zaa ?_
      refine zaN ?_
      refine zaa ?_
      refine zad [1, 2, 6, 10, 12, 76, 77, 78] [0, 1, 2, 3, 4] ?_
      refine zac ?_
      obtain ⟨x27, hx27, h⟩ := zab h
      refine And.intro (zb0 hx27) ⟨_, zcD Node.cs_is hx27, ?_⟩
      refine ⟨.sl true 4 [], .sl _ _, ?_⟩
      refine ⟨.sl true 5 [], .sl _ _, ?_⟩
      refine ⟨.sl false 4 [], .sl _ _, ?_⟩
      refine zaa ?_
      refine zad [1, 2, 6, 10, 13, 14, 76, 77, 78] [0, 1, 2, 3, 4, 5] ?_
      refine zac ?_
      obtain ⟨y28, hy28, h⟩ := zab h
      refine ⟨_, _, zam.sub (i := 0) (rec45_ok _ _ _ _ hy28) rfl _ rfl rfl rfl rfl, ?_⟩
      refine ⟨.sl true 6 [], .sl _ _, ?_⟩
      refine ⟨.sl false 4 [], .sl _ _, ?_⟩
      refine zaa ?_
      refine zaa ?_
      refine zad [1, 2, 6, 10, 13, 76, 77, 78, 91] [0, 1, 2, 3, 4, 5] ?_
      refine zac ?_
      refine zag (b := (!y28.2.1)) rfl (fun hb29 => ?_) (fun hb29 => ?_)
      ·replace h := zaj hb29 h
       refine zaa ?_
       refine zad [6, 7] [0, 1, 2, 3, 4, 5] ?_
       refine zac ?_
       refine zao ?_
       cases h
       exact ⟨_, rfl, rfl⟩
      ·replace h := zak hb29 h
       refine zah ?_
       refine zad [1, 2, 6, 10, 76, 77, 78] [0, 1, 2, 3, 4, 5] ?_
       refine zac ?_
       refine ⟨.sl false 6 [], .sl _ _, ?_⟩
       refine ⟨.sl false 4 [], .sl _ _, ?_⟩
       refine ⟨(Plan.cs ([y28.1] : List Plan)), (Plan.cs_is _).trans rfl, ?_⟩
       obtain ⟨x30, hx30, h⟩ := zab h
       refine And.intro (ziK Plan.cs_is hx30) ⟨_, ziL Plan.cs_is hx30, ?_⟩
       refine zad [1, 2, 6, 10, 76, 77, 78] [0, 1, 2, 3, 4, 5] ?_
       refine zac ?_
       cases h
       exact ⟨_, rfl, rfl⟩
     ·replace h := zak hb26 h
      refine zcO ?_
      cases h
      exact ⟨_, rfl, rfl⟩
    rcases j31 with z32 | z33
    ·cases h
     exact ⟨rfl, rfl, rfl, rfl, rfl⟩
    ·refine zaa ?_
     refine zad [6, 7] [0, 1, 2, 3] ?_
     refine zac ?_
     refine zao ?_
     cases h
     exact ⟨rfl, rfl, rfl, rfl, rfl⟩
noncomputable def zbi : Nat → (Node → Int → Int → Option (Plan × Bool × Int))
 | 0 => fun _ _ _ => none
 | k + 1 => zbP ((zbi k))
theorem zeH : ∀ k, (∀ (a0 : Node) (a1 : Int) (a2 : Int) (r : Plan × Bool × Int), ((zbi k)) a0 a1 a2 = some r → zam false (RF ET) 45 [.agg (Node.e a0), .int .i64 a1, .ptr 0 0] [[.int .i64 a2]] (.tuple [.agg (Plan.e r.1), .bool r.2.1]) [[.int .i64 r.2.2]])
 | 0 => (fun _ _ _ _ h => by cases h)
 | k + 1 => (fun _ _ _ _ h => zhu ((zeH k)) h)
noncomputable def zee (a0 : Node) (a1 : Int) (a2 : Int) : Option (Plan × Bool × Int) := (zbi 30) a0 a1 a2
theorem zhK {a0 : Node} {a1 : Int} {a2 : Int} {r : Plan × Bool × Int} (h : zee a0 a1 a2 = some r) : zam false (RF ET) 45 [.agg (Node.e a0), .int .i64 a1, .ptr 0 0] [[.int .i64 a2]] (.tuple [.agg (Plan.e r.1), .bool r.2.1]) [[.int .i64 r.2.2]] := (zeH 30) a0 a1 a2 r h
noncomputable def layout_Read_l1 (n : Node) (float : List Rect) (t25 : Int) (all : Plan) (nodes : Int) : Option ((List Rect × Int × Plan × Int) ⊕ ((Node × Plan × Plan × Int) ⊕ (List Rect × Plan × Int))) :=
 letB (decide (t25 < (n.Kids.length : Int))) fun c6 =>
 bif c6 then (
  Option.bind (
   (idx n.Kids t25).bind fun x8 =>
   letB (decide (x8.Name = [102, 108, 111, 97, 116])) fun c9 =>
   bif c9 then (
    (zbO x8 [120]).bind fun y11 =>
    (zbO x8 [121]).bind fun y12 =>
    (zbO x8 [119]).bind fun y13 =>
    (zbO x8 [104]).bind fun y14 =>
    (zdV (Rect.mk y11 y12 y13 y14)).bind fun y15 =>
    (app float [y15]).bind fun x16 =>
    some (.inl (x16, x8, all, nodes)))
   else (
    (zee x8 1 nodes).bind fun y17 =>
    bif (!y17.2.1) then (
     some (.inr (x8, y17.1, y17.2.2)))
    else (
     (app all.Kids [y17.1]).bind fun x19 =>
     some (.inl (float, x8, { all with Kids := x19 }, y17.2.2)))) : Option ((List Rect × Node × Plan × Int) ⊕ (Node × Plan × Int))) fun j20 =>
  match j20 with
  | .inl z21 => (
   some (.inl (z21.1, w64 (t25 + 1), z21.2.2.1, z21.2.2.2)))
  | .inr z22 => (
   some (.inr (.inl (z22.1, z22.2.1, all, z22.2.2)))))
 else (
  some (.inr (.inr (float, all, nodes))))
noncomputable def zbF (n : Node) : Option (Plan × Int) :=
 letB (decide (n.Name ≠ [108, 97, 121, 111, 117, 116])) fun c1 =>
 (bif c1 then some true else (
  letB (decide ((n.Kids.length : Int) > 40)) fun c3 =>
  some (c3))).bind fun g2 =>
 bif g2 then (
  some ((Plan.mk 0 (Size.mk 0 0) [] [] []), 100))
 else (
  (iter (fun s => layout_Read_l1 n s.1 s.2.1 s.2.2.1 s.2.2.2 : (List Rect × Int × Plan × Int) → Option ((List Rect × Int × Plan × Int) ⊕ ((Node × Plan × Plan × Int) ⊕ (List Rect × Plan × Int)))) ([], 0, (Plan.mk 3 (Size.mk 0 0) [] [] []), 0)).bind fun j23 =>
  match j23 with
  | .inl z24 => (
   some ((Plan.mk 0 (Size.mk 0 0) [] [] []), 100))
  | .inr z25 => (
   letB (decide ((z25.2.1.Kids.length : Int) = 1)) fun c26 =>
   Option.bind (
    bif c26 then (
     (idx z25.2.1.Kids 0).bind fun x28 =>
     some (x28))
    else (
     some (z25.2.1)) : Option Plan) fun j29 =>
   (zb6 ({ j29 with Float := z25.1 })).bind fun y30 =>
   letB (decide (y30 ≠ 0)) fun c31 =>
   bif c31 then (
    some ((Plan.mk 0 (Size.mk 0 0) [] [] []), 100))
   else (
    some ({ j29 with Float := z25.1 }, 0))))
set_option maxRecDepth 20000 in
theorem zhL {n : Node} {r : Plan × Int} (h : zbF n = some r) : zam true (RF ET) 19 [.agg (Node.e n)] [] (.tuple [.agg (Plan.e r.1), .int .i64 r.2]) [] := by
 refine zam.quiet (zaX (af := a19) rfl rfl ?_) rfl
 unfold zbF at h
 refine zaa ?_
 refine zad [1, 2] [0, 1] ?_
 refine zac ?_
 refine ⟨.sl true 6 [], .sl _ _, ?_⟩
 refine ⟨.sl false 4 [], .sl _ _, ?_⟩
 refine zaa ?_
 refine zaa ?_
 refine zad [1, 2, 19] [0, 1] ?_
 refine zai 4 ?_
 refine zac ?_
 refine fun c1 hc1 => ?_
 replace h := zaf hc1 h
 obtain ⟨g2, hg2, h⟩ := zab h
 refine zas 5 19 [1, 2, 19] g2 ?_ ?_
 ·clear h
  replace h := hg2
  clear hg2
  cases hb4 : c1 with
  | false =>
   replace h := zak hb4 h
   refine zac ?_
   refine ⟨_, (lenR Node.cs_is).symm, ?_⟩
   refine fun c3 hc3 => ?_
   replace h := zaf hc3 h
   cases h
   exact ⟨rfl, rfl, rfl⟩
  | true =>
   replace h := zaj hb4 h
   cases h
   refine zac ?_
   exact ⟨rfl, rfl, rfl⟩
 refine zac ?_
 refine zag (b := g2) rfl (fun hb5 => ?_) (fun hb5 => ?_)
 ·replace h := zaj hb5 h
  refine zaa ?_
  refine zad [2, 3] [0, 1] ?_
  refine zac ?_
  refine ⟨.sl true 6 [], .sl _ _, ?_⟩
  refine ⟨.sl false 4 [], .sl _ _, ?_⟩
  refine zao ?_
  cases h
  exact ⟨rfl, rfl, rfl, rfl, rfl⟩
 ·replace h := zak hb5 h
  refine zah ?_
  refine zaa ?_
  refine zad [1, 2, 4] [0, 1] ?_
  refine zac ?_
  refine ⟨.sl true 6 [], .sl _ _, ?_⟩
  refine ⟨.sl false 4 [], .sl _ _, ?_⟩
  refine ⟨.sl true 6 [], .sl _ _, ?_⟩
  refine ⟨.sl false 4 [], .sl _ _, ?_⟩
  refine zaa ?_
  refine zad [1, 2, 4, 5] [0, 1] ?_
  refine zac ?_
  refine ⟨.sl true 4 [], .sl _ _, ?_⟩
  refine zaa ?_
  refine zad [1, 2, 4, 5, 6] [0, 1] ?_
  refine zac ?_
  refine zaa ?_
  refine zaa ?_
  refine zad [2, 4, 5, 6, 23, 24, 25] [0, 1] ?_
  refine zac ?_
  refine ⟨_, (lenR Node.cs_is).symm, ?_⟩
  refine zaN ?_
  obtain ⟨j23, hj23, h⟩ := zab h
  refine zds hj23 [0, 1] (fun s => ([(2, .loc 1 0), (4, .ptr 0 0), (5, .sl true 4 (List.map Rect.c s.1)), (6, .ptr 1 0), (23, .sl false 4 (Node.cs n.Kids)), (24, .int .i64 (n.Kids.length : Int)), (25, .int .i64 s.2.1)], [(0, (Node.e n)), (1, [.int .i64 0, .int .i64 0, .int .i64 0, .str [], .sl true 6 (Plan.cs []), .sl false 4 (List.map Rect.c [])])], [(Plan.c s.2.2.1), [.int .i64 s.2.2.2]])) (fun e => match e with | .ret => [2, 3] | .exit 0 => [2, 4, 5] | _ => []) (fun e => match e with | .ret => [0, 1, 2, 3] | .exit 0 => [0, 1] | _ => []) (fun r => match r with | .inl z => (.ret, [(2, .loc 1 0), (3, .int .i64 100)], [(0, (Node.e n)), (1, [.int .i64 0, .int .i64 0, .int .i64 0, .str [], .sl false 6 (Plan.cs []), .sl false 4 (List.map Rect.c [])]), (2, (Node.e z.1)), (3, (Plan.e z.2.1))], [(Plan.c z.2.2.1), [.int .i64 z.2.2.2]]) | .inr z => (.exit 0, [(2, .loc 1 0), (4, .ptr 0 0), (5, .sl true 4 (List.map Rect.c z.1))], [(0, (Node.e n)), (1, [.int .i64 0, .int .i64 0, .int .i64 0, .str [], .sl true 6 (Plan.cs []), .sl false 4 (List.map Rect.c [])])], [(Plan.c z.2.1), [.int .i64 z.2.2]])) ?_ ?_ ?_
  ·exact rfl
  ·clear h
   rintro ⟨float, t25, all, nodes⟩ x h
   replace h : layout_Read_l1 n float t25 all nodes = some x := h
   unfold layout_Read_l1 at h
   show T.WP _ _ [(2, .loc 1 0), (4, .ptr 0 0), (5, .sl true 4 (List.map Rect.c float)), (6, .ptr 1 0), (23, .sl false 4 (Node.cs n.Kids)), (24, .int .i64 (n.Kids.length : Int)), (25, .int .i64 t25)] [(0, (Node.e n)), (1, [.int .i64 0, .int .i64 0, .int .i64 0, .str [], .sl true 6 (Plan.cs []), .sl false 4 (List.map Rect.c [])])] [(Plan.c all), [.int .i64 nodes]] _
   refine zaa ?_
   refine zad [2, 4, 5, 6, 23, 24, 25, 26] [0, 1] ?_
   refine zac ?_
   refine fun c6 hc6 => ?_
   replace h := zaf hc6 h
   refine zaa ?_
   refine zag (b := c6) rfl (fun hb7 => ?_) (fun hb7 => ?_)
   ·replace h := zaj hb7 h
    refine zah ?_
    refine zaa ?_
    obtain ⟨j20, hj20, h⟩ := zab h
    refine zbZ j20 (fun r => match r with | .inl z => (.normal, [(2, .loc 1 0), (4, .ptr 0 0), (5, .sl true 4 (List.map Rect.c z.1)), (6, .ptr 1 0), (23, .sl false 4 (Node.cs n.Kids)), (24, .int .i64 (n.Kids.length : Int)), (25, .int .i64 t25)], [(0, (Node.e n)), (1, [.int .i64 0, .int .i64 0, .int .i64 0, .str [], .sl true 6 (Plan.cs []), .sl false 4 (List.map Rect.c [])]), (2, (Node.e z.2.1))], [(Plan.c z.2.2.1), [.int .i64 z.2.2.2]]) | .inr z => (.ret, [(2, .loc 1 0), (3, .int .i64 100)], [(0, (Node.e n)), (1, [.int .i64 0, .int .i64 0, .int .i64 0, .str [], .sl false 6 (Plan.cs []), .sl false 4 (List.map Rect.c [])]), (2, (Node.e z.1)), (3, (Plan.e z.2.1))], [(Plan.c all), [.int .i64 z.2.2]])) (fun e => match e with | .normal => [2, 4, 5, 6, 23, 24, 25] | .ret => [2, 3] | _ => []) (fun e => match e with | .normal => [0, 1, 2] | .ret => [0, 1, 2, 3] | _ => []) ?_ ?_
    ·clear h
     replace h := hj20
     clear hj20
     refine zaN ?_
     refine zaa ?_
     refine zad [2, 4, 5, 6, 8, 23, 24, 25] [0, 1, 2] ?_
     refine zac ?_
     obtain ⟨x8, hx8, h⟩ := zab h
     refine And.intro (zb0 hx8) ⟨_, zcD Node.cs_is hx8, ?_⟩
     refine ⟨.sl true 4 [], .sl _ _, ?_⟩
     refine ⟨.sl true 5 [], .sl _ _, ?_⟩
     refine ⟨.sl false 4 [], .sl _ _, ?_⟩
     refine zaa ?_
     refine zaa ?_
     refine zad [2, 4, 5, 6, 8, 23, 24, 25, 31] [0, 1, 2] ?_
     refine zac ?_
     refine fun c9 hc9 => ?_
     replace h := zaf hc9 h
     refine zag (b := c9) rfl (fun hb10 => ?_) (fun hb10 => ?_)
     ·replace h := zaj hb10 h
      refine zaa ?_
      refine zad [2, 4, 5, 6, 23, 24, 25] [0, 1, 2] ?_
      refine zf2 ?_
      obtain ⟨y11, hy11, h⟩ := zab h
      refine ⟨_, _, zam.any (zcE hy11) rfl _ rfl, ?_⟩
      obtain ⟨y12, hy12, h⟩ := zab h
      refine ⟨_, _, zam.any (zcE hy12) rfl _ rfl, ?_⟩
      obtain ⟨y13, hy13, h⟩ := zab h
      refine ⟨_, _, zam.any (zcE hy13) rfl _ rfl, ?_⟩
      obtain ⟨y14, hy14, h⟩ := zab h
      refine ⟨_, _, zam.any (zcE hy14) rfl _ rfl, ?_⟩
      obtain ⟨y15, hy15, h⟩ := zab h
      refine ⟨_, ziM hy15, ?_⟩
      refine ⟨(List.map Rect.c ([y15] : List Rect)), rfl, ?_⟩
      obtain ⟨x16, hx16, h⟩ := zab h
      refine And.intro (znG Rect.c hx16) ⟨_, znH Rect.c hx16, ?_⟩
      refine zcO ?_
      cases h
      exact rfl
     ·replace h := zak hb10 h
      refine zah ?_
      refine zaa ?_
      refine zad [2, 4, 5, 6, 9, 10, 23, 24, 25] [0, 1, 2, 3] ?_
      refine zac ?_
      obtain ⟨y17, hy17, h⟩ := zab h
      refine ⟨_, _, zam.sub (i := 1) (zhK hy17) rfl _ rfl rfl rfl rfl, ?_⟩
      refine ⟨.sl true 6 [], .sl _ _, ?_⟩
      refine ⟨.sl false 4 [], .sl _ _, ?_⟩
      refine zaa ?_
      refine zaa ?_
      refine zad [2, 4, 5, 6, 9, 23, 24, 25, 51] [0, 1, 2, 3] ?_
      refine zac ?_
      refine zag (b := (!y17.2.1)) rfl (fun hb18 => ?_) (fun hb18 => ?_)
      ·replace h := zaj hb18 h
       refine zaa ?_
       refine zad [2, 3] [0, 1, 2, 3] ?_
       refine zac ?_
       refine ⟨.sl true 6 [], .sl _ _, ?_⟩
       refine ⟨.sl false 4 [], .sl _ _, ?_⟩
       refine zao ?_
       cases h
       exact rfl
      ·replace h := zak hb18 h
       refine zah ?_
       refine zad [2, 4, 5, 6, 23, 24, 25] [0, 1, 2, 3] ?_
       refine zac ?_
       refine ⟨.sl false 6 [], .sl _ _, ?_⟩
       refine ⟨.sl false 4 [], .sl _ _, ?_⟩
       refine ⟨(Plan.cs ([y17.1] : List Plan)), (Plan.cs_is _).trans rfl, ?_⟩
       obtain ⟨x19, hx19, h⟩ := zab h
       refine And.intro (ziK Plan.cs_is hx19) ⟨_, ziL Plan.cs_is hx19, ?_⟩
       cases h
       exact rfl
    rcases j20 with z21 | z22
    ·refine zad [2, 4, 5, 6, 23, 24, 25] [0, 1, 2] ?_
     refine zac ?_
     cases h
     exact ⟨_, rfl, rfl⟩
    ·cases h
     exact ⟨_, rfl, rfl⟩
   ·replace h := zak hb7 h
    refine zcO ?_
    cases h
    exact ⟨_, rfl, rfl⟩
  rcases j23 with z24 | z25
  ·cases h
   exact ⟨rfl, rfl, rfl, rfl, rfl⟩
  ·refine zaa ?_
   refine zaa ?_
   refine zad [2, 4, 5, 63] [0, 1] ?_
   refine zac ?_
   refine ⟨_, (lenR Plan.cs_is).symm, ?_⟩
   refine fun c26 hc26 => ?_
   replace h := zaf hc26 h
   obtain ⟨j29, hj29, h⟩ := zab h
   refine zbZ j29 (fun z => (.normal, [(2, .loc 1 0), (4, .ptr 0 0), (5, .sl true 4 (List.map Rect.c z25.1))], [(0, (Node.e n)), (1, [.int .i64 0, .int .i64 0, .int .i64 0, .str [], .sl true 6 (Plan.cs []), .sl false 4 (List.map Rect.c [])])], [(Plan.e z), [.int .i64 z25.2.2]])) (fun _ => [2, 4, 5]) (fun _ => [0, 1]) ?_ ?_
   ·clear h
    replace h := hj29
    clear hj29
    refine zag (b := c26) rfl (fun hb27 => ?_) (fun hb27 => ?_)
    ·replace h := zaj hb27 h
     refine zad [2, 4, 5] [0, 1] ?_
     refine zac ?_
     obtain ⟨x28, hx28, h⟩ := zab h
     refine And.intro (zb0 hx28) ⟨_, zcD Plan.cs_is hx28, ?_⟩
     cases h
     exact rfl
    ·replace h := zak hb27 h
     refine zah ?_
     cases h
     exact rfl
   refine zaa ?_
   refine zad [2, 4] [0, 1] ?_
   refine zac ?_
   refine zaa ?_
   refine zaa ?_
   refine zad [2, 4, 72] [0, 1] ?_
   refine zac ?_
   obtain ⟨y30, hy30, h⟩ := zab h
   refine ⟨_, _, zam.any (zeD hy30) rfl _ rfl, ?_⟩
   refine fun c31 hc31 => ?_
   replace h := zaf hc31 h
   refine zag (b := c31) rfl (fun hb32 => ?_) (fun hb32 => ?_)
   ·replace h := zaj hb32 h
    refine zaa ?_
    refine zad [2, 3] [0, 1] ?_
    refine zac ?_
    refine ⟨.sl true 6 [], .sl _ _, ?_⟩
    refine ⟨.sl false 4 [], .sl _ _, ?_⟩
    refine zao ?_
    cases h
    exact ⟨rfl, rfl, rfl, rfl, rfl⟩
   ·replace h := zak hb32 h
    refine zah ?_
    refine zaa ?_
    refine zad [2, 3] [0, 1] ?_
    refine zac ?_
    refine zao ?_
    cases h
    exact ⟨rfl, rfl, rfl, rfl, rfl⟩
noncomputable def casementref10_property_l1 (n : Node) (name : List Int) (i : Int) : Option (Int ⊕ (Val ⊕ Unit)) :=
 letB (decide (i < (n.Props.length : Int))) fun c1 =>
 bif c1 then (
  (idx n.Props i).bind fun x3 =>
  letB (decide (x3.Name = name)) fun c4 =>
  bif c4 then (
   (idx n.Props i).bind fun x6 =>
   some (.inr (.inl x6.Val)))
  else (
   some (.inl (w64 (i + 1)))))
 else (
  some (.inr (.inr ())))
noncomputable def zaR (n : Node) (name : List Int) : Option (Val × Bool) :=
 (iter (fun s => casementref10_property_l1 n name s : Int → Option (Int ⊕ (Val ⊕ Unit))) 0).bind fun j7 =>
 match j7 with
 | .inl z8 => (
  some (z8, true))
 | .inr z9 => (
  some ((Val.mk 0 [] 0 false), false))
set_option maxRecDepth 20000 in
theorem zcf {n : Node} {name : List Int} {r : Val × Bool} (h : zaR n name = some r) : zam true (RF ET) 72 [.agg (Node.e n), .str name] [] (.tuple [.agg (Val.c r.1), .bool r.2]) [] := by
 refine zam.quiet (zaX (af := a72) rfl rfl ?_) rfl
 unfold zaR at h
 refine zaa ?_
 refine zad [1, 2, 4] [0, 1] ?_
 refine zac ?_
 refine zaa ?_
 refine zaa ?_
 refine zad [1, 2, 4, 6] [0, 1] ?_
 refine zac ?_
 refine zaN ?_
 obtain ⟨j7, hj7, h⟩ := zab h
 refine zds hj7 [0, 1] (fun s => ([(1, .str name), (2, .loc 0 0), (4, .loc 1 0), (6, .int .i64 s)], [(0, (Node.e n)), (1, [.int .i64 0, .str [], .int .i64 0, .bool false])], [])) (fun e => match e with | .ret => [4, 5] | .exit 0 => [4] | _ => []) (fun e => match e with | .ret => [0, 1] | .exit 0 => [0, 1] | _ => []) (fun r => match r with | .inl z => (.ret, [(4, .loc 1 0), (5, .bool true)], [(0, (Node.e n)), (1, (Val.c z))], []) | .inr z => (.exit 0, [(4, .loc 1 0)], [(0, (Node.e n)), (1, [.int .i64 0, .str [], .int .i64 0, .bool false])], [])) ?_ ?_ ?_
 ·exact rfl
 ·clear h
  rintro i x h
  replace h : casementref10_property_l1 n name i = some x := h
  unfold casementref10_property_l1 at h
  show T.WP _ _ [(1, .str name), (2, .loc 0 0), (4, .loc 1 0), (6, .int .i64 i)] [(0, (Node.e n)), (1, [.int .i64 0, .str [], .int .i64 0, .bool false])] [] _
  refine zaa ?_
  refine zaa ?_
  refine zad [1, 2, 4, 6, 11] [0, 1] ?_
  refine zac ?_
  refine ⟨_, (yal ..).symm, ?_⟩
  refine fun c1 hc1 => ?_
  replace h := zaf hc1 h
  refine zag (b := c1) rfl (fun hb2 => ?_) (fun hb2 => ?_)
  ·replace h := zaj hb2 h
   refine zah ?_
   refine zaa ?_
   refine zaN ?_
   refine zaa ?_
   refine zad [1, 2, 4, 6, 21] [0, 1] ?_
   refine zac ?_
   obtain ⟨x3, hx3, h⟩ := zab h
   refine And.intro (zb0 hx3) ⟨_, zdG Prop_.c hx3, ?_⟩
   refine fun c4 hc4 => ?_
   replace h := zaf hc4 h
   refine zag (b := c4) rfl (fun hb5 => ?_) (fun hb5 => ?_)
   ·replace h := zaj hb5 h
    refine zaa ?_
    refine zad [4, 5] [0, 1] ?_
    refine zac ?_
    obtain ⟨x6, hx6, h⟩ := zab h
    refine And.intro (zb0 hx6) ⟨_, zdG Prop_.c hx6, ?_⟩
    refine zao ?_
    cases h
    exact ⟨_, rfl, rfl⟩
   ·replace h := zak hb5 h
    refine zah ?_
    refine zad [1, 2, 4, 6] [0, 1] ?_
    refine zac ?_
    cases h
    exact ⟨_, rfl, rfl⟩
  ·replace h := zak hb2 h
   refine zcO ?_
   cases h
   exact ⟨_, rfl, rfl⟩
 rcases j7 with z8 | z9
 ·cases h
  exact ⟨rfl, rfl, rfl, rfl, rfl⟩
 ·refine zaa ?_
  refine zad [4, 5] [0, 1] ?_
  refine zac ?_
  refine zao ?_
  cases h
  exact ⟨rfl, rfl, rfl, rfl, rfl⟩
noncomputable def zaF (n : Node) (name : List Int) : Option Int :=
 (zaR n name).bind fun y1 =>
 (bif y1.2 then (
  letB (decide (y1.1.Kind = 2)) fun c3 =>
  some (c3)) else some false).bind fun g2 =>
 bif g2 then (
  some y1.1.Int)
 else (
  some 0)
set_option maxRecDepth 20000 in
theorem zbf {n : Node} {name : List Int} {r : Int} (h : zaF n name = some r) : zam true (RF ET) 46 [.agg (Node.e n), .str name] [] (.int .i64 r) [] := by
 refine zam.quiet (zaX (af := a46) rfl rfl ?_) rfl
 unfold zaF at h
 refine zaa ?_
 refine zad [1, 2] [0] ?_
 refine zac ?_
 refine zaa ?_
 refine zad [5, 6] [0, 1] ?_
 refine zac ?_
 obtain ⟨y1, hy1, h⟩ := zab h
 refine ⟨_, _, zam.any (zcf hy1) rfl _ rfl, ?_⟩
 refine zaa ?_
 refine zaa ?_
 refine zad [5, 18] [0, 1] ?_
 refine zai 2 ?_
 refine zac ?_
 obtain ⟨g2, hg2, h⟩ := zab h
 refine zas 4 18 [5, 18] g2 ?_ ?_
 ·clear h
  replace h := hg2
  clear hg2
  cases hb4 : y1.2 with
  | true =>
   replace h := zaj hb4 h
   refine zac ?_
   refine fun c3 hc3 => ?_
   replace h := zaf hc3 h
   cases h
   exact ⟨rfl, rfl, rfl⟩
  | false =>
   replace h := zak hb4 h
   cases h
   refine zac ?_
   exact ⟨rfl, rfl, rfl⟩
 refine zac ?_
 refine zag (b := g2) rfl (fun hb5 => ?_) (fun hb5 => ?_)
 ·replace h := zaj hb5 h
  refine zaa ?_
  refine zad [4] [0, 1] ?_
  refine zac ?_
  refine zao ?_
  cases h
  exact ⟨rfl, rfl, rfl, rfl, rfl⟩
 ·replace h := zak hb5 h
  refine zah ?_
  refine zaa ?_
  refine zad [4] [0, 1] ?_
  refine zac ?_
  refine zao ?_
  cases h
  exact ⟨rfl, rfl, rfl, rfl, rfl⟩
noncomputable def casementref10_size_l1 (y1 : Val × Bool) (p : Int) (i : Int) : Option ((Int × Int) ⊕ (Unit ⊕ Int)) :=
 letB (decide (i < (w64 ((y1.1.Text.length : Int) - 1)))) fun c20 =>
 bif c20 then (
  (idx y1.1.Text i).bind fun x22 =>
  letB (decide (x22 < 48)) fun c23 =>
  (bif c23 then some true else (
   (idx y1.1.Text i).bind fun x25 =>
   letB (decide (x25 > 57)) fun c26 =>
   some (c26))).bind fun g24 =>
  bif g24 then (
   some (.inr (.inl ())))
  else (
   (idx y1.1.Text i).bind fun x29 =>
   some (.inl (w64 ((w64 (p * 10)) + (w64 (w8 (x29 - 48)))), w64 (i + 1)))))
 else (
  some (.inr (.inr p)))
noncomputable def zby (n : Node) : Option Size :=
 (zaR n [115, 105, 122, 101]).bind fun y1 =>
 (bif y1.2 then (
  letB (decide (y1.1.Kind = 2)) fun c3 =>
  some (c3)) else some false).bind fun g2 =>
 bif g2 then (
  some (Size.mk 1 y1.1.Int))
 else (
  (bif y1.2 then (
   letB (decide (y1.1.Kind = 1)) fun c7 =>
   some (c7)) else some false).bind fun g6 =>
  (bif g6 then (
   letB (decide ((w64 ((y1.1.Text.length : Int) - 1)) ≥ 1)) fun c10 =>
   some (c10)) else some false).bind fun g9 =>
  (bif g9 then (
   letB (decide ((w64 ((y1.1.Text.length : Int) - 1)) ≤ 3)) fun c13 =>
   some (c13)) else some false).bind fun g12 =>
  (bif g12 then (
   (idx y1.1.Text (w64 ((y1.1.Text.length : Int) - 1))).bind fun x16 =>
   letB (decide (x16 = 37)) fun c17 =>
   some (c17)) else some false).bind fun g15 =>
  bif g15 then (
   (iter (fun s => casementref10_size_l1 y1 s.1 s.2 : (Int × Int) → Option ((Int × Int) ⊕ (Unit ⊕ Int))) (0, 0)).bind fun j30 =>
   match j30 with
   | .inl z31 => (
    some (Size.mk 0 0))
   | .inr z32 => (
    some (Size.mk 2 z32)))
  else (
   some (Size.mk 0 0)))
set_option maxRecDepth 20000 in
theorem zeI {n : Node} {r : Size} (h : zby n = some r) : zam true (RF ET) 73 [.agg (Node.e n)] [] (.agg (Size.c r)) [] := by
 refine zam.quiet (zaX (af := a73) rfl rfl ?_) rfl
 unfold zby at h
 refine zaa ?_
 refine zad [1, 2] [0, 1] ?_
 refine zac ?_
 refine zaa ?_
 refine zad [2, 3, 4] [0, 1, 2] ?_
 refine zac ?_
 obtain ⟨y1, hy1, h⟩ := zab h
 refine ⟨_, _, zam.any (zcf hy1) rfl _ rfl, ?_⟩
 refine zaa ?_
 refine zaa ?_
 refine zad [2, 3, 4, 18] [0, 1, 2] ?_
 refine zai 2 ?_
 refine zac ?_
 obtain ⟨g2, hg2, h⟩ := zab h
 refine zas 4 18 [2, 3, 4, 18] g2 ?_ ?_
 ·clear h
  replace h := hg2
  clear hg2
  cases hb4 : y1.2 with
  | true =>
   replace h := zaj hb4 h
   refine zac ?_
   refine fun c3 hc3 => ?_
   replace h := zaf hc3 h
   cases h
   exact ⟨rfl, rfl, rfl⟩
  | false =>
   replace h := zak hb4 h
   cases h
   refine zac ?_
   exact ⟨rfl, rfl, rfl⟩
 refine zac ?_
 refine zag (b := g2) rfl (fun hb5 => ?_) (fun hb5 => ?_)
 ·replace h := zaj hb5 h
  refine zaa ?_
  refine zad [2] [0, 1, 2] ?_
  refine zac ?_
  refine zao ?_
  cases h
  exact ⟨rfl, rfl, rfl, rfl, rfl⟩
 ·replace h := zak hb5 h
  refine zah ?_
  refine zaa ?_
  refine zad [2, 3, 4, 5] [0, 1, 2] ?_
  refine zac ?_
  refine zaa ?_
  refine zaa ?_
  refine zad [2, 3, 5, 46] [0, 1, 2] ?_
  refine zai 2 ?_
  refine zac ?_
  obtain ⟨g6, hg6, h⟩ := zab h
  refine zas 4 31 [2, 3, 5, 31] g6 ?_ ?_
  ·clear h
   replace h := hg6
   clear hg6
   cases hb8 : y1.2 with
   | true =>
    replace h := zaj hb8 h
    refine zac ?_
    refine fun c7 hc7 => ?_
    replace h := zaf hc7 h
    cases h
    exact ⟨rfl, rfl, rfl⟩
   | false =>
    replace h := zak hb8 h
    cases h
    refine zac ?_
    exact ⟨rfl, rfl, rfl⟩
  refine zai 1 ?_
  refine zac ?_
  obtain ⟨g9, hg9, h⟩ := zab h
  refine zas 3 35 [2, 3, 5, 35] g9 ?_ ?_
  ·clear h
   replace h := hg9
   clear hg9
   cases hb11 : g6 with
   | true =>
    replace h := zaj hb11 h
    refine zac ?_
    refine fun c10 hc10 => ?_
    replace h := zaf hc10 h
    cases h
    exact ⟨rfl, rfl, rfl⟩
   | false =>
    replace h := zak hb11 h
    cases h
    refine zac ?_
    exact ⟨rfl, rfl, rfl⟩
  refine zai 1 ?_
  refine zac ?_
  obtain ⟨g12, hg12, h⟩ := zab h
  refine zas 3 39 [2, 3, 5, 39] g12 ?_ ?_
  ·clear h
   replace h := hg12
   clear hg12
   cases hb14 : g9 with
   | true =>
    replace h := zaj hb14 h
    refine zac ?_
    refine fun c13 hc13 => ?_
    replace h := zaf hc13 h
    cases h
    exact ⟨rfl, rfl, rfl⟩
   | false =>
    replace h := zak hb14 h
    cases h
    refine zac ?_
    exact ⟨rfl, rfl, rfl⟩
  refine zai 1 ?_
  refine zac ?_
  obtain ⟨g15, hg15, h⟩ := zab h
  refine zas 6 46 [2, 3, 5, 46] g15 ?_ ?_
  ·clear h
   replace h := hg15
   clear hg15
   cases hb18 : g12 with
   | true =>
    replace h := zaj hb18 h
    refine zac ?_
    obtain ⟨x16, hx16, h⟩ := zab h
    refine And.intro (zb0 hx16) ⟨_, zie hx16, ?_⟩
    refine fun c17 hc17 => ?_
    replace h := zaf hc17 h
    cases h
    exact ⟨rfl, rfl, rfl⟩
   | false =>
    replace h := zak hb18 h
    cases h
    refine zac ?_
    exact ⟨rfl, rfl, rfl⟩
  refine zac ?_
  refine zag (b := g15) rfl (fun hb19 => ?_) (fun hb19 => ?_)
  ·replace h := zaj hb19 h
   refine zaa ?_
   refine zad [2, 3, 5, 6] [0, 1, 2] ?_
   refine zac ?_
   refine zaa ?_
   refine zaa ?_
   refine zad [2, 3, 5, 6, 7] [0, 1, 2] ?_
   refine zac ?_
   refine zaN ?_
   obtain ⟨j30, hj30, h⟩ := zab h
   refine zds hj30 [0, 1, 2] (fun s => ([(2, .loc 1 0), (3, .loc 2 0), (5, .int .i64 (w64 ((y1.1.Text.length : Int) - 1))), (6, .int .i64 s.1), (7, .int .i64 s.2)], [(0, (Node.e n)), (1, [.int .i64 0, .int .i64 0]), (2, (Val.c y1.1))], [])) (fun e => match e with | .ret => [2] | .exit 0 => [2, 6] | _ => []) (fun e => match e with | .ret => [0, 1, 2] | .exit 0 => [0, 1, 2] | _ => []) (fun r => match r with | .inl z => (.ret, [(2, .loc 1 0)], [(0, (Node.e n)), (1, [.int .i64 0, .int .i64 0]), (2, (Val.c y1.1))], []) | .inr z => (.exit 0, [(2, .loc 1 0), (6, .int .i64 z)], [(0, (Node.e n)), (1, [.int .i64 0, .int .i64 0]), (2, (Val.c y1.1))], [])) ?_ ?_ ?_
   ·exact rfl
   ·clear h
    rintro ⟨p, i⟩ x h
    replace h : casementref10_size_l1 y1 p i = some x := h
    unfold casementref10_size_l1 at h
    show T.WP _ _ [(2, .loc 1 0), (3, .loc 2 0), (5, .int .i64 (w64 ((y1.1.Text.length : Int) - 1))), (6, .int .i64 p), (7, .int .i64 i)] [(0, (Node.e n)), (1, [.int .i64 0, .int .i64 0]), (2, (Val.c y1.1))] [] _
    refine zaa ?_
    refine zaa ?_
    refine zad [2, 3, 5, 6, 7, 49] [0, 1, 2] ?_
    refine zac ?_
    refine fun c20 hc20 => ?_
    replace h := zaf hc20 h
    refine zag (b := c20) rfl (fun hb21 => ?_) (fun hb21 => ?_)
    ·replace h := zaj hb21 h
     refine zah ?_
     refine zaa ?_
     refine zaN ?_
     refine zaa ?_
     refine zaa ?_
     refine zad [2, 3, 5, 6, 7, 63] [0, 1, 2] ?_
     refine zai 6 ?_
     refine zac ?_
     obtain ⟨x22, hx22, h⟩ := zab h
     refine And.intro (zb0 hx22) ⟨_, zie hx22, ?_⟩
     refine fun c23 hc23 => ?_
     replace h := zaf hc23 h
     obtain ⟨g24, hg24, h⟩ := zab h
     refine zas 6 63 [2, 3, 5, 6, 7, 63] g24 ?_ ?_
     ·clear h
      replace h := hg24
      clear hg24
      cases hb27 : c23 with
      | false =>
       replace h := zak hb27 h
       refine zac ?_
       obtain ⟨x25, hx25, h⟩ := zab h
       refine And.intro (zb0 hx25) ⟨_, zie hx25, ?_⟩
       refine fun c26 hc26 => ?_
       replace h := zaf hc26 h
       cases h
       exact ⟨rfl, rfl, rfl⟩
      | true =>
       replace h := zaj hb27 h
       cases h
       refine zac ?_
       exact ⟨rfl, rfl, rfl⟩
     refine zac ?_
     refine zag (b := g24) rfl (fun hb28 => ?_) (fun hb28 => ?_)
     ·replace h := zaj hb28 h
      refine zaa ?_
      refine zad [2] [0, 1, 2] ?_
      refine zac ?_
      refine zao ?_
      cases h
      exact ⟨_, rfl, rfl⟩
     ·replace h := zak hb28 h
      refine zah ?_
      refine zad [2, 3, 5, 6, 7] [0, 1, 2] ?_
      refine zac ?_
      obtain ⟨x29, hx29, h⟩ := zab h
      refine And.intro (zb0 hx29) ⟨_, zie hx29, ?_⟩
      refine zad [2, 3, 5, 6, 7] [0, 1, 2] ?_
      refine zac ?_
      cases h
      exact ⟨_, rfl, rfl⟩
    ·replace h := zak hb21 h
     refine zcO ?_
     cases h
     exact ⟨_, rfl, rfl⟩
   rcases j30 with z31 | z32
   ·cases h
    exact ⟨rfl, rfl, rfl, rfl, rfl⟩
   ·refine zaa ?_
    refine zad [2] [0, 1, 2] ?_
    refine zac ?_
    refine zao ?_
    cases h
    exact ⟨rfl, rfl, rfl, rfl, rfl⟩
  ·replace h := zak hb19 h
   refine zah ?_
   refine zaa ?_
   refine zad [2] [0, 1, 2] ?_
   refine zac ?_
   refine zao ?_
   cases h
   exact ⟨rfl, rfl, rfl, rfl, rfl⟩
noncomputable def casementref10_planF_l1 (n : Node) (deep : Int) (rec47 : Node → Int → Int → Option (Plan × Int)) (nodes' : Int) (i : Int) (p : Plan) : Option ((Int × Int × Plan) ⊕ ((Int × Plan × Plan) ⊕ (Int × Plan))) :=
 letB (decide (i < (n.Kids.length : Int))) fun c32 =>
 (bif c32 then (
  letB (decide (i ≤ 16)) fun c34 =>
  some (c34)) else some false).bind fun g33 =>
 bif g33 then (
  (idx n.Kids i).bind fun x37 =>
  (rec47 x37 (w64 (deep + 1)) nodes').bind fun y38 =>
  letB (decide (y38.1.Kind = 0)) fun c39 =>
  bif c39 then (
   some (.inr (.inl (y38.2, p, y38.1))))
  else (
   (app p.Kids [y38.1]).bind fun x41 =>
   some (.inl (y38.2, w64 (i + 1), { p with Kids := x41 }))))
 else (
  some (.inr (.inr (nodes', p))))
noncomputable def zaM (rec47 : Node → Int → Int → Option (Plan × Int)) (n : Node) (deep : Int) (nodes : Int) : Option (Plan × Int) :=
 (zby n).bind fun y1 =>
 letB (decide (deep > 12)) fun c2 =>
 (bif c2 then some true else (
  letB (decide ((w64 (nodes + 1)) > 288)) fun c4 =>
  some (c4))).bind fun g3 =>
 bif g3 then (
  some ((Plan.mk 0 (Size.mk 0 0) [] [] []), w64 (nodes + 1)))
 else (
  Option.bind (
   letB (decide (n.Name = [112, 97, 110, 101])) fun c7 =>
   Option.bind (
    bif c7 then (
     letB (decide ((n.Args.length : Int) > 0)) fun c9 =>
     (bif c9 then (
      (idx n.Args 0).bind fun x11 =>
      letB (decide (x11.Kind = 1)) fun c12 =>
      some (c12)) else some false).bind fun g10 =>
     Option.bind (
      bif g10 then (
       (idx n.Args 0).bind fun x15 =>
       some ((Plan.mk 1 y1 x15.Text [] [])))
      else (
       some ((Plan.mk 1 y1 [] [] []))) : Option Plan) fun j16 =>
     some (.inr j16))
    else (
     letB (decide (n.Name = [99, 111, 108, 115])) fun c17 =>
     Option.bind (
      bif c17 then (
       some ((Plan.mk 2 y1 [] [] [])))
      else (
       letB (decide (n.Name = [114, 111, 119, 115])) fun c19 =>
       Option.bind (
        bif c19 then (
         some ((Plan.mk 3 y1 [] [] [])))
        else (
         letB (decide (n.Name = [115, 116, 97, 99, 107])) fun c21 =>
         Option.bind (
          bif c21 then (
           some ((Plan.mk 4 y1 [] [] [])))
          else (
           some ((Plan.mk 0 y1 [] [] []))) : Option Plan) fun j23 =>
         some (j23)) : Option Plan) fun j24 =>
       some (j24)) : Option Plan) fun j25 =>
     some (.inl j25)) : Option (Plan ⊕ Plan)) fun j26 =>
   match j26 with
   | .inl z27 => (
    some (.inl z27))
   | .inr z28 => (
    some (.inr z28)) : Option (Plan ⊕ Plan)) fun j29 =>
  match j29 with
  | .inl z30 => (
   (iter (fun s => casementref10_planF_l1 n deep rec47 s.1 s.2.1 s.2.2 : (Int × Int × Plan) → Option ((Int × Int × Plan) ⊕ ((Int × Plan × Plan) ⊕ (Int × Plan)))) (w64 (nodes + 1), 0, z30)).bind fun j42 =>
   match j42 with
   | .inl z43 => (
    some ((Plan.mk 0 (Size.mk 0 0) [] [] []), z43.1))
   | .inr z44 => (
    some (z44.2, z44.1)))
  | .inr z31 => (
   some (z31, w64 (nodes + 1))))
set_option maxRecDepth 20000 in
theorem zen {rec47 : Node → Int → Int → Option (Plan × Int)} (rec47_ok : ∀ (a0 : Node) (a1 : Int) (a2 : Int) (r : Plan × Int), rec47 a0 a1 a2 = some r → zam true (RF ET) 47 [.agg (Node.e a0), .int .i64 a1, .int .i64 a2] [] (.tuple [.agg (Plan.e r.1), .int .i64 r.2]) []) {n : Node} {deep : Int} {nodes : Int} {r : Plan × Int} (h : zaM rec47 n deep nodes = some r) : zam true (RF ET) 47 [.agg (Node.e n), .int .i64 deep, .int .i64 nodes] [] (.tuple [.agg (Plan.e r.1), .int .i64 r.2]) [] := by
 refine zam.quiet (zaX (af := a47) rfl rfl ?_) rfl
 unfold zaM at h
 refine zaa ?_
 refine zad [1, 2, 3, 6] [0, 1] ?_
 refine zac ?_
 refine ⟨.sl true 6 [], .sl _ _, ?_⟩
 refine ⟨.sl false 4 [], .sl _ _, ?_⟩
 refine zaa ?_
 refine zad [1, 2, 3, 6, 8] [0, 1, 2] ?_
 refine zac ?_
 obtain ⟨y1, hy1, h⟩ := zab h
 refine ⟨_, _, zam.any (zeI hy1) rfl _ rfl, ?_⟩
 refine ⟨.sl true 6 [], .sl _ _, ?_⟩
 refine ⟨.sl false 4 [], .sl _ _, ?_⟩
 refine ⟨.sl true 6 [], .sl _ _, ?_⟩
 refine ⟨.sl false 4 [], .sl _ _, ?_⟩
 refine zaa ?_
 refine zad [1, 2, 3, 6, 8] [0, 1, 2] ?_
 refine zac ?_
 refine zaa ?_
 refine zaa ?_
 refine zad [1, 2, 3, 6, 8, 22] [0, 1, 2] ?_
 refine zai 3 ?_
 refine zac ?_
 refine fun c2 hc2 => ?_
 replace h := zaf hc2 h
 obtain ⟨g3, hg3, h⟩ := zab h
 refine zas 3 22 [1, 2, 3, 6, 8, 22] g3 ?_ ?_
 ·clear h
  replace h := hg3
  clear hg3
  cases hb5 : c2 with
  | false =>
   replace h := zak hb5 h
   refine zac ?_
   refine fun c4 hc4 => ?_
   replace h := zaf hc4 h
   cases h
   exact ⟨rfl, rfl, rfl⟩
  | true =>
   replace h := zaj hb5 h
   cases h
   refine zac ?_
   exact ⟨rfl, rfl, rfl⟩
 refine zac ?_
 refine zag (b := g3) rfl (fun hb6 => ?_) (fun hb6 => ?_)
 ·replace h := zaj hb6 h
  refine zaa ?_
  refine zad [6, 7] [0, 1, 2] ?_
  refine zac ?_
  refine ⟨.sl true 6 [], .sl _ _, ?_⟩
  refine ⟨.sl false 4 [], .sl _ _, ?_⟩
  refine zao ?_
  cases h
  exact ⟨rfl, rfl, rfl, rfl, rfl⟩
 ·replace h := zak hb6 h
  refine zah ?_
  refine zaa ?_
  refine zaa ?_
  refine zad [1, 2, 3, 6, 8, 26] [0, 1, 2] ?_
  refine zac ?_
  obtain ⟨j29, hj29, h⟩ := zab h
  refine zbZ j29 (fun r => match r with | .inl z => (.normal, [(1, .int .i64 deep), (2, .int .i64 (w64 (nodes + 1))), (3, .loc 0 0), (6, .loc 1 0), (8, .loc 2 0)], [(0, (Node.e n)), (1, [.int .i64 0, .int .i64 0, .int .i64 0, .str [], .sl true 6 (Plan.cs []), .sl false 4 (List.map Rect.c [])]), (2, (Plan.c z))], []) | .inr z => (.ret, [(6, .loc 1 0), (7, .int .i64 (w64 (nodes + 1)))], [(0, (Node.e n)), (1, (Plan.e z))], [])) (fun e => match e with | .normal => [1, 2, 3, 6, 8] | .ret => [6, 7] | _ => []) (fun e => match e with | .normal => [0, 1, 2] | .ret => [0, 1] | _ => []) ?_ ?_
  ·clear h
   replace h := hj29
   clear hj29
   refine zaN ?_
   refine zaa ?_
   refine zad [1, 2, 3, 6, 8, 26, 27] [0, 1, 2] ?_
   refine zac ?_
   refine fun c7 hc7 => ?_
   replace h := zaf hc7 h
   obtain ⟨j26, hj26, h⟩ := zab h
   refine zbZ j26 (fun r => match r with | .inl z => (.normal, [(1, .int .i64 deep), (2, .int .i64 (w64 (nodes + 1))), (3, .loc 0 0), (6, .loc 1 0), (8, .loc 2 0)], [(0, (Node.e n)), (1, [.int .i64 0, .int .i64 0, .int .i64 0, .str [], .sl true 6 (Plan.cs []), .sl false 4 (List.map Rect.c [])]), (2, (Plan.c z))], []) | .inr z => (.ret, [(6, .loc 1 0), (7, .int .i64 (w64 (nodes + 1)))], [(0, (Node.e n)), (1, (Plan.e z))], [])) (fun e => match e with | .normal => [1, 2, 3, 6, 8] | .ret => [6, 7] | _ => []) (fun e => match e with | .normal => [0, 1, 2] | .ret => [0, 1] | _ => []) ?_ ?_
   ·clear h
    replace h := hj26
    clear hj26
    refine zag (b := c7) rfl (fun hb8 => ?_) (fun hb8 => ?_)
    ·replace h := zaj hb8 h
     refine zaa ?_
     refine zad [2, 3, 6, 8] [0, 1, 2] ?_
     refine zac ?_
     refine zaa ?_
     refine zaa ?_
     refine zad [2, 3, 6, 8, 41] [0, 1, 2] ?_
     refine zai 5 ?_
     refine zac ?_
     refine ⟨_, (yal ..).symm, ?_⟩
     refine fun c9 hc9 => ?_
     replace h := zaf hc9 h
     obtain ⟨g10, hg10, h⟩ := zab h
     refine zas 7 41 [2, 3, 6, 8, 41] g10 ?_ ?_
     ·clear h
      replace h := hg10
      clear hg10
      cases hb13 : c9 with
      | true =>
       replace h := zaj hb13 h
       refine zac ?_
       obtain ⟨x11, hx11, h⟩ := zab h
       refine And.intro (zb0 hx11) ⟨_, zdG Val.c hx11, ?_⟩
       refine fun c12 hc12 => ?_
       replace h := zaf hc12 h
       cases h
       exact ⟨rfl, rfl, rfl⟩
      | false =>
       replace h := zak hb13 h
       cases h
       refine zac ?_
       exact ⟨rfl, rfl, rfl⟩
     refine zac ?_
     obtain ⟨j16, hj16, h⟩ := zab h
     refine zbZ j16 (fun z => (.normal, [(2, .int .i64 (w64 (nodes + 1))), (6, .loc 1 0), (8, .loc 2 0)], [(0, (Node.e n)), (1, [.int .i64 0, .int .i64 0, .int .i64 0, .str [], .sl true 6 (Plan.cs []), .sl false 4 (List.map Rect.c [])]), (2, (Plan.c z))], [])) (fun _ => [2, 6, 8]) (fun _ => [0, 1, 2]) ?_ ?_
     ·clear h
      replace h := hj16
      clear hj16
      refine zag (b := g10) rfl (fun hb14 => ?_) (fun hb14 => ?_)
      ·replace h := zaj hb14 h
       refine zad [2, 6, 8] [0, 1, 2] ?_
       refine zac ?_
       obtain ⟨x15, hx15, h⟩ := zab h
       refine And.intro (zb0 hx15) ⟨_, zdG Val.c hx15, ?_⟩
       cases h
       exact rfl
      ·replace h := zak hb14 h
       refine zah ?_
       cases h
       exact rfl
     refine zaa ?_
     refine zad [6, 7] [0, 1, 2] ?_
     refine zac ?_
     refine zao ?_
     cases h
     exact rfl
    ·replace h := zak hb8 h
     refine zaa ?_
     refine zad [1, 2, 3, 6, 8, 26, 50] [0, 1, 2] ?_
     refine zac ?_
     refine fun c17 hc17 => ?_
     replace h := zaf hc17 h
     obtain ⟨j25, hj25, h⟩ := zab h
     refine zbZ j25 (fun z => (.normal, [(1, .int .i64 deep), (2, .int .i64 (w64 (nodes + 1))), (3, .loc 0 0), (6, .loc 1 0), (8, .loc 2 0)], [(0, (Node.e n)), (1, [.int .i64 0, .int .i64 0, .int .i64 0, .str [], .sl true 6 (Plan.cs []), .sl false 4 (List.map Rect.c [])]), (2, (Plan.c z))], [])) (fun _ => [1, 2, 3, 6, 8]) (fun _ => [0, 1, 2]) ?_ ?_
     ·clear h
      replace h := hj25
      clear hj25
      refine zag (b := c17) rfl (fun hb18 => ?_) (fun hb18 => ?_)
      ·replace h := zaj hb18 h
       refine zad [1, 2, 3, 6, 8] [0, 1, 2] ?_
       refine zac ?_
       cases h
       exact rfl
      ·replace h := zak hb18 h
       refine zaa ?_
       refine zad [1, 2, 3, 6, 8, 26, 53] [0, 1, 2] ?_
       refine zac ?_
       refine fun c19 hc19 => ?_
       replace h := zaf hc19 h
       obtain ⟨j24, hj24, h⟩ := zab h
       refine zbZ j24 (fun z => (.normal, [(1, .int .i64 deep), (2, .int .i64 (w64 (nodes + 1))), (3, .loc 0 0), (6, .loc 1 0), (8, .loc 2 0)], [(0, (Node.e n)), (1, [.int .i64 0, .int .i64 0, .int .i64 0, .str [], .sl true 6 (Plan.cs []), .sl false 4 (List.map Rect.c [])]), (2, (Plan.c z))], [])) (fun _ => [1, 2, 3, 6, 8]) (fun _ => [0, 1, 2]) ?_ ?_
       ·clear h
        replace h := hj24
        clear hj24
        refine zag (b := c19) rfl (fun hb20 => ?_) (fun hb20 => ?_)
        ·replace h := zaj hb20 h
         refine zad [1, 2, 3, 6, 8] [0, 1, 2] ?_
         refine zac ?_
         cases h
         exact rfl
        ·replace h := zak hb20 h
         refine zaa ?_
         refine zad [1, 2, 3, 6, 8, 56] [0, 1, 2] ?_
         refine zac ?_
         refine fun c21 hc21 => ?_
         replace h := zaf hc21 h
         obtain ⟨j23, hj23, h⟩ := zab h
         refine zbZ j23 (fun z => (.normal, [(1, .int .i64 deep), (2, .int .i64 (w64 (nodes + 1))), (3, .loc 0 0), (6, .loc 1 0), (8, .loc 2 0)], [(0, (Node.e n)), (1, [.int .i64 0, .int .i64 0, .int .i64 0, .str [], .sl true 6 (Plan.cs []), .sl false 4 (List.map Rect.c [])]), (2, (Plan.c z))], [])) (fun _ => [1, 2, 3, 6, 8]) (fun _ => [0, 1, 2]) ?_ ?_
         ·clear h
          replace h := hj23
          clear hj23
          refine zag (b := c21) rfl (fun hb22 => ?_) (fun hb22 => ?_)
          ·replace h := zaj hb22 h
           refine zad [1, 2, 3, 6, 8] [0, 1, 2] ?_
           refine zac ?_
           cases h
           exact rfl
          ·replace h := zak hb22 h
           refine zah ?_
           cases h
           exact rfl
         cases h
         exact rfl
       cases h
       exact rfl
     cases h
     exact rfl
   rcases j26 with z27 | z28
   ·cases h
    exact rfl
   ·cases h
    exact rfl
  rcases j29 with z30 | z31
  ·refine zaa ?_
   refine zaa ?_
   refine zad [1, 2, 3, 6, 8, 9] [0, 1, 2] ?_
   refine zac ?_
   refine zaN ?_
   obtain ⟨j42, hj42, h⟩ := zab h
   refine zds hj42 [0, 1, 2] (fun s => ([(1, .int .i64 deep), (2, .int .i64 s.1), (3, .loc 0 0), (6, .loc 1 0), (8, .loc 2 0), (9, .int .i64 s.2.1)], [(0, (Node.e n)), (1, [.int .i64 0, .int .i64 0, .int .i64 0, .str [], .sl true 6 (Plan.cs []), .sl false 4 (List.map Rect.c [])]), (2, (Plan.c s.2.2))], [])) (fun e => match e with | .ret => [6, 7] | .exit 1 => [2, 6, 8] | _ => []) (fun e => match e with | .ret => [0, 1, 2, 3] | .exit 1 => [0, 1, 2] | _ => []) (fun r => match r with | .inl z => (.ret, [(6, .loc 1 0), (7, .int .i64 z.1)], [(0, (Node.e n)), (1, [.int .i64 0, .int .i64 0, .int .i64 0, .str [], .sl false 6 (Plan.cs []), .sl false 4 (List.map Rect.c [])]), (2, (Plan.c z.2.1)), (3, (Plan.e z.2.2))], []) | .inr z => (.exit 1, [(2, .int .i64 z.1), (6, .loc 1 0), (8, .loc 2 0)], [(0, (Node.e n)), (1, [.int .i64 0, .int .i64 0, .int .i64 0, .str [], .sl true 6 (Plan.cs []), .sl false 4 (List.map Rect.c [])]), (2, (Plan.c z.2))], [])) ?_ ?_ ?_
   ·exact rfl
   ·clear h
    rintro ⟨nodes', i, p⟩ x h
    replace h : casementref10_planF_l1 n deep rec47 nodes' i p = some x := h
    unfold casementref10_planF_l1 at h
    show T.WP _ _ [(1, .int .i64 deep), (2, .int .i64 nodes'), (3, .loc 0 0), (6, .loc 1 0), (8, .loc 2 0), (9, .int .i64 i)] [(0, (Node.e n)), (1, [.int .i64 0, .int .i64 0, .int .i64 0, .str [], .sl true 6 (Plan.cs []), .sl false 4 (List.map Rect.c [])]), (2, (Plan.c p))] [] _
    refine zaa ?_
    refine zaa ?_
    refine zad [1, 2, 3, 6, 8, 9, 67] [0, 1, 2] ?_
    refine zai 6 ?_
    refine zac ?_
    refine ⟨_, (lenR Node.cs_is).symm, ?_⟩
    refine fun c32 hc32 => ?_
    replace h := zaf hc32 h
    obtain ⟨g33, hg33, h⟩ := zab h
    refine zas 3 67 [1, 2, 3, 6, 8, 9, 67] g33 ?_ ?_
    ·clear h
     replace h := hg33
     clear hg33
     cases hb35 : c32 with
     | true =>
      replace h := zaj hb35 h
      refine zac ?_
      refine fun c34 hc34 => ?_
      replace h := zaf hc34 h
      cases h
      exact ⟨rfl, rfl, rfl⟩
     | false =>
      replace h := zak hb35 h
      cases h
      refine zac ?_
      exact ⟨rfl, rfl, rfl⟩
    refine zac ?_
    refine zag (b := g33) rfl (fun hb36 => ?_) (fun hb36 => ?_)
    ·replace h := zaj hb36 h
     refine zah ?_
     refine zaa ?_
     refine zaN ?_
     refine zaa ?_
     refine zad [1, 3, 6, 8, 9, 10, 11] [0, 1, 2, 3] ?_
     refine zac ?_
     obtain ⟨x37, hx37, h⟩ := zab h
     refine And.intro (zb0 hx37) ⟨_, zcD Node.cs_is hx37, ?_⟩
     obtain ⟨y38, hy38, h⟩ := zab h
     refine ⟨_, _, zam.any (rec47_ok _ _ _ _ hy38) rfl _ rfl, ?_⟩
     refine ⟨.sl true 6 [], .sl _ _, ?_⟩
     refine ⟨.sl false 4 [], .sl _ _, ?_⟩
     refine zaa ?_
     refine zad [1, 2, 3, 6, 8, 9, 10] [0, 1, 2, 3] ?_
     refine zac ?_
     refine zaa ?_
     refine zaa ?_
     refine zad [1, 2, 3, 6, 8, 9, 10, 85] [0, 1, 2, 3] ?_
     refine zac ?_
     refine fun c39 hc39 => ?_
     replace h := zaf hc39 h
     refine zag (b := c39) rfl (fun hb40 => ?_) (fun hb40 => ?_)
     ·replace h := zaj hb40 h
      refine zaa ?_
      refine zad [6, 7] [0, 1, 2, 3] ?_
      refine zac ?_
      refine ⟨.sl true 6 [], .sl _ _, ?_⟩
      refine ⟨.sl false 4 [], .sl _ _, ?_⟩
      refine zao ?_
      cases h
      exact ⟨_, rfl, rfl⟩
     ·replace h := zak hb40 h
      refine zah ?_
      refine zad [1, 2, 3, 6, 8, 9] [0, 1, 2, 3] ?_
      refine zac ?_
      refine ⟨.sl false 6 [], .sl _ _, ?_⟩
      refine ⟨.sl false 4 [], .sl _ _, ?_⟩
      refine ⟨(Plan.cs ([y38.1] : List Plan)), (Plan.cs_is _).trans rfl, ?_⟩
      obtain ⟨x41, hx41, h⟩ := zab h
      refine And.intro (ziK Plan.cs_is hx41) ⟨_, ziL Plan.cs_is hx41, ?_⟩
      refine zad [1, 2, 3, 6, 8, 9] [0, 1, 2, 3] ?_
      refine zac ?_
      cases h
      exact ⟨_, rfl, rfl⟩
    ·replace h := zak hb36 h
     refine zcO ?_
     cases h
     exact ⟨_, rfl, rfl⟩
   rcases j42 with z43 | z44
   ·cases h
    exact ⟨rfl, rfl, rfl, rfl, rfl⟩
   ·refine zaa ?_
    refine zad [6, 7] [0, 1, 2] ?_
    refine zac ?_
    refine zao ?_
    cases h
    exact ⟨rfl, rfl, rfl, rfl, rfl⟩
  ·cases h
   exact ⟨rfl, rfl, rfl, rfl, rfl⟩
noncomputable def zau : Nat → (Node → Int → Int → Option (Plan × Int))
 | 0 => fun _ _ _ => none
 | k + 1 => zaM ((zau k))
theorem zcF : ∀ k, (∀ (a0 : Node) (a1 : Int) (a2 : Int) (r : Plan × Int), ((zau k)) a0 a1 a2 = some r → zam true (RF ET) 47 [.agg (Node.e a0), .int .i64 a1, .int .i64 a2] [] (.tuple [.agg (Plan.e r.1), .int .i64 r.2]) [])
 | 0 => (fun _ _ _ _ h => by cases h)
 | k + 1 => (fun _ _ _ _ h => zen ((zcF k)) h)
noncomputable def zb2 (a0 : Node) (a1 : Int) (a2 : Int) : Option (Plan × Int) := (zau 30) a0 a1 a2
theorem zeJ {a0 : Node} {a1 : Int} {a2 : Int} {r : Plan × Int} (h : zb2 a0 a1 a2 = some r) : zam true (RF ET) 47 [.agg (Node.e a0), .int .i64 a1, .int .i64 a2] [] (.tuple [.agg (Plan.e r.1), .int .i64 r.2]) [] := (zcF 30) a0 a1 a2 r h
noncomputable def casementref10_Read_l1 (n : Node) (kids : List Plan) (float : List Rect) (nodes : Int) (i : Int) : Option ((List Plan × List Rect × Int × Int) ⊕ ((Node × Plan) ⊕ (List Plan × List Rect))) :=
 letB (decide (i < (n.Kids.length : Int))) fun c3 =>
 bif c3 then (
  Option.bind (
   (idx n.Kids i).bind fun x5 =>
   letB (decide (x5.Name = [102, 108, 111, 97, 116])) fun c6 =>
   bif c6 then (
    (zaF x5 [120]).bind fun y8 =>
    (zaF x5 [121]).bind fun y9 =>
    (zaF x5 [119]).bind fun y10 =>
    (zaF x5 [104]).bind fun y11 =>
    (zbn (Rect.mk y8 y9 y10 y11)).bind fun y12 =>
    (app float [y12]).bind fun x13 =>
    some (.inl (kids, x13, nodes, x5)))
   else (
    (zb2 x5 1 nodes).bind fun y14 =>
    (app kids [y14.1]).bind fun x15 =>
    letB (decide ((x15.length : Int) > 16)) fun c16 =>
    (bif c16 then some true else (
     letB (decide ((float.length : Int) > 24)) fun c18 =>
     some (c18))).bind fun g17 =>
    bif g17 then (
     some (.inr (x5, y14.1)))
    else (
     some (.inl (x15, float, y14.2, x5)))) : Option ((List Plan × List Rect × Int × Node) ⊕ (Node × Plan))) fun j21 =>
  match j21 with
  | .inl z22 => (
   some (.inl (z22.1, z22.2.1, z22.2.2.1, w64 (i + 1))))
  | .inr z23 => (
   some (.inr (.inl (z23.1, z23.2)))))
 else (
  some (.inr (.inr (kids, float))))
noncomputable def zaY (n : Node) : Option (Plan × Bool) :=
 letB (decide (n.Name ≠ [108, 97, 121, 111, 117, 116])) fun c1 =>
 bif c1 then (
  some ((Plan.mk 0 (Size.mk 0 0) [] [] []), false))
 else (
  (iter (fun s => casementref10_Read_l1 n s.1 s.2.1 s.2.2.1 s.2.2.2 : (List Plan × List Rect × Int × Int) → Option ((List Plan × List Rect × Int × Int) ⊕ ((Node × Plan) ⊕ (List Plan × List Rect)))) ([], [], 0, 0)).bind fun j24 =>
  match j24 with
  | .inl z25 => (
   some ((Plan.mk 0 (Size.mk 0 0) [] [] []), false))
  | .inr z26 => (
   letB (decide ((z26.1.length : Int) = 0)) fun c27 =>
   bif c27 then (
    some ((Plan.mk 0 (Size.mk 0 0) [] [] []), false))
   else (
    (idx z26.1 0).bind fun x29 =>
    letB (decide ((z26.1.length : Int) > 1)) fun c30 =>
    Option.bind (
     bif c30 then (
      some ((Plan.mk 3 (Size.mk 0 0) [] z26.1 [])))
     else (
      some (x29)) : Option Plan) fun j32 =>
    (zaL ({ j32 with Float := z26.2 })).bind fun y33 =>
    some ({ j32 with Float := z26.2 }, y33))))
set_option maxRecDepth 20000 in
theorem zeK {n : Node} {r : Plan × Bool} (h : zaY n = some r) : zam true (RF ET) 20 [.agg (Node.e n)] [] (.tuple [.agg (Plan.e r.1), .bool r.2]) [] := by
 refine zam.quiet (zaX (af := a20) rfl rfl ?_) rfl
 unfold zaY at h
 refine zaa ?_
 refine zad [1, 2] [0, 1] ?_
 refine zac ?_
 refine ⟨.sl true 6 [], .sl _ _, ?_⟩
 refine ⟨.sl false 4 [], .sl _ _, ?_⟩
 refine zaa ?_
 refine zaa ?_
 refine zad [1, 2, 14] [0, 1] ?_
 refine zac ?_
 refine fun c1 hc1 => ?_
 replace h := zaf hc1 h
 refine zag (b := c1) rfl (fun hb2 => ?_) (fun hb2 => ?_)
 ·replace h := zaj hb2 h
  refine zaa ?_
  refine zad [2, 3] [0, 1] ?_
  refine zac ?_
  refine ⟨.sl true 6 [], .sl _ _, ?_⟩
  refine ⟨.sl false 4 [], .sl _ _, ?_⟩
  refine zao ?_
  cases h
  exact ⟨rfl, rfl, rfl, rfl, rfl⟩
 ·replace h := zak hb2 h
  refine zah ?_
  refine zaa ?_
  refine zad [1, 2, 4] [0, 1] ?_
  refine zac ?_
  refine ⟨.sl false 6 [], .sl _ _, ?_⟩
  refine ⟨.sl false 4 [], .sl _ _, ?_⟩
  refine ⟨(Plan.cs ([] : List Plan)), (Plan.cs_is _).trans rfl, ?_⟩
  refine zaa ?_
  refine zad [1, 2, 4, 5] [0, 1] ?_
  refine zac ?_
  refine ⟨(List.map Rect.c ([] : List Rect)), rfl, ?_⟩
  refine zaa ?_
  refine zad [1, 2, 4, 5, 6] [0, 1] ?_
  refine zac ?_
  refine zaa ?_
  refine zaa ?_
  refine zad [1, 2, 4, 5, 6, 7] [0, 1] ?_
  refine zac ?_
  refine zaN ?_
  obtain ⟨j24, hj24, h⟩ := zab h
  refine zds hj24 [0, 1] (fun s => ([(1, .loc 0 0), (2, .loc 1 0), (4, .sl true 6 (Plan.cs s.1)), (5, .sl true 4 (List.map Rect.c s.2.1)), (6, .int .i64 s.2.2.1), (7, .int .i64 s.2.2.2)], [(0, (Node.e n)), (1, [.int .i64 0, .int .i64 0, .int .i64 0, .str [], .sl true 6 (Plan.cs []), .sl false 4 (List.map Rect.c [])])], [])) (fun e => match e with | .ret => [2, 3] | .exit 0 => [2, 4, 5] | _ => []) (fun e => match e with | .ret => [0, 1, 2, 3] | .exit 0 => [0, 1] | _ => []) (fun r => match r with | .inl z => (.ret, [(2, .loc 1 0), (3, .bool false)], [(0, (Node.e n)), (1, [.int .i64 0, .int .i64 0, .int .i64 0, .str [], .sl false 6 (Plan.cs []), .sl false 4 (List.map Rect.c [])]), (2, (Node.e z.1)), (3, (Plan.e z.2))], []) | .inr z => (.exit 0, [(2, .loc 1 0), (4, .sl true 6 (Plan.cs z.1)), (5, .sl true 4 (List.map Rect.c z.2))], [(0, (Node.e n)), (1, [.int .i64 0, .int .i64 0, .int .i64 0, .str [], .sl true 6 (Plan.cs []), .sl false 4 (List.map Rect.c [])])], [])) ?_ ?_ ?_
  ·exact rfl
  ·clear h
   rintro ⟨kids, float, nodes, i⟩ x h
   replace h : casementref10_Read_l1 n kids float nodes i = some x := h
   unfold casementref10_Read_l1 at h
   show T.WP _ _ [(1, .loc 0 0), (2, .loc 1 0), (4, .sl true 6 (Plan.cs kids)), (5, .sl true 4 (List.map Rect.c float)), (6, .int .i64 nodes), (7, .int .i64 i)] [(0, (Node.e n)), (1, [.int .i64 0, .int .i64 0, .int .i64 0, .str [], .sl true 6 (Plan.cs []), .sl false 4 (List.map Rect.c [])])] [] _
   refine zaa ?_
   refine zaa ?_
   refine zad [1, 2, 4, 5, 6, 7, 22] [0, 1] ?_
   refine zac ?_
   refine ⟨_, (lenR Node.cs_is).symm, ?_⟩
   refine fun c3 hc3 => ?_
   replace h := zaf hc3 h
   refine zag (b := c3) rfl (fun hb4 => ?_) (fun hb4 => ?_)
   ·replace h := zaj hb4 h
    refine zah ?_
    refine zaa ?_
    obtain ⟨j21, hj21, h⟩ := zab h
    refine zbZ j21 (fun r => match r with | .inl z => (.normal, [(1, .loc 0 0), (2, .loc 1 0), (4, .sl true 6 (Plan.cs z.1)), (5, .sl true 4 (List.map Rect.c z.2.1)), (6, .int .i64 z.2.2.1), (7, .int .i64 i)], [(0, (Node.e n)), (1, [.int .i64 0, .int .i64 0, .int .i64 0, .str [], .sl true 6 (Plan.cs []), .sl false 4 (List.map Rect.c [])]), (2, (Node.e z.2.2.2))], []) | .inr z => (.ret, [(2, .loc 1 0), (3, .bool false)], [(0, (Node.e n)), (1, [.int .i64 0, .int .i64 0, .int .i64 0, .str [], .sl false 6 (Plan.cs []), .sl false 4 (List.map Rect.c [])]), (2, (Node.e z.1)), (3, (Plan.e z.2))], [])) (fun e => match e with | .normal => [1, 2, 4, 5, 6, 7] | .ret => [2, 3] | _ => []) (fun e => match e with | .normal => [0, 1, 2] | .ret => [0, 1, 2, 3] | _ => []) ?_ ?_
    ·clear h
     replace h := hj21
     clear hj21
     refine zaN ?_
     refine zaa ?_
     refine zad [1, 2, 4, 5, 6, 7, 8] [0, 1, 2] ?_
     refine zac ?_
     obtain ⟨x5, hx5, h⟩ := zab h
     refine And.intro (zb0 hx5) ⟨_, zcD Node.cs_is hx5, ?_⟩
     refine ⟨.sl true 4 [], .sl _ _, ?_⟩
     refine ⟨.sl true 5 [], .sl _ _, ?_⟩
     refine ⟨.sl false 4 [], .sl _ _, ?_⟩
     refine zaa ?_
     refine zaa ?_
     refine zad [1, 2, 4, 5, 6, 7, 8, 32] [0, 1, 2] ?_
     refine zac ?_
     refine fun c6 hc6 => ?_
     replace h := zaf hc6 h
     refine zag (b := c6) rfl (fun hb7 => ?_) (fun hb7 => ?_)
     ·replace h := zaj hb7 h
      refine zaa ?_
      refine zad [1, 2, 4, 5, 6, 7] [0, 1, 2] ?_
      refine zf2 ?_
      obtain ⟨y8, hy8, h⟩ := zab h
      refine ⟨_, _, zam.any (zbf hy8) rfl _ rfl, ?_⟩
      obtain ⟨y9, hy9, h⟩ := zab h
      refine ⟨_, _, zam.any (zbf hy9) rfl _ rfl, ?_⟩
      obtain ⟨y10, hy10, h⟩ := zab h
      refine ⟨_, _, zam.any (zbf hy10) rfl _ rfl, ?_⟩
      obtain ⟨y11, hy11, h⟩ := zab h
      refine ⟨_, _, zam.any (zbf hy11) rfl _ rfl, ?_⟩
      obtain ⟨y12, hy12, h⟩ := zab h
      refine ⟨_, zek hy12, ?_⟩
      refine ⟨(List.map Rect.c ([y12] : List Rect)), rfl, ?_⟩
      obtain ⟨x13, hx13, h⟩ := zab h
      refine And.intro (znG Rect.c hx13) ⟨_, znH Rect.c hx13, ?_⟩
      refine zcO ?_
      cases h
      exact rfl
     ·replace h := zak hb7 h
      refine zah ?_
      refine zaa ?_
      refine zad [1, 2, 4, 5, 7, 9, 10] [0, 1, 2, 3] ?_
      refine zac ?_
      obtain ⟨y14, hy14, h⟩ := zab h
      refine ⟨_, _, zam.any (zeJ hy14) rfl _ rfl, ?_⟩
      refine ⟨.sl true 6 [], .sl _ _, ?_⟩
      refine ⟨.sl false 4 [], .sl _ _, ?_⟩
      refine zaa ?_
      refine zad [1, 2, 4, 5, 6, 7, 9] [0, 1, 2, 3] ?_
      refine zac ?_
      refine zaa ?_
      refine zad [1, 2, 4, 5, 6, 7] [0, 1, 2, 3] ?_
      refine zac ?_
      refine ⟨.sl false 6 [], .sl _ _, ?_⟩
      refine ⟨.sl false 4 [], .sl _ _, ?_⟩
      refine ⟨(Plan.cs ([y14.1] : List Plan)), (Plan.cs_is _).trans rfl, ?_⟩
      obtain ⟨x15, hx15, h⟩ := zab h
      refine And.intro (ziK Plan.cs_is hx15) ⟨_, ziL Plan.cs_is hx15, ?_⟩
      refine zaa ?_
      refine zad [1, 2, 4, 5, 6, 7, 64] [0, 1, 2, 3] ?_
      refine zai 4 ?_
      refine zac ?_
      refine ⟨_, (lenR Plan.cs_is).symm, ?_⟩
      refine fun c16 hc16 => ?_
      replace h := zaf hc16 h
      obtain ⟨g17, hg17, h⟩ := zab h
      refine zas 4 64 [1, 2, 4, 5, 6, 7, 64] g17 ?_ ?_
      ·clear h
       replace h := hg17
       clear hg17
       cases hb19 : c16 with
       | false =>
        replace h := zak hb19 h
        refine zac ?_
        refine ⟨_, (yal ..).symm, ?_⟩
        refine fun c18 hc18 => ?_
        replace h := zaf hc18 h
        cases h
        exact ⟨rfl, rfl, rfl⟩
       | true =>
        replace h := zaj hb19 h
        cases h
        refine zac ?_
        exact ⟨rfl, rfl, rfl⟩
      refine zac ?_
      refine zag (b := g17) rfl (fun hb20 => ?_) (fun hb20 => ?_)
      ·replace h := zaj hb20 h
       refine zaa ?_
       refine zad [2, 3] [0, 1, 2, 3] ?_
       refine zac ?_
       refine ⟨.sl true 6 [], .sl _ _, ?_⟩
       refine ⟨.sl false 4 [], .sl _ _, ?_⟩
       refine zao ?_
       cases h
       exact rfl
      ·replace h := zak hb20 h
       refine zah ?_
       cases h
       exact rfl
    rcases j21 with z22 | z23
    ·refine zad [1, 2, 4, 5, 6, 7] [0, 1, 2] ?_
     refine zac ?_
     cases h
     exact ⟨_, rfl, rfl⟩
    ·cases h
     exact ⟨_, rfl, rfl⟩
   ·replace h := zak hb4 h
    refine zcO ?_
    cases h
    exact ⟨_, rfl, rfl⟩
  rcases j24 with z25 | z26
  ·cases h
   exact ⟨rfl, rfl, rfl, rfl, rfl⟩
  ·refine zaa ?_
   refine zaa ?_
   refine zad [2, 4, 5, 68] [0, 1] ?_
   refine zac ?_
   refine ⟨_, (lenR Plan.cs_is).symm, ?_⟩
   refine fun c27 hc27 => ?_
   replace h := zaf hc27 h
   refine zag (b := c27) rfl (fun hb28 => ?_) (fun hb28 => ?_)
   ·replace h := zaj hb28 h
    refine zaa ?_
    refine zad [2, 3] [0, 1] ?_
    refine zac ?_
    refine ⟨.sl true 6 [], .sl _ _, ?_⟩
    refine ⟨.sl false 4 [], .sl _ _, ?_⟩
    refine zao ?_
    cases h
    exact ⟨rfl, rfl, rfl, rfl, rfl⟩
   ·replace h := zak hb28 h
    refine zah ?_
    refine zaa ?_
    refine zad [2, 4, 5, 11] [0, 1, 4] ?_
    refine zac ?_
    obtain ⟨x29, hx29, h⟩ := zab h
    refine And.intro (zoF Plan.cs_is hx29) ?_
    refine ⟨_, zcD Plan.cs_is hx29, ?_⟩
    refine ⟨.sl true 6 [], .sl _ _, ?_⟩
    refine ⟨.sl false 4 [], .sl _ _, ?_⟩
    refine zaa ?_
    refine zaa ?_
    refine zad [2, 4, 5, 11, 75] [0, 1, 4] ?_
    refine zac ?_
    refine ⟨_, (lenR Plan.cs_is).symm, ?_⟩
    refine fun c30 hc30 => ?_
    replace h := zaf hc30 h
    obtain ⟨j32, hj32, h⟩ := zab h
    refine zbZ j32 (fun z => (.normal, [(2, .loc 1 0), (5, .sl true 4 (List.map Rect.c z26.2)), (11, .loc 4 0)], [(0, (Node.e n)), (1, [.int .i64 0, .int .i64 0, .int .i64 0, .str [], .sl true 6 (Plan.cs []), .sl false 4 (List.map Rect.c [])]), (4, (Plan.e z))], [])) (fun _ => [2, 5, 11]) (fun _ => [0, 1, 4]) ?_ ?_
    ·clear h
     replace h := hj32
     clear hj32
     refine zag (b := c30) rfl (fun hb31 => ?_) (fun hb31 => ?_)
     ·replace h := zaj hb31 h
      refine zad [2, 5, 11] [0, 1, 4] ?_
      refine zac ?_
      refine ⟨.sl true 6 [], .sl _ _, ?_⟩
      refine ⟨.sl false 4 [], .sl _ _, ?_⟩
      cases h
      exact rfl
     ·replace h := zak hb31 h
      refine zah ?_
      cases h
      exact rfl
    refine zaa ?_
    refine zad [2, 11] [0, 1, 4] ?_
    refine zac ?_
    refine zaa ?_
    refine zad [2, 3] [0, 1, 4] ?_
    refine zf2 ?_
    obtain ⟨y33, hy33, h⟩ := zab h
    refine ⟨_, _, zam.any (zem hy33) rfl _ rfl, ?_⟩
    refine zao ?_
    cases h
    exact ⟨rfl, rfl, rfl, rfl, rfl⟩
noncomputable def casementref02_Same_l1 (a : List Rect) (b : List Rect) (i : Int) : Option (Int ⊕ (Unit ⊕ Unit)) :=
 letB (decide (i < (a.length : Int))) fun c3 =>
 bif c3 then (
  (idx a i).bind fun x5 =>
  (idx b i).bind fun x6 =>
  letB (!((decide (x5.X = x6.X) && (decide (x5.Y = x6.Y) && (decide (x5.W = x6.W) && (decide (x5.H = x6.H) && true)))))) fun c7 =>
  bif c7 then (
   some (.inr (.inl ())))
  else (
   some (.inl (w64 (i + 1)))))
 else (
  some (.inr (.inr ())))
noncomputable def zbz (a : List Rect) (b : List Rect) : Option Bool :=
 letB (decide ((a.length : Int) ≠ (b.length : Int))) fun c1 =>
 bif c1 then (
  some false)
 else (
  (iter (fun s => casementref02_Same_l1 a b s : Int → Option (Int ⊕ (Unit ⊕ Unit))) 0).bind fun j9 =>
  match j9 with
  | .inl z10 => (
   some false)
  | .inr z11 => (
   some true))
set_option maxRecDepth 20000 in
theorem zeL {a : List Rect} {b : List Rect} {r : Bool} (h : zbz a b = some r) : zam true (RF ET) 48 [.sl false 4 (List.map Rect.c a), .sl false 4 (List.map Rect.c b)] [] (.bool r) [] := by
 refine zam.quiet (zaX (af := a48) rfl rfl ?_) rfl
 unfold zbz at h
 refine zaa ?_
 refine zad [0, 1] [] ?_
 refine zac ?_
 refine zaa ?_
 refine zaa ?_
 refine zad [0, 1, 10] [] ?_
 refine zac ?_
 refine ⟨_, (yal ..).symm, ?_⟩
 refine ⟨_, (yal ..).symm, ?_⟩
 refine fun c1 hc1 => ?_
 replace h := zaf hc1 h
 refine zag (b := c1) rfl (fun hb2 => ?_) (fun hb2 => ?_)
 ·replace h := zaj hb2 h
  refine zaa ?_
  refine zad [4] [] ?_
  refine zac ?_
  refine zao ?_
  cases h
  exact ⟨rfl, rfl, rfl, rfl, rfl⟩
 ·replace h := zak hb2 h
  refine zah ?_
  refine zaa ?_
  refine zaa ?_
  refine zad [0, 1, 5] [] ?_
  refine zac ?_
  refine zaN ?_
  obtain ⟨j9, hj9, h⟩ := zab h
  refine zds hj9 [] (fun s => ([(0, .sl false 4 (List.map Rect.c a)), (1, .sl false 4 (List.map Rect.c b)), (5, .int .i64 s)], [], [])) (fun e => match e with | .ret => [4] | .exit 0 => [] | _ => []) (fun e => match e with | .ret => [] | .exit 0 => [] | _ => []) (fun r => match r with | .inl z => (.ret, [(4, .bool false)], [], []) | .inr z => (.exit 0, [], [], [])) ?_ ?_ ?_
  ·exact rfl
  ·clear h
   rintro i x h
   replace h : casementref02_Same_l1 a b i = some x := h
   unfold casementref02_Same_l1 at h
   show T.WP _ _ [(0, .sl false 4 (List.map Rect.c a)), (1, .sl false 4 (List.map Rect.c b)), (5, .int .i64 i)] [] [] _
   refine zaa ?_
   refine zaa ?_
   refine zad [0, 1, 5, 14] [] ?_
   refine zac ?_
   refine ⟨_, (yal ..).symm, ?_⟩
   refine fun c3 hc3 => ?_
   replace h := zaf hc3 h
   refine zag (b := c3) rfl (fun hb4 => ?_) (fun hb4 => ?_)
   ·replace h := zaj hb4 h
    refine zah ?_
    refine zaa ?_
    refine zaN ?_
    refine zaa ?_
    refine zad [0, 1, 5, 25] [] ?_
    refine zf2 ?_
    obtain ⟨x5, hx5, h⟩ := zab h
    refine And.intro (zb0 hx5) ⟨_, zdG Rect.c hx5, ?_⟩
    obtain ⟨x6, hx6, h⟩ := zab h
    refine And.intro (zb0 hx6) ⟨_, zdG Rect.c hx6, ?_⟩
    refine fun c7 hc7 => ?_
    replace h := zaf hc7 h
    refine zag (b := c7) rfl (fun hb8 => ?_) (fun hb8 => ?_)
    ·replace h := zaj hb8 h
     refine zaa ?_
     refine zad [4] [] ?_
     refine zac ?_
     refine zao ?_
     cases h
     exact ⟨_, rfl, rfl⟩
    ·replace h := zak hb8 h
     refine zah ?_
     refine zad [0, 1, 5] [] ?_
     refine zac ?_
     cases h
     exact ⟨_, rfl, rfl⟩
   ·replace h := zak hb4 h
    refine zcO ?_
    cases h
    exact ⟨_, rfl, rfl⟩
  rcases j9 with z10 | z11
  ·cases h
   exact ⟨rfl, rfl, rfl, rfl, rfl⟩
  ·refine zaa ?_
   refine zad [4] [] ?_
   refine zac ?_
   refine zao ?_
   cases h
   exact ⟨rfl, rfl, rfl, rfl, rfl⟩
noncomputable def casementref10_sameTreeF_l1 (a : Plan) (b : Plan) (rec49 : Plan → Plan → Option Bool) (i : Int) : Option (Int ⊕ (Unit ⊕ Unit)) :=
 letB (decide (i < (a.Kids.length : Int))) fun c18 =>
 (bif c18 then (
  letB (decide (a.Kind ≠ 1)) fun c20 =>
  some (c20)) else some false).bind fun g19 =>
 bif g19 then (
  (idx a.Kids i).bind fun x23 =>
  (idx b.Kids i).bind fun x24 =>
  (rec49 x23 x24).bind fun y25 =>
  bif (!y25) then (
   some (.inr (.inl ())))
  else (
   some (.inl (w64 (i + 1)))))
 else (
  some (.inr (.inr ())))
noncomputable def zaZ (rec49 : Plan → Plan → Option Bool) (a : Plan) (b : Plan) : Option Bool :=
 letB (decide (a.Kind ≠ b.Kind)) fun c1 =>
 (bif c1 then some true else (
  letB (!((decide (a.Size.Kind = b.Size.Kind) && (decide (a.Size.N = b.Size.N) && true)))) fun c3 =>
  some (c3))).bind fun g2 =>
 (bif g2 then some true else (
  letB (decide (a.Kind = 1)) fun c6 =>
  (bif c6 then (
   letB (decide (a.Name ≠ b.Name)) fun c8 =>
   some (c8)) else some false).bind fun g7 =>
  some (g7))).bind fun g5 =>
 (bif g5 then some true else (
  letB (decide (a.Kind ≠ 1)) fun c12 =>
  (bif c12 then (
   letB (decide ((a.Kids.length : Int) ≠ (b.Kids.length : Int))) fun c14 =>
   some (c14)) else some false).bind fun g13 =>
  some (g13))).bind fun g11 =>
 bif g11 then (
  some false)
 else (
  (iter (fun s => casementref10_sameTreeF_l1 a b rec49 s : Int → Option (Int ⊕ (Unit ⊕ Unit))) 0).bind fun j27 =>
  match j27 with
  | .inl z28 => (
   some false)
  | .inr z29 => (
   some true))
set_option maxRecDepth 20000 in
theorem zdw {rec49 : Plan → Plan → Option Bool} (rec49_ok : ∀ (a0 : Plan) (a1 : Plan) (r : Bool), rec49 a0 a1 = some r → zam true (RF ET) 49 [.agg (Plan.e a0), .agg (Plan.e a1)] [] (.bool r) []) {a : Plan} {b : Plan} {r : Bool} (h : zaZ rec49 a b = some r) : zam true (RF ET) 49 [.agg (Plan.e a), .agg (Plan.e b)] [] (.bool r) [] := by
 refine zam.quiet (zaX (af := a49) rfl rfl ?_) rfl
 unfold zaZ at h
 refine zaa ?_
 refine zad [2, 3] [0, 1] ?_
 refine zac ?_
 refine zaa ?_
 refine zaa ?_
 refine zad [2, 3, 43] [0, 1] ?_
 refine zai 6 ?_
 refine zac ?_
 refine fun c1 hc1 => ?_
 replace h := zaf hc1 h
 obtain ⟨g2, hg2, h⟩ := zab h
 refine zas 6 17 [2, 3, 17] g2 ?_ ?_
 ·clear h
  replace h := hg2
  clear hg2
  cases hb4 : c1 with
  | false =>
   replace h := zak hb4 h
   refine zac ?_
   refine fun c3 hc3 => ?_
   replace h := zaf hc3 h
   cases h
   exact ⟨rfl, rfl, rfl⟩
  | true =>
   replace h := zaj hb4 h
   cases h
   refine zac ?_
   exact ⟨rfl, rfl, rfl⟩
 refine zai 1 ?_
 refine zac ?_
 obtain ⟨g5, hg5, h⟩ := zab h
 refine zas 11 29 [2, 3, 29] g5 ?_ ?_
 ·clear h
  replace h := hg5
  clear hg5
  cases hb10 : g2 with
  | false =>
   replace h := zak hb10 h
   refine zai 4 ?_
   refine zac ?_
   refine fun c6 hc6 => ?_
   replace h := zaf hc6 h
   obtain ⟨g7, hg7, h⟩ := zab h
   refine zas 6 28 [2, 3, 18, 28] g7 ?_ ?_
   ·clear h
    replace h := hg7
    clear hg7
    cases hb9 : c6 with
    | true =>
     replace h := zaj hb9 h
     refine zac ?_
     refine fun c8 hc8 => ?_
     replace h := zaf hc8 h
     cases h
     exact ⟨rfl, rfl, rfl⟩
    | false =>
     replace h := zak hb9 h
     cases h
     refine zac ?_
     exact ⟨rfl, rfl, rfl⟩
   refine zac ?_
   cases h
   exact ⟨rfl, rfl, rfl⟩
  | true =>
   replace h := zaj hb10 h
   cases h
   refine zac ?_
   exact ⟨rfl, rfl, rfl⟩
 refine zai 1 ?_
 refine zac ?_
 obtain ⟨g11, hg11, h⟩ := zab h
 refine zas 13 43 [2, 3, 43] g11 ?_ ?_
 ·clear h
  replace h := hg11
  clear hg11
  cases hb16 : g5 with
  | false =>
   replace h := zak hb16 h
   refine zai 4 ?_
   refine zac ?_
   refine fun c12 hc12 => ?_
   replace h := zaf hc12 h
   obtain ⟨g13, hg13, h⟩ := zab h
   refine zas 8 42 [2, 3, 30, 42] g13 ?_ ?_
   ·clear h
    replace h := hg13
    clear hg13
    cases hb15 : c12 with
    | true =>
     replace h := zaj hb15 h
     refine zac ?_
     refine ⟨_, (lenR Plan.cs_is).symm, ?_⟩
     refine ⟨_, (lenR Plan.cs_is).symm, ?_⟩
     refine fun c14 hc14 => ?_
     replace h := zaf hc14 h
     cases h
     exact ⟨rfl, rfl, rfl⟩
    | false =>
     replace h := zak hb15 h
     cases h
     refine zac ?_
     exact ⟨rfl, rfl, rfl⟩
   refine zac ?_
   cases h
   exact ⟨rfl, rfl, rfl⟩
  | true =>
   replace h := zaj hb16 h
   cases h
   refine zac ?_
   exact ⟨rfl, rfl, rfl⟩
 refine zac ?_
 refine zag (b := g11) rfl (fun hb17 => ?_) (fun hb17 => ?_)
 ·replace h := zaj hb17 h
  refine zaa ?_
  refine zad [4] [0, 1] ?_
  refine zac ?_
  refine zao ?_
  cases h
  exact ⟨rfl, rfl, rfl, rfl, rfl⟩
 ·replace h := zak hb17 h
  refine zah ?_
  refine zaa ?_
  refine zaa ?_
  refine zad [2, 3, 5] [0, 1] ?_
  refine zac ?_
  refine zaN ?_
  obtain ⟨j27, hj27, h⟩ := zab h
  refine zds hj27 [0, 1] (fun s => ([(2, .loc 0 0), (3, .loc 1 0), (5, .int .i64 s)], [(0, (Plan.e a)), (1, (Plan.e b))], [])) (fun e => match e with | .ret => [4] | .exit 0 => [] | _ => []) (fun e => match e with | .ret => [0, 1] | .exit 0 => [0, 1] | _ => []) (fun r => match r with | .inl z => (.ret, [(4, .bool false)], [(0, (Plan.e a)), (1, (Plan.e b))], []) | .inr z => (.exit 0, [], [(0, (Plan.e a)), (1, (Plan.e b))], [])) ?_ ?_ ?_
  ·exact rfl
  ·clear h
   rintro i x h
   replace h : casementref10_sameTreeF_l1 a b rec49 i = some x := h
   unfold casementref10_sameTreeF_l1 at h
   show T.WP _ _ [(2, .loc 0 0), (3, .loc 1 0), (5, .int .i64 i)] [(0, (Plan.e a)), (1, (Plan.e b))] [] _
   refine zaa ?_
   refine zaa ?_
   refine zad [2, 3, 5, 53] [0, 1] ?_
   refine zai 6 ?_
   refine zac ?_
   refine ⟨_, (lenR Plan.cs_is).symm, ?_⟩
   refine fun c18 hc18 => ?_
   replace h := zaf hc18 h
   obtain ⟨g19, hg19, h⟩ := zab h
   refine zas 4 53 [2, 3, 5, 53] g19 ?_ ?_
   ·clear h
    replace h := hg19
    clear hg19
    cases hb21 : c18 with
    | true =>
     replace h := zaj hb21 h
     refine zac ?_
     refine fun c20 hc20 => ?_
     replace h := zaf hc20 h
     cases h
     exact ⟨rfl, rfl, rfl⟩
    | false =>
     replace h := zak hb21 h
     cases h
     refine zac ?_
     exact ⟨rfl, rfl, rfl⟩
   refine zac ?_
   refine zag (b := g19) rfl (fun hb22 => ?_) (fun hb22 => ?_)
   ·replace h := zaj hb22 h
    refine zah ?_
    refine zaa ?_
    refine zaN ?_
    refine zaa ?_
    refine zad [2, 3, 5, 67] [0, 1] ?_
    refine zf2 ?_
    obtain ⟨x23, hx23, h⟩ := zab h
    refine And.intro (zb0 hx23) ⟨_, zcD Plan.cs_is hx23, ?_⟩
    obtain ⟨x24, hx24, h⟩ := zab h
    refine And.intro (zb0 hx24) ⟨_, zcD Plan.cs_is hx24, ?_⟩
    obtain ⟨y25, hy25, h⟩ := zab h
    refine ⟨_, _, zam.any (rec49_ok _ _ _ hy25) rfl _ rfl, ?_⟩
    refine zag (b := (!y25)) rfl (fun hb26 => ?_) (fun hb26 => ?_)
    ·replace h := zaj hb26 h
     refine zaa ?_
     refine zad [4] [0, 1] ?_
     refine zac ?_
     refine zao ?_
     cases h
     exact ⟨_, rfl, rfl⟩
    ·replace h := zak hb26 h
     refine zah ?_
     refine zad [2, 3, 5] [0, 1] ?_
     refine zac ?_
     cases h
     exact ⟨_, rfl, rfl⟩
   ·replace h := zak hb22 h
    refine zcO ?_
    cases h
    exact ⟨_, rfl, rfl⟩
  rcases j27 with z28 | z29
  ·cases h
   exact ⟨rfl, rfl, rfl, rfl, rfl⟩
  ·refine zaa ?_
   refine zad [4] [0, 1] ?_
   refine zac ?_
   refine zao ?_
   cases h
   exact ⟨rfl, rfl, rfl, rfl, rfl⟩
noncomputable def zaD : Nat → (Plan → Plan → Option Bool)
 | 0 => fun _ _ => none
 | k + 1 => zaZ ((zaD k))
theorem zcc : ∀ k, (∀ (a0 : Plan) (a1 : Plan) (r : Bool), ((zaD k)) a0 a1 = some r → zam true (RF ET) 49 [.agg (Plan.e a0), .agg (Plan.e a1)] [] (.bool r) [])
 | 0 => (fun _ _ _ h => by cases h)
 | k + 1 => (fun _ _ _ h => zdw ((zcc k)) h)
noncomputable def zbX (a0 : Plan) (a1 : Plan) : Option Bool := (zaD 30) a0 a1
theorem zdI {a0 : Plan} {a1 : Plan} {r : Bool} (h : zbX a0 a1 = some r) : zam true (RF ET) 49 [.agg (Plan.e a0), .agg (Plan.e a1)] [] (.bool r) [] := (zcc 30) a0 a1 r h
noncomputable def za4 (a : Plan) (b : Plan) : Option Bool :=
 (zbz a.Float b.Float).bind fun y1 =>
 (bif y1 then (
  (zbX a b).bind fun y3 =>
  some (y3)) else some false).bind fun g2 =>
 some g2
set_option maxRecDepth 20000 in
theorem zdJ {a : Plan} {b : Plan} {r : Bool} (h : za4 a b = some r) : zam true (RF ET) 21 [.agg (Plan.e a), .agg (Plan.e b)] [] (.bool r) [] := by
 refine zam.quiet (zaX (af := a21) rfl rfl ?_) rfl
 unfold za4 at h
 refine zaa ?_
 refine zad [2, 3] [0, 1] ?_
 refine zac ?_
 refine zaa ?_
 refine zad [4] [0, 1] ?_
 refine zai 6 ?_
 refine zac ?_
 obtain ⟨y1, hy1, h⟩ := zab h
 refine ⟨_, zeL hy1, ?_⟩
 obtain ⟨g2, hg2, h⟩ := zab h
 refine zas 4 14 [14] g2 ?_ ?_
 ·clear h
  replace h := hg2
  clear hg2
  cases hb4 : y1 with
  | true =>
   replace h := zaj hb4 h
   refine zac ?_
   obtain ⟨y3, hy3, h⟩ := zab h
   refine ⟨_, _, zam.any (zdI hy3) rfl _ rfl, ?_⟩
   cases h
   exact ⟨rfl, rfl, rfl⟩
  | false =>
   replace h := zak hb4 h
   cases h
   refine zac ?_
   exact ⟨rfl, rfl, rfl⟩
 refine zac ?_
 refine zao ?_
 cases h
 exact ⟨rfl, rfl, rfl, rfl, rfl⟩
noncomputable def zaE (n : Node) : Option Bool :=
 (zbT).bind fun y1 =>
 bif (!y1) then (
  some false)
 else (
  (zbF n).bind fun y3 =>
  (zaY n).bind fun y4 =>
  bif (!y4.2) then (
   letB (decide (y3.2 = 100)) fun c6 =>
   (bif c6 then (
    letB (decide (y3.1.Kind = 0)) fun c8 =>
    some (c8)) else some false).bind fun g7 =>
   (bif g7 then (
    letB (decide ((y3.1.Kids.length : Int) = 0)) fun c11 =>
    some (c11)) else some false).bind fun g10 =>
   (bif g10 then (
    letB (decide ((y3.1.Float.length : Int) = 0)) fun c14 =>
    some (c14)) else some false).bind fun g13 =>
   some g13)
  else (
   letB (decide (y3.2 = 0)) fun c16 =>
   bif c16 then (
    (za4 y3.1 y4.1).bind fun y18 =>
    bif y18 then (
     (zb6 y3.1).bind fun y20 =>
     letB (decide (y20 = 0)) fun c21 =>
     some c21)
    else (
     some false))
   else (
    some false)))
set_option maxRecDepth 20000 in
theorem zdg {n : Node} {r : Bool} (h : zaE n = some r) : zam true (RF ET) 4 [.agg (Node.e n)] [] (.bool r) [] := by
 refine zam.quiet (zaX (af := a4) rfl rfl ?_) rfl
 unfold zaE at h
 refine zaa ?_
 refine zad [1] [0] ?_
 refine zac ?_
 refine zaa ?_
 refine zaa ?_
 refine zad [1, 8] [0] ?_
 refine zac ?_
 obtain ⟨y1, hy1, h⟩ := zab h
 refine ⟨_, zej hy1, ?_⟩
 refine zag (b := (!y1)) rfl (fun hb2 => ?_) (fun hb2 => ?_)
 ·replace h := zaj hb2 h
  refine zaa ?_
  refine zad [2] [0] ?_
  refine zac ?_
  refine zao ?_
  cases h
  exact ⟨rfl, rfl, rfl, rfl, rfl⟩
 ·replace h := zak hb2 h
  refine zah ?_
  refine zaa ?_
  refine zad [1, 3, 4] [0, 1] ?_
  refine zac ?_
  obtain ⟨y3, hy3, h⟩ := zab h
  refine ⟨_, _, zam.any (zhL hy3) rfl _ rfl, ?_⟩
  refine ⟨.sl true 6 [], .sl _ _, ?_⟩
  refine ⟨.sl false 4 [], .sl _ _, ?_⟩
  refine zaa ?_
  refine zad [3, 4, 5, 6] [0, 1, 2] ?_
  refine zac ?_
  obtain ⟨y4, hy4, h⟩ := zab h
  refine ⟨_, _, zam.any (zeK hy4) rfl _ rfl, ?_⟩
  refine ⟨.sl true 6 [], .sl _ _, ?_⟩
  refine ⟨.sl false 4 [], .sl _ _, ?_⟩
  refine zaa ?_
  refine zaa ?_
  refine zad [3, 4, 5, 20] [0, 1, 2] ?_
  refine zac ?_
  refine zag (b := (!y4.2)) rfl (fun hb5 => ?_) (fun hb5 => ?_)
  ·replace h := zaj hb5 h
   refine zaa ?_
   refine zad [2] [0, 1, 2] ?_
   refine zai 3 ?_
   refine zac ?_
   refine fun c6 hc6 => ?_
   replace h := zaf hc6 h
   obtain ⟨g7, hg7, h⟩ := zab h
   refine zas 4 27 [3, 27] g7 ?_ ?_
   ·clear h
    replace h := hg7
    clear hg7
    cases hb9 : c6 with
    | true =>
     replace h := zaj hb9 h
     refine zac ?_
     refine fun c8 hc8 => ?_
     replace h := zaf hc8 h
     cases h
     exact ⟨rfl, rfl, rfl⟩
    | false =>
     replace h := zak hb9 h
     cases h
     refine zac ?_
     exact ⟨rfl, rfl, rfl⟩
   refine zai 1 ?_
   refine zac ?_
   obtain ⟨g10, hg10, h⟩ := zab h
   refine zas 5 33 [3, 33] g10 ?_ ?_
   ·clear h
    replace h := hg10
    clear hg10
    cases hb12 : g7 with
    | true =>
     replace h := zaj hb12 h
     refine zac ?_
     refine ⟨_, (lenR Plan.cs_is).symm, ?_⟩
     refine fun c11 hc11 => ?_
     replace h := zaf hc11 h
     cases h
     exact ⟨rfl, rfl, rfl⟩
    | false =>
     replace h := zak hb12 h
     cases h
     refine zac ?_
     exact ⟨rfl, rfl, rfl⟩
   refine zai 1 ?_
   refine zac ?_
   obtain ⟨g13, hg13, h⟩ := zab h
   refine zas 5 39 [39] g13 ?_ ?_
   ·clear h
    replace h := hg13
    clear hg13
    cases hb15 : g10 with
    | true =>
     replace h := zaj hb15 h
     refine zac ?_
     refine ⟨_, (yal ..).symm, ?_⟩
     refine fun c14 hc14 => ?_
     replace h := zaf hc14 h
     cases h
     exact ⟨rfl, rfl, rfl⟩
    | false =>
     replace h := zak hb15 h
     cases h
     refine zac ?_
     exact ⟨rfl, rfl, rfl⟩
   refine zac ?_
   refine zao ?_
   cases h
   exact ⟨rfl, rfl, rfl, rfl, rfl⟩
  ·replace h := zak hb5 h
   refine zah ?_
   refine zaa ?_
   refine zad [2] [0, 1, 2] ?_
   refine zac ?_
   refine fun c16 hc16 => ?_
   replace h := zaf hc16 h
   cases hb17 : c16 with
   | true =>
    replace h := zaj hb17 h
    obtain ⟨y18, hy18, h⟩ := zab h
    refine ⟨_, _, zam.any (zdJ hy18) rfl _ rfl, ?_⟩
    cases hb19 : y18 with
    | true =>
     replace h := zaj hb19 h
     obtain ⟨y20, hy20, h⟩ := zab h
     refine ⟨_, _, zam.any (zeD hy20) rfl _ rfl, ?_⟩
     refine fun c21 hc21 => ?_
     replace h := zaf hc21 h
     refine zao ?_
     cases h
     exact ⟨rfl, rfl, rfl, rfl, rfl⟩
    | false =>
     replace h := zak hb19 h
     refine zao ?_
     cases h
     exact ⟨rfl, rfl, rfl, rfl, rfl⟩
   | false =>
    replace h := zak hb17 h
    refine zao ?_
    cases h
    exact ⟨rfl, rfl, rfl, rfl, rfl⟩
end Go.Proofs.YtakdnfneikbjjaaGreatDoor.Am.Lay10

set_option linter.all false
namespace Go.Proofs.YtakdnfneikbjjaaGreatDoor.Am.Lay10
open Go.Proofs.YtakdnfneikbjjaaGreatDoor.Am.T
def big : Nat := 281474976710656
def NB : Nat → Node → Prop
 | 0, _ => True
 | d + 1, n => n.Props.length ≤ big ∧ n.Kids.length ≤ big ∧ n.Args.length ≤ big ∧ (∀ p ∈ n.Props, p.Val.Text.length ≤ big) ∧ ∀ k ∈ n.Kids, NB d k
def zVal : Val := ⟨0, [], 0, false⟩
def zfj (name : List Int) : List Prop_ → Option Val
 | [] => none
 | p :: r => if p.Name = name then some p.Val else zfj name r
theorem zhv {name : List Int} : ∀ {ps : List Prop_} {v : Val}, zfj name ps = some v → ∃ p ∈ ps, p.Val = v
 | p :: r, v, h => by
  unfold zfj at h
  split at h
  ·cases h; exact ⟨p, .head _, rfl⟩
  ·obtain ⟨q, hq, e⟩ := zhv h; exact ⟨q, .tail _ hq, e⟩
theorem zj5 {n : Node} {name : List Int} (hl : n.Props.length ≤ big) : ∀ (ps : List Prop_) (i : Nat), n.Props.drop i = ps → i + ps.length = n.Props.length →
  ∃ j, iter (fun s => layout_property_l1 n name s : Int → Option (Int ⊕ ((Val × Prop_) ⊕ Unit))) (i : Int) = some j ∧ (match j with | .inl z => some z.1 | .inr _ => none) = zfj name ps
 | [], i, hd, hi => by
  refine ⟨.inr (), zaB ?_, rfl⟩
  simp only [layout_property_l1, letB]
  rw [yau (by simp only [List.length_nil] at hi; omega)]; rfl
 | p :: ps, i, hd, hi => by
  obtain ⟨hlt, hget, hdrop⟩ := zdC hd
  simp only [List.length_cons] at hi
  unfold big at hl
  unfold zfj
  by_cases h : p.Name = name
  ·refine ⟨.inl (p.Val, p), zaB ?_, by rw [if_pos h]⟩
   simp only [layout_property_l1, letB]
   rw [yav (show (i : Int) < (n.Props.length : Int) by omega), zbL hlt, hget]
   simp only [cond_true, Option.bind_some, yav h]
  ·obtain ⟨j, e, r⟩ := zj5 hl ps (i + 1) hdrop (by omega)
   refine ⟨j, (zaO ?_).trans e, by rw [if_neg h]; exact r⟩
   simp only [layout_property_l1, letB]
   rw [yav (show (i : Int) < (n.Props.length : Int) by omega), zbL hlt, hget, zaI (n := (i : Int) + 1) (by omega) (by omega)]
   simp only [cond_true, Option.bind_some, yau h]
   rfl
theorem zhw {n : Node} (hl : n.Props.length ≤ big) (name : List Int) : zbM n name = some ((zfj name n.Props).getD zVal) := by
 obtain ⟨j, e, r⟩ := zj5 (name := name) hl n.Props 0 rfl (by omega)
 unfold zbM
 simp only [show ((0 : Nat) : Int) = 0 from rfl] at e
 rw [e, ← r]
 cases j <;> rfl
theorem zgo {n : Node} {name : List Int} (hl : n.Props.length ≤ big) : ∀ (ps : List Prop_) (i : Nat), n.Props.drop i = ps → i + ps.length = n.Props.length →
  ∃ j, iter (fun s => casementref10_property_l1 n name s : Int → Option (Int ⊕ (Val ⊕ Unit))) (i : Int) = some j ∧ (match j with | .inl z => some z | .inr _ => none) = zfj name ps
 | [], i, hd, hi => by
  refine ⟨.inr (), zaB ?_, rfl⟩
  simp only [casementref10_property_l1, letB]
  rw [yau (by simp only [List.length_nil] at hi; omega)]; rfl
 | p :: ps, i, hd, hi => by
  obtain ⟨hlt, hget, hdrop⟩ := zdC hd
  simp only [List.length_cons] at hi
  unfold big at hl
  unfold zfj
  by_cases h : p.Name = name
  ·refine ⟨.inl p.Val, zaB ?_, by rw [if_pos h]⟩
   simp only [casementref10_property_l1, letB]
   rw [yav (show (i : Int) < (n.Props.length : Int) by omega), zbL hlt, hget]
   simp only [cond_true, Option.bind_some, yav h]
  ·obtain ⟨j, e, r⟩ := zgo hl ps (i + 1) hdrop (by omega)
   refine ⟨j, (zaO ?_).trans e, by rw [if_neg h]; exact r⟩
   simp only [casementref10_property_l1, letB]
   rw [yav (show (i : Int) < (n.Props.length : Int) by omega), zbL hlt, hget, zaI (n := (i : Int) + 1) (by omega) (by omega)]
   simp only [cond_true, Option.bind_some, yau h]
   rfl
theorem zig {n : Node} (hl : n.Props.length ≤ big) (name : List Int) : zaR n name = some (match zfj name n.Props with | some v => (v, true) | none => (zVal, false)) := by
 obtain ⟨j, e, r⟩ := zgo (name := name) hl n.Props 0 rfl (by omega)
 unfold zaR
 simp only [show ((0 : Nat) : Int) = 0 from rfl] at e
 rw [e, ← r]
 cases j <;> rfl
def numT (n : Node) (name : List Int) : Int := match zfj name n.Props with | some v => if v.Kind = 2 then v.Int else 0 | none => 0
theorem zoK {n : Node} (hl : n.Props.length ≤ big) (name : List Int) : zbO n name = some (numT n name) := by
 unfold zbO numT
 rw [zhw hl]
 cases h : zfj name n.Props with
 | none => rfl
 | some v =>
  simp only [Option.bind_some, letB, Option.getD_some]
  by_cases hk : v.Kind = 2
  ·rw [yau (by simpa using hk), if_pos hk]; rfl
  ·rw [yav hk, if_neg hk]; rfl
theorem znL {n : Node} (hl : n.Props.length ≤ big) (name : List Int) : zaF n name = some (numT n name) := by
 unfold zaF numT
 rw [zig hl]
 cases h : zfj name n.Props with
 | none => rfl
 | some v =>
  simp only [Option.bind_some, letB, cond_true]
  by_cases hk : v.Kind = 2
  ·rw [yav hk, if_pos hk]; rfl
  ·rw [yau hk, if_neg hk]; rfl
def digs (l : List Int) : Int × Bool := if l = [] then (0, true) else pU 0 l
def pctT (t : List Int) : Size := if t.getLast? = some 37 ∧ (digs t.dropLast).2 = false ∧ t.dropLast.length ≤ 3 then ⟨2, (digs t.dropLast).1⟩ else ⟨0, 0⟩
def zc2 (n : Node) : Size := match zfj [115, 105, 122, 101] n.Props with
 | some v => if v.Kind = 2 then ⟨1, v.Int⟩ else if v.Kind = 1 then pctT v.Text else ⟨0, 0⟩
 | none => ⟨0, 0⟩
theorem zlH : ∀ (l : List Int) (a : Int), 0 ≤ a → a ≤ 65535 → 0 ≤ (pU a l).1 ∧ (pU a l).1 ≤ 65535
 | [], a, h0, h1 => ⟨h0, h1⟩
 | c :: l, a, h0, h1 => by
  unfold pU
  split
  ·split
   ·simp
   ·split
    ·simp
    ·exact zlH l _ (by omega) (by omega)
  ·simp
theorem zmp (l : List Int) : 0 ≤ (digs l).1 ∧ (digs l).1 ≤ 65535 := by
 unfold digs
 split
 ·simp
 ·exact zlH l 0 (by omega) (by omega)
theorem zmq {t : List Int} (h : t ≠ []) : t = t.dropLast ++ [t.getLast h] := (List.dropLast_concat_getLast h).symm
theorem znM {t : List Int} (hl : t.length ≤ big) : zaw t [37] = some (decide (t.getLast? = some 37)) := by
 unfold big at hl
 unfold zaw
 simp only [letB, List.length_singleton]
 by_cases h : t = []
 ·subst h; rfl
 ·have hp : 0 < t.length := List.length_pos_iff.2 h
  rw [yav (by omega), zaI (by omega) (by omega)]
  have hs : subA t ((t.length : Int) - (1 : Nat)) = some [t.getLast h] := by
   unfold subA
   rw [if_pos (by omega), show ((t.length : Int) - (1 : Nat)).toNat = t.length - 1 by omega]
   congr 1
   conv => lhs; rw [zmq h]
   rw [List.drop_append_of_le_length (by simp), List.drop_eq_nil_of_le (by simp)]; rfl
  simp only [cond_true, hs, Option.bind_some, List.getLast?_eq_some_getLast h]
  by_cases h37 : t.getLast h = 37 <;> simp [h37]
theorem zoL {α β : Type} {o : Option α} {a : α} {f : α → Option β} {r : Option β} (h : o = some a) (h2 : f a = r) : o.bind f = r := by subst h; exact h2
theorem znN {n : Node} (h : NB 1 n) : zdt n = some (zc2 n, decide (sizeOK (zc2 n))) := by
 obtain ⟨h1, _, _, h2, _⟩ := h
 unfold zdt
 rw [zhw h1]
 have fin : ∀ s : Size, ((zco s).bind fun y20 => letB (decide (y20 = 0)) fun c21 => some (s, c21)) = some (s, decide (sizeOK s)) := fun s => by
  rw [zlE]
  by_cases hs : sizeOK s
  ·rw [if_pos hs, yav hs]; rfl
  ·rw [if_neg hs, yau hs]; rfl
 simp only [Option.bind_some, letB]
 refine zoL (a := zc2 n) ?_ (fin (zc2 n))
 unfold zc2
 cases hp : zfj [115, 105, 122, 101] n.Props with
 | none =>
  rfl
 | some v =>
  obtain ⟨q, hq, rfl⟩ := zhv hp
  have hl := h2 q hq
  simp only [Option.getD_some]
  by_cases hk : q.Val.Kind = 2
  ·rw [yav hk, if_pos hk]
   rfl
  ·rw [yau hk, if_neg hk]
   by_cases hk1 : q.Val.Kind = 1
   ·rw [yav hk1, if_pos hk1]
    simp only [cond_true, cond_false, Option.bind_some, zca, zb1, zaP, znM hl]
    unfold pctT
    by_cases hg : q.Val.Text.getLast? = some 37
    ·rw [yav hg]
     unfold big at hl
     have hne : q.Val.Text ≠ [] := fun e => by rw [e] at hg; cases hg
     have hpos : 0 < q.Val.Text.length := List.length_pos_iff.2 hne
     have hsb : subB q.Val.Text (w64 ((q.Val.Text.length : Int) - (([37] : List Int).length : Int))) = some q.Val.Text.dropLast := by
      rw [List.length_singleton, zaI (by omega) (by omega)]
      unfold subB
      rw [if_pos (by omega), show ((q.Val.Text.length : Int) - (1 : Nat)).toNat = q.Val.Text.length - 1 by omega, List.dropLast_eq_take]
     have hpu : zbK q.Val.Text.dropLast = some (digs q.Val.Text.dropLast) := by
      unfold zbK digs
      rw [if_pos (by rw [List.length_dropLast]; omega)]
     simp only [cond_true, Option.bind_some, hsb, hpu]
     have hr := zmp q.Val.Text.dropLast
     by_cases hd : (digs q.Val.Text.dropLast).2 = false
     ·rw [hd]
      by_cases h3 : q.Val.Text.dropLast.length ≤ 3
      ·rw [if_pos ⟨hg, rfl, h3⟩, yav (by omega), zaI (by omega) (by omega)]
       rfl
      ·rw [if_neg (fun hh => h3 hh.2.2), yau (by omega)]
       rfl
     ·rw [show (digs q.Val.Text.dropLast).2 = true by simpa using hd, if_neg (fun hh => by cases hh.2.1)]
      rfl
    ·rw [yau hg, if_neg (fun hh => hg hh.1)]
     rfl
   ·rw [yau hk1, if_neg hk1]
    rfl
def refD : List Int → Int → Option Int
 | [], p => some p
 | c :: l, p => if c < 48 ∨ c > 57 then none else refD l (p * 10 + (c - 48))
theorem znO : ∀ (l : List Int) (p : Int), 0 ≤ p → p * 10 ^ l.length + 10 ^ l.length ≤ 10000 → (match refD l p with | some v => (v, false) | none => (0, true)) = pU p l
 | [], p, h0, h1 => rfl
 | c :: l, p, h0, h1 => by
  unfold refD pU
  have hpow : (10 : Int) ^ (c :: l).length = 10 * 10 ^ l.length := by rw [List.length_cons, Int.pow_succ, Int.mul_comm]
  have hpos : (1 : Int) ≤ 10 ^ l.length := by
   have : (0 : Int) < 10 ^ l.length := Int.pow_pos (by omega)
   omega
  rw [hpow] at h1
  by_cases hc : 48 ≤ c ∧ c ≤ 57
  ·rw [if_neg (by omega), if_pos hc]
   have hle : p * 10 ≤ 10000 := by
    have h2 : p * 10 * 1 ≤ p * 10 * 10 ^ l.length := Int.mul_le_mul_of_nonneg_left hpos (by omega)
    have h3 : p * (10 * 10 ^ l.length) = p * 10 * 10 ^ l.length := by rw [Int.mul_assoc]
    omega
   rw [if_neg (by omega), if_neg (by omega)]
   refine znO l _ (by omega) ?_
   have h3 : p * (10 * 10 ^ l.length) = p * 10 * 10 ^ l.length := by rw [Int.mul_assoc]
   have h4 : (p * 10 + (c - 48)) * 10 ^ l.length = p * 10 * 10 ^ l.length + (c - 48) * 10 ^ l.length := Int.add_mul ..
   have h5 : (c - 48) * 10 ^ l.length ≤ 9 * 10 ^ l.length := Int.mul_le_mul_of_nonneg_right (by omega) (by omega)
   omega
  ·rw [if_pos (by omega), if_neg hc]
theorem zgp {v : Val × Bool} {t : List Int} (ht : v.1.Text = t) (hl : t.length ≤ 4) : ∀ (ds : List Int) (i : Nat) (p : Int), t.dropLast.drop i = ds → i + ds.length = t.dropLast.length → 0 ≤ p → p + 1 ≤ 10 ^ i →
  ∃ j, iter (fun s => casementref10_size_l1 v s.1 s.2 : (Int × Int) → Option ((Int × Int) ⊕ (Unit ⊕ Int))) (p, (i : Int)) = some j ∧ (match j with | .inl _ => none | .inr z => some z) = refD ds p
 | [], i, p, hd, hi, h0, h1 => by
  rw [List.length_dropLast] at hi
  refine ⟨.inr p, zaB ?_, rfl⟩
  simp only [casementref10_size_l1, letB, ht]
  rw [zaI (by omega) (by omega), yau (by simp only [List.length_nil] at hi; omega)]; rfl
 | c :: ds, i, p, hd, hi, h0, h1 => by
  obtain ⟨hlt, hget, hdrop⟩ := zdC hd
  rw [List.length_dropLast] at hi hlt
  simp only [List.length_cons] at hi
  have hidx : idx t (i : Int) = some c := by
   rw [zbL (by omega), ← hget, List.getElem_dropLast]
  have hi3 : i ≤ 2 := by omega
  have hp100 : p ≤ 100 := by
   have : (10 : Int) ^ i ≤ 100 := by
    match i, hi3 with
    | 0, _ => decide
    | 1, _ => decide
    | 2, _ => decide
   omega
  unfold refD
  by_cases hc : c < 48 ∨ c > 57
  ·rw [if_pos hc]
   refine ⟨.inl (), zaB ?_, rfl⟩
   simp only [casementref10_size_l1, letB, ht]
   rw [zaI (by omega) (by omega), yav (show (i : Int) < (t.length : Int) - 1 by omega)]
   simp only [cond_true, hidx, Option.bind_some, or_s]
   rw [show (decide (c < 48) || decide (c > 57)) = true by simp only [Bool.or_eq_true, yat]; exact hc]; rfl
  ·rw [if_neg hc]
   obtain ⟨j, e, r⟩ := zgp (v := v) ht hl ds (i + 1) (p * 10 + (c - 48)) hdrop (by rw [List.length_dropLast]; omega) (by omega) (by rw [Int.pow_succ]; omega)
   refine ⟨j, (zaO ?_).trans e, r⟩
   simp only [casementref10_size_l1, letB, ht]
   rw [zaI (n := (t.length : Int) - 1) (by omega) (by omega), yav (show (i : Int) < (t.length : Int) - 1 by omega), zaI (n := (i : Int) + 1) (by omega) (by omega)]
   simp only [cond_true, hidx, Option.bind_some, or_s]
   rw [show (decide (c < 48) || decide (c > 57)) = false by simp only [Bool.or_eq_false_iff, decide_eq_false_iff_not]; omega]
   have hw8 : w8 (c - 48) = c - 48 := by
    simp [w8, IntKind.wrap, IntKind.signed, IntKind.bits]
    omega
   simp only [cond_false, hw8]
   rw [zaI (n := p * 10) (by omega) (by omega), zaI (n := c - 48) (by omega) (by omega), zaI (by omega) (by omega)]
   rfl
theorem zih {n : Node} (h : NB 1 n) : zby n = some (zc2 n) := by
 obtain ⟨h1, _, _, h2, _⟩ := h
 unfold zby zc2
 rw [zig h1]
 cases hp : zfj [115, 105, 122, 101] n.Props with
 | none => rfl
 | some v =>
  obtain ⟨q, hq, rfl⟩ := zhv hp
  have hl := h2 q hq
  unfold big at hl
  simp only [Option.bind_some, letB, cond_true]
  by_cases hk : q.Val.Kind = 2
  ·rw [yav hk, if_pos hk]; rfl
  ·rw [yau hk, if_neg hk]
   by_cases hk1 : q.Val.Kind = 1
   ·rw [yav hk1, if_pos hk1, zaI (n := (q.Val.Text.length : Int) - 1) (by omega) (by omega)]
    simp only [cond_true, cond_false, Option.bind_some]
    unfold pctT
    by_cases hk2 : (1 : Int) ≤ (q.Val.Text.length : Int) - 1 ∧ (q.Val.Text.length : Int) - 1 ≤ 3
    ·have hne : q.Val.Text ≠ [] := fun e => by rw [e] at hk2; simp at hk2
     have hlast : idx q.Val.Text ((q.Val.Text.length : Int) - 1) = some (q.Val.Text.getLast hne) := by
      rw [show (q.Val.Text.length : Int) - 1 = ((q.Val.Text.length - 1 : Nat) : Int) by omega, zbL (by omega), List.getLast_eq_getElem]
     rw [yav hk2.1, yav hk2.2]
     simp only [cond_true, Option.bind_some, hlast, List.getLast?_eq_some_getLast hne]
     by_cases h37 : q.Val.Text.getLast hne = 37
     ·rw [yav h37]
      obtain ⟨j, e, r⟩ := zgp (v := (q.Val, true)) (t := q.Val.Text) rfl (by omega) q.Val.Text.dropLast 0 0 rfl (by omega) (by omega) (by decide)
      simp only [show ((0 : Nat) : Int) = 0 from rfl] at e
      simp only [cond_true, e, Option.bind_some]
      have hd0 : q.Val.Text.dropLast ≠ [] := fun e => by
       have := congrArg List.length e
       rw [List.length_dropLast] at this
       simp at this; omega
      have hpw : (10 : Int) ^ q.Val.Text.dropLast.length ≤ 1000 := by
       rw [List.length_dropLast]
       have : q.Val.Text.length - 1 ≤ 3 := by omega
       generalize q.Val.Text.length - 1 = m at this
       match m, this with
       | 0, _ => decide
       | 1, _ => decide
       | 2, _ => decide
       | 3, _ => decide
      have hpu := znO q.Val.Text.dropLast 0 (by omega) (by omega)
      have hdg : digs q.Val.Text.dropLast = (match refD q.Val.Text.dropLast 0 with | some v => (v, false) | none => (0, true)) := by
       unfold digs; rw [if_neg hd0, hpu]
      rw [hdg, ← r]
      cases j with
      | inl u => simp
      | inr z => simp [List.length_dropLast]; omega
     ·rw [yau h37, if_neg (fun hh => h37 (by simpa using hh.1))]; rfl
    ·have hneg : ¬ (q.Val.Text.getLast? = some 37 ∧ (digs q.Val.Text.dropLast).2 = false ∧ q.Val.Text.dropLast.length ≤ 3) := fun hh => by
      have h3 := hh.2.2
      rw [List.length_dropLast] at h3
      have : q.Val.Text.dropLast = [] := List.length_eq_zero_iff.1 (by rw [List.length_dropLast]; omega)
      rw [this] at hh
      cases hh.2.1
     rw [if_neg hneg]
     by_cases a : (q.Val.Text.length : Int) - 1 ≥ 1
     ·rw [yav a, yau (show ¬ (q.Val.Text.length : Int) - 1 ≤ 3 by omega)]; rfl
     ·rw [yau a]; rfl
   ·rw [yau hk1, if_neg hk1]; rfl
end Go.Proofs.YtakdnfneikbjjaaGreatDoor.Am.Lay10

set_option linter.all false
namespace Go.Proofs.YtakdnfneikbjjaaGreatDoor.Am.Lay10
open Go.Proofs.YtakdnfneikbjjaaGreatDoor.Am.T
def zc5 : Plan := ⟨0, ⟨0, 0⟩, [], [], []⟩
def zc6 (name : List Int) : Int := if name = [112, 97, 110, 101] then 1 else if name = [99, 111, 108, 115] then 2 else if name = [114, 111, 119, 115] then 3 else if name = [115, 116, 97, 99, 107] then 4 else 0
theorem zlI (name : List Int) : zc1 name = some (zc6 name) := by
  unfold zc1 zc6
  simp only [letB]
  by_cases h1 : name = [112, 97, 110, 101]
  · rw [yav h1, if_pos h1]; rfl
  · rw [yau h1, if_neg h1]
    by_cases h2 : name = [99, 111, 108, 115]
    · rw [yav h2, if_pos h2]; rfl
    · rw [yau h2, if_neg h2]
      by_cases h3 : name = [114, 111, 119, 115]
      · rw [yav h3, if_pos h3]; rfl
      · rw [yau h3, if_neg h3]
        by_cases h4 : name = [115, 116, 97, 99, 107]
        · rw [yav h4, if_pos h4]; rfl
        · rw [yau h4, if_neg h4]; rfl
theorem zk4 (name : List Int) : 0 ≤ zc6 name ∧ zc6 name ≤ 4 := by
  unfold zc6
  split <;> (try split) <;> (try split) <;> (try split) <;> omega
def argT (n : Node) : List Int := match n.Args with
  | v :: _ => if v.Kind = 1 then v.Text else []
  | [] => []
theorem znP {n : Node} (hl : n.Args.length ≤ big) (k : Int) (s : Size) : ((bif decide ((n.Args.length : Int) > 0) then (idx n.Args 0).bind fun x17 => some (decide (x17.Kind = 1)) else some false).bind fun g16 =>
    Option.bind (bif g16 then (idx n.Args 0).bind fun x21 => some (Plan.mk k s x21.Text [] []) else some (Plan.mk k s [] [] []) : Option Plan) fun j22 => some j22) = some (Plan.mk k s (argT n) [] []) := by
  unfold argT
  cases ha : n.Args with
  | nil => rfl
  | cons v r =>
    have hidx : idx (v :: r) 0 = some v := rfl
    rw [yav (by simp)]
    simp only [cond_true, hidx, Option.bind_some]
    by_cases hk : v.Kind = 1
    · rw [yav hk, if_pos hk]; rfl
    · rw [yau hk, if_neg hk]; rfl
def NN : Nat → Int
  | 0 => 1
  | d + 1 => 1 + 17 * NN d
theorem znQ : ∀ d, 1 ≤ NN d
  | 0 => by decide
  | d + 1 => by have := znQ d; unfold NN; omega
def cap : Int := 100000000000000000
theorem zeM {n : Node} {deep : Int} {rec : Node → Int → Int → Option (Plan × Int)} {N : Int} (hN : 0 ≤ N) (hdeep : 0 ≤ deep ∧ deep ≤ 12) (hl : n.Kids.length ≤ big) (hrec : ∀ k ∈ n.Kids, ∀ m : Int, 0 ≤ m → m + N ≤ cap → ∃ q m', rec k (deep + 1) m = some (q, m') ∧ m ≤ m' ∧ m' ≤ m + N) :
    ∀ (c i : Nat) (m : Int) (p : Plan), i + c = min n.Kids.length 17 → 0 ≤ m → m + c * N ≤ cap → p.Kids.length = i →
    ∃ j, iter (fun s => casementref10_planF_l1 n deep rec s.1 s.2.1 s.2.2 : (Int × Int × Plan) → Option ((Int × Int × Plan) ⊕ ((Int × Plan × Plan) ⊕ (Int × Plan)))) (m, (i : Int), p) = some j ∧ (match j with | .inl z => m ≤ z.1 ∧ z.1 ≤ m + c * N | .inr z => m ≤ z.1 ∧ z.1 ≤ m + c * N ∧ ∃ qs, z.2 = { p with Kids := p.Kids ++ qs } ∧ qs.length = c)
  | 0, i, m, p, hi, h0, hm, hp => by
    refine ⟨.inr (m, p), zaB ?_, by simp, by simp, [], by cases p; simp, rfl⟩
    simp only [casementref10_planF_l1, letB]
    by_cases hc : i < n.Kids.length
    · rw [yav (show (i : Int) < (n.Kids.length : Int) by omega), yau (show ¬ (i : Int) ≤ 16 by omega)]; rfl
    · rw [yau (show ¬ (i : Int) < (n.Kids.length : Int) by omega)]; rfl
  | c + 1, i, m, p, hi, h0, hm, hp => by
    have hlt : i < n.Kids.length := by omega
    have e : ((c + 1 : Nat) : Int) * N = c * N + N := by rw [show ((c + 1 : Nat) : Int) = c + 1 by omega, Int.add_mul]; omega
    have hcN : 0 ≤ (c : Int) * N := Int.mul_nonneg (by omega) hN
    rw [e] at hm ⊢
    unfold big at hl
    obtain ⟨q, m', hq, hm1, hm2⟩ := hrec _ (List.getElem_mem hlt) m h0 (by omega)
    by_cases hk : q.Kind = 0
    · refine ⟨.inl (m', p, q), zaB ?_, hm1, by simp only; omega⟩
      simp only [casementref10_planF_l1, letB]
      rw [yav (show (i : Int) < (n.Kids.length : Int) by omega), yav (show (i : Int) ≤ 16 by omega), zbL hlt, zaI (n := deep + 1) (by omega) (by omega)]
      simp only [cond_true, Option.bind_some, hq, yav hk]
    · obtain ⟨j, ej, r⟩ := zeM hN hdeep (show n.Kids.length ≤ big from hl) hrec c (i + 1) m' { p with Kids := p.Kids ++ [q] } (by omega) (by omega) (by omega) (by simp; omega)
      refine ⟨j, (zaO ?_).trans ej, ?_⟩
      · simp only [casementref10_planF_l1, letB]
        rw [yav (show (i : Int) < (n.Kids.length : Int) by omega), yav (show (i : Int) ≤ 16 by omega), zbL hlt, zaI (n := deep + 1) (by omega) (by omega), zaI (n := (i : Int) + 1) (by omega) (by omega)]
        simp only [cond_true, Option.bind_some, hq, yau hk, cond_false, zhp (show p.Kids.length < 1000000 by omega)]
        rfl
      · cases j with
        | inl z => simp only at r ⊢; omega
        | inr z =>
          obtain ⟨r1, r2, qs, r3, r4⟩ := r
          refine ⟨by omega, by omega, q :: qs, ?_, by simp [r4]⟩
          rw [r3]; simp
def Both (d : Nat) (m : Int) (prog : Option (Plan × Bool × Int)) (ref : Option (Plan × Int)) : Prop :=
  ∃ q m2, ref = some (q, m2) ∧ m ≤ m2 ∧ m2 ≤ m + NN d ∧ (m ≤ 288 → ∃ p ok m1, prog = some (p, ok, m1) ∧ m ≤ m1 ∧ m1 ≤ 289 ∧ (ok = true → q = p ∧ m2 = m1 ∧ m1 ≤ 288 ∧ p.Float = [] ∧ p.Kind ≠ 0) ∧ (ok = false → ¬ Rt d q))
theorem joint_loop {n : Node} {deep : Int} {d : Nat} {rec : Node → Int → Int → Option (Plan × Bool × Int)} {rec' : Node → Int → Int → Option (Plan × Int)} (hdeep : 0 ≤ deep ∧ deep ≤ 12) (hl : n.Kids.length ≤ 16) (hboth : ∀ k ∈ n.Kids, ∀ m : Int, 0 ≤ m → m + NN d ≤ cap → Both d m (rec k (deep + 1) m) (rec' k (deep + 1) m)) :
    ∀ (ks : List Node) (i : Nat) (m : Int) (p : Plan), n.Kids.drop i = ks → i + ks.length = n.Kids.length → p.Kids.length = i → 0 ≤ m → m ≤ 288 → m + ks.length * NN d ≤ cap →
    (∃ p' m', iter (fun s => layout_planF_l1 n deep rec s.1 s.2.1 s.2.2 : (Int × Plan × Int) → Option ((Int × Plan × Int) ⊕ ((Plan × Node × Plan × Int) ⊕ (Plan × Int)))) ((i : Int), p, m) = some (.inr (p', m')) ∧ iter (fun s => casementref10_planF_l1 n deep rec' s.1 s.2.1 s.2.2 : (Int × Int × Plan) → Option ((Int × Int × Plan) ⊕ ((Int × Plan × Plan) ⊕ (Int × Plan)))) (m, (i : Int), p) = some (.inr (m', p')) ∧ m ≤ m' ∧ m' ≤ 288 ∧ ∃ qs, p' = { p with Kids := p.Kids ++ qs }) ∨
    (∃ z j, iter (fun s => layout_planF_l1 n deep rec s.1 s.2.1 s.2.2 : (Int × Plan × Int) → Option ((Int × Plan × Int) ⊕ ((Plan × Node × Plan × Int) ⊕ (Plan × Int)))) ((i : Int), p, m) = some (.inl z) ∧ m ≤ z.2.2.2 ∧ z.2.2.2 ≤ 289 ∧ iter (fun s => casementref10_planF_l1 n deep rec' s.1 s.2.1 s.2.2 : (Int × Int × Plan) → Option ((Int × Int × Plan) ⊕ ((Int × Plan × Plan) ⊕ (Int × Plan)))) (m, (i : Int), p) = some j ∧ (match j with | .inl _ => True | .inr w => ∃ q ∈ w.2.Kids, ¬ Rt d q))
  | [], i, m, p, hd, hi, hp, h0, h1, hm => by
    simp only [List.length_nil] at hi
    refine .inl ⟨p, m, zaB ?_, zaB ?_, Int.le_refl _, h1, [], by cases p; simp⟩
    · simp only [layout_planF_l1, letB]
      rw [yau (by omega)]; rfl
    · simp only [casementref10_planF_l1, letB]
      rw [yau (by omega)]; rfl
  | k :: ks, i, m, p, hd, hi, hp, h0, h1, hm => by
    obtain ⟨hlt, hget, hdrop⟩ := zdC hd
    simp only [List.length_cons] at hi hm
    have hNN := znQ d
    have e : ((ks.length + 1 : Nat) : Int) * NN d = ks.length * NN d + NN d := by rw [show ((ks.length + 1 : Nat) : Int) = ks.length + 1 by omega, Int.add_mul]; omega
    have hcN : 0 ≤ (ks.length : Int) * NN d := Int.mul_nonneg (by omega) (by omega)
    rw [e] at hm
    obtain ⟨q, m2, hq, hm1, hm2, hprog⟩ := hboth k (hget ▸ List.getElem_mem hlt) m h0 (by omega)
    obtain ⟨pk, ok, m1, hpk, hm3, hm4, hok, hbad⟩ := hprog h1
    cases ok with
    | true =>
      obtain ⟨rfl, rfl, h288, hfl, hkind⟩ := hok rfl
      have s1 : layout_planF_l1 n deep rec (i : Int) p m = some (.inl (((i + 1 : Nat) : Int), { p with Kids := p.Kids ++ [q] }, m2)) := by
        simp only [layout_planF_l1, letB]
        rw [yav (show (i : Int) < (n.Kids.length : Int) by omega), zbL hlt, hget, zaI (n := deep + 1) (by omega) (by omega), zaI (n := (i : Int) + 1) (by omega) (by omega)]
        simp only [cond_true, Option.bind_some, hpk, Bool.not_true, cond_false, zhp (show p.Kids.length < 1000000 by omega)]
        rfl
      have s2 : casementref10_planF_l1 n deep rec' m (i : Int) p = some (.inl (m2, ((i + 1 : Nat) : Int), { p with Kids := p.Kids ++ [q] })) := by
        simp only [casementref10_planF_l1, letB]
        rw [yav (show (i : Int) < (n.Kids.length : Int) by omega), yav (show (i : Int) ≤ 16 by omega), zbL hlt, hget, zaI (n := deep + 1) (by omega) (by omega), zaI (n := (i : Int) + 1) (by omega) (by omega)]
        simp only [cond_true, Option.bind_some, hq, yau hkind, cond_false, zhp (show p.Kids.length < 1000000 by omega)]
        rfl
      rcases joint_loop hdeep hl hboth ks (i + 1) m2 { p with Kids := p.Kids ++ [q] } hdrop (by omega) (by simp; omega) (by omega) h288 (by omega) with ⟨p', m', a1, a2, a3, a4, qs, a5⟩ | ⟨z, j, a1, a2, a3, a4, a5⟩
      · exact .inl ⟨p', m', (zaO s1).trans a1, (zaO s2).trans a2, by omega, a4, q :: qs, by rw [a5]; simp⟩
      · exact .inr ⟨z, j, (zaO s1).trans a1, by omega, a3, (zaO s2).trans a4, a5⟩
    | false =>
      have hb := hbad rfl
      have s1 : layout_planF_l1 n deep rec (i : Int) p m = some (.inr (.inl (p, k, pk, m1))) := by
        simp only [layout_planF_l1, letB]
        rw [yav (show (i : Int) < (n.Kids.length : Int) by omega), zbL hlt, hget, zaI (n := deep + 1) (by omega) (by omega)]
        simp only [cond_true, Option.bind_some, hpk, Bool.not_false]
      by_cases hkind : q.Kind = 0
      · refine .inr ⟨_, .inl (m2, p, q), zaB s1, hm3, hm4, zaB ?_, trivial⟩
        simp only [casementref10_planF_l1, letB]
        rw [yav (show (i : Int) < (n.Kids.length : Int) by omega), yav (show (i : Int) ≤ 16 by omega), zbL hlt, hget, zaI (n := deep + 1) (by omega) (by omega)]
        simp only [cond_true, Option.bind_some, hq, yav hkind]
      · have s2 : casementref10_planF_l1 n deep rec' m (i : Int) p = some (.inl (m2, ((i + 1 : Nat) : Int), { p with Kids := p.Kids ++ [q] })) := by
          simp only [casementref10_planF_l1, letB]
          rw [yav (show (i : Int) < (n.Kids.length : Int) by omega), yav (show (i : Int) ≤ 16 by omega), zbL hlt, hget, zaI (n := deep + 1) (by omega) (by omega), zaI (n := (i : Int) + 1) (by omega) (by omega)]
          simp only [cond_true, Option.bind_some, hq, yau hkind, cond_false, zhp (show p.Kids.length < 1000000 by omega)]
          rfl
        obtain ⟨j, ej, r⟩ := zeM (n := n) (deep := deep) (rec := rec') (N := NN d) (by omega) hdeep (by unfold big; omega) (fun k hk m a b => by
          obtain ⟨q, m2, c1, c2, c3, _⟩ := hboth k hk m a b
          exact ⟨q, m2, c1, c2, c3⟩) ks.length (i + 1) m2 { p with Kids := p.Kids ++ [q] } (by omega) (by omega) (by omega) (by simp; omega)
        refine .inr ⟨_, j, zaB s1, hm3, hm4, (zaO s2).trans ej, ?_⟩
        cases j with
        | inl z => trivial
        | inr w =>
          obtain ⟨_, _, qs, r3, _⟩ := r
          refine ⟨q, ?_, hb⟩
          rw [r3]; simp
theorem zhx {d : Nat} {p : Plan} (h : ¬ sizeOK p.Size) : ¬ Rt d p := fun hr => h hr.sizeOK
theorem zdu {d : Nat} {p : Plan} (h : p.Kind = 0) : ¬ Rt d p := fun hr => by
  cases d with
  | zero => exact hr
  | succ d =>
    obtain ⟨_, h1 | ⟨_, h2, _⟩⟩ := hr
    · omega
    · unfold zeE at h2; omega
theorem zk5 {d : Nat} {p : Plan} (hk : p.Kind ≠ 1) (h : 16 < p.Kids.length) : ¬ Rt d p := fun hr => by
  cases d with
  | zero => exact hr
  | succ d =>
    obtain ⟨_, h1 | ⟨_, _, _, h2, _⟩⟩ := hr
    · exact hk h1
    · omega
theorem zmr {d : Nat} {p q : Plan} (hk : p.Kind ≠ 1) (hq : q ∈ p.Kids) (h : ¬ Rt d q) : ¬ Rt (d + 1) p := fun hr => by
  obtain ⟨_, h1 | ⟨_, _, _, _, h2⟩⟩ := hr
  · exact hk h1
  · exact h (h2 q hq).1
theorem znR {n : Node} (hl : n.Args.length ≤ big) (s : Size) : ∀ (F : Plan ⊕ Plan → Option (Plan × Int)), Option.bind (
   Option.bind (
    bif decide (n.Name = [112, 97, 110, 101]) then (
     (bif decide ((n.Args.length : Int) > 0) then ((idx n.Args 0).bind fun x11 => some (decide (x11.Kind = 1))) else some false).bind fun g10 =>
     Option.bind (bif g10 then ((idx n.Args 0).bind fun x15 => some ((Plan.mk 1 s x15.Text [] []))) else (some ((Plan.mk 1 s [] [] []))) : Option Plan) fun j16 =>
     some (.inr j16))
    else (
     Option.bind (
      bif decide (n.Name = [99, 111, 108, 115]) then (some ((Plan.mk 2 s [] [] [])))
      else (
       Option.bind (
        bif decide (n.Name = [114, 111, 119, 115]) then (some ((Plan.mk 3 s [] [] [])))
        else (
         Option.bind (bif decide (n.Name = [115, 116, 97, 99, 107]) then (some ((Plan.mk 4 s [] [] []))) else (some ((Plan.mk 0 s [] [] []))) : Option Plan) fun j23 =>
         some (j23)) : Option Plan) fun j24 =>
       some (j24)) : Option Plan) fun j25 =>
     some (.inl j25)) : Option (Plan ⊕ Plan)) fun j26 =>
   match j26 with
   | .inl z27 => (some (.inl z27))
   | .inr z28 => (some (.inr z28)) : Option (Plan ⊕ Plan)) F = F (if zc6 n.Name = 1 then .inr (Plan.mk 1 s (argT n) [] []) else .inl (Plan.mk (zc6 n.Name) s [] [] [])) := by
  intro F
  unfold zc6
  by_cases h1 : n.Name = [112, 97, 110, 101]
  · rw [yav h1, if_pos h1, if_pos rfl]
    have hlf := znP hl 1 s
    simp only [cond_true]
    generalize (bif decide ((n.Args.length : Int) > 0) then ((idx n.Args 0).bind fun x11 => some (decide (x11.Kind = 1))) else some false : Option Bool) = g at hlf
    cases g with
    | none => cases hlf
    | some g =>
      simp only [Option.bind_some] at hlf ⊢
      generalize (bif g then ((idx n.Args 0).bind fun x15 => some ((Plan.mk 1 s x15.Text [] []))) else (some ((Plan.mk 1 s [] [] []))) : Option Plan) = o at hlf
      cases o with
      | none => cases hlf
      | some o =>
        simp only [Option.bind_some, yaa] at hlf ⊢
        rw [hlf]
  · rw [yau h1, if_neg h1]
    by_cases h2 : n.Name = [99, 111, 108, 115]
    · rw [yav h2, if_pos h2]; rfl
    · rw [yau h2, if_neg h2]
      by_cases h3 : n.Name = [114, 111, 119, 115]
      · rw [yav h3, if_pos h3]; rfl
      · rw [yau h3, if_neg h3]
        by_cases h4 : n.Name = [115, 116, 97, 99, 107]
        · rw [yav h4, if_pos h4]; rfl
        · rw [yau h4, if_neg h4]; rfl
theorem zj6 : ∀ (d k k' : Nat) (n : Node) (deep m : Int), NB (d + 1) n → deep = 13 - (d : Int) → d ≤ 12 → d + 1 ≤ k → d + 1 ≤ k' → 0 ≤ m → m + NN d ≤ cap → Both d m (zbi k n deep m) (zau k' n deep m)
  | d, 0, k', n, deep, m, hb, hd, hd12, hk, hk', h0, hm => by omega
  | d, k + 1, 0, n, deep, m, hb, hd, hd12, hk, hk', h0, hm => by omega
  | 0, k + 1, k' + 1, n, deep, m, hb, hd, hd12, hk, hk', h0, hm => by
    show Both 0 m (zbP (zbi k) n deep m) (zaM (zau k') n deep m)
    unfold cap at hm
    refine ⟨zc5, m + 1, ?_, by omega, by show m + 1 ≤ m + 1; omega, fun h288 => ⟨Plan.mk (zc6 n.Name) (zc2 n) [] [] [], false, m + 1, ?_, by omega, by omega, fun h => (by cases h), fun _ h => h⟩⟩
    · unfold zaM
      rw [zih hb]
      simp only [Option.bind_some, letB]
      rw [yav (by omega), zaI (n := m + 1) (by unfold NN at hm; omega) (by unfold NN at hm; omega)]
      rfl
    · unfold zbP
      rw [znN hb, zlI]
      simp only [Option.bind_some, letB, or_s]
      rw [yav (show deep > 12 by omega), zaI (n := m + 1) (by omega) (by omega)]
      simp only [Bool.or_true, Bool.true_or, cond_true]
  | d + 1, k + 1, k' + 1, n, deep, m, hb, hd, hd12, hk, hk', h0, hm => by
    show Both (d + 1) m (zbP (zbi k) n deep m) (zaM (zau k') n deep m)
    obtain ⟨hb1, hb2, hb3, hb4, hb5⟩ := hb
    have hb0 : NB 1 n := ⟨hb1, hb2, hb3, hb4, fun _ _ => trivial⟩
    have hNN := znQ d
    have hN1 : NN (d + 1) = 1 + 17 * NN d := rfl
    rw [hN1] at hm
    have hcap : m + 1 + 17 * NN d ≤ cap := by omega
    have hw : w64 (m + 1) = m + 1 := zaI (by unfold cap at hm; omega) (by unfold cap at hm; omega)
    have hboth : ∀ q ∈ n.Kids, ∀ m : Int, 0 ≤ m → m + NN d ≤ cap → Both d m (zbi k q (deep + 1) m) (zau k' q (deep + 1) m) := fun q hq m a b => zj6 d k k' q (deep + 1) m (hb5 q hq) (by omega) (by omega) (by omega) (by omega) a b
    have hrec1 : ∀ q ∈ n.Kids, ∀ m : Int, 0 ≤ m → m + NN d ≤ cap → ∃ r m', zau k' q (deep + 1) m = some (r, m') ∧ m ≤ m' ∧ m' ≤ m + NN d := fun q hq m a b => by
      obtain ⟨r, m2, c1, c2, c3, _⟩ := hboth q hq m a b
      exact ⟨r, m2, c1, c2, c3⟩
    have hK := zk4 n.Name
    have href : zaM (zau k') n deep m = if m + 1 > 288 then some (zc5, m + 1) else if zc6 n.Name = 1 then some (Plan.mk 1 (zc2 n) (argT n) [] [], m + 1) else
        (iter (fun s => casementref10_planF_l1 n deep (zau k') s.1 s.2.1 s.2.2 : (Int × Int × Plan) → Option ((Int × Int × Plan) ⊕ ((Int × Plan × Plan) ⊕ (Int × Plan)))) (m + 1, 0, Plan.mk (zc6 n.Name) (zc2 n) [] [] [])).bind fun j42 => match j42 with
          | .inl z43 => some (zc5, z43.1)
          | .inr z44 => some (z44.2, z44.1) := by
      unfold zaM
      rw [zih hb0]
      simp only [Option.bind_some, letB, or_s, hw]
      rw [yau (show ¬ deep > 12 by omega)]
      by_cases h288 : m + 1 > 288
      · rw [yav h288, if_pos h288]; rfl
      · rw [yau h288, if_neg h288]
        simp only [Bool.or_false, cond_false]
        refine (znR hb3 (zc2 n) _).trans ?_
        by_cases hk1 : zc6 n.Name = 1
        · rw [if_pos hk1, if_pos hk1]
        · rw [if_neg hk1, if_neg hk1]; rfl
    have hprog : zbP (zbi k) n deep m = if ¬ sizeOK (zc2 n) ∨ zc6 n.Name = 0 ∨ m + 1 > 288 then some (Plan.mk (zc6 n.Name) (zc2 n) [] [] [], false, m + 1) else if zc6 n.Name = 1 then some (Plan.mk 1 (zc2 n) (argT n) [] [], true, m + 1) else if n.Kids.length > 16 then some (Plan.mk (zc6 n.Name) (zc2 n) [] [] [], false, m + 1) else
        (iter (fun s => layout_planF_l1 n deep (zbi k) s.1 s.2.1 s.2.2 : (Int × Plan × Int) → Option ((Int × Plan × Int) ⊕ ((Plan × Node × Plan × Int) ⊕ (Plan × Int)))) (0, Plan.mk (zc6 n.Name) (zc2 n) [] [] [], m + 1)).bind fun j31 => match j31 with
          | .inl z32 => some (z32.1, false, z32.2.2.2)
          | .inr z33 => some (z33.1, true, z33.2) := by
      unfold zbP
      rw [znN hb0, zlI]
      simp only [Option.bind_some, letB, or_s, hw]
      rw [yau (show ¬ deep > 12 by omega)]
      by_cases hg : ¬ sizeOK (zc2 n) ∨ zc6 n.Name = 0 ∨ m + 1 > 288
      · rw [if_pos hg]
        have : (((!decide (sizeOK (zc2 n))) || decide (zc6 n.Name = 0)) || false || decide (m + 1 > 288)) = true := by
          simp only [Bool.or_eq_true, Bool.not_eq_true', yat, decide_eq_false_iff_not]
          rcases hg with hg | hg | hg
          · exact .inl (.inl (.inl hg))
          · exact .inl (.inl (.inr hg))
          · exact .inr hg
        rw [this]; rfl
      · rw [if_neg hg]
        have : (((!decide (sizeOK (zc2 n))) || decide (zc6 n.Name = 0)) || false || decide (m + 1 > 288)) = false := by
          simp only [Bool.or_eq_false_iff, Bool.not_eq_false', yat, decide_eq_false_iff_not]
          refine ⟨⟨⟨?_, fun h => hg (.inr (.inl h))⟩, trivial⟩, fun h => hg (.inr (.inr h))⟩
          exact Classical.byContradiction fun h => hg (.inl h)
        rw [this]
        simp only [cond_false]
        by_cases hk1 : zc6 n.Name = 1
        · rw [yav hk1, if_pos hk1]
          have hlf := znP hb3 1 (zc2 n)
          simp only [cond_true, hk1]
          generalize (bif decide ((n.Args.length : Int) > 0) then ((idx n.Args 0).bind fun x11 => some (decide (x11.Kind = 1))) else some false : Option Bool) = g at hlf
          cases g with
          | none => cases hlf
          | some g =>
            simp only [Option.bind_some] at hlf ⊢
            generalize (bif g then ((idx n.Args 0).bind fun x15 => some ((Plan.mk 1 (zc2 n) x15.Text [] []))) else (some ((Plan.mk 1 (zc2 n) [] [] []))) : Option Plan) = o at hlf
            cases o with
            | none => cases hlf
            | some o =>
              simp only [Option.bind_some, yaa] at hlf ⊢
              rw [hlf]
        · rw [yau hk1, if_neg hk1]
          simp only [cond_false]
          by_cases h16 : n.Kids.length > 16
          · rw [yav (by omega), if_pos h16]; rfl
          · rw [yau (by omega), if_neg h16]; rfl
    by_cases h288 : m + 1 > 288
    · rw [if_pos h288] at href
      rw [if_pos (.inr (.inr h288))] at hprog
      exact ⟨zc5, m + 1, href, by omega, by omega, fun hm2 => ⟨_, false, m + 1, hprog, by omega, by omega, fun h => (by cases h), fun _ => zdu rfl⟩⟩
    · rw [if_neg h288] at href
      by_cases hk1 : zc6 n.Name = 1
      · rw [if_pos hk1] at href
        by_cases hs : sizeOK (zc2 n)
        · rw [if_neg (by rintro (h | h | h) <;> first | exact h hs | omega), if_pos hk1] at hprog
          exact ⟨_, m + 1, href, by omega, by omega, fun hm2 => ⟨_, true, m + 1, hprog, by omega, by omega, fun _ => ⟨rfl, rfl, by omega, rfl, by simp⟩, fun h => by cases h⟩⟩
        · rw [if_pos (.inl hs)] at hprog
          exact ⟨_, m + 1, href, by omega, by omega, fun hm2 => ⟨_, false, m + 1, hprog, by omega, by omega, fun h => (by cases h), fun _ => zhx hs⟩⟩
      · rw [if_neg hk1] at href
        obtain ⟨j, ej, r⟩ := zeM (n := n) (deep := deep) (rec := zau k') (N := NN d) (by omega) (by omega) hb2 hrec1 (min n.Kids.length 17) 0 (m + 1) (Plan.mk (zc6 n.Name) (zc2 n) [] [] []) (by omega) (by omega) (by
          have : ((min n.Kids.length 17 : Nat) : Int) * NN d ≤ 17 * NN d := Int.mul_le_mul_of_nonneg_right (by omega) (by omega)
          omega) rfl
        simp only [show ((0 : Nat) : Int) = 0 from rfl] at ej
        rw [ej] at href
        simp only [Option.bind_some] at href
        have hle : ((min n.Kids.length 17 : Nat) : Int) * NN d ≤ 17 * NN d := Int.mul_le_mul_of_nonneg_right (by omega) (by omega)
        obtain ⟨q, m2, hqe, hr1, hr2⟩ : ∃ q m2, (match j with | .inl z43 => some (zc5, z43.1) | .inr z44 => some (z44.2, z44.1) : Option (Plan × Int)) = some (q, m2) ∧ m + 1 ≤ m2 ∧ m2 ≤ m + 1 + 17 * NN d := by
          cases j with
          | inl z => exact ⟨_, _, rfl, r.1, by have := r.2; omega⟩
          | inr z => exact ⟨_, _, rfl, r.1, by have := r.2.1; omega⟩
        refine ⟨q, m2, href.trans hqe, by omega, by omega, fun hm2 => ?_⟩
        by_cases hbad : ¬ sizeOK (zc2 n) ∨ zc6 n.Name = 0
        · rw [if_pos (hbad.elim .inl fun h => .inr (.inl h))] at hprog
          refine ⟨_, false, m + 1, hprog, by omega, by omega, fun h => (by cases h), fun _ => ?_⟩
          cases j with
          | inl z =>
            simp only [yaa, yac] at hqe
            rw [← hqe.1]; exact zdu rfl
          | inr z =>
            obtain ⟨_, _, qs, r3, _⟩ := r
            simp only [yaa, yac] at hqe
            rw [← hqe.1, r3]
            exact hbad.elim (fun h => zhx h) fun h => zdu h
        · rw [if_neg (by
            rintro (h | h | h)
            · exact hbad (.inl h)
            · exact hbad (.inr h)
            · omega), if_neg hk1] at hprog
          by_cases h16 : n.Kids.length > 16
          · rw [if_pos h16] at hprog
            refine ⟨_, false, m + 1, hprog, by omega, by omega, fun h => (by cases h), fun _ => ?_⟩
            cases j with
            | inl z =>
              simp only [yaa, yac] at hqe
              rw [← hqe.1]; exact zdu rfl
            | inr z =>
              obtain ⟨_, _, qs, r3, r4⟩ := r
              simp only [yaa, yac] at hqe
              rw [← hqe.1, r3]
              exact zk5 hk1 (by simp [r4]; omega)
          · rw [if_neg h16] at hprog
            have hkn : ((n.Kids.length : Nat) : Int) * NN d ≤ 17 * NN d := Int.mul_le_mul_of_nonneg_right (by omega) (by omega)
            have hjl := joint_loop (n := n) (deep := deep) (d := d) (rec := zbi k) (rec' := zau k') (by omega) (by omega) hboth n.Kids 0 (m + 1) (Plan.mk (zc6 n.Name) (zc2 n) [] [] []) rfl (by omega) rfl (by omega) (by omega) (by omega)
            simp only [show ((0 : Nat) : Int) = 0 from rfl] at hjl
            rcases hjl with ⟨p', m', a1, a2, a3, a4, qs, a5⟩ | ⟨z, j2, a1, a2, a3, a4, a5⟩
            · rw [a1] at hprog
              rw [ej, yaa] at a2
              subst a2
              simp only [yaa, yac] at hqe
              obtain ⟨rfl, rfl⟩ := hqe
              exact ⟨p', true, m', hprog, by omega, by omega, fun _ => ⟨rfl, rfl, a4, by rw [a5], by rw [a5]; exact fun h => hbad (.inr h)⟩, fun h => by cases h⟩
            · rw [a1] at hprog
              rw [ej, yaa] at a4
              subst a4
              refine ⟨_, false, _, hprog, by omega, a3, fun h => (by cases h), fun _ => ?_⟩
              cases j with
              | inl z =>
                simp only [yaa, yac] at hqe
                rw [← hqe.1]; exact zdu rfl
              | inr w =>
                simp only [yaa, yac] at hqe
                obtain ⟨_, _, qs, r3, _⟩ := r
                obtain ⟨x, hx, hnx⟩ := a5
                rw [← hqe.1]
                exact zmr (by rw [r3]; exact hk1) hx hnx
end Go.Proofs.YtakdnfneikbjjaaGreatDoor.Am.Lay10

set_option linter.all false
namespace Go.Proofs.YtakdnfneikbjjaaGreatDoor.Am.Lay10
open Go.Proofs.YtakdnfneikbjjaaGreatDoor.Am.T
theorem znS {α : Type} {l : List α} {x : α} (h : l.length < 4000000) : app l [x] = some (l ++ [x]) := by
 unfold app
 rw [if_pos (by rw [znI]; simp; omega)]
end Go.Proofs.YtakdnfneikbjjaaGreatDoor.Am.Lay10
