/-
A part of the proof of a law: tw o, tw c, tw pure, tw law, am tab, frame ext, frame code.
-/
import Derived.Test.YtgglgcehiolpcaaAmFrameWaitsRow3
import Derived.Test.YtgglgcehiolpcaaProg
/-
Typed walks, part 4: each operation.
-/
namespace Go.Proofs.Ytgglgcehiolpcaa.Am.T
open Go.Proofs.Ytgglgcehiolpcaa.Am
section
variable {ρ : List Nat} {L : Ts} {B : Bs} {M : Ms} {st : St}
theorem set_same {α : Type} {l : List α} {i : Nat} {v : α} (h : l[i]? = some v) : l.set i v = l := by
  obtain ⟨hi, rfl⟩ := List.getElem?_eq_some_iff.1 h
  exact List.set_getElem_self hi
theorem tell_inv {b : Bool} {k : TV → Prop} (h : tell b k) : k (.bool b) := h b rfl
theorem byteI_inj {a b : UInt8} (h : byteI a = byteI b) : a = b := by
  unfold byteI at h
  exact UInt8.toNat_inj.1 (by omega)
theorem map_byteI_inj : ∀ {s t : List UInt8}, s.map byteI = t.map byteI → s = t
  | [], [], _ => rfl
  | [], _ :: _, h => by cases h
  | _ :: _, [], h => by cases h
  | a :: s, b :: t, h => by
    simp only [List.map_cons, List.cons.injEq] at h
    rw [byteI_inj h.1, map_byteI_inj h.2]
theorem int_eqs {a k : Int} : (a == k) = decide (a = k) := by rw [Bool.eq_iff_iff]; simp
theorem str_eqs {s t : List UInt8} : (s == t) = decide (s.map byteI = t.map byteI) := by
  rw [Bool.eq_iff_iff]
  simp only [beq_iff_eq, decide_eq_true_eq]
  exact ⟨fun h => by rw [h], map_byteI_inj⟩
theorem binW_sound {op : BinOp} {x y : TV} {x' y' : V} (hx : Den ρ x x') (hy : Den ρ y y') {k : TV → Prop} (hk : binW op x y k) : ∃ v t, doBin op x' y' = some v ∧ Den ρ t v ∧ k t := by
  unfold binW at hk
  split at hk
  · rename_i a n b p
    rw [hx.int_inv, hy.int_inv]
    have I : ∀ (k : IntKind) (n : Int), Den ρ (.int k n) (.int k n) := fun k n => .base (.int k n)
    have Bo : ∀ b : Bool, Den ρ (.bool b) (.bool b) := fun b => .base (.bool b)
    cases op with
    | shl => exact ⟨_, _, by simp only [doBin, intShift]; rw [if_neg (by omega)], I _ _, hk.2⟩
    | shr => exact ⟨_, _, by simp only [doBin, intShift]; rw [if_neg (by omega)], I _ _, hk.2⟩
    | quo => obtain ⟨e, h0, hk⟩ := bif_inv hk; exact ⟨_, _, by simp only [doBin, intBin, of_decide_eq_true e, if_true, if_neg h0], I _ _, hk⟩
    | rem => obtain ⟨e, h0, hk⟩ := bif_inv hk; exact ⟨_, _, by simp only [doBin, intBin, of_decide_eq_true e, if_true, if_neg h0], I _ _, hk⟩
    | eql => obtain ⟨e, hk⟩ := bif_inv hk; exact ⟨_, _, by simp only [doBin, intBin, of_decide_eq_true e, if_true, int_eqs], Bo _, tell_inv hk⟩
    | neq =>
      obtain ⟨e, hk⟩ := bif_inv hk
      refine ⟨_, _, by simp only [doBin, intBin, of_decide_eq_true e, if_true]; rfl, Bo _, ?_⟩
      have h1 := tell_inv hk
      have e2 : decide (n ≠ p) = (n != p) := by simp [bne, decide_not]; rfl
      rwa [e2] at h1
    | lss => obtain ⟨e, hk⟩ := bif_inv hk; exact ⟨_, _, by simp only [doBin, intBin, of_decide_eq_true e, if_true], Bo _, tell_inv hk⟩
    | leq => obtain ⟨e, hk⟩ := bif_inv hk; exact ⟨_, _, by simp only [doBin, intBin, of_decide_eq_true e, if_true], Bo _, tell_inv hk⟩
    | gtr => obtain ⟨e, hk⟩ := bif_inv hk; exact ⟨_, _, by simp only [doBin, intBin, of_decide_eq_true e, if_true], Bo _, tell_inv hk⟩
    | geq => obtain ⟨e, hk⟩ := bif_inv hk; exact ⟨_, _, by simp only [doBin, intBin, of_decide_eq_true e, if_true], Bo _, tell_inv hk⟩
    | _ => obtain ⟨e, hk⟩ := bif_inv hk; exact ⟨_, _, by simp only [doBin, intBin, of_decide_eq_true e, if_true], I _ _, hk⟩
  · rename_i s t
    obtain ⟨s', rfl, rfl⟩ := hx.str_inv
    obtain ⟨t', rfl, rfl⟩ := hy.str_inv
    cases op with
    | add =>
      simp only [List.length_map] at hk
      obtain ⟨hk1, _, rfl, hk2⟩ := hk
      exact ⟨_, _, by simp only [doBin, strBin]; rw [if_pos hk1], by rw [← List.map_append]; exact .base (.str _), hk2⟩
    | eql => exact ⟨_, _, rfl, by rw [str_eqs]; exact .base (.bool _), tell_inv hk⟩
    | neq =>
      refine ⟨_, _, rfl, .base (.bool _), ?_⟩
      have h1 := tell_inv hk
      rwa [show decide (s'.map byteI ≠ t'.map byteI) = !(s' == t') from by rw [str_eqs]; simp] at h1
    | _ => exact hk.elim
  · exact hk.elim
theorem leafT_sound {k : LK} {x y : TV} {x' y' : V} (hx : Den ρ x x') (hy : Den ρ y y') {b : Bool} (h : leafT k x y = some b) : leafEq k x' y' = some b := by
  unfold leafT at h
  split at h
  · rename_i a c k' d
    rw [hx.int_inv, hy.int_inv]
    cases hk : decide (a = k') with
    | true =>
      rw [hk] at h
      simp only [cond_true, Option.some.injEq] at h
      simp only [leafEq, of_decide_eq_true hk, if_true, int_eqs, h]
    | false => rw [hk] at h; cases h
  · rw [hx.bool_inv, hy.bool_inv]; exact h
  · obtain ⟨s', rfl, rfl⟩ := hx.str_inv
    obtain ⟨t', rfl, rfl⟩ := hy.str_inv
    simp only [Option.some.injEq] at h
    simp only [leafEq, str_eqs, h]
  · cases h
theorem leavesT_sound : ∀ {ks : List LK} {xs ys : List TV} {xs' ys' : List V} (_ : Pw (Den ρ) xs xs') (_ : Pw (Den ρ) ys ys') {b : Bool} (_ : leavesT ks xs ys = some b), leavesEq ks xs' ys' = some b
  | [], [], [], xs', ys', hx, hy, b, h => by
    cases hx; cases hy; exact h
  | k :: ks, x :: xs, y :: ys, xs', ys', hx, hy, b, h => by
    cases hx with
    | cons h1 t1 =>
      cases hy with
      | cons h2 t2 =>
        simp only [leavesT] at h
        cases h3 : leafT k x y with
        | none => simp only [h3] at h; cases h
        | some c =>
          simp only [h3] at h
          cases h4 : leavesT ks xs ys with
          | none => simp only [h4] at h; cases h
          | some d =>
            simp only [h4] at h
            have e1 := leafT_sound h1 h2 h3
            have e2 := leavesT_sound t1 t2 h4
            rw [leavesEq, e1, Option.bind_some, e2, Option.bind_some]; exact h
  | [], _ :: _, _, xs', ys', hx, hy, b, h => by cases h
  | [], [], _ :: _, xs', ys', hx, hy, b, h => by cases h
  | _ :: _, [], _, xs', ys', hx, hy, b, h => by cases h
  | _ :: _, _ :: _, [], xs', ys', hx, hy, b, h => by cases h
theorem eqT_sound {kind : EqK} {x y : TV} {x' y' : V} (hx : Den ρ x x') (hy : Den ρ y y') {b : Bool} (h : eqT kind x y = some b) : eqV kind x' y' = some b := by
  unfold eqT at h
  split at h
  · rw [hx.nilp_inv, hy.nilp_inv]; exact h
  · obtain ⟨b, rfl, _⟩ := hy.ptr_inv; rw [hx.nilp_inv]; exact h
  · obtain ⟨b, rfl, _⟩ := hx.ptr_inv; rw [hy.nilp_inv]; exact h
  · rw [hx.nilp_inv, hy.loc_inv]; exact h
  · rw [hx.loc_inv, hy.nilp_inv]; exact h
  · rw [hx.nils_inv, hy.nils_inv]; exact h
  · rw [hx.nilf_inv, hy.nilf_inv]; exact h
  · obtain ⟨b, rfl, _⟩ := hy.func_inv; rw [hx.nilf_inv]; exact h
  · obtain ⟨b, rfl, _⟩ := hx.func_inv; rw [hy.nilf_inv]; exact h
  · cases h
theorem bif_if {c : Bool} {x y : Bool} : (bif c then x else y) = if c then x else y := by cases c <;> rfl
theorem eqW_sound {neg : Bool} {kind : EqK} {x y : TV} {x' y' : V} (hx : Den ρ x x') (hy : Den ρ y y') {k : TV → Prop} (hk : eqW neg kind x y k) : ∃ b, eqV kind x' y' = some b ∧ k (.bool (if neg then !b else b)) := by
  unfold eqW at hk
  split at hk
  · split at hk
    · rw [hx.bool_inv, hy.bool_inv]
      have := tell_inv hk
      rw [bif_if] at this
      exact ⟨_, rfl, this⟩
    · exact hk.elim
  · split at hk
    · obtain ⟨xs', rfl, h1⟩ := hx.agg_inv
      obtain ⟨ys', rfl, h2⟩ := hy.agg_inv
      split at hk
      · rename_i b hb
        have := tell_inv hk
        rw [bif_if] at this
        exact ⟨b, leavesT_sound h1 h2 hb, this⟩
      · exact hk.elim
    · exact hk.elim
  · split at hk
    · rw [hy.nils_inv]
      rcases hx.sl_inv with ⟨ys, rfl, _⟩ | ⟨rfl, rfl⟩
      · have := hk false (fun h => by cases h)
        rw [bif_if] at this
        exact ⟨false, rfl, this⟩
      · have := hk true (fun _ => rfl)
        rw [bif_if] at this
        exact ⟨true, rfl, this⟩
    · rw [hx.nils_inv]
      rcases hy.sl_inv with ⟨ys, rfl, _⟩ | ⟨rfl, rfl⟩
      · have := hk false (fun h => by cases h)
        rw [bif_if] at this
        exact ⟨false, rfl, this⟩
      · have := hk true (fun _ => rfl)
        rw [bif_if] at this
        exact ⟨true, rfl, this⟩
    · rw [hx.nils_inv, hy.nils_inv]
      rw [bif_if] at hk
      exact ⟨true, rfl, hk⟩
    · exact hk.elim
  · split at hk
    · rename_i b hb
      rw [bif_if] at hk
      exact ⟨b, eqT_sound hx hy hb, hk⟩
    · exact hk.elim
theorem unW_sound {op : UnOp} {x : TV} {x' : V} (hx : Den ρ x x') {k : TV → Prop} (hk : unW op x k) : ∃ v t, doUn op x' = some v ∧ Den ρ t v ∧ k t := by
  unfold unW at hk
  split at hk
  · rw [hx.int_inv]; exact ⟨_, _, rfl, .base (.int _ _), hk⟩
  · rw [hx.bool_inv]; exact ⟨_, _, rfl, .base (.bool _), hk⟩
  · rw [hx.int_inv]; exact ⟨_, _, rfl, .base (.int _ _), hk⟩
  · exact hk.elim
theorem minMaxW_sound {mx : Bool} {t : TV} {ts : List TV} {v : V} {vs : List V} (h1 : Den ρ t v) (h2 : Pw (Den ρ) ts vs) {k : TV → Prop} (hk : minMaxW mx t ts k) : ∃ r w, minMaxL mx v vs = some r ∧ Den ρ w r ∧ k w := by
  unfold minMaxW at hk
  split at hk
  · rename_i kd a kd' b
    rw [h1.int_inv]
    cases h2 with
    | cons h3 h4 =>
      cases h4
      rw [h3.int_inv]
      obtain ⟨_, hk⟩ := bifT hk
      cases mx with
      | false => exact ⟨_, _, by simp only [minMaxL, minMax2, Option.bind_some, Bool.false_eq_true, if_false], .base (.int kd (if b < a then b else a)), by rw [show (if b < a then b else a) = min a b from by rw [Int.min_def]; split <;> split <;> omega]; exact hk⟩
      | true => exact ⟨_, _, by simp only [minMaxL, minMax2, Option.bind_some, if_true], .base (.int kd (if a < b then b else a)), by rw [show (if a < b then b else a) = max a b from by rw [Int.max_def]; split <;> split <;> omega]; exact hk⟩
  · exact hk.elim
theorem bytesOf_by8 : ∀ {s : List Int} {xs : List (List V)}, Pw (Pw Den0) (s.map by8) xs → (∀ b ∈ s, 0 ≤ b ∧ b < 256) → ∃ b : List UInt8, bytesOf xs = some b ∧ s = b.map byteI
  | [], xs, h, _ => by cases h; exact ⟨[], rfl, rfl⟩
  | n :: s, xs, h, hr => by
    cases h with
    | cons h1 h2 =>
      cases h1 with
      | cons h3 h4 =>
        cases h4
        cases h3 with
        | int k n =>
          obtain ⟨b, e1, e2⟩ := bytesOf_by8 h2 fun b hb => hr b (.tail _ hb)
          have hn := hr n (.head _)
          refine ⟨UInt8.ofNat n.toNat :: b, by simp only [bytesOf]; rw [if_pos hn, e1]; rfl, ?_⟩
          rw [List.map_cons, ← e2]
          congr 1
          unfold byteI
          rw [UInt8.toNat_ofNat']
          omega

theorem wpOp_sound {q : Bool} {cf : CF} (h : Rel ρ L B M st) {op : AOp} {k : TV → Ts → Bs → Ms → Prop} (hk : wpOp q cf op L B M k) :
    ∃ v st', evalOp cf st op = some (v, st') ∧ (op.isCall = true → st'.l = st.l ∧ (q = true → st'.m = st.m)) ∧ ∃ ρ' t L' B' M', Den ρ' t v ∧ Rel ρ' L' B' M' st' ∧ Fr ρ st.m ρ' st'.m ∧ k t L' B' M' := by
  have fin : ∀ {v : V} {t : TV}, evalOp cf st op = some (v, st) → op.isCall = false → Den ρ t v → k t L B M →
      ∃ v st', evalOp cf st op = some (v, st') ∧ (op.isCall = true → st'.l = st.l ∧ (q = true → st'.m = st.m)) ∧ ∃ ρ' t L' B' M', Den ρ' t v ∧ Rel ρ' L' B' M' st' ∧ Fr ρ st.m ρ' st'.m ∧ k t L' B' M' :=
    fun {v t} he hc hd hk => ⟨v, st, he, (fun hh => by rw [hc] at hh; cases hh), ρ, t, L, B, M, hd, h, .refl _ _, hk⟩
  have fin2 : ∀ {v : V} {σ' : Nat → V} {t : TV} {L' : Ts}, evalOp cf st op = some (v, { st with σ := σ' }) → op.isCall = false → Den ρ t v → Ag ρ L' σ' → k t L' B M →
      ∃ v st', evalOp cf st op = some (v, st') ∧ (op.isCall = true → st'.l = st.l ∧ (q = true → st'.m = st.m)) ∧ ∃ ρ' t L' B' M', Den ρ' t v ∧ Rel ρ' L' B' M' st' ∧ Fr ρ st.m ρ' st'.m ∧ k t L' B' M' :=
    fun {v σ' t L'} he hc hd ha hk => ⟨v, _, he, (fun hh => by rw [hc] at hh; cases hh), ρ, t, L', B, M, hd, h.sig ha, .refl _ _, hk⟩
  cases op with
  | mv x =>
    dsimp only [wpOp] at hk
    obtain ⟨v, σ', e, t, L', hd, h1, hk⟩ := rd_sound h.a hk
    exact fin2 e rfl hd h1 hk
  | mvK s =>
    dsimp only [wpOp] at hk
    split at hk
    · rename_i o z xs hv
      have hd := h.a s _ hv
      rcases hd.sl_inv with ⟨ys, e, hxy⟩ | ⟨e, rfl⟩
      · exact fin2 (v := .slice false z ys) (σ' := upd st.σ s (.slice false z ys)) (by simp only [evalOp, e]) rfl (.base (.sl false z hxy)) (h.a.upd s (.base (.sl false z hxy))) hk
      · refine fin2 (v := .nils) (σ' := st.σ) (t := .sl false z []) (by simp only [evalOp, e]) rfl (.base (.sln false z)) (fun s' t' ht' => ?_) hk
        rw [fnd_cons] at ht'
        split at ht'
        · rename_i e2; subst e2; cases ht'; rw [e]; exact .base (.sln false z)
        · exact h.a s' t' ht'
    · rename_i hv
      have hd := h.a s _ hv
      exact fin (by simp only [evalOp, hd.nils_inv]) rfl (.base .nils) hk
    · exact hk.elim
  | pick c a b =>
    dsimp only [wpOp] at hk
    obtain ⟨v, t, e, hd, hk⟩ := rdC_sound h.a hk
    cases t with
    | bool c =>
      obtain ⟨w, t, e2, hd2, hk⟩ := rdC_sound h.a hk
      rw [hd.bool_inv] at e
      exact fin (v := w) (by simp only [evalOp, e, Option.bind_some]; cases c <;> simp_all) rfl hd2 hk
    | _ => exact hk.elim
  | allocL j zero =>
    dsimp only [wpOp] at hk
    obtain ⟨hz, hk⟩ := bifT hk
    obtain ⟨zs, hzs, hk⟩ := zeroK_sound (ρ := ρ) hk
    obtain ⟨L', h1, hk⟩ := mapK_sound h.a (fun _ _ h => Den.killLV j h) hk
    exact ⟨.loc j 0, { st with l := upd st.l j zero, σ := killL j st.σ }, by simp only [evalOp]; rw [if_pos hz], (fun hh => by cases hh), ρ, .loc j 0, L', _, M, .loc j 0, ⟨h1, h.b.upd j hzs, h.m⟩, .refl _ _, hk⟩
  | allocM zero =>
    dsimp only [wpOp] at hk
    obtain ⟨hz, hk⟩ := bifT hk
    obtain ⟨zs, hzs, hk⟩ := zeroK_sound (ρ := ρ) hk
    obtain ⟨hz2, hk⟩ := bifT hk
    refine ⟨.ptr st.m.length 0, { st with m := st.m ++ [zero] }, by simp only [evalOp]; rw [if_pos ⟨hz, tops_low hzs hz2⟩], (fun hh => by cases hh), ρ ++ [st.m.length], .ptr M.length 0, L, B, _, .ptr 0 ?_, ⟨h.a.mono _, h.b.mono _, h.m.alloc hzs⟩, .alloc _ _ _, (by have hk' := forceK_iff.1 hk; exact hk')⟩
    rw [← h.m.2.1]; exact List.getElem?_concat_length ..
  | boxL j x =>
    dsimp only [wpOp] at hk
    obtain ⟨v, σ', e, t, L1, hd, h1, hk⟩ := rd_sound h.a hk
    obtain ⟨ho, hk⟩ := bifT hk
    obtain ⟨L', h2, hk⟩ := mapK_sound h1 (fun _ _ h => Den.killLV j h) hk
    exact ⟨.loc j 0, { st with l := upd st.l j v.cells, σ := killL j σ' }, by simp only [evalOp, e, Option.bind_some]; rw [if_pos (hd.ok1 ho)], (fun hh => by cases hh), ρ, .loc j 0, L', _, M, .loc j 0, ⟨h2, h.b.upd j (hd.cells ho), h.m⟩, .refl _ _, hk⟩
  | boxM x =>
    dsimp only [wpOp] at hk
    obtain ⟨v, σ', e, t, L1, hd, h1, hk⟩ := rd_sound h.a hk
    obtain ⟨ho, hk⟩ := bifT hk
    refine ⟨.ptr st.m.length 0, { st with σ := σ', m := st.m ++ [v.cells] }, by simp only [evalOp, e, Option.bind_some]; rw [if_pos (hd.ok1 ho)], (fun hh => by cases hh), ρ ++ [st.m.length], .ptr M.length 0, L1, B, _, .ptr 0 ?_, ⟨h1.mono _, h.b.mono _, h.m.alloc (hd.cells ho)⟩, .alloc _ _ _, (by have hk' := forceK_iff.1 hk; exact hk')⟩
    rw [← h.m.2.1]; exact List.getElem?_concat_length ..
  | build zero parts =>
    dsimp only [wpOp] at hk
    obtain ⟨zs, hzs, hk⟩ := zeroK_sound (ρ := ρ) hk
    obtain ⟨cs', σ', e, cs, L', hd, h1, hk⟩ := fillW_sound h.a hzs hk
    exact fin2 (v := .agg cs') (by simp only [evalOp, e, Option.bind_some]) rfl (.agg hd) h1 hk
  | buildSlice sz zero len parts =>
    dsimp only [wpOp] at hk
    obtain ⟨hz, hk⟩ := bifT hk
    simp only [Bool.and_eq_true] at hz
    obtain ⟨z1, z2⟩ := hz
    obtain ⟨zs, hzs, hk⟩ := zeroK_sound (ρ := ρ) hk
    obtain ⟨z3, hk⟩ := bifT hk
    obtain ⟨hz0, _⟩ := good0 hzs z3
    obtain ⟨cs', σ', e, cs, L', hd, h1, _, rfl, hk⟩ := fillEW_sound h.a (Pw.replicate hz0 len) hk
    exact fin2 (v := .slice true sz cs') (by simp only [evalOp]; rw [if_pos ⟨Nat.eq_of_beq_eq_true z1, z2⟩, e]; rfl) rfl (.base (.sl true sz hd)) h1 hk
  | load agg n p mode =>
    dsimp only [wpOp] at hk
    obtain ⟨a, ta, e, hd, hk⟩ := rdC_sound h.a hk
    obtain ⟨v, st', e2, t, B', M', hd2, h2, hf, hk⟩ := loadW_sound h hd hk
    exact ⟨v, st', by simp only [evalOp, e, Option.bind_some, e2], (fun hh => by cases hh), ρ, t, L, B', M', hd2, h2, hf, hk⟩
  | store n p x =>
    dsimp only [wpOp] at hk
    obtain ⟨v, σ', e, t, L1, hd, h1, hk⟩ := rd_sound h.a hk
    obtain ⟨a, ta, e1, hda, hk⟩ := rdC_sound (st := { st with σ := σ' }) h1 hk
    obtain ⟨ho, hk⟩ := bifT hk
    obtain ⟨st', e2, L', B', M', h2, hf, hk⟩ := storeW_sound (h.sig h1) (hd.cells ho) hda hk
    exact ⟨_, st', by simp only [evalOp, e, Option.bind_some, e1]; rw [if_pos (hd.ok1 ho), e2]; rfl, (fun hh => by cases hh), ρ, .undef, L', B', M', .undef' _, h2, hf, hk⟩
  | nilCheck x =>
    dsimp only [wpOp] at hk
    obtain ⟨a, t, e, hd, hk⟩ := rdC_sound h.a hk
    cases t with
    | ptr i o => obtain ⟨b, rfl, _⟩ := hd.ptr_inv; exact fin (by simp only [evalOp, e, Option.bind_some]) rfl hd hk
    | loc i o => have := hd.loc_inv; subst this; exact fin (by simp only [evalOp, e, Option.bind_some]) rfl hd hk
    | ro i o => obtain ⟨b, rfl, _⟩ := hd.ro_inv; exact fin (by simp only [evalOp, e, Option.bind_some]) rfl hd hk
    | el i o _ _ => obtain ⟨b, rfl, _⟩ := hd.el_inv; exact fin (by simp only [evalOp, e, Option.bind_some]) rfl hd hk
    | func i o => obtain ⟨b, rfl, _⟩ := hd.func_inv; exact fin (by simp only [evalOp, e, Option.bind_some]) rfl hd hk
    | _ => exact hk.elim
  | bin op x y =>
    dsimp only [wpOp] at hk
    obtain ⟨a, ta, e, hd, hk⟩ := rdC_sound h.a hk
    obtain ⟨b, tb, e1, hd1, hk⟩ := rdC_sound h.a hk
    obtain ⟨v, t, e2, hd2, hk⟩ := binW_sound hd hd1 hk
    exact fin (by simp only [evalOp, e, e1, e2, Option.bind_some]) rfl hd2 hk
  | eq neg kind x y =>
    dsimp only [wpOp] at hk
    obtain ⟨a, ta, e, hd, hk⟩ := rdC_sound h.a hk
    obtain ⟨b, tb, e1, hd1, hk⟩ := rdC_sound h.a hk
    obtain ⟨v, e2, hk⟩ := eqW_sound hd hd1 hk
    exact fin (by simp only [evalOp, e, e1, e2, Option.bind_some]) rfl (.base (.bool _)) hk
  | un op x =>
    dsimp only [wpOp] at hk
    obtain ⟨a, ta, e, hd, hk⟩ := rdC_sound h.a hk
    obtain ⟨v, t, e2, hd2, hk⟩ := unW_sound hd hk
    exact fin (by simp only [evalOp, e, e2, Option.bind_some]) rfl hd2 hk
  | conv kd x =>
    dsimp only [wpOp] at hk
    obtain ⟨a, ta, e, hd, hk⟩ := rdC_sound h.a hk
    cases ta with
    | int _ n => rw [hd.int_inv] at e; exact fin (by simp only [evalOp, e, Option.bind_some]) rfl (.base (.int _ _)) hk
    | _ => exact hk.elim
  | strStr x =>
    dsimp only [wpOp] at hk
    obtain ⟨a, ta, e, hd, hk⟩ := rdC_sound h.a hk
    cases ta with
    | str s => obtain ⟨b, rfl, rfl⟩ := hd.str_inv; exact fin (by simp only [evalOp, e, Option.bind_some]) rfl hd hk
    | _ => exact hk.elim
  | strBytes x =>
    dsimp only [wpOp] at hk
    obtain ⟨a, ta, e, hd, hk⟩ := rdC_sound h.a hk
    cases ta with
    | str s => obtain ⟨b, rfl, rfl⟩ := hd.str_inv; exact fin (by simp only [evalOp, e, Option.bind_some]) rfl (.base (.sl true 1 (by8_den b))) hk
    | _ => exact hk.elim
  | bytesStr x =>
    dsimp only [wpOp] at hk
    obtain ⟨a, ta, e, hd, hk⟩ := rdC_sound h.a hk
    obtain ⟨xs, e1, ys, hxy, s, ⟨rfl, hr⟩, hk⟩ := elemsW_sound h hd hk
    obtain ⟨b, e2, rfl⟩ := bytesOf_by8 hxy hr
    exact fin (by simp only [evalOp, e, e1, e2, Option.bind_some]) rfl (.base (.str b)) hk
  | intStr x =>
    dsimp only [wpOp] at hk
    obtain ⟨a, ta, e, hd, hk⟩ := rdC_sound h.a hk
    cases ta with
    | int _ n => rw [hd.int_inv] at e; exact fin (by simp only [evalOp, e, Option.bind_some]) rfl (.base (.str _)) hk
    | _ => exact hk.elim
  | convB x =>
    dsimp only [wpOp] at hk
    obtain ⟨v, σ', e, t, L1, hd, h1, hk⟩ := rd_sound h.a hk
    cases t with
    | sl o z xs =>
      cases o with
      | false => exact hk.elim
      | true =>
        obtain ⟨hz, hne, hk⟩ := beq_inv hk
        rcases hd.sl_inv with ⟨ys, rfl, hxy⟩ | ⟨_, rfl⟩
        · exact fin2 (v := .slice true 1 ys) (by simp only [evalOp, e, Option.bind_some]; rw [if_pos hz]) rfl (.base (.sl true 1 hxy)) h1 hk
        · exact absurd rfl hne
    | _ => exact hk.elim
  | makeSlice sz zero l c =>
    dsimp only [wpOp] at hk
    obtain ⟨a, ta, e, hd, hk⟩ := rdC_sound h.a hk
    obtain ⟨b, tb, e1, hd1, hk⟩ := rdC_sound h.a hk
    cases ta <;> try exact hk.elim
    cases tb <;> try exact hk.elim
    rw [hd.int_inv] at e
    rw [hd1.int_inv] at e1
    obtain ⟨hc, hk⟩ := hk
    obtain ⟨hz, hk⟩ := bifT hk
    simp only [Bool.and_eq_true] at hz
    obtain ⟨z1, z2⟩ := hz
    obtain ⟨zs, hzs, hk⟩ := zeroK_sound (ρ := ρ) hk
    obtain ⟨z3, _, rfl, hk⟩ := bifT hk
    obtain ⟨hz0, _⟩ := good0 hzs z3
    exact fin (by simp only [evalOp, e, e1, Option.bind_some]; rw [if_pos ⟨hc.1, hc.2.1, hc.2.2, Nat.eq_of_beq_eq_true z1, z2⟩]) rfl (.base (.sl true sz (Pw.replicate hz0 _))) hk
  | sliceS x lo hi =>
    dsimp only [wpOp] at hk
    obtain ⟨a, ta, e, hd, hk⟩ := rdC_sound h.a hk
    cases ta <;> try exact hk.elim
    obtain ⟨b, rfl, rfl⟩ := hd.str_inv
    obtain ⟨n, e1, hk⟩ := bndW_sound h.a hk
    obtain ⟨l, e2, hc, _, rfl, hk⟩ := bndW_sound h.a hk
    simp only [List.length_map] at hc e1
    exact fin (by simp only [evalOp, e, e1, e2, Option.bind_some]; rw [if_pos hc]) rfl (.base (.str _)) (by rw [List.map_take, List.map_drop]; exact hk)
  | sliceV sz x lo hi =>
    dsimp only [wpOp] at hk
    obtain ⟨v, σ', e, t, L1, hd, h1, hk⟩ := rd_sound h.a hk
    cases t <;> try exact hk.elim
    · obtain ⟨q, e1, hk⟩ := bndW_sound (st := { st with σ := σ' }) h1 hk
      obtain ⟨l, e2, hc, hk⟩ := bndW_sound (st := { st with σ := σ' }) h1 hk
      rw [hd.nils_inv] at e
      exact fin2 (v := .nils) (by simp only [evalOp, e, e1, e2, Option.bind_some]; rw [if_pos hc]) rfl (.base .nils) h1 hk
    · obtain ⟨hz, hk⟩ := beq_inv hk
      obtain ⟨n, e1, hk⟩ := bndW_sound (st := { st with σ := σ' }) h1 hk
      obtain ⟨l, e2, hc, _, rfl, hk⟩ := bndW_sound (st := { st with σ := σ' }) h1 hk
      rcases hd.sl_inv with ⟨ys, rfl, hxy⟩ | ⟨rfl, rfl⟩
      · rw [hxy.length] at hc e1
        exact fin2 (v := .slice _ sz ((ys.drop l).take (n - l))) (by simp only [evalOp, e, e1, e2, Option.bind_some]; rw [if_pos ⟨hc.1, hc.2, hz⟩]) rfl (.base (.sl _ _ ((hxy.drop _).take _))) h1 hk
      · simp only [List.length_nil] at hc e1
        refine fin2 (v := .nils) (by simp only [evalOp, e, e1, e2, Option.bind_some]; rw [if_pos (by omega)]) rfl ?_ h1 hk
        simp only [List.drop_nil, List.take_nil]
        exact .base (.sln _ _)
  | fieldAddr off x =>
    dsimp only [wpOp] at hk
    obtain ⟨a, t, e, hd, hk⟩ := rdC_sound h.a hk
    cases t with
    | ptr i o => obtain ⟨b, rfl, hb⟩ := hd.ptr_inv; exact fin (by simp only [evalOp, e, Option.bind_some]) rfl (.ptr _ hb) hk
    | loc i o => have := hd.loc_inv; subst this; exact fin (by simp only [evalOp, e, Option.bind_some]) rfl (.loc _ _) hk
    | ro i o => obtain ⟨b, rfl, hb⟩ := hd.ro_inv; exact fin (by simp only [evalOp, e, Option.bind_some]) rfl (.ro _ hb) hk
    | el i o _ _ => obtain ⟨b, rfl, hb⟩ := hd.el_inv; exact fin (by simp only [evalOp, e, Option.bind_some]) rfl (.el _ _ _ hb) hk
    | _ => exact hk.elim
  | field agg n off x =>
    dsimp only [wpOp] at hk
    obtain ⟨a, t, e, hd, hk⟩ := rdC_sound h.a hk
    cases t <;> try exact hk.elim
    rename_i cs
    obtain ⟨cs', rfl, hc⟩ := hd.agg_inv
    cases agg with
    | false =>
      obtain ⟨rfl, hk2⟩ := beq_inv hk
      cases hv : cs[off]? with
      | none => simp only [hv] at hk2
      | some v =>
        simp only [hv] at hk2
        obtain ⟨v', hv', hd2⟩ := hc.get hv
        exact fin (v := v') (by simp only [evalOp, e, Option.bind_some]; rw [if_pos (Nat.succ_le_of_lt (lt_of_get hv')), take1 hv']; rfl) rfl hd2 hk2
    | true =>
      obtain ⟨hl, hk⟩ := bifT hk
      have hl := ble_le hl
      rw [hc.length] at hl
      exact fin (v := .agg _) (by simp only [evalOp, e, Option.bind_some]; rw [if_pos hl]; rfl) rfl (.agg ((hc.drop _).take _)) (by have hk' := forceK_iff.1 hk; exact hk')
  | indexArr len sz x i =>
    dsimp only [wpOp] at hk
    obtain ⟨a, t, e, hd, hk⟩ := rdC_sound h.a hk
    obtain ⟨b, ti, e1, hd1, hk⟩ := rdC_sound h.a hk
    cases ti <;> try exact hk.elim
    rw [hd1.int_inv] at e1
    obtain ⟨hc, hk⟩ := hk
    cases t with
    | ptr i o => obtain ⟨b, rfl, hb⟩ := hd.ptr_inv; exact fin (by simp only [evalOp, e, e1, Option.bind_some]; rw [if_pos hc]) rfl (.ptr _ hb) hk
    | loc i o => have := hd.loc_inv; subst this; exact fin (by simp only [evalOp, e, e1, Option.bind_some]; rw [if_pos hc]) rfl (.loc _ _) hk
    | ro i o => obtain ⟨b, rfl, hb⟩ := hd.ro_inv; exact fin (by simp only [evalOp, e, e1, Option.bind_some]; rw [if_pos hc]) rfl (.ro _ hb) hk
    | el i o _ _ => obtain ⟨b, rfl, hb⟩ := hd.el_inv; exact fin (by simp only [evalOp, e, e1, Option.bind_some]; rw [if_pos hc]) rfl (.el _ _ _ hb) hk
    | _ => exact hk.elim
  | indexSl sz x i =>
    dsimp only [wpOp] at hk
    obtain ⟨a, t, e, hd, hk⟩ := rdC_sound h.a hk
    obtain ⟨b, ti, e1, hd1, hk⟩ := rdC_sound h.a hk
    cases ti <;> try exact hk.elim
    rename_i kd n
    rw [hd1.int_inv] at e1
    cases t with
    | place r =>
      obtain ⟨r', rfl, hr⟩ := hd.place_inv
      obtain ⟨w, hd2, hk⟩ := hr.look h hk
      cases w with
      | sl own z xs =>
        cases own with
        | false =>
          obtain ⟨hz, h0, cs, hcs, hk⟩ := beq_inv hk
          rcases hd2.sl_inv with ⟨ys, e3, hxy⟩ | ⟨_, rfl⟩
          · obtain ⟨cs', hcs', hc⟩ := hxy.get hcs
            have e2 := getD_of (d := []) hcs'
            exact fin (v := .ro cs' 0) (by simp only [evalOp, e, e1, Option.bind_some, e3]; rw [if_pos ⟨h0, by have := lt_of_get hcs'; omega, hz⟩, e2]) rfl (.ro 0 hc.base) hk
          · simp at hcs
        | true =>
          obtain ⟨hz, h0, hk⟩ := beq_inv hk
          rcases hd2.sl_inv with ⟨ys, e3, hxy⟩ | ⟨_, rfl⟩
          · rw [hxy.length] at h0
            exact fin (v := .el r' sz n.toNat 0) (by simp only [evalOp, e, e1, Option.bind_some, e3]; rw [if_pos ⟨h0.1, by omega, hz⟩]) rfl (.el _ _ _ hr) hk
          · simp at h0
      | _ => exact hk.elim
    | sl own z xs =>
      cases own with
      | false =>
        obtain ⟨hz, h0, cs, hcs, hk⟩ := beq_inv hk
        rcases hd.sl_inv with ⟨ys, rfl, hxy⟩ | ⟨_, rfl⟩
        · obtain ⟨cs', hcs', hc⟩ := hxy.get hcs
          have e2 := getD_of (d := []) hcs'
          exact fin (v := .ro cs' 0) (by simp only [evalOp, e, e1, Option.bind_some]; rw [if_pos ⟨h0, by have := lt_of_get hcs'; omega, hz⟩, e2]) rfl (.ro 0 hc.base) hk
        · simp at hcs
      | true => exact hk.elim
    | _ => exact hk.elim
  | indexAgg agg len sz x i =>
    dsimp only [wpOp] at hk
    obtain ⟨a, t, e, hd, hk⟩ := rdC_sound h.a hk
    obtain ⟨b, ti, e1, hd1, hk⟩ := rdC_sound h.a hk
    cases t <;> try exact hk.elim
    cases ti <;> try exact hk.elim
    rw [hd1.int_inv] at e1
    obtain ⟨cs', rfl, hcs⟩ := hd.agg_inv
    obtain ⟨hc, hk⟩ := hk
    rw [hcs.length] at hc
    cases agg with
    | false =>
      obtain ⟨rfl, v, hv, hk⟩ := beq_inv hk
      obtain ⟨v', hv', hd2⟩ := hcs.get hv
      exact fin (v := v') (by simp only [evalOp, e, e1, Option.bind_some]; rw [if_pos hc, take1 hv']; rfl) rfl hd2 hk
    | true => exact fin (v := .agg _) (by simp only [evalOp, e, e1, Option.bind_some]; rw [if_pos hc]; rfl) rfl (.agg ((hcs.drop _).take _)) hk
  | indexStr x i =>
    dsimp only [wpOp] at hk
    obtain ⟨a, t, e, hd, hk⟩ := rdC_sound h.a hk
    obtain ⟨b, ti, e1, hd1, hk⟩ := rdC_sound h.a hk
    cases t <;> try exact hk.elim
    cases ti <;> try exact hk.elim
    rename_i n
    rw [hd1.int_inv] at e1
    obtain ⟨s', rfl, rfl⟩ := hd.str_inv
    obtain ⟨h0, c, hc, hk⟩ := hk
    rw [List.getElem?_map, Option.map_eq_some_iff] at hc
    obtain ⟨u, hu, rfl⟩ := hc
    have hlt := lt_of_get hu
    exact fin (v := .int .u8 (byteI u)) (by simp only [evalOp, e, e1, Option.bind_some]; rw [if_pos ⟨h0, by omega⟩, getD_of hu]; rfl) rfl (.base (.int _ _)) hk
  | extract x i =>
    dsimp only [wpOp] at hk
    obtain ⟨v, σ', e, t, L1, hd, h1, hk⟩ := rd_sound h.a hk
    cases t <;> try exact hk.elim
    rename_i vs
    obtain ⟨vs', rfl, hvs⟩ := hd.tuple_inv
    cases hv : vs[i]? with
    | none => simp only [hv] at hk
    | some v =>
      simp only [hv] at hk
      obtain ⟨v', hv', hd2⟩ := hvs.get hv
      exact fin2 (v := v') (by simp only [evalOp, e, Option.bind_some]; rw [if_pos (lt_of_get hv'), getD_of hv']) rfl hd2 h1 hk
  | lend f sz x lo =>
    dsimp only [wpOp] at hk
    obtain ⟨a, ta, e, hd, hk⟩ := rdC_sound h.a hk
    obtain ⟨xs, e1, ys, hxy, hlo, zs, rfl, r, hr, hk⟩ := lendW_sound h hd hk
    obtain ⟨hb, hk⟩ := bifT hk
    simp only [Bool.and_eq_true, Nat.ble_eq] at hb
    rw [hxy.length] at hlo
    obtain ⟨r', m', ρ', hcf, hd2, _, _, _, hq⟩ := hr [] [] [.slice false sz (xs.drop lo)] ⟨List.nodup_nil, rfl, fun i b h => by cases h⟩ (.cons (.base (.sl _ _ (hxy.drop lo))) .nil)
    obtain ⟨hb2, hd3⟩ := bare_den hd2 hb.2
    exact fin (v := r') (by simp only [evalOp, e, e1, Option.bind_some]; rw [if_pos ⟨hlo, hb.1⟩, hcf, hq rfl]; simp [hb2]) rfl (hd3 ρ) hk
  | callF f args =>
    dsimp only [wpOp] at hk
    obtain ⟨vs, σ', e, ts, L1, hd, h1, hk⟩ := rds_sound h.a hk
    obtain ⟨ha, r, M', hr, hk⟩ := bifT hk
    obtain ⟨r', m', ρ', hcf, hd2, hm, hf, _, hq⟩ := hr ρ st.m vs h.m hd
    have ⟨⟨ex, hex, _⟩, _, _⟩ := hf
    subst hex
    obtain ⟨L', h2, hk⟩ := mapK_sound (h1.mono ex) (fun _ _ h => Den.killMV h) hk
    exact ⟨r', { st with σ := killM σ', m := m' }, by simp only [evalOp, e, Option.bind_some]; rw [if_pos (Pw.all (p := TV.okArg) (q := V.okArg) (fun _ _ h ho => Den.okArg h ho) hd ha), hcf]; rfl, fun _ => ⟨rfl, hq⟩, _, r, L', B, M', hd2, ⟨h2, h.b.mono ex, hm⟩, hf, hk⟩
  | callV f args =>
    dsimp only [wpOp] at hk
    obtain ⟨fv, t, e0, hd0, hk⟩ := rdC_sound h.a hk
    cases t <;> try exact hk.elim
    obtain ⟨cs', rfl, hcs⟩ := hd0.func_inv
    obtain ⟨vs, σ', e, ts, L1, hd, h1, hk⟩ := rds_sound h.a hk
    obtain ⟨ha, ha2, r, M', hr, hk⟩ := bifT hk
    obtain ⟨r', m', ρ', hcf, hd2, hm, hf, _, hq⟩ := hr ρ st.m _ h.m (hd.append hcs)
    have ⟨⟨ex, hex, _⟩, _, _⟩ := hf
    subst hex
    obtain ⟨L', h2, hk⟩ := mapK_sound (h1.mono ex) (fun _ _ h => Den.killMV h) hk
    exact ⟨r', { st with σ := killM σ', m := m' }, by simp only [evalOp, e0, e, Option.bind_some]; rw [if_pos ⟨Pw.all (p := TV.okArg) (q := V.okArg) (fun _ _ h ho => Den.okArg h ho) hd ha, Pw.all (p := TV.okArg) (q := V.okArg) (fun _ _ h ho => Den.okArg h ho) hcs ha2⟩, hcf]; rfl, fun _ => ⟨rfl, hq⟩, _, r, L', B, M', hd2, ⟨h2, h.b.mono ex, hm⟩, hf, hk⟩
  | lenStr x =>
    dsimp only [wpOp] at hk
    obtain ⟨a, t, e, hd, hk⟩ := rdC_sound h.a hk
    cases t with
    | str s =>
      obtain ⟨b, rfl, rfl⟩ := hd.str_inv
      simp only [List.length_map] at hk
      exact fin (by simp only [evalOp, e, Option.bind_some]) rfl (.base (.int _ _)) hk
    | _ => exact hk.elim
  | lenSl x =>
    dsimp only [wpOp] at hk
    obtain ⟨a, t, e, hd, hk⟩ := rdC_sound h.a hk
    obtain ⟨xs, e1, ys, hxy, _, rfl, hk⟩ := elemsW_sound h hd hk
    rw [hxy.length] at hk
    exact fin (by simp only [evalOp, e, e1, Option.bind_some]) rfl (.base (.int _ _)) hk
  | lenC n => exact fin rfl rfl (.base (.int _ _)) hk
  | append sz x y =>
    dsimp only [wpOp] at hk
    obtain ⟨p, σ1, e1, tp, L1, hd1, h1, hk⟩ := rd_sound h.a hk
    obtain ⟨q', σ2, e2, tq, L2, hd2, h2, hk⟩ := rd_sound (st := { st with σ := σ1 }) h1 hk
    obtain ⟨ys, e3, zs, hzs, hk⟩ := elemsZW_sound (st := { st with σ := σ2 }) (h.sig h2) hd2 hk
    have app : ∀ {xs z kk}, appW sz zs xs z kk → (xs.length + zs.length ≤ most ∧ z = sz) ∧ kk (.sl true sz (xs ++ zs)) := fun {xs z kk} ha => by
      obtain ⟨hz, hc, _, rfl, ha⟩ := beq_inv ha
      exact ⟨⟨hc, hz⟩, ha⟩
    have app0 : ∀ {kk : TV → Prop}, appW sz zs [] sz kk → ∃ v, (if ys.length ≤ most ∧ 0 < ys.length then some (V.slice true sz ys, ({ st with σ := σ2 } : St)) else if ys.length = 0 then some (.nils, { st with σ := σ2 }) else none) = some (v, { st with σ := σ2 }) ∧ Den ρ (.sl true sz zs) v ∧ kk (.sl true sz zs) := fun {kk} ha => by
      obtain ⟨⟨hm, _⟩, hk⟩ := app ha
      rw [hzs.length] at hm
      simp only [List.length_nil, Nat.zero_add] at hm
      by_cases h0 : 0 < ys.length
      · exact ⟨_, by rw [if_pos ⟨hm, h0⟩], .base (.sl true sz hzs), hk⟩
      · have hy : ys = [] := List.length_eq_zero_iff.1 (by omega)
        subst hy
        have hz0 : zs = [] := by cases hzs; rfl
        subst hz0
        exact ⟨_, by rw [if_neg (fun hh => h0 hh.2), if_pos (by simp)], .base (.sln true sz), hk⟩
    have fin3 : ∀ v t st', evalOp cf st (.append sz x y) = some (v, st') → ∀ L' B' M', Den ρ t v → Rel ρ L' B' M' st' → Fr ρ st.m ρ st'.m → k t L' B' M' → ∃ v st', evalOp cf st (.append sz x y) = some (v, st') ∧ ((AOp.append sz x y).isCall = true → st'.l = st.l ∧ (q = true → st'.m = st.m)) ∧ ∃ ρ' t L' B' M', Den ρ' t v ∧ Rel ρ' L' B' M' st' ∧ Fr ρ st.m ρ' st'.m ∧ k t L' B' M' :=
      fun v t st' e L' B' M' a b c d => ⟨v, st', e, (fun hh => by cases hh), ρ, t, L', B', M', a, b, c, d⟩
    cases tp with
    | nils =>
      obtain ⟨v, e, hd, hk⟩ := app0 hk
      rw [hd1.nils_inv] at e1
      exact fin3 v _ { st with σ := σ2 } (by simp only [evalOp, e1, e2, e3, Option.bind_some]; exact e) L2 B M hd (h.sig h2) (.refl _ _) hk
    | sl o z xs =>
      cases o with
      | false => exact hk.elim
      | true =>
        rcases hd1.sl_inv with ⟨ws, rfl, hxy⟩ | ⟨rfl, rfl⟩
        · obtain ⟨hc, hk⟩ := app hk
          rw [hxy.length, hzs.length] at hc
          exact fin3 (.slice true sz (ws ++ ys)) _ { st with σ := σ2 } (by simp only [evalOp, e1, e2, e3, Option.bind_some]; rw [if_pos hc]) L2 B M (.base (.sl true sz (hxy.append hzs))) (h.sig h2) (.refl _ _) hk
        · have hk' : appW sz zs [] sz fun v => k v L2 B M := by
            obtain ⟨hc, hk⟩ := app hk
            unfold appW
            rw [show Nat.beq sz sz = true by simp]
            exact ⟨hc.1, _, rfl, hk⟩
          obtain ⟨v, e, hd, hk⟩ := app0 hk'
          exact fin3 v _ { st with σ := σ2 } (by simp only [evalOp, e1, e2, e3, Option.bind_some]; exact e) L2 B M hd (h.sig h2) (.refl _ _) hk
    | place r =>
      obtain ⟨r', rfl, hr⟩ := hd1.place_inv
      have nilc : ∀ {z : Nat} {kk : TV → Prop}, appW sz zs [] z kk → appW sz zs [] sz kk := fun {z kk} hk => by
        obtain ⟨hc, hk⟩ := app hk
        unfold appW
        rw [show Nat.beq sz sz = true by simp]
        exact ⟨hc.1, _, rfl, hk⟩
      cases hr with
      | tmp s =>
        simp only at hk
        split at hk
        · rename_i z xs hs
          rcases (h2 s _ hs).sl_inv with ⟨ws, e4, hxy⟩ | ⟨e4, rfl⟩
          · obtain ⟨hc, hk⟩ := app hk
            rw [hxy.length, hzs.length] at hc
            have hl : look { st with σ := σ2 } (.tmp s) = .slice true z ws := e4
            exact fin3 (.slice true sz (ws ++ ys)) _ { st with σ := upd σ2 s .undef } (by simp only [evalOp, e1, e2, e3, Option.bind_some, hl]; rw [if_pos hc]) _ B M (.base (.sl true sz (hxy.append hzs))) (h.sig (h2.upd s (.undef' _))) (.refl _ _) hk
          · obtain ⟨v, e, hd, hk⟩ := app0 (nilc hk)
            have hl : look { st with σ := σ2 } (.tmp s) = .nils := e4
            refine fin3 v _ { st with σ := σ2 } (by simp only [evalOp, e1, e2, e3, Option.bind_some, hl]; exact e) _ B M hd (h.sig (fun s' t' ht' => ?_)) (.refl _ _) hk
            rw [fnd_cons] at ht'
            split at ht'
            · cases ht'; exact .undef' _
            · exact h2 s' t' ht'
        · rename_i hs
          obtain ⟨v, e, hd, hk⟩ := app0 hk
          have hl : look { st with σ := σ2 } (.tmp s) = .nils := (h2 s _ hs).nils_inv
          exact fin3 v _ { st with σ := σ2 } (by simp only [evalOp, e1, e2, e3, Option.bind_some, hl]; exact e) L2 B M hd (h.sig h2) (.refl _ _) hk
        · exact hk.elim
      | @mem i b o hi =>
        simp only at hk
        split at hk
        · rename_i cs hcs
          obtain ⟨cs', hcs', hc0⟩ := h.m.get hi hcs
          have hcd := getD_of (d := []) hcs'
          split at hk
          · rename_i z xs hs
            obtain ⟨w, hw, hd4⟩ := hc0.get hs
            have hl : look { st with σ := σ2 } (.mem b o) = w := by show (st.m.getD b []).getD o .undef = w; rw [hcd, getD_of hw]
            rcases hd4.sl_inv with ⟨ws, rfl, hxy⟩ | ⟨rfl, rfl⟩
            · obtain ⟨hc, hk⟩ := app hk
              rw [hxy.length, hzs.length] at hc
              exact fin3 (.slice true sz (ws ++ ys)) _ { st with σ := σ2, m := st.m.set b (cs'.set o .undef) } (by simp only [evalOp, e1, e2, e3, Option.bind_some, hl, hcd]; rw [if_pos hc]) L2 B _ (.base (.sl true sz (hxy.append hzs))) ⟨h2, h.b, h.m.set hi (hc0.set (.undef' _) o)⟩ (.set hi _) ((by have hk' := forceK_iff.1 hk; have hk2 := forceK_iff.1 hk'; exact hk2))
            · obtain ⟨v, e, hd, hk⟩ := app0 (nilc hk)
              refine fin3 v _ { st with σ := σ2 } (by simp only [evalOp, e1, e2, e3, Option.bind_some, hl]; exact e) L2 B _ hd ⟨h2, h.b, ?_⟩ (.refl _ _) ((by have hk' := forceK_iff.1 hk; have hk2 := forceK_iff.1 hk'; exact hk2))
              have hset : st.m = st.m.set b (cs'.set o .nils) := by
                have e5 : cs'.set o .nils = cs' := set_same hw
                rw [e5, set_same hcs']
              show Mg ρ _ st.m
              rw [hset]
              exact h.m.set hi (hc0.set (.undef' _) o)
          · rename_i hs
            obtain ⟨w, hw, hd4⟩ := hc0.get hs
            have hl : look { st with σ := σ2 } (.mem b o) = .nils := by show (st.m.getD b []).getD o .undef = .nils; rw [hcd, getD_of hw, hd4.nils_inv]
            obtain ⟨v, e, hd, hk⟩ := app0 hk
            exact fin3 v _ { st with σ := σ2 } (by simp only [evalOp, e1, e2, e3, Option.bind_some, hl]; exact e) L2 B M hd (h.sig h2) (.refl _ _) hk
          · exact hk.elim
        · exact hk.elim
      | loc j o =>
        simp only at hk
        split at hk
        · rename_i cs hcs
          have hc0 := h.b j cs hcs
          split at hk
          · rename_i z xs hs
            obtain ⟨w, hw, hd4⟩ := hc0.get hs
            have hl : look { st with σ := σ2 } (.loc j o) = w := by show (st.l j).getD o .undef = w; rw [getD_of hw]
            rcases hd4.sl_inv with ⟨ws, rfl, hxy⟩ | ⟨rfl, rfl⟩
            · obtain ⟨hc, hk⟩ := app hk
              rw [hxy.length, hzs.length] at hc
              exact fin3 (.slice true sz (ws ++ ys)) _ { st with σ := σ2, l := upd st.l j ((st.l j).set o .undef) } (by simp only [evalOp, e1, e2, e3, Option.bind_some, hl]; rw [if_pos hc]) L2 _ M (.base (.sl true sz (hxy.append hzs))) ⟨h2, h.b.upd j (hc0.set (.undef' _) o), h.m⟩ (.refl _ _) (by have hk' := forceK_iff.1 hk; exact hk')
            · obtain ⟨v, e, hd, hk⟩ := app0 (nilc hk)
              refine fin3 v _ { st with σ := σ2 } (by simp only [evalOp, e1, e2, e3, Option.bind_some, hl]; exact e) L2 _ M hd ⟨h2, fun j' t' ht' => ?_, h.m⟩ (.refl _ _) (by have hk' := forceK_iff.1 hk; exact hk')
              rw [fnd_cons] at ht'
              split at ht'
              · rename_i e6; subst e6; cases ht'
                have e5 : (st.l j').set o .nils = st.l j' := set_same hw
                show Pw (Den ρ) _ (st.l j')
                rw [← e5]; exact hc0.set (.undef' _) o
              · exact h.b j' t' ht'
          · rename_i hs
            obtain ⟨w, hw, hd4⟩ := hc0.get hs
            have hl : look { st with σ := σ2 } (.loc j o) = .nils := by show (st.l j).getD o .undef = .nils; rw [getD_of hw, hd4.nils_inv]
            obtain ⟨v, e, hd, hk⟩ := app0 hk
            exact fin3 v _ { st with σ := σ2 } (by simp only [evalOp, e1, e2, e3, Option.bind_some, hl]; exact e) L2 B M hd (h.sig h2) (.refl _ _) hk
          · exact hk.elim
        · exact hk.elim
    | _ => exact hk.elim
  | minMax mx x ys =>
    dsimp only [wpOp] at hk
    obtain ⟨a, t, e, hd, hk⟩ := rdC_sound h.a hk
    obtain ⟨vs, ts, e1, hd1, hk⟩ := rdCs_sound h.a hk
    obtain ⟨r, w, hm, hd2, hk⟩ := minMaxW_sound hd hd1 hk
    exact fin (by simp only [evalOp, e, e1, hm, Option.bind_some]) rfl hd2 hk
  | mkFunc f captured =>
    dsimp only [wpOp] at hk
    obtain ⟨vs, ts, e1, hd1, hk⟩ := rdCs_sound h.a hk
    obtain ⟨hc, hk⟩ := bifT hk
    exact fin (by simp only [evalOp, e1, Option.bind_some]; rw [if_pos (Pw.all (p := okCapT) (q := Am.okCap) (fun _ _ h ho => Den.okCap h ho) hd1 hc)]) rfl (.func f hd1) hk
end
end Go.Proofs.Ytgglgcehiolpcaa.Am.T

/-
Typed walks, part 5: regions, codes, loops, functions, calls.
-/
namespace Go.Proofs.Ytgglgcehiolpcaa.Am.T
open Go.Proofs.Ytgglgcehiolpcaa.Am
section
variable {ρ : List Nat} {cf : CF} {L : Ts} {B : Bs} {M : Ms} {st : St}
theorem putW_sound {σ : Nat → V} (h : Ag ρ L σ) {o : AOper} {t : TV} {v : V} (hd : Den ρ t v) {l : Nat → List V} {m : Am.Ms} {k : Ts → Prop} (hk : putW o t L k) : ∃ σ', putOp o (v, ⟨σ, l, m⟩) = some ⟨σ', l, m⟩ ∧ ∃ L', Ag ρ L' σ' ∧ k L' := by
  unfold putW at hk
  unfold putOp
  cases hdst : o.dst with
  | none =>
    simp only [hdst] at hk
    cases hkt : o.kt with
    | false =>
      rw [hkt] at hk
      exact ⟨σ, rfl, L, h, hk⟩
    | true =>
      rw [hkt] at hk
      simp only [cond_true] at hk
      obtain ⟨hs, hk⟩ := bifF hk
      have hu : t ≠ .undef := by rintro rfl; exact hk
      have hk2 : k L := by cases t <;> first | exact hk | exact absurd rfl hu
      exact ⟨σ, by simp [St.put, hd.selfPlace hu hs], L, h, hk2⟩
  | some d =>
    simp only [hdst] at hk
    cases hkt : o.kt with
    | false =>
      rw [hkt] at hk
      exact ⟨upd σ d v, by simp [St.put], _, h.upd d hd, hk⟩
    | true =>
      rw [hkt] at hk
      simp only [cond_true] at hk
      obtain ⟨hs, hk⟩ := bifF hk
      have hu : t ≠ .undef := by rintro rfl; exact hk
      have hk2 : mapK (killTV d) L fun L' => k ((d, t) :: L') := by cases t <;> first | exact hk | exact absurd rfl hu
      obtain ⟨L', h1, h2⟩ := mapK_sound h (fun _ _ h => Den.killTV d h) hk2
      exact ⟨upd (killT d σ) d v, by simp [St.put, hd.selfPlace hu hs], _, Ag.upd h1 d hd, h2⟩
theorem skipW_sound {σ : Nat → V} (h : Ag ρ L σ) {o : AOper} {l : Nat → List V} {m : Am.Ms} {k : Ts → Prop} (hk : skipW o L k) : ∃ σ', St.put ⟨σ, l, m⟩ o.kt o.dst (.tuple []) = ⟨σ', l, m⟩ ∧ ∃ L', Ag ρ L' σ' ∧ k L' := by
  unfold skipW at hk
  cases hdst : o.dst with
  | none => simp only [hdst] at hk; exact ⟨σ, rfl, L, h, hk⟩
  | some d =>
    simp only [hdst] at hk
    cases hkt : o.kt with
    | false => rw [hkt] at hk; exact ⟨_, rfl, _, h.upd d (.tuple .nil), hk⟩
    | true =>
      rw [hkt] at hk
      simp only [cond_true] at hk
      obtain ⟨L', h1, h2⟩ := mapK_sound h (fun _ _ h => Den.killTV d h) hk
      exact ⟨_, rfl, _, Ag.upd h1 d (.tuple .nil), h2⟩

/-- What operations come to. -/
structure WPO (d : Bool) (cf : CF) (os : List AOper) (L : Ts) (B : Bs) (M : Ms) (K : Ts → Bs → Ms → Prop) : Prop where
  go : ∀ ρ st, Rel ρ L B M st → ∃ st', (if d then runD cf os st else runOps cf os st) = some st' ∧ ∃ ρ' L' B' M', Rel ρ' L' B' M' st' ∧ Fr ρ st.m ρ' st'.m ∧ K L' B' M'

theorem wpOps_sound : ∀ {os : List AOper} {ρ : List Nat} {L : Ts} {B : Bs} {M : Ms} {st : St} {k : Ts → Bs → Ms → Prop} (_ : Rel ρ L B M st) (_ : wpOps cf os L B M k),
    ∃ st', runOps cf os st = some st' ∧ ∃ ρ' L' B' M', Rel ρ' L' B' M' st' ∧ Fr ρ st.m ρ' st'.m ∧ k L' B' M'
  | [], ρ, L, B, M, st, k, h, hk => ⟨st, rfl, ρ, L, B, M, h, .refl _ _, hk⟩
  | o :: os, ρ, L, B, M, st, k, h, hk => by
    have doit : (wpOp false cf o.op L B M fun v L1 B1 m1 => putW o v L1 fun L2 => wpOps cf os L2 B1 m1 k) → ∃ st1, (evalOp cf st o.op).bind (putOp o) = some st1 ∧ ∃ st', runOps cf os st1 = some st' ∧ ∃ ρ' L' B' M', Rel ρ' L' B' M' st' ∧ Fr ρ st.m ρ' st'.m ∧ k L' B' M' := fun hk => by
      obtain ⟨v, st1, e, _, ρ1, t, L1, B1, M1, hd, h1, hf1, hk⟩ := wpOp_sound h hk
      obtain ⟨σ', e2, L2, h2, hk⟩ := putW_sound (l := st1.l) (m := st1.m) h1.a hd hk
      obtain ⟨st', e3, ρ', L', B', M', h3, hf3, hk⟩ := wpOps_sound (st := ⟨σ', st1.l, st1.m⟩) ⟨h2, h1.b, h1.m⟩ hk
      exact ⟨_, by rw [e]; exact e2, st', e3, ρ', L', B', M', h3, hf1.trans hf3, hk⟩
    have skip : ∀ {b want : Bool} {g : Nat}, (skipW o L fun L2 => wpOps cf os L2 B M k) → ∃ st', runOps cf os (st.put o.kt o.dst (.tuple [])) = some st' ∧ ∃ ρ' L' B' M', Rel ρ' L' B' M' st' ∧ Fr ρ st.m ρ' st'.m ∧ k L' B' M' := fun {b want g} hk => by
      obtain ⟨σ', e2, L2, h2, hk⟩ := skipW_sound (l := st.l) (m := st.m) h.a hk
      obtain ⟨st', e3, r⟩ := wpOps_sound (st := ⟨σ', st.l, st.m⟩) ⟨h2, h.b, h.m⟩ hk
      exact ⟨st', by rw [e2]; exact e3, r⟩
    unfold wpOps at hk
    cases hg : o.guard with
    | none =>
      rw [hg] at hk
      obtain ⟨st1, e, st', e2, r⟩ := doit hk
      exact ⟨st', by simp only [runOps, stepOp, hg, e, Option.bind_some, e2], r⟩
    | some q =>
      obtain ⟨g, want⟩ := q
      rw [hg] at hk
      simp only at hk
      split at hk
      · rename_i b hf
        have hv := (h.a g _ hf).bool_inv
        by_cases hbw : b = want
        · subst hbw
          simp only [beq_self_eq_true, cond_true] at hk
          obtain ⟨st1, e, st', e2, r⟩ := doit hk
          exact ⟨st', by simp only [runOps, stepOp, hg, hv, if_true, e, Option.bind_some, e2], r⟩
        · have : (b == want) = false := by simpa using hbw
          rw [this] at hk
          simp only [cond_false] at hk
          obtain ⟨st', e3, r⟩ := skip (b := b) (want := want) (g := g) hk
          exact ⟨st', by simp only [runOps, stepOp, hg, hv]; rw [if_neg hbw]; exact e3, r⟩
      · rename_i hf
        obtain ⟨cs', hv, hcs⟩ := (h.a g _ hf).tuple_inv
        cases hcs
        obtain ⟨st', e3, r⟩ := skip (b := true) (want := want) (g := g) hk
        exact ⟨st', by simp only [runOps, stepOp, hg, hv]; exact e3, r⟩
      · exact hk.elim

theorem rootsW_sound (h : Ag ρ L st.σ) {lean : Bool} : ∀ {r : List Nat}, rootsW lean L r = true → (r.all fun s => rootOk lean (st.σ s)) = true
  | [], _ => rfl
  | s :: r, hr => by
    unfold rootsW at hr
    cases hf : fnd L s with
    | none => simp only [hf] at hr; cases hr
    | some v =>
      simp only [hf, Bool.and_eq_true] at hr
      rw [List.all_cons, Bool.and_eq_true]
      exact ⟨(h s v hf).rootOk hr.1, rootsW_sound h hr.2⟩
theorem notLoc_den {t : TV} {v : V} (h : Den ρ t v) (hn : notLocT t = true) : notLoc v = true := by
  cases h with
  | base h0 => cases h0 <;> first | rfl | cases hn
  | loc j o => cases hn
  | _ => rfl
theorem coolW_sound (h : Ag ρ L st.σ) : ∀ {r : List Nat}, coolW L r = true → (r.all fun s => notLoc (st.σ s)) = true
  | [], _ => rfl
  | s :: r, hr => by
    unfold coolW at hr
    cases hf : fnd L s with
    | none => simp only [hf] at hr; cases hr
    | some v =>
      simp only [hf, Bool.and_eq_true] at hr
      rw [List.all_cons, Bool.and_eq_true]
      exact ⟨notLoc_den (h s v hf) hr.1, coolW_sound h hr.2⟩
theorem resOk_den {o : AOper} {t : TV} {v : V} (h : Den ρ t v) (hr : resOkT o t = true) : resOk o v = true := by
  simp only [resOkT, Bool.and_eq_true] at hr
  obtain ⟨h1, h2⟩ := hr
  simp only [resOk, Bool.and_eq_true]
  refine ⟨h.rootOk h1, ?_⟩
  cases hm : o.mark with
  | none => rfl
  | quiet =>
    rw [hm] at h2
    simp only [Bool.and_eq_true] at h2
    simp only [Bool.and_eq_true]
    refine ⟨notLoc_den h h2.1, ?_⟩
    cases h with
    | base h0 => cases h0 <;> first | rfl | cases h2.1
    | place _ => exact absurd h2.2 (by simp)
    | el _ _ _ _ => exact absurd h2.2 (by simp)
    | _ => rfl
  | _ => rw [hm] at h2; exact notLoc_den h h2
theorem markW_sound (h : Ag ρ L st.σ) {o : AOper} {st' : St} {k : Prop} (hl : o.op.isCall = true → st'.l = st.l ∧ (isQuiet o.mark = true → st'.m = st.m)) (hk : markW o L k) : markOk o st st' = true ∧ k := by
  unfold markW at hk
  unfold markOk
  have ptr : ∀ mk, (match o.op.ptr? with
      | none => k
      | some p => rdC L p fun v => match v with
        | .loc i _ => bif mk == Mark.loc i then k else False
        | .ptr _ _ => bif mk == Mark.mem then k else False
        | .ro _ _ => bif mk == Mark.free then k else False
        | _ => False) → (match o.op.ptr? with
      | none => true
      | some p => match getC st p with
        | some (.loc i _) => mk == .loc i
        | some (.ptr _ _) => mk == .mem
        | some (.ro _ _) => mk == .free
        | _ => false) = true ∧ k := fun mk hk => by
    cases hp : o.op.ptr? with
    | none => rw [hp] at hk; exact ⟨rfl, hk⟩
    | some p =>
      rw [hp] at hk
      obtain ⟨v, t, e, hd, hk⟩ := rdC_sound h hk
      simp only [e]
      cases t with
      | loc i o => rw [hd.loc_inv]; exact bifT hk
      | ptr i o => obtain ⟨b, rfl, _⟩ := hd.ptr_inv; exact bifT hk
      | ro i o => obtain ⟨b, rfl, _⟩ := hd.ro_inv; exact bifT hk
      | _ => exact hk.elim
  cases hm : o.mark with
  | none => rw [hm] at hk; exact ⟨rfl, hk⟩
  | cool =>
    rw [hm] at hk
    simp only at hk ⊢
    cases hp : o.op.ptr? with
    | some p => rw [hp] at hk; exact hk.elim
    | none =>
      rw [hp] at hk
      obtain ⟨h1, h2⟩ := bifT hk
      exact ⟨coolW_sound h h1, h2⟩
  | quiet =>
    rw [hm] at hk
    obtain ⟨hc, hk⟩ := bifT hk
    obtain ⟨h1, h2⟩ := hl hc
    have hp : st'.m = st.m ∧ st'.l = st.l := ⟨h2 (by rw [hm]; rfl), h1⟩
    exact ⟨by simp only [hp, and_self, decide_true], hk⟩
  | loc j => rw [hm] at hk; exact ptr _ hk
  | mem => rw [hm] at hk; exact ptr _ hk
  | free => rw [hm] at hk; exact ptr _ hk
theorem store_lean {o : AOper} (h : isStore o.op = true) : o.lean = false := by
  cases ho : o.op <;> rw [ho] at h <;> first | (cases h; done) | skip
  unfold AOper.lean
  rw [ho]
  simp [AOp.pure, AOp.still, AOp.builds]
theorem store_val {o : AOper} (h : isStore o.op = true) {v : V} {st st' : St} (he : evalOp cf st o.op = some (v, st')) : v = .undef := by
  cases ho : o.op <;> rw [ho] at h he <;> first | (cases h; done) | skip
  simp only [evalOp, Option.bind_eq_some_iff] at he
  obtain ⟨_, _, _, _, he⟩ := he
  split at he
  · simp only [Option.bind_eq_some_iff, Option.some.injEq, Prod.mk.injEq] at he
    obtain ⟨_, _, he, _⟩ := he
    exact he.symm
  · cases he
theorem doD_sound (h : Rel ρ L B M st) {o : AOper} {k : Ts → Bs → Ms → Prop} (hk : doD cf o L B M k) : ∃ st', stepU cf o st = some st' ∧ ∃ ρ' L' B' M', Rel ρ' L' B' M' st' ∧ Fr ρ st.m ρ' st'.m ∧ k L' B' M' := by
  obtain ⟨hr, hk⟩ := bifT hk
  obtain ⟨v, st1, e, hl, ρ1, t, L1, B1, M1, hd, h1, hf1, hk⟩ := wpOp_sound h hk
  obtain ⟨hro, hk⟩ := bifT hk
  obtain ⟨hm, hk⟩ := markW_sound h.a hl hk
  obtain ⟨σ', e2, L2, h2, hk⟩ := putW_sound (l := st1.l) (m := st1.m) h1.a hd hk
  refine ⟨⟨σ', st1.l, st1.m⟩, ?_, ρ1, L2, B1, M1, ⟨h2, h1.b, h1.m⟩, hf1, hk⟩
  have hro2 : resOk o v = true := by
    rw [Bool.or_eq_true] at hro
    rcases hro with hro | hro
    · have h1 := store_lean hro
      rw [store_val hro e]
      unfold resOk
      rw [h1]
      cases o.mark <;> rfl
    · exact resOk_den hd hro
  unfold stepU
  rw [if_pos (rootsW_sound h.a hr), e]
  simp only [Option.bind_some, putD, hro2, hm, Bool.and_self, if_true]
  exact e2
theorem wpD_sound : ∀ {os : List AOper} {ρ : List Nat} {L : Ts} {B : Bs} {M : Ms} {st : St} {k : Ts → Bs → Ms → Prop} (_ : Rel ρ L B M st) (_ : wpD cf os L B M k),
    ∃ st', runD cf os st = some st' ∧ ∃ ρ' L' B' M', Rel ρ' L' B' M' st' ∧ Fr ρ st.m ρ' st'.m ∧ k L' B' M'
  | [], ρ, L, B, M, st, k, h, hk => ⟨st, rfl, ρ, L, B, M, h, .refl _ _, hk⟩
  | o :: os, ρ, L, B, M, st, k, h, hk => by
    have doit : (doD cf o L B M fun L2 B1 m1 => wpD cf os L2 B1 m1 k) → ∃ st1, stepU cf o st = some st1 ∧ ∃ st', runD cf os st1 = some st' ∧ ∃ ρ' L' B' M', Rel ρ' L' B' M' st' ∧ Fr ρ st.m ρ' st'.m ∧ k L' B' M' := fun hk => by
      obtain ⟨st1, e, ρ1, L1, B1, M1, h1, hf1, hk⟩ := doD_sound h hk
      obtain ⟨st', e3, ρ', L', B', M', h3, hf3, hk⟩ := wpD_sound h1 hk
      exact ⟨_, e, st', e3, ρ', L', B', M', h3, hf1.trans hf3, hk⟩
    have skip : ∀ {b want : Bool} {g : Nat}, (skipW o L fun L2 => wpD cf os L2 B M k) → ∃ st', runD cf os (st.put o.kt o.dst (.tuple [])) = some st' ∧ ∃ ρ' L' B' M', Rel ρ' L' B' M' st' ∧ Fr ρ st.m ρ' st'.m ∧ k L' B' M' := fun {b want g} hk => by
      obtain ⟨σ', e2, L2, h2, hk⟩ := skipW_sound (l := st.l) (m := st.m) h.a hk
      obtain ⟨st', e3, r⟩ := wpD_sound (st := ⟨σ', st.l, st.m⟩) ⟨h2, h.b, h.m⟩ hk
      exact ⟨st', by rw [e2]; exact e3, r⟩
    unfold wpD at hk
    cases hg : o.guard with
    | none =>
      rw [hg] at hk
      obtain ⟨st1, e, st', e2, r⟩ := doit hk
      exact ⟨st', by simp only [runD, stepD, hg, e, Option.bind_some, e2], r⟩
    | some q =>
      obtain ⟨g, want⟩ := q
      rw [hg] at hk
      simp only at hk
      split at hk
      · rename_i b hf
        have hv := (h.a g _ hf).bool_inv
        by_cases hbw : b = want
        · subst hbw
          simp only [beq_self_eq_true, cond_true] at hk
          obtain ⟨st1, e, st', e2, r⟩ := doit hk
          exact ⟨st', by simp only [runD, stepD, hg, hv, if_true, e, Option.bind_some, e2], r⟩
        · have : (b == want) = false := by simpa using hbw
          rw [this] at hk
          simp only [cond_false] at hk
          obtain ⟨st', e3, r⟩ := skip (b := b) (want := want) (g := g) hk
          exact ⟨st', by simp only [runD, stepD, hg, hv]; rw [if_neg hbw]; exact e3, r⟩
      · rename_i hf
        obtain ⟨cs', hv, hcs⟩ := (h.a g _ hf).tuple_inv
        cases hcs
        obtain ⟨st', e3, r⟩ := skip (b := true) (want := want) (g := g) hk
        exact ⟨st', by simp only [runD, stepD, hg, hv]; exact e3, r⟩
      · exact hk.elim
theorem WPO_f {os : List AOper} {K : Ts → Bs → Ms → Prop} (h : wpOps cf os L B M K) : WPO false cf os L B M K := ⟨fun _ _ hr => wpOps_sound hr h⟩
theorem WPO_t {os : List AOper} {K : Ts → Bs → Ms → Prop} (h : wpD cf os L B M K) : WPO true cf os L B M K := ⟨fun _ _ hr => wpD_sound hr h⟩

theorem prune_sound {σ : Nat → V} (h : Ag ρ L σ) : ∀ {r : List Nat} {k : Ts → Prop}, pruneK L r k → ∃ L', Ag ρ L' σ ∧ (∀ s v, fnd L' s = some v → s ∈ r) ∧ k L'
  | [], k, hk => ⟨[], fun s v hv => (nomatch hv), fun s v hv => (nomatch hv), hk⟩
  | s :: r, k, hk => by
    unfold pruneK at hk
    cases hs : fnd L s with
    | none =>
      rw [hs] at hk
      obtain ⟨L', h1, h2, h3⟩ := prune_sound h hk
      exact ⟨L', h1, fun t v hv => .tail _ (h2 t v hv), h3⟩
    | some v =>
      rw [hs] at hk
      obtain ⟨L', h1, h2, h3⟩ := prune_sound h (k := fun r' => k ((s, v) :: r')) hk
      refine ⟨_, fun t x hx => ?_, fun t x hx => ?_, h3⟩
      · rw [fnd_cons] at hx
        split at hx
        · rename_i e; subst e; cases hx; exact h _ _ hs
        · exact h1 t x hx
      · rw [fnd_cons] at hx
        split at hx
        · rename_i e; subst e; exact .head _
        · exact .tail _ (h2 t x hx)
theorem pruneB_sound {l : Nat → List V} (h : AgB ρ B l) : ∀ {r : List Nat} {k : Bs → Prop}, pruneK B r k → ∃ B', AgB ρ B' l ∧ k B'
  | [], k, hk => ⟨[], fun s v hv => (nomatch hv), hk⟩
  | s :: r, k, hk => by
    unfold pruneK at hk
    cases hs : fnd B s with
    | none => rw [hs] at hk; exact pruneB_sound h hk
    | some v =>
      rw [hs] at hk
      obtain ⟨L', h1, h3⟩ := pruneB_sound h (k := fun r' => k ((s, v) :: r')) hk
      refine ⟨_, fun t x hx => ?_, h3⟩
      rw [fnd_cons] at hx
      split at hx
      · rename_i e; subst e; cases hx; exact h _ _ hs
      · exact h1 t x hx

theorem runOps_append : ∀ {a b : List AOper} {st : St}, runOps cf (a ++ b) st = (runOps cf a st).bind (runOps cf b)
  | [], b, st => rfl
  | o :: a, b, st => by
    show (stepOp cf o st).bind (runOps cf (a ++ b)) = ((stepOp cf o st).bind (runOps cf a)).bind (runOps cf b)
    rw [Option.bind_assoc]
    congr 1
    funext st1
    exact runOps_append
theorem runD_append : ∀ {a b : List AOper} {st : St}, runD cf (a ++ b) st = (runD cf a st).bind (runD cf b)
  | [], b, st => rfl
  | o :: a, b, st => by
    show (stepD cf o st).bind (runD cf (a ++ b)) = ((stepD cf o st).bind (runD cf a)).bind (runD cf b)
    rw [Option.bind_assoc]
    congr 1
    funext st1
    exact runD_append
/-- Operations in two parts, what is known between them told anew. -/
theorem WPO_cut {d : Bool} {os : List AOper} {K : Ts → Bs → Ms → Prop} (n : Nat) (lv lb : List Nat) (L2 : Ts) (B2 : Bs) (M2 : Ms)
    (h : WPO d cf (os.take n) L B M fun L1 B1 M1 => pruneK L1 lv fun L' => pruneK B1 lb fun B' => L' = L2 ∧ B' = B2 ∧ M1 = M2)
    (g : WPO d cf (os.drop n) L2 B2 M2 K) : WPO d cf os L B M K := by
  refine ⟨fun ρ st hr => ?_⟩
  obtain ⟨st1, e1, ρ1, L1, B1, M1, h1, hf1, hk⟩ := h.go ρ st hr
  obtain ⟨L', h2, _, hk⟩ := prune_sound h1.a hk
  obtain ⟨B', h3, rfl, rfl, rfl⟩ := pruneB_sound h1.b hk
  obtain ⟨st2, e2, ρ2, L3, B3, M3, h4, hf2, hk⟩ := g.go ρ1 st1 ⟨h2, h3, h1.m⟩
  refine ⟨st2, ?_, ρ2, L3, B3, M3, h4, hf1.trans hf2, hk⟩
  rw [← List.take_append_drop n os]
  cases d with
  | false => simp only [Bool.false_eq_true, if_false] at e1 e2 ⊢; rw [runOps_append, e1]; exact e2
  | true => simp only [if_true] at e1 e2 ⊢; rw [runD_append, e1]; exact e2
def pruneF {α : Type} (L : List (Nat × α)) : List Nat → List (Nat × α)
  | [] => []
  | s :: r => match fnd L s with
    | some v => (s, v) :: pruneF L r
    | none => pruneF L r
theorem pruneF_iff {α : Type} {L : List (Nat × α)} : ∀ {r : List Nat} {k : List (Nat × α) → Prop}, pruneK L r k ↔ k (pruneF L r)
  | [], k => Iff.rfl
  | s :: r, k => by
    unfold pruneK pruneF
    cases fnd L s with
    | none => exact pruneF_iff
    | some v => exact pruneF_iff (k := fun r' => k ((s, v) :: r'))
/-- A group of guarded operations that comes to a bool. -/
theorem WPO_grp {d : Bool} {os : List AOper} {K : Ts → Bs → Ms → Prop} (n s : Nat) (lv : List Nat) (y : Bool)
    (h : WPO d cf (os.take n) L B M fun L1 B1 M1 => pruneK L1 lv fun L' => L' = pruneF ((s, .bool y) :: L) lv ∧ B1 = B ∧ M1 = M)
    (g : pruneK ((s, .bool y) :: L) lv fun L2 => WPO d cf (os.drop n) L2 B M K) : WPO d cf os L B M K := by
  refine ⟨fun ρ st hr => ?_⟩
  obtain ⟨st1, e1, ρ1, L1, B1, M1, h1, hf1, hk⟩ := h.go ρ st hr
  obtain ⟨L', h2, _, rfl, rfl, rfl⟩ := prune_sound h1.a hk
  obtain ⟨st2, e2, ρ2, L3, B3, M3, h4, hf2, hk⟩ := (pruneF_iff.1 g).go ρ1 st1 ⟨h2, h1.b, h1.m⟩
  refine ⟨st2, ?_, ρ2, L3, B3, M3, h4, hf1.trans hf2, hk⟩
  rw [← List.take_append_drop n os]
  cases d with
  | false => simp only [Bool.false_eq_true, if_false] at e1 e2 ⊢; rw [runOps_append, e1]; exact e2
  | true => simp only [if_true] at e1 e2 ⊢; rw [runD_append, e1]; exact e2

variable {Q : Ex → Ts → Bs → Ms → Prop}
theorem WP_reg {d : Bool} {os : List AOper} (lv lb : List Nat) (h : WPO d cf os L B M fun L1 B1 M1 => pruneK L1 lv fun L2 => pruneK B1 lb fun B2 => Q .normal L2 B2 M1) : WP cf (.region d os) L B M Q := by
  refine ⟨fun ρ st hr => ?_⟩
  obtain ⟨st1, e1, ρ1, L1, B1, M1, h1, hf1, hk⟩ := h.go ρ st hr
  obtain ⟨L', h2, _, hk⟩ := prune_sound h1.a hk
  obtain ⟨B', h3, hk⟩ := pruneB_sound h1.b hk
  refine ⟨.normal, st1, ?_, ρ1, L', B', M1, ⟨h2, h3, h1.m⟩, hf1, hk⟩
  cases d with
  | false => simp only [Bool.false_eq_true, if_false] at e1; simp only [exec, e1, Option.bind_some]
  | true => simp only [if_true] at e1; simp only [exec, e1, Option.bind_some]
theorem WP_skip (h : Q .normal L B M) : WP cf .skip L B M Q := ⟨fun ρ st hr => ⟨_, st, rfl, ρ, L, B, M, hr, .refl _ _, h⟩⟩
theorem WP_ret (h : Q .ret L B M) : WP cf .ret L B M Q := ⟨fun ρ st hr => ⟨_, st, rfl, ρ, L, B, M, hr, .refl _ _, h⟩⟩
theorem WP_exit {i : Nat} (h : Q (.exit i) L B M) : WP cf (.exit i) L B M Q := ⟨fun ρ st hr => ⟨_, st, rfl, ρ, L, B, M, hr, .refl _ _, h⟩⟩
theorem WP_seq {a b : ACode} (h : WP cf a L B M fun e L1 B1 M1 => match e with
    | .normal => WP cf b L1 B1 M1 Q
    | .exit i => Q (.exit i) L1 B1 M1
    | .ret => Q .ret L1 B1 M1) : WP cf (.seq a b) L B M Q := by
  refine ⟨fun ρ st hr => ?_⟩
  obtain ⟨e, st1, h1, ρ1, L1, B1, M1, h2, hf, hk⟩ := h.go ρ st hr
  cases e with
  | normal =>
    obtain ⟨e, st2, h4, ρ2, L2, B2, M2, h5, hf2, hk⟩ := hk.go ρ1 st1 h2
    exact ⟨e, st2, by simp only [exec, h1, Option.bind_some, h4], ρ2, L2, B2, M2, h5, hf.trans hf2, hk⟩
  | exit i => exact ⟨_, st1, by simp only [exec, h1, Option.bind_some], ρ1, L1, B1, M1, h2, hf, hk⟩
  | ret => exact ⟨_, st1, by simp only [exec, h1, Option.bind_some], ρ1, L1, B1, M1, h2, hf, hk⟩
theorem WP_cond {s : Nat} {t e : ACode} {b : Bool} (hs : fnd L s = some (.bool b)) (ht : b = true → WP cf t L B M Q) (he : b = false → WP cf e L B M Q) : WP cf (.cond (.t s) t e) L B M Q := by
  refine ⟨fun ρ st hr => ?_⟩
  have hv := (hr.a s _ hs).bool_inv
  cases b with
  | true =>
    obtain ⟨e1, st1, h1, r⟩ := (ht rfl).go ρ st hr
    exact ⟨e1, st1, by simp only [exec, getC, hv, V.hasOwn, V.own1, V.own0]; exact h1, r⟩
  | false =>
    obtain ⟨e1, st1, h1, r⟩ := (he rfl).go ρ st hr
    exact ⟨e1, st1, by simp only [exec, getC, hv, V.hasOwn, V.own1, V.own0]; exact h1, r⟩
theorem WP_condC {t e : ACode} {b : Bool} (ht : b = true → WP cf t L B M Q) (he : b = false → WP cf e L B M Q) : WP cf (.cond (.c (.bool b)) t e) L B M Q := by
  refine ⟨fun ρ st hr => ?_⟩
  cases b with
  | true =>
    obtain ⟨e1, st1, h1, r⟩ := (ht rfl).go ρ st hr
    exact ⟨e1, st1, by simp only [exec, getC, Option.bind_some]; exact h1, r⟩
  | false =>
    obtain ⟨e1, st1, h1, r⟩ := (he rfl).go ρ st hr
    exact ⟨e1, st1, by simp only [exec, getC, Option.bind_some]; exact h1, r⟩
theorem WP_block {i : Nat} {b : ACode} (h : WP cf b L B M fun e L1 B1 M1 => match e with
    | .normal => Q .normal L1 B1 M1
    | .exit j => bif Nat.beq j i then Q .normal L1 B1 M1 else Q (.exit j) L1 B1 M1
    | .ret => Q .ret L1 B1 M1) : WP cf (.block i b) L B M Q := by
  refine ⟨fun ρ st hr => ?_⟩
  obtain ⟨e, st1, h1, ρ1, L1, B1, M1, h2, hf, hk⟩ := h.go ρ st hr
  cases e with
  | normal => exact ⟨.normal, st1, by simp only [exec, h1, Option.bind_some], ρ1, L1, B1, M1, h2, hf, hk⟩
  | exit j =>
    simp only at hk
    by_cases hj : j = i
    · subst hj
      have : Nat.beq j j = true := by simp
      rw [this] at hk
      exact ⟨.normal, st1, by simp only [exec, h1, Option.bind_some, if_true], ρ1, L1, B1, M1, h2, hf, hk⟩
    · have : Nat.beq j i = false := by
        cases hb : Nat.beq j i with
        | false => rfl
        | true => exact absurd (Nat.eq_of_beq_eq_true hb) hj
      rw [this] at hk
      exact ⟨.exit j, st1, by simp only [exec, h1, Option.bind_some]; rw [if_neg hj], ρ1, L1, B1, M1, h2, hf, hk⟩
  | ret => exact ⟨.ret, st1, by simp only [exec, h1, Option.bind_some], ρ1, L1, B1, M1, h2, hf, hk⟩
/-- A code whose roads come together: what is known there told anew. -/
theorem WP_cut {R : Type} {c : ACode} (r : R) (X : R → Ex × Ts × Bs × Ms) (lv lb : Ex → List Nat)
    (h : WP cf c L B M fun e L1 B1 M1 => pruneK L1 (lv e) fun L2 => pruneK B1 (lb e) fun B2 => X r = (e, L2, B2, M1)) (g : Q (X r).1 (X r).2.1 (X r).2.2.1 (X r).2.2.2) : WP cf c L B M Q := by
  refine ⟨fun ρ st hr => ?_⟩
  obtain ⟨e, st1, h1, ρ1, L1, B1, M1, h2, hf, hk⟩ := h.go ρ st hr
  obtain ⟨L', h3, _, hk⟩ := prune_sound h2.a hk
  obtain ⟨B', h4, hk⟩ := pruneB_sound h2.b hk
  rw [hk] at g
  exact ⟨e, st1, h1, ρ1, L', B', M1, ⟨h3, h4, h2.m⟩, hf, g⟩
end

section
variable {S R : Type}
/-- So many rounds at most. -/
def iterN (step : S → Option (S ⊕ R)) : Nat → S → Option R
  | 0, _ => none
  | n + 1, s => match step s with
    | none => none
    | some (.inl s') => iterN step n s'
    | some (.inr r) => some r
open Classical in
/-- Rounds until there is an end. -/
noncomputable def iter (step : S → Option (S ⊕ R)) (s : S) : Option R :=
  if h : ∃ n r, iterN step n s = some r then some h.choose_spec.choose else none
theorem iterN_mono {step : S → Option (S ⊕ R)} : ∀ {n : Nat} {s : S} {r : R}, iterN step n s = some r → iterN step (n + 1) s = some r
  | 0, _, _, h => by cases h
  | n + 1, s, r, h => by
    simp only [iterN] at h
    rw [iterN]
    cases hs : step s with
    | none => rw [hs] at h; cases h
    | some x =>
      rw [hs] at h
      cases x with
      | inl s' => exact iterN_mono h
      | inr r => exact h
theorem iterN_le {step : S → Option (S ⊕ R)} {n m : Nat} (hm : n ≤ m) {s : S} {r : R} (h : iterN step n s = some r) : iterN step m s = some r := by
  induction m with
  | zero => have : n = 0 := by omega
            subst this; exact h
  | succ m ih =>
    by_cases e : n = m + 1
    · subst e; exact h
    · exact iterN_mono (ih (by omega))
theorem iter_iff {step : S → Option (S ⊕ R)} {s : S} {r : R} : iter step s = some r ↔ ∃ n, iterN step n s = some r := by
  unfold iter
  constructor
  · intro h
    split at h
    · rename_i hx
      have := hx.choose_spec.choose_spec
      simp only [Option.some.injEq] at h
      rw [← h]
      exact ⟨_, this⟩
    · cases h
  · rintro ⟨n, h⟩
    have hx : ∃ n r, iterN step n s = some r := ⟨n, r, h⟩
    rw [dif_pos hx]
    have h1 := hx.choose_spec.choose_spec
    have h2 := iterN_le (Nat.le_max_left hx.choose n) h1
    have h3 := iterN_le (Nat.le_max_right hx.choose n) h
    rw [h2] at h3
    exact h3
theorem iter_inl {step : S → Option (S ⊕ R)} {s s' : S} (h : step s = some (.inl s')) : iter step s = iter step s' := by
  apply Option.ext
  intro r
  rw [iter_iff, iter_iff]
  constructor
  · rintro ⟨n, hn⟩
    cases n with
    | zero => cases hn
    | succ n => simp only [iterN, h] at hn; exact ⟨n, hn⟩
  · rintro ⟨n, hn⟩
    exact ⟨n + 1, by simp only [iterN, h]; exact hn⟩
theorem iter_inr {step : S → Option (S ⊕ R)} {s : S} {r : R} (h : step s = some (.inr r)) : iter step s = some r :=
  iter_iff.2 ⟨1, by simp only [iterN, h]⟩
theorem iter_none {step : S → Option (S ⊕ R)} {s : S} (h : step s = none) : iter step s = none := by
  cases hi : iter step s with
  | none => rfl
  | some r =>
    obtain ⟨n, hn⟩ := iter_iff.1 hi
    cases n with
    | zero => cases hn
    | succ n => simp only [iterN, h] at hn; cases hn
theorem iter_eq (step : S → Option (S ⊕ R)) (s : S) : iter step s = match step s with
    | none => none
    | some (.inl s') => iter step s'
    | some (.inr r) => some r := by
  cases h : step s with
  | none => exact iter_none h
  | some x => cases x with
    | inl s' => exact iter_inl h
    | inr r => exact iter_inr h

/-- A loop and its rounds. -/
theorem WP_iter {cf : CF} {L : Ts} {B : Bs} {M : Ms} {Q : Ex → Ts → Bs → Ms → Prop} {live : List Nat} {b : ACode} {step : S → Option (S ⊕ R)} {s0 : S} {r0 : R} (h : iter step s0 = some r0)
    (lb : List Nat) (I : S → Ts × Bs × Ms) (lv lb2 : Ex → List Nat) (X : R → Ex × Ts × Bs × Ms)
    (h0 : pruneK L live fun L0 => pruneK B lb fun B0 => I s0 = (L0, B0, M))
    (hs : ∀ s x, step s = some x → WP cf b (I s).1 (I s).2.1 (I s).2.2 fun e L1 B1 M1 => match e with
      | .normal => pruneK L1 live fun L2 => pruneK B1 lb fun B2 => ∃ s', x = .inl s' ∧ I s' = (L2, B2, M1)
      | .exit i => pruneK L1 (lv (.exit i)) fun L2 => pruneK B1 (lb2 (.exit i)) fun B2 => ∃ r, x = .inr r ∧ X r = (.exit i, L2, B2, M1)
      | .ret => pruneK L1 (lv .ret) fun L2 => pruneK B1 (lb2 .ret) fun B2 => ∃ r, x = .inr r ∧ X r = (.ret, L2, B2, M1))
    (g : Q (X r0).1 (X r0).2.1 (X r0).2.2.1 (X r0).2.2.2) : WP cf (.loop live b) L B M Q := by
  have key : ∀ n s r, iterN step n s = some r → ∀ ρ st, (∀ t v, fnd (I s).1 t = some v → t ∈ live) → Rel ρ (I s).1 (I s).2.1 (I s).2.2 st →
      ∃ e st', exec cf (.loop live b) st = some (e, st') ∧ ∃ ρ' L' B' M', Rel ρ' L' B' M' st' ∧ Fr ρ st.m ρ' st'.m ∧ X r = (e, L', B', M') := by
    intro n
    induction n with
    | zero => intro s r hn; cases hn
    | succ n ih =>
      intro s r hn ρ st hlive hR
      have hL' : Ag ρ (I s).1 (keep live st.σ) := fun t v hv => by
        unfold keep
        rw [if_pos (hlive t v hv)]; exact hR.a t v hv
      simp only [iterN] at hn
      cases hst : step s with
      | none => rw [hst] at hn; cases hn
      | some x =>
        rw [hst] at hn
        obtain ⟨e, st1, h1, ρ1, L1, B1, M1, h2, hf, hk⟩ := (hs s x hst).go ρ { st with σ := keep live st.σ } ⟨hL', hR.b, hR.m⟩
        have hstep := loopRes_step (round := fun st => exec cf b { st with σ := keep live st.σ }) (st := st)
        cases e with
        | normal =>
          obtain ⟨L2, h4, h5, hk⟩ := prune_sound h2.a hk
          obtain ⟨B2, h7, s', rfl, hI⟩ := pruneB_sound h2.b hk
          simp only at hn
          obtain ⟨e, st2, h6, ρ2, L3, B3, M3, h8, hf2, hX⟩ := ih s' r hn ρ1 st1 (by rw [hI]; exact h5) (by rw [hI]; exact ⟨h4, h7, h2.m⟩)
          refine ⟨e, st2, ?_, ρ2, L3, B3, M3, h8, hf.trans hf2, hX⟩
          simp only [exec] at h6 ⊢
          rw [hstep, h1]
          exact h6
        | exit i =>
          obtain ⟨L2, h4, h5, hk⟩ := prune_sound h2.a hk
          obtain ⟨B2, h7, r', rfl, hI⟩ := pruneB_sound h2.b hk
          simp only [Option.some.injEq] at hn
          subst hn
          refine ⟨.exit i, st1, ?_, ρ1, L2, B2, M1, ⟨h4, h7, h2.m⟩, hf, hI⟩
          simp only [exec]
          rw [hstep, h1]; rfl
        | ret =>
          obtain ⟨L2, h4, h5, hk⟩ := prune_sound h2.a hk
          obtain ⟨B2, h7, r', rfl, hI⟩ := pruneB_sound h2.b hk
          simp only [Option.some.injEq] at hn
          subst hn
          refine ⟨.ret, st1, ?_, ρ1, L2, B2, M1, ⟨h4, h7, h2.m⟩, hf, hI⟩
          simp only [exec]
          rw [hstep, h1]; rfl
  refine ⟨fun ρ st hR => ?_⟩
  obtain ⟨n, hn⟩ := iter_iff.1 h
  obtain ⟨L0, h1, h2, hk⟩ := prune_sound hR.a h0
  obtain ⟨B0, h3, hI⟩ := pruneB_sound hR.b hk
  obtain ⟨e, st', h4, ρ', L', B', M', h5, hf, hX⟩ := key n s0 r0 hn ρ st (by rw [hI]; exact h2) (by rw [hI]; exact ⟨h1, h3, hR.m⟩)
  rw [hX] at g
  exact ⟨e, st', h4, ρ', L', B', M', h5, hf, g⟩
end

def resW : List ARes → Ts → Bs → Ms → (List TV → Ms → Prop) → Prop
  | [], _, _, m, k => k [] m
  | .tmp s :: r, L, B, m, k => match fnd L s with
    | some v => resW r ((s, .undef) :: L) B m fun vs m' => k (v :: vs) m'
    | none => False
  | .cell s agg n :: r, L, B, m, k => match fnd L s with
    | some a => loadW agg n .take L B m a fun v B' m' => resW r L B' m' fun vs m'' => k (v :: vs) m''
    | none => False
def tupledT : List TV → TV
  | [v] => v
  | vs => .tuple vs
def argsT : Nat → List TV → Ts
  | _, [] => []
  | i, v :: r => (i, v) :: argsT (i + 1) r
def TV.flat0 : TV → Bool
  | .bool _ | .int _ _ | .str _ | .nilp | .nils | .sl _ _ _ | .nilf | .nili | .undef => true
  | .func _ cs => cs.isEmpty
  | _ => false
def TV.flat1 : TV → Bool
  | .agg cs => cs.all TV.flat0
  | v => v.flat0
def flatM (M : Ms) : Bool := M.all fun cs => cs.all TV.flat0

section
variable {ρ : List Nat} {cf : CF} {L : Ts} {B : Bs} {M : Ms} {st : St}
theorem resW_sound : ∀ {rs : List ARes} {ρ : List Nat} {L : Ts} {B : Bs} {M : Ms} {st : St} {k : List TV → Ms → Prop} (_ : Rel ρ L B M st) (_ : resW rs L B M k), ∃ vs st', getRes st rs = some (vs, st') ∧ ∃ ts M', Pw (Den ρ) ts vs ∧ Mg ρ M' st'.m ∧ Fr ρ st.m ρ st'.m ∧ k ts M'
  | [], ρ, L, B, M, st, k, h, hk => ⟨[], st, rfl, [], M, .nil, h.m, .refl _ _, hk⟩
  | .tmp s :: r, ρ, L, B, M, st, k, h, hk => by
    unfold resW at hk
    cases hs : fnd L s with
    | none => simp only [hs] at hk
    | some v =>
      simp only [hs] at hk
      obtain ⟨vs, st', e, ts, M', h1, h2, hf, hk⟩ := resW_sound (st := { st with σ := upd st.σ s .undef }) (h.sig (h.a.upd s (.undef' _))) hk
      exact ⟨st.σ s :: vs, st', by simp only [getRes, e, Option.bind_some], v :: ts, M', .cons (h.a s v hs) h1, h2, hf, hk⟩
  | .cell s agg n :: r, ρ, L, B, M, st, k, h, hk => by
    unfold resW at hk
    cases hs : fnd L s with
    | none => simp only [hs] at hk
    | some a =>
      simp only [hs] at hk
      obtain ⟨v, st1, e, t, B1, M1, hd, h1, hf1, hk⟩ := loadW_sound h (h.a s a hs) hk
      obtain ⟨vs, st', e3, ts, M', h2, h3, hf2, hk⟩ := resW_sound h1 hk
      exact ⟨v :: vs, st', by simp only [getRes, e, Option.bind_some, e3], t :: ts, M', .cons hd h2, h3, hf1.trans hf2, hk⟩
theorem argsT_den : ∀ {args : List TV} {args' : List V} (_ : Pw (Den ρ) args args') {i s : Nat} {t : TV}, fnd (argsT i args) s = some t → i ≤ s ∧ Den ρ t (args'.getD (s - i) .undef)
  | [], _, _, i, s, v, h => by cases h
  | x :: args, y :: args', .cons h1 h2, i, s, v, h => by
    unfold argsT at h
    rw [fnd_cons] at h
    split at h
    · rename_i e; subst e; cases h; simpa using h1
    · obtain ⟨h3, h4⟩ := argsT_den h2 h
      refine ⟨by omega, ?_⟩
      rw [show s - i = (s - (i + 1)) + 1 from by omega]
      simpa using h4
theorem Den.flat0 {t : TV} {v : V} (h : Den ρ t v) (hf : t.flat0 = true) : Den0 t v := by
  cases h with
  | base h => exact h
  | func f h =>
    cases h with
    | nil => exact .func f
    | cons _ _ => cases hf
  | _ => cases hf
theorem Den.low0' {t : TV} {v : V} (h : Den ρ t v) (hf : t.low0 = true) : Den0 t v := by
  cases h with
  | base h => exact h
  | func f h =>
    cases h with
    | nil => exact .func f
    | cons _ _ => cases hf
  | _ => cases hf
theorem Pw.all_imp {α β : Type} {R R' : α → β → Prop} {p : α → Bool} (hm : ∀ x y, R x y → p x = true → R' x y) {l : List α} {l' : List β} (h : Pw R l l') (ha : l.all p = true) : Pw R' l l' := by
  induction h with
  | nil => exact .nil
  | cons hr _ ih =>
    simp only [List.all_cons, Bool.and_eq_true] at ha
    exact .cons (hm _ _ hr ha.1) (ih ha.2)
theorem Den.flat1 {t : TV} {v : V} (h : Den ρ t v) (hf : t.flat1 = true) (ρ' : List Nat) : Den ρ' t v := by
  cases h with
  | agg h => exact .agg (Pw.all_imp (p := TV.flat0) (fun _ _ h hf => .base (h.flat0 hf)) h hf)
  | base h => exact .base h
  | func f h =>
    cases h with
    | nil => exact .func f .nil
    | cons _ _ => cases hf
  | _ => cases hf
theorem Den.lower1 {t : TV} {v : V} (h : Den ρ t v) (hf : t.low1 = true) (ρ' : List Nat) : Den ρ' t v := by
  cases h with
  | agg h => exact .agg (Pw.all_imp (p := TV.low0) (fun _ _ h hf => .base (h.low0' hf)) h hf)
  | base h => exact .base h
  | func f h =>
    cases h with
    | nil => exact .func f .nil
    | cons _ _ => cases hf
  | _ => cases hf
theorem Den.lower {t : TV} {v : V} (h : Den ρ t v) (hf : t.low2 = true) (ρ' : List Nat) : Den ρ' t v := by
  cases h with
  | tuple h => exact .tuple (Pw.all_imp (p := TV.low1) (fun _ _ h hf => h.lower1 hf ρ') h hf)
  | agg h => exact (Den.agg h).lower1 hf ρ'
  | base h => exact .base h
  | func f h =>
    cases h with
    | nil => exact .func f .nil
    | cons _ _ => cases hf
  | _ => cases hf
theorem tupled_den {ts : List TV} {vs : List V} (h : Pw (Den ρ) ts vs) : Den ρ (tupledT ts) (tupled vs) := by
  cases h with
  | nil => exact .tuple .nil
  | cons h t =>
    cases t with
    | nil => exact h
    | cons h2 t2 => exact .tuple (.cons h (.cons h2 t2))
/-- What a whole function comes to. -/
theorem run_of {af : AFunc} {args : List TV} {K : List TV → Ms → Prop} (hl : Nat.beq args.length af.np = true)
    (h : WP cf af.body (argsT 0 args) [] M fun e L B M1 => match e with
      | .exit _ => False
      | _ => resW af.results L B M1 fun vs M2 => vs.all TV.ok1 = true ∧ K vs M2) {m : Am.Ms} {args' : List V} (hm : Mg ρ M m) (ha : Pw (Den ρ) args args') :
    ∃ vs m2 ρ' ts M2, runF cf af args' m = some (tupled vs, if (tupled vs).top2 ≤ m.length then m2.take m.length else m2) ∧ Pw (Den ρ') ts vs ∧ Mg ρ' M2 m2 ∧ Fr ρ m ρ' m2 ∧ K ts M2 := by
  obtain ⟨e, st, h1, ρ1, L, B, M1, hR, hf, hk⟩ := h.go ρ ⟨fun i => args'.getD i .undef, fun _ => [], m⟩ ⟨fun s v hv => by have := (argsT_den ha hv).2; simpa using this, fun s v hv => (nomatch hv), hm⟩
  have hlen : args'.length = af.np := by rw [← ha.length]; exact Nat.eq_of_beq_eq_true hl
  have fin : (resW af.results L B M1 fun vs M2 => vs.all TV.ok1 = true ∧ K vs M2) → (e = .normal ∨ e = .ret) → ∃ vs m2 ρ' ts M2, runF cf af args' m = some (tupled vs, if (tupled vs).top2 ≤ m.length then m2.take m.length else m2) ∧ Pw (Den ρ') ts vs ∧ Mg ρ' M2 m2 ∧ Fr ρ m ρ' m2 ∧ K ts M2 := fun hk he => by
    obtain ⟨vs, st', e2, ts, M2, h2, h3, hf2, ho, hK⟩ := resW_sound hR hk
    have hf3 := hf.trans hf2
    refine ⟨vs, st'.m, ρ1, ts, M2, ?_, h2, h3, hf3, hK⟩
    have er : result st af.results = some (tupled vs, st') := by
      unfold result
      rw [e2]
      simp only [Option.bind_some]
      rw [if_pos (Pw.all (p := TV.ok1) (q := V.ok1) (fun _ _ h ho => Den.ok1 h ho) h2 ho)]
      match vs with
      | [] => rfl
      | [v] => rfl
      | v :: w :: r => rfl
    unfold runF
    rw [if_pos hlen, h1]
    rcases he with rfl | rfl
    · simp only [Option.bind_some, er]; rw [if_pos hf3.2.1]
    · simp only [Option.bind_some, er]; rw [if_pos hf3.2.1]
  cases e with
  | normal => exact fin hk (.inl rfl)
  | ret => exact fin hk (.inr rfl)
  | exit i => exact hk.elim
theorem Fr.take {m m2 : Am.Ms} {e : List Nat} (h : Fr ρ m (ρ ++ e) m2) : Fr ρ m ρ (m2.take m.length) ∧ (m2.take m.length).length = m.length := by
  obtain ⟨_, h2, h3⟩ := h
  have hl : (m2.take m.length).length = m.length := by rw [List.length_take]; omega
  exact ⟨⟨⟨[], by simp, by simp⟩, by omega, fun c hc hn => by rw [List.getElem?_take, if_pos hc]; exact h3 c hc hn⟩, hl⟩
theorem Mg.take {m m2 : Am.Ms} {e : List Nat} {M2 : Ms} (h0 : Mg ρ M m) (h : Mg (ρ ++ e) M2 m2) (hd : ∀ (i b : Nat) (cs : List TV) (cs' : List V), ρ[i]? = some b → M2[i]? = some cs → Pw (Den (ρ ++ e)) cs cs' → Pw (Den ρ) cs cs') : Mg ρ (M2.take M.length) (m2.take m.length) := by
  have hl := h.2.1
  have hl0 := h0.2.1
  rw [List.length_append] at hl
  refine ⟨h0.1, by rw [List.length_take]; omega, fun i b hi => ?_⟩
  obtain ⟨cs, cs', h1, h2, h3⟩ := h.2.2 i b (by rw [List.getElem?_append_left (lt_of_get hi)]; exact hi)
  have hlt := lt_of_get hi
  refine ⟨cs, cs', ?_, ?_, hd i b cs cs' hi h1 h3⟩
  · rw [List.getElem?_take, if_pos (by omega)]; exact h1
  · rw [List.getElem?_take, if_pos (h0.lt (List.mem_of_getElem? hi))]; exact h2
/-- A function whose answer has no pointer, and that leaves memory's known blocks as flat ones. -/
theorem con_low {T : Table} {f : Nat} {af : AFunc} (hf : T.code f = some af) {args : List TV} {r : TV} {M' : Ms} (hl : Nat.beq args.length af.np = true)
    (h : WP (RF T) af.body (argsT 0 args) [] M fun e L B M1 => match e with
      | .exit _ => False
      | _ => resW af.results L B M1 fun vs M2 => vs.all TV.ok1 = true ∧ tupledT vs = r ∧ r.low2 = true ∧ M2.take M.length = M' ∧ flatM M' = true) : CallT false (RF T) f args M r M' := by
  intro ρ m args' hm ha
  obtain ⟨vs, m2, ρ', ts, M2, h1, h2, h3, hfr, rfl, hr, rfl, hfl⟩ := run_of hl h hm ha
  obtain ⟨e, rfl, _⟩ := hfr.1
  have hd := (tupled_den h2).lower hr ρ
  have ht : (tupled vs).top2 = 0 := hd.low2 hr
  rw [if_pos (by omega)] at h1
  obtain ⟨hf1, hf2⟩ := hfr.take
  refine ⟨_, _, ρ, RF_of hf h1, hd, hm.take h3 fun i b cs cs' hi hM hp => ?_, hf1, fun _ => hf2, fun hh => by cases hh⟩
  have hlt : i < M.length := by rw [← hm.2.1]; exact lt_of_get hi
  have hmem : cs ∈ M2.take M.length := List.mem_of_getElem? (i := i) (by rw [List.getElem?_take, if_pos hlt]; exact hM)
  have := List.all_eq_true.1 hfl cs hmem
  exact Pw.all_imp (p := TV.flat0) (fun _ _ h hf => .base (h.flat0 hf)) hp this
/-- A function that makes no block and whose answer has no pointer. -/
theorem con_same {T : Table} {f : Nat} {af : AFunc} (hf : T.code f = some af) {args : List TV} {r : TV} {M' : Ms} (hl : Nat.beq args.length af.np = true)
    (h : WP (RF T) af.body (argsT 0 args) [] M fun e L B M1 => match e with
      | .exit _ => False
      | _ => resW af.results L B M1 fun vs M2 => vs.all TV.ok1 = true ∧ tupledT vs = r ∧ r.low2 = true ∧ M2 = M' ∧ M'.length = M.length) : CallT false (RF T) f args M r M' := by
  intro ρ m args' hm ha
  obtain ⟨vs, m2, ρ', ts, M2, h1, h2, h3, hfr, rfl, hr, rfl, hlM⟩ := run_of hl h hm ha
  obtain ⟨e, rfl, _⟩ := hfr.1
  have he : e = [] := by
    have e1 := h3.2.1
    have e2 := hm.2.1
    rw [List.length_append] at e1
    exact List.length_eq_zero_iff.1 (by omega)
  subst he
  have hd := (tupled_den h2).lower hr ρ
  have ht : (tupled vs).top2 = 0 := hd.low2 hr
  rw [if_pos (by omega)] at h1
  obtain ⟨hf1, hf2⟩ := hfr.take
  have := hm.take h3 fun i b cs cs' hi hM hp => by simpa using hp
  rw [← hlM, List.take_length] at this
  exact ⟨_, _, ρ, RF_of hf h1, hd, this, hf1, fun _ => hf2, fun hh => by cases hh⟩
/-- A function that answers a pointer to a block that it made. -/
theorem con_new {T : Table} {f : Nat} {af : AFunc} (hf : T.code f = some af) {args : List TV} {i o : Nat} {M' : Ms} (hl : Nat.beq args.length af.np = true)
    (h : WP (RF T) af.body (argsT 0 args) [] M fun e L B M1 => match e with
      | .exit _ => False
      | _ => resW af.results L B M1 fun vs M2 => vs.all TV.ok1 = true ∧ tupledT vs = .ptr i o ∧ M.length ≤ i ∧ M2 = M') : CallT false (RF T) f args M (.ptr i o) M' := by
  intro ρ m args' hm ha
  obtain ⟨vs, m2, ρ', ts, M2, h1, h2, h3, hfr, ht, hi, rfl⟩ := run_of hl h hm ha
  have hd := tupled_den h2
  rw [ht] at hd
  obtain ⟨b, hb, hb2⟩ := hd.ptr_inv
  obtain ⟨e, rfl, he⟩ := hfr.1
  have hbl : m.length ≤ b := by
    rw [List.getElem?_append_right (by rw [hm.2.1]; exact hi)] at hb2
    exact he b (List.mem_of_getElem? hb2)
  rw [hb] at h1
  rw [if_neg (by show ¬ b + 1 ≤ m.length; omega)] at h1
  exact ⟨_, _, _, RF_of hf h1, .ptr o hb2, h3, hfr, fun hh => (by cases hh), fun hh => by cases hh⟩
end
section
variable {cf : CF} {f : Nat} {args : List TV} {r : TV}
/-- A function that knows no block leaves memory as it was. -/
theorem CallT.quiet (h : CallT false cf f args [] r []) (hr : r.low2 = true) : CallT true cf f args [] r [] := by
  intro ρ m args' hm ha
  obtain ⟨r', m', ρ', h1, h2, h3, h4, h5, _⟩ := h ρ m args' hm ha
  refine ⟨r', m', ρ', h1, h2, h3, h4, h5, fun _ => ?_⟩
  have hρ : ρ = [] := List.length_eq_zero_iff.1 hm.2.1
  subst hρ
  refine List.ext_getElem? fun i => ?_
  by_cases hi : i < m.length
  · exact h4.2.2 i hi (by simp)
  · rw [List.getElem?_eq_none (by rw [h5 hr]; omega), List.getElem?_eq_none (by omega)]
/-- A call of a function that knows no block, wherever. -/
theorem CallT.any {q : Bool} (h : CallT true cf f args [] r []) (hr : r.low2 = true) (M : Ms) (ha : args.all TV.flat1 = true) : CallT q cf f args M r M := by
  intro ρ m args' hm hd
  obtain ⟨r', m', ρ', h1, h2, _, _, _, h6⟩ := h [] m args' ⟨List.nodup_nil, rfl, fun i b hi => by simp at hi⟩ (Pw.all_imp (p := TV.flat1) (fun _ _ h hf => h.flat1 hf []) hd ha)
  have := h6 rfl
  subst this
  exact ⟨r', m', ρ, h1, h2.lower hr ρ, hm, .refl _ _, fun _ => rfl, fun _ => rfl⟩
/-- A call of a maker, wherever. -/
theorem CallT.make {o : Nat} {cs : List TV} (h : CallT false cf f args [] (.ptr 0 o) [cs]) (M : Ms) (ha : args.all TV.flat1 = true) (hc : cs.all TV.flat0 = true) : CallT false cf f args M (.ptr M.length o) (M ++ [cs]) := by
  intro ρ m args' hm hd
  obtain ⟨r', m', ρ', h1, h2, h3, h4, _, _⟩ := h [] m args' ⟨List.nodup_nil, rfl, fun i b hi => by simp at hi⟩ (Pw.all_imp (p := TV.flat1) (fun _ _ h hf => h.flat1 hf []) hd ha)
  obtain ⟨⟨e, he, heb⟩, h5, h6⟩ := h4
  rw [List.nil_append] at he
  subst he
  obtain ⟨b, rfl⟩ : ∃ b, ρ' = [b] := List.length_eq_one_iff.1 h3.2.1
  obtain ⟨b', rfl, hb'⟩ := h2.ptr_inv
  simp only [List.getElem?_cons_zero, Option.some.injEq] at hb'
  subst hb'
  have hbm := heb b (by simp)
  have hnot : b ∉ ρ := fun hh => by have := hm.lt hh; omega
  obtain ⟨cs1, cs', g1, g2, g3⟩ := h3.2.2 0 b rfl
  simp only [List.getElem?_cons_zero, Option.some.injEq] at g1
  subst g1
  refine ⟨_, m', ρ ++ [b], h1, .ptr o (by rw [← hm.2.1]; exact List.getElem?_concat_length ..), ⟨?_, by simp [hm.2.1], fun j c hj => ?_⟩, ⟨⟨[b], rfl, fun c hc => by rw [List.mem_singleton.1 hc]; exact hbm⟩, h5, fun c hc _ => h6 c hc (by simp)⟩, fun hh => (by cases hh), fun hh => by cases hh⟩
  · rw [List.nodup_append]
    exact ⟨hm.1, by simp, fun a ha c hc => by rw [List.mem_singleton.1 hc]; rintro rfl; exact hnot ha⟩
  · by_cases e : j < ρ.length
    · rw [List.getElem?_append_left e] at hj
      obtain ⟨x, y, h1, h2, h3⟩ := hm.2.2 j c hj
      exact ⟨x, y, by rw [List.getElem?_append_left (lt_of_get h1)]; exact h1, by rw [h6 c (lt_of_get h2) (by simp)]; exact h2, h3.mono fun _ _ h => h.mono _⟩
    · have hl := lt_of_get hj
      simp only [List.length_append, List.length_singleton] at hl
      have ej : j = ρ.length := by omega
      subst ej
      simp only [List.getElem?_concat_length, Option.some.injEq] at hj
      subst hj
      refine ⟨cs, cs', by rw [hm.2.1]; exact List.getElem?_concat_length .., g2, ?_⟩
      exact Pw.all_imp (p := TV.flat0) (fun _ _ h hf => .base (h.flat0 hf)) g3 hc
def renT (π : List Nat) : TV → TV
  | .ptr i o => .ptr (π.getD i 0) o
  | t => t
def TV.argP : TV → Bool
  | .ptr j _ => Nat.beq j 0
  | t => t.flat1
def updM (M : Ms) : List Nat → Ms → Ms
  | [], _ => M
  | _, [] => M
  | i :: π, cs :: M0 => updM (M.set i cs) π M0
/-- A call of a function that is given some blocks alone. -/
theorem CallT.sub {q : Bool} {i : Nat} {c c' : List TV} (h : CallT q cf f args [c] r [c']) (hr : r.low2 = true) (M : Ms) (hi : M[i]? = some c) (ha : args.all TV.argP = true) (hc : c.all TV.flat0 = true) (hc' : c'.all TV.flat0 = true) : CallT q cf f (args.map (renT [i])) M r (M.set i c') := by
  intro ρ m args' hm hd
  obtain ⟨b, cs', hb, hcs, hpw⟩ := hm.has hi
  have hm0 : Mg [b] [c] m := ⟨by simp, rfl, fun j d hj => by
    match j, hj with
    | 0, hj =>
      simp only [List.getElem?_cons_zero, Option.some.injEq] at hj
      subst hj
      exact ⟨c, cs', rfl, hcs, Pw.all_imp (p := TV.flat0) (fun _ _ h hf => .base (h.flat0 hf)) hpw hc⟩
    | j + 1, hj => simp at hj⟩
  have hargs : Pw (Den [b]) args args' := by
    clear h
    induction args generalizing args' with
    | nil => cases hd; exact .nil
    | cons t ts ih =>
      rw [List.map_cons] at hd
      simp only [List.all_cons, Bool.and_eq_true] at ha
      cases hd with
      | cons hd1 hd2 =>
        refine .cons ?_ (ih ha.2 _ hd2)
        have flat : ∀ {t : TV} {v : V}, Den ρ t v → t.flat1 = true → Den [b] t v := fun h hf => h.flat1 hf _
        cases t with
        | ptr j o =>
          have hj : j = 0 := Nat.eq_of_beq_eq_true ha.1
          subst hj
          obtain ⟨b2, rfl, hb2⟩ := Den.ptr_inv (show Den ρ (.ptr i o) _ from hd1)
          rw [hb] at hb2
          cases hb2
          exact .ptr o rfl
        | _ => exact flat hd1 ha.1
  obtain ⟨r', m', ρ', h1, h2, h3, h4, h5, h6⟩ := h [b] m args' hm0 hargs
  obtain ⟨⟨e, rfl, heb⟩, h7, h8⟩ := h4
  have he : e = [] := by
    have := h3.2.1
    simp only [List.length_append, List.length_cons, List.length_nil] at this
    exact List.length_eq_zero_iff.1 (by omega)
  subst he
  obtain ⟨d, d', g1, g2, g3⟩ := h3.2.2 0 b rfl
  simp only [List.getElem?_cons_zero, Option.some.injEq] at g1
  subst g1
  refine ⟨r', m', ρ, h1, h2.lower hr ρ, ⟨hm.1, by rw [List.length_set]; exact hm.2.1, fun j x hj => ?_⟩, ⟨⟨[], by simp, by simp⟩, h7, fun x hx hn => h8 x hx (fun hh => hn ?_)⟩, h5, h6⟩
  · obtain ⟨y, y', k1, k2, k3⟩ := hm.2.2 j x hj
    by_cases hij : i = j
    · subst hij
      rw [hb] at hj; cases hj
      exact ⟨_, d', List.getElem?_set_self (lt_of_get k1), g2, Pw.all_imp (p := TV.flat0) (fun _ _ h hf => .base (h.flat0 hf)) g3 hc'⟩
    · have hne : x ∉ [b] := fun hh => by
        rw [List.mem_singleton.1 hh] at hj
        exact hij (nodup_inj hm.1 hb hj)
      exact ⟨y, y', by rw [List.getElem?_set_ne hij]; exact k1, by rw [h8 x (lt_of_get k2) hne]; exact k2, k3⟩
  · rw [List.mem_singleton.1 hh]; exact List.mem_of_getElem? hb
end
end Go.Proofs.Ytgglgcehiolpcaa.Am.T

/-
Typed walks, part 6: the words of printed functions, and what their answers tell.
-/
namespace Go.Proofs.Ytgglgcehiolpcaa.Am.T
open Go.Proofs.Ytgglgcehiolpcaa.Am
abbrev w64 (n : Int) : Int := IntKind.wrap .i64 n
abbrev wu64 (n : Int) : Int := IntKind.wrap .u64 n
abbrev w32 (n : Int) : Int := IntKind.wrap .i32 n
abbrev wu32 (n : Int) : Int := IntKind.wrap .u32 n
abbrev w16 (n : Int) : Int := IntKind.wrap .i16 n
abbrev wu16 (n : Int) : Int := IntKind.wrap .u16 n
abbrev w8 (n : Int) : Int := IntKind.wrap .u8 n
abbrev wi8 (n : Int) : Int := IntKind.wrap .i8 n
abbrev iAnd (k : IntKind) (n p : Int) : Int := k.wrap ((BitVec.ofInt k.bits n &&& BitVec.ofInt k.bits p).toNat)
abbrev iOr (k : IntKind) (n p : Int) : Int := k.wrap ((BitVec.ofInt k.bits n ||| BitVec.ofInt k.bits p).toNat)
abbrev iXor (k : IntKind) (n p : Int) : Int := k.wrap ((BitVec.ofInt k.bits n ^^^ BitVec.ofInt k.bits p).toNat)
abbrev iAndNot (k : IntKind) (n p : Int) : Int := k.wrap ((BitVec.ofInt k.bits n &&& ~~~ (BitVec.ofInt k.bits p)).toNat)
abbrev iShl (k : IntKind) (n p : Int) : Int := k.wrap (n * 2 ^ min p.toNat k.bits)
abbrev iShr (k : IntKind) (n p : Int) : Int := n.fdiv (2 ^ min p.toNat k.bits)

def letB {α : Type} (b : Bool) (f : Bool → Option α) : Option α := f b
theorem letB_inv {α : Type} {b c : Bool} {f : Bool → Option α} {r : α} (hc : b = c) (h : letB b f = some r) : f c = some r := by subst hc; exact h
theorem bind_inv {α β : Type} {o : Option α} {f : α → Option β} {r : β} (h : o.bind f = some r) : ∃ x, o = some x ∧ f x = some r := Option.bind_eq_some_iff.1 h
theorem bif_t {α : Type} {b : Bool} {x y : α} {r : α} (hb : b = true) (h : (bif b then x else y) = r) : x = r := by subst hb; exact h
theorem bif_f {α : Type} {b : Bool} {x y : α} {r : α} (hb : b = false) (h : (bif b then x else y) = r) : y = r := by subst hb; exact h

def req (b : Bool) : Option Unit := bif b then some () else none
theorem req_inv {p : Prop} [Decidable p] {u : Unit} (h : req (decide p) = some u) : p := by
  unfold req at h
  cases hp : decide p with
  | true => exact of_decide_eq_true hp
  | false => rw [hp] at h; cases h
section
variable {α : Type}
def idx (l : List α) (i : Int) : Option α := if 0 ≤ i then l[i.toNat]? else none
theorem idx_nn {l : List α} {i : Int} {x : α} (h : idx l i = some x) : 0 ≤ i := by
  unfold idx at h; split at h
  · assumption
  · cases h
theorem idx_at {l : List α} {i : Int} {x : α} (h : idx l i = some x) : l[i.toNat]? = some x := by
  unfold idx at h; split at h
  · exact h
  · cases h
theorem idx_lt {l : List α} {i : Int} {x : α} (h : idx l i = some x) : i.toNat < l.length := lt_of_get (idx_at h)
theorem idx_get {l : List α} {i : Int} {x : α} (e : α → List TV) (h : idx l i = some x) : (l.map e)[i.toNat]? = some (e x) := by
  rw [List.getElem?_map, idx_at h]; rfl
theorem idx_len {l : List α} {i : Int} {x : α} (e : α → List TV) (h : idx l i = some x) : 0 ≤ i ∧ i.toNat < (l.map e).length := ⟨idx_nn h, by rw [List.length_map]; exact idx_lt h⟩
theorem idx_of {l : List α} {i : Int} {x : α} (h0 : 0 ≤ i) (h : l[i.toNat]? = some x) : idx l i = some x := by unfold idx; rw [if_pos h0]; exact h
def upI (l : List α) (i : Int) (x : α) : List α := l.set i.toNat x
theorem upI_map {l : List α} {i : Int} {x : α} {e : α → List TV} {c : List TV} (h : e x = c) : (upI l i x).map e = (l.map e).set i.toNat c := by
  subst h; unfold upI; rw [List.map_set]
def app (a b : List α) : Option (List α) := if a.length + b.length ≤ most then some (a ++ b) else none
theorem app_le {a b y : List α} (e : α → List TV) (h : app a b = some y) : (a.map e).length + (b.map e).length ≤ most := by
  unfold app at h; split at h
  · simpa using ‹_›
  · cases h
theorem app_eq {a b y : List α} (e : α → List TV) (h : app a b = some y) : y.map e = a.map e ++ b.map e := by
  unfold app at h; split at h
  · cases h; exact List.map_append
  · cases h
theorem app_is {a b y : List α} (h : app a b = some y) : y = a ++ b := by
  unfold app at h; split at h
  · cases h; rfl
  · cases h
theorem app_some {a b : List α} (h : a.length + b.length ≤ most) : app a b = some (a ++ b) := by unfold app; rw [if_pos h]
/-- A part of a list. -/
def subL (l : List α) (a b : Int) : Option (List α) := if 0 ≤ a ∧ a ≤ b ∧ b ≤ l.length then some ((l.drop a.toNat).take (b.toNat - a.toNat)) else none
def subA (l : List α) (a : Int) : Option (List α) := if 0 ≤ a ∧ a ≤ l.length then some (l.drop a.toNat) else none
def subB (l : List α) (b : Int) : Option (List α) := if 0 ≤ b ∧ b ≤ l.length then some (l.take b.toNat) else none
theorem subL_inv {l y : List α} {a b : Int} (h : subL l a b = some y) : 0 ≤ a ∧ a ≤ b ∧ b ≤ l.length ∧ y = (l.drop a.toNat).take (b.toNat - a.toNat) := by
  unfold subL at h; split at h
  · cases h; rename_i hh; exact ⟨hh.1, hh.2.1, hh.2.2, rfl⟩
  · cases h
theorem subA_inv {l y : List α} {a : Int} (h : subA l a = some y) : 0 ≤ a ∧ a ≤ l.length ∧ y = l.drop a.toNat := by
  unfold subA at h; split at h
  · cases h; rename_i hh; exact ⟨hh.1, hh.2, rfl⟩
  · cases h
theorem subB_inv {l y : List α} {b : Int} (h : subB l b = some y) : 0 ≤ b ∧ b ≤ l.length ∧ y = l.take b.toNat := by
  unfold subB at h; split at h
  · cases h; rename_i hh; exact ⟨hh.1, hh.2, rfl⟩
  · cases h
theorem subL_b {l y : List α} {a b : Int} (h : subL l a b = some y) : 0 ≤ b := by have := subL_inv h; omega
theorem subL_a {l y : List α} {a b : Int} (h : subL l a b = some y) : 0 ≤ a := (subL_inv h).1
theorem subL_le {l y : List α} {a b : Int} (e : α → List TV) (h : subL l a b = some y) : a.toNat ≤ b.toNat ∧ b.toNat ≤ (l.map e).length := by
  have := subL_inv h; rw [List.length_map]; omega
theorem subL_eq {l y : List α} {a b : Int} (e : α → List TV) (h : subL l a b = some y) : y.map e = ((l.map e).drop a.toNat).take (b.toNat - a.toNat) := by
  obtain ⟨_, _, _, rfl⟩ := subL_inv h; rw [List.map_take, List.map_drop]
theorem subA_a {l y : List α} {a : Int} (h : subA l a = some y) : 0 ≤ a := (subA_inv h).1
theorem subA_le {l y : List α} {a : Int} (e : α → List TV) (h : subA l a = some y) : a.toNat ≤ (l.map e).length ∧ (l.map e).length ≤ (l.map e).length := by
  have := subA_inv h; rw [List.length_map]; omega
theorem subA_eq {l y : List α} {a : Int} (e : α → List TV) (h : subA l a = some y) : y.map e = ((l.map e).drop a.toNat).take ((l.map e).length - a.toNat) := by
  obtain ⟨_, _, rfl⟩ := subA_inv h; rw [List.map_drop, List.take_of_length_le (by rw [List.length_drop]; omega)]
theorem subB_b {l y : List α} {b : Int} (h : subB l b = some y) : 0 ≤ b := (subB_inv h).1
theorem subB_le {l y : List α} {b : Int} (e : α → List TV) (h : subB l b = some y) : 0 ≤ b.toNat ∧ b.toNat ≤ (l.map e).length := by
  have := subB_inv h; rw [List.length_map]; omega
theorem subB_eq {l y : List α} {b : Int} (e : α → List TV) (h : subB l b = some y) : y.map e = ((l.map e).drop 0).take (b.toNat - 0) := by
  obtain ⟨_, _, rfl⟩ := subB_inv h; rw [List.map_take]; rfl
theorem subN_le {l : List α} (e : α → List TV) : 0 ≤ (l.map e).length ∧ (l.map e).length ≤ (l.map e).length := ⟨Nat.zero_le _, Nat.le_refl _⟩
theorem subN_eq {l : List α} (e : α → List TV) : l.map e = ((l.map e).drop 0).take ((l.map e).length - 0) := by rw [List.drop_zero, Nat.sub_zero, List.take_length]
-- of texts
theorem subL_les {l y : List α} {a b : Int} (h : subL l a b = some y) : a.toNat ≤ b.toNat ∧ b.toNat ≤ l.length := by
  have := subL_inv h; omega
theorem subL_eqs {l y : List α} {a b : Int} (h : subL l a b = some y) : y = (l.drop a.toNat).take (b.toNat - a.toNat) := (subL_inv h).2.2.2
theorem subA_les {l y : List α} {a : Int} (h : subA l a = some y) : a.toNat ≤ l.length ∧ l.length ≤ l.length := by
  have := subA_inv h; omega
theorem subA_eqs {l y : List α} {a : Int} (h : subA l a = some y) : y = (l.drop a.toNat).take (l.length - a.toNat) := by
  obtain ⟨_, _, rfl⟩ := subA_inv h; rw [List.take_of_length_le (by rw [List.length_drop]; omega)]
theorem subB_les {l y : List α} {b : Int} (h : subB l b = some y) : 0 ≤ b.toNat ∧ b.toNat ≤ l.length := by
  have := subB_inv h; omega
theorem subB_eqs {l y : List α} {b : Int} (h : subB l b = some y) : y = (l.drop 0).take (b.toNat - 0) := by
  obtain ⟨_, _, rfl⟩ := subB_inv h; rfl
def mkL (n c : Int) (z : α) : Option (List α) := if 0 ≤ n ∧ n ≤ c ∧ c ≤ most then some (List.replicate n.toNat z) else none
theorem mkL_le {n c : Int} {z : α} {y : List α} (h : mkL n c z = some y) : 0 ≤ n ∧ n ≤ c ∧ c ≤ (most : Int) := by
  unfold mkL at h; split at h
  · assumption
  · cases h
theorem mkL_eq {n c : Int} {z : α} {y : List α} {e : α → List TV} {d : List TV} (hd : e z = d) (h : mkL n c z = some y) : y.map e = List.replicate n.toNat d := by
  subst hd
  unfold mkL at h; split at h
  · cases h; rw [List.map_replicate]
  · cases h
end
/-- Bytes as a text. -/
def bstr (l : List Int) : Option (List Int) := bif l.all fun b => decide (0 ≤ b ∧ b < 256) then some l else none
theorem bstr_inv {l y : List Int} (h : bstr l = some y) : l.map by8 = y.map by8 ∧ ∀ b ∈ y, 0 ≤ b ∧ b < 256 := by
  unfold bstr at h
  cases ha : l.all fun b => decide (0 ≤ b ∧ b < 256) with
  | true =>
    rw [ha] at h
    simp only [cond_true, Option.some.injEq] at h
    subst h
    exact ⟨rfl, fun b hb => of_decide_eq_true (List.all_eq_true.1 ha b hb)⟩
  | false => rw [ha] at h; cases h
def sadd (a b : List Int) : Option (List Int) := if a.length + b.length ≤ 4611686018427387904 then some (a ++ b) else none
theorem sadd_le {a b y : List Int} (h : sadd a b = some y) : a.length + b.length ≤ 4611686018427387904 := by
  unfold sadd at h; split at h
  · assumption
  · cases h
theorem sadd_eq {a b y : List Int} (h : sadd a b = some y) : y = a ++ b := by
  unfold sadd at h; split at h
  · cases h; rfl
  · cases h
def ei64 (n : Int) : List TV := [.int .i64 n]
def eu64 (n : Int) : List TV := [.int .u64 n]
def ei32 (n : Int) : List TV := [.int .i32 n]
def eu32 (n : Int) : List TV := [.int .u32 n]
def eu16 (n : Int) : List TV := [.int .u16 n]
def ebool (b : Bool) : List TV := [.bool b]
def estr (s : List Int) : List TV := [.str s]
/-- Operations in two parts. -/
theorem WPO_then {cf : CF} {L : Ts} {B : Bs} {M : Ms} {d : Bool} {os : List AOper} {K : Ts → Bs → Ms → Prop} (n : Nat)
    (h : WPO d cf (os.take n) L B M fun L1 B1 M1 => WPO d cf (os.drop n) L1 B1 M1 K) : WPO d cf os L B M K := by
  refine ⟨fun ρ st hr => ?_⟩
  obtain ⟨st1, e1, ρ1, L1, B1, M1, h1, hf1, hk⟩ := h.go ρ st hr
  obtain ⟨st2, e2, ρ2, L3, B3, M3, h4, hf2, hk⟩ := hk.go ρ1 st1 h1
  refine ⟨st2, ?_, ρ2, L3, B3, M3, h4, hf1.trans hf2, hk⟩
  rw [← List.take_append_drop n os]
  cases d with
  | false => simp only [Bool.false_eq_true, if_false] at e1 e2 ⊢; rw [runOps_append, e1]; exact e2
  | true => simp only [if_true] at e1 e2 ⊢; rw [runD_append, e1]; exact e2
/-- What is lent: from a place on. -/
def lendA {α : Type} (b : List α) (lo : Nat) : Option (List α) := if lo < b.length then some (b.drop lo) else none
theorem lendA_lt {α β : Type} {b x : List α} {lo : Nat} (e : α → β) (h : lendA b lo = some x) : lo < (b.map e).length := by
  unfold lendA at h; split at h
  · rename_i hh; simpa using hh
  · cases h
theorem lendA_eq {α β : Type} {b x : List α} {lo : Nat} (e : α → β) (h : lendA b lo = some x) : x.map e = (b.map e).drop lo := by
  unfold lendA at h; split at h
  · cases h; rw [List.map_drop]
  · cases h
end Go.Proofs.Ytgglgcehiolpcaa.Am.T

/-
Contracts in and out: what is shown by hand as a contract of printed functions, and a law's end.
-/
namespace Go.Proofs.Ytgglgcehiolpcaa.Am.T
variable {ρ : List Nat} {cf : CF} {f : Nat} {args : List TV} {M : Ms} {r : TV}
theorem fr_refl (ρ : List Nat) (m : Am.Ms) : Fr ρ m ρ m := ⟨⟨[], (List.append_nil _).symm, fun _ h => by cases h⟩, Nat.le_refl _, fun _ _ _ => rfl⟩
theorem CallT.pure (h : ∀ ρ m args', Pw (Den ρ) args args' → ∃ r', cf f args' m = some (r', m) ∧ Den ρ r r') : CallT true cf f args M r M := fun ρ m a hM ha =>
  let ⟨r', e, hd⟩ := h ρ m a ha
  ⟨r', m, ρ, e, hd, hM, fr_refl ρ m, fun _ => rfl, fun _ => rfl⟩
theorem CallT.law {q : Bool} {b : Bool} {args' : List V} (h : CallT q cf f args [] (.bool b) []) (ha : Pw (Den []) args args') : ∃ m', cf f args' [] = some (.bool b, m') := by
  obtain ⟨r', m', ρ', e, hd, _, _, _, _⟩ := h [] [] args' ⟨List.nodup_nil, rfl, fun i b h => by cases h⟩ ha
  cases hd with
  | base hd => cases hd; exact ⟨m', e⟩
theorem den_int {k : IntKind} {n : Int} {v : V} (h : Den ρ (.int k n) v) : v = .int k n := by
  cases h with
  | base h => cases h; rfl
theorem den_bool {b : Bool} {v : V} (h : Den ρ (.bool b) v) : v = .bool b := by
  cases h with
  | base h => cases h; rfl
theorem pw_nil {α β : Type} {R : α → β → Prop} {l : List β} (h : Pw R [] l) : l = [] := by cases h; rfl
theorem pw_cons {α β : Type} {R : α → β → Prop} {a : α} {s : List α} {l : List β} (h : Pw R (a :: s) l) : ∃ b l', l = b :: l' ∧ R a b ∧ Pw R s l' := by cases h with | cons h t => exact ⟨_, _, rfl, h, t⟩
theorem pw_ints {xs : List Int} {ys : List (List V)} (h : Pw (Pw Den0) (xs.map ei64) ys) : ys = xs.map fun n => [V.int .i64 n] := by
  induction xs generalizing ys with
  | nil => exact pw_nil h
  | cons x xs ih =>
    obtain ⟨b, l', rfl, hb, ht⟩ := pw_cons h
    obtain ⟨c, l2, rfl, hc, hn⟩ := pw_cons hb
    cases hc
    rw [pw_nil hn, ih ht]; rfl
theorem pw_bytes {xs : List Int} {ys : List (List V)} (h : Pw (Pw Den0) (xs.map by8) ys) : ys = xs.map fun n => [V.int .u8 n] := by
  induction xs generalizing ys with
  | nil => exact pw_nil h
  | cons x xs ih =>
    obtain ⟨b, l', rfl, hb, ht⟩ := pw_cons h
    obtain ⟨c, l2, rfl, hc, hn⟩ := pw_cons hb
    cases hc
    rw [pw_nil hn, ih ht]; rfl
theorem den_agg {cs : List TV} {v : V} (h : Den ρ (.agg cs) v) : ∃ cs', v = .agg cs' ∧ Pw (Den ρ) cs cs' := by
  cases h with
  | base h => cases h
  | agg h => exact ⟨_, rfl, h⟩
theorem den_sl {w : Bool} {z : Nat} {xs : List (List TV)} {v : V} (h : Den ρ (.sl w z xs) v) : (v = .nils ∧ xs = []) ∨ ∃ ys, v = .slice w z ys ∧ Pw (Pw Den0) xs ys := by
  cases h with
  | base h =>
    cases h with
    | sl _ _ h => exact .inr ⟨_, rfl, h⟩
    | sln => exact .inl ⟨rfl, rfl⟩
end Go.Proofs.Ytgglgcehiolpcaa.Am.T

/-
A table out of a list of codes; small laws for walks.
-/
namespace Go.Proofs.Ytgglgcehiolpcaa.Am
def tableOf (l : List (Nat × AFunc)) (x : CF) : Table := ⟨fun f => l.lookup f, x⟩
def allOK (P : Program) : List (Nat × AFunc) → Prop
  | [] => True
  | p :: l => FuncOK P p.1 p.2 ∧ allOK P l
theorem tableOf_ok {P : Program} {l : List (Nat × AFunc)} {x : CF} (h : allOK P l) (hx : Good P x) : TableOK P (tableOf l x) where
  code f af hf := by
    have key : ∀ l : List (Nat × AFunc), allOK P l → l.lookup f = some af → FuncOK P f af := by
      intro l
      induction l with
      | nil => intro _ hl; cases hl
      | cons p l ih =>
        intro h hl
        obtain ⟨g, b⟩ := p
        rw [List.lookup_cons] at hl
        cases hb : f == g with
        | true =>
          rw [hb] at hl
          have := beq_iff_eq.1 hb
          subst this
          cases hl
          exact h.1
        | false => rw [hb] at hl; exact ih h.2 hl
    exact key l h hf
  ext := hx

theorem flat_get {α : Type} {f : α → List V} {n : Nat} (hf : ∀ x, (f x).length = n) : ∀ {l : List α} {i k : Nat} {x : α}, l[i]? = some x → k < n → (l.flatMap f)[i * n + k]? = (f x)[k]?
  | [], i, k, x, h, hk => by simp at h
  | y :: l, 0, k, x, h, hk => by
    simp only [List.getElem?_cons_zero, Option.some.injEq] at h
    subst h
    rw [List.flatMap_cons, List.getElem?_append_left (by rw [hf]; omega)]
    simp
  | y :: l, i + 1, k, x, h, hk => by
    rw [List.flatMap_cons, List.getElem?_append_right (by rw [hf, Nat.succ_mul]; omega), hf, show (i + 1) * n + k - n = i * n + k from by rw [Nat.succ_mul]; omega]
    exact flat_get hf (by simpa using h) hk
theorem flat_len {α : Type} {f : α → List V} {n : Nat} (hf : ∀ x, (f x).length = n) : ∀ {l : List α}, (l.flatMap f).length = l.length * n
  | [] => by simp
  | y :: l => by rw [List.flatMap_cons, List.length_append, hf, flat_len hf, List.length_cons, Nat.succ_mul]; omega
/-- A window of an element's cells is written. -/
theorem flat_set {α : Type} {f : α → List V} {n : Nat} (hf : ∀ x, (f x).length = n) : ∀ {l : List α} {i k : Nat} {x y : α} {vs : List V}, l[i]? = some x → k + vs.length ≤ n → setAt (f x) k vs = f y → setAt (l.flatMap f) (i * n + k) vs = (l.set i y).flatMap f
  | [], i, k, x, y, vs, h, hk, he => by simp at h
  | z :: l, 0, k, x, y, vs, h, hk, he => by
    simp only [List.getElem?_cons_zero, Option.some.injEq] at h
    subst h
    rw [List.set_cons_zero, List.flatMap_cons, List.flatMap_cons, ← he]
    unfold setAt
    rw [Nat.zero_mul, Nat.zero_add, List.take_append_of_le_length (by rw [hf]; omega), List.drop_append_of_le_length (by rw [hf]; omega)]
    simp only [List.append_assoc]
  | z :: l, i + 1, k, x, y, vs, h, hk, he => by
    rw [List.set_cons_succ, List.flatMap_cons, List.flatMap_cons, ← flat_set hf (by simpa using h) hk he]
    unfold setAt
    rw [show (i + 1) * n + k = (f z).length + (i * n + k) from by rw [hf, Nat.succ_mul]; omega]
    rw [List.take_append, List.take_of_length_le (by omega), Nat.add_sub_cancel_left, List.drop_append, List.drop_eq_nil_of_le (by omega), List.nil_append,
      show (f z).length + (i * n + k) + vs.length - (f z).length = i * n + k + vs.length from by omega]
    simp only [List.append_assoc]
theorem trim_same {r : V} {m m' : Ms} (h : m'.length = m.length) : trim r m m' = m' := by
  unfold trim; split
  · rw [List.take_of_length_le (by omega)]
  · rfl
theorem get_set {m : Ms} {b : Nat} {x y : List V} (h : m[b]? = some x) : (m.set b y)[b]? = some y := by
  rw [List.getElem?_set_self (lt_of_get h)]
theorem wrap64 {n : Int} (h : -9223372036854775808 ≤ n) (h2 : n ≤ 9223372036854775807) : IntKind.wrap .i64 n = n := by
  simp [IntKind.wrap, IntKind.signed, IntKind.bits]
  omega
end Go.Proofs.Ytgglgcehiolpcaa.Am

/-
What Screen answers: frames of at most 512 bytes, one behind the other.
-/
namespace Go.Proofs.Ytgglgcehiolpcaa.Am.Frame
/-- The sum of bytes, as a byte. -/
def sumB (l : List Int) : Int := l.foldl (fun n c => IntKind.wrap .u8 (n + c)) 0
/-- The frame of a part. -/
def showB (p : List Int) : List Int :=
  let h : List Int := [6, IntKind.wrap .u8 p.length, IntKind.wrap .u8 (Int.fdiv p.length 256)]
  197 :: (h ++ p ++ [sumB (h ++ p)])
def screenN : Nat → List Int → List Int
  | 0, _ => []
  | n + 1, l => if l = [] then [] else showB (l.take 512) ++ screenN n (l.drop 512)
def screenB (l : List Int) : List Int := screenN l.length l
def intsB : List (List V) → Option (List Int)
  | [] => some []
  | [V.int .u8 n] :: r => (intsB r).map fun s => n :: s
  | _ => none
def bytesV (l : List Int) : List (List V) := l.map fun n => [V.int .u8 n]
/-- Screen, as the machine calls it. -/
def scrX : CF := fun f args m => match f, args with
  | 18, [.nils] => some (.nils, m)
  | 18, [.slice false 1 xs] => match intsB xs with
    | some l => if l.all (fun b => decide (0 ≤ b ∧ b < 256)) ∧ l.length * 2 ≤ most then (match l with
      | [] => some (.nils, m)
      | l => some (.slice true 1 (bytesV (screenB l)), m)) else none
    | none => none
  | _, _ => none
end Go.Proofs.Ytgglgcehiolpcaa.Am.Frame

/-
The machine codes of functions, and their table.
-/
namespace Go.Proofs.Ytgglgcehiolpcaa.Am.Frame
-- 4 casement/casementlaw20.FrameWrites
def p4 : Plan := ⟨[59], 2, [((10, 7), { mark := (.loc 0) }),
    ((10, 6), { mark := .free }),
    ((10, 5), { mark := .free }),
    ((10, 1), { mark := .free }),
    ((0, 0), { box := some 0 }),
    ((3, 1), { uses := [(17, .share)] }),
    ((3, 5), { uses := [(19, .share)] }),
    ((4, 1), { uses := [(22, .share)] }),
    ((4, 2), { uses := [(23, .share)] }),
    ((4, 6), { uses := [(25, .share)] }),
    ((5, 6), { uses := [(31, .share), (32, .share)] }),
    ((9, 1), { uses := [(38, .share)] }),
    ((9, 2), { uses := [(39, .share)] }),
    ((10, 8), { uses := [(47, .share)] }),
    ((10, 9), { uses := [(46, .share), (48, .share)] }),
    ((12, 1), { uses := [(56, .take)] }),
    ((13, 1), { uses := [(57, .share)] }),
    ((13, 2), { uses := [(58, .share)] }),
    ((13, 3), { uses := [(59, .peek)] }),
    ((15, 1), { uses := [(59, .peek)] }),
    ((15, 3), { box := some 1 }),
    ((15, 5), { uses := [(65, .share)] }),
    ((18, 0), { uses := [(11, .take)] }),
    ((18, 4), { uses := [(83, .take), (86, .take)] }),
    ((18, 5), { uses := [(87, .take)] }),
    ((20, 3), { uses := [(11, .take)] }),
    ((20, 5), { uses := [(92, .share), (93, .share)] })],
  [[1, 9, 11, 59, 60, 61]]⟩
def a4 : AFunc := ⟨2, 96, 2, [.tmp 4],
  .seq (.region false [⟨(some 2), none, false, .boxL 0 (.t 0), .none⟩,
    ⟨(some 4), none, false, .mv (.c (.bool false)), .none⟩])
  (.seq (.seq (.region false [⟨(some 14), none, false, .callF 9 [], .none⟩,
    ⟨(some 15), none, false, .un .not (.t 14), .none⟩])
  (.cond (.t 15)
   (.seq (.region false [⟨(some 4), none, false, .mv (.c (.bool false)), .none⟩])
   (.ret))
   (.skip)))
  (.seq (.region false [⟨(some 17), none, false, .load true 5 (.t 2) .copy, .none⟩,
    ⟨(some 18), none, false, .callF 14 [(.u 17 .share)], .none⟩,
    ⟨(some 16), none, false, .mv (.t 18), .none⟩,
    ⟨(some 19), none, false, .extract (.t 16) 0, .none⟩,
    ⟨(some 20), none, false, .extract (.t 16) 1, .none⟩,
    ⟨(some 5), none, false, .mv (.u 19 .share), .none⟩,
    ⟨(some 6), none, false, .mv (.t 20), .none⟩])
  (.seq (.region false [⟨(some 22), none, false, .load true 5 (.t 2) .copy, .none⟩,
    ⟨(some 23), none, false, .callF 16 [(.u 22 .share)], .none⟩,
    ⟨(some 24), none, false, .callF 15 [(.u 23 .share)], .none⟩,
    ⟨(some 21), none, false, .mv (.t 24), .none⟩,
    ⟨(some 25), none, false, .extract (.t 21) 0, .none⟩,
    ⟨(some 26), none, false, .extract (.t 21) 1, .none⟩,
    ⟨(some 7), none, false, .mv (.u 25 .share), .none⟩,
    ⟨(some 8), none, false, .mv (.t 26), .none⟩])
  (.seq (.seq (.region false [⟨(some 27), none, false, .mv (.t 6), .none⟩,
    ⟨(some 28), none, false, .mv (.t 8), .none⟩,
    ⟨(some 29), none, false, .bin .neq (.t 27) (.t 28), .none⟩,
    ⟨(some 30), none, false, .mv (.t 29), .none⟩,
    ⟨(some 31), (some (30, false)), false, .mv (.t 5), .none⟩,
    ⟨(some 32), (some (30, false)), false, .mv (.t 7), .none⟩,
    ⟨(some 33), (some (30, false)), false, .callF 17 [(.u 31 .share), (.u 32 .share)], .none⟩,
    ⟨(some 34), (some (30, false)), false, .un .not (.t 33), .none⟩,
    ⟨(some 35), none, false, .pick (.t 30) (.c (.bool true)) (.t 34), .none⟩])
  (.cond (.t 35)
   (.seq (.region false [⟨(some 4), none, false, .mv (.c (.bool false)), .none⟩])
   (.ret))
   (.skip)))
  (.seq (.region false [⟨(some 9), none, false, .allocM [.nils], .none⟩])
  (.seq (.seq (.region false [⟨(some 36), none, false, .mv (.t 6), .none⟩,
    ⟨(some 37), none, false, .bin .eql (.t 36) (.c (.int .i64 0)), .none⟩])
  (.cond (.t 37)
   (.seq (.region false [⟨(some 38), none, false, .mv (.t 5), .none⟩,
     ⟨(some 39), none, false, .callF 11 [(.t 9), (.u 38 .share)], .none⟩,
     ⟨(some 10), none, false, .mv (.u 39 .share), .none⟩])
   (.seq (.region true [⟨(some 40), none, false, .mv (.t 10), .none⟩,
     ⟨(some 41), none, false, .lenSl (.t 40), .free⟩,
     ⟨(some 42), none, false, .bin .neq (.t 41) (.c (.int .i64 1)), .none⟩,
     ⟨(some 43), none, false, .mv (.t 42), .none⟩,
     ⟨(some 44), (some (43, false)), false, .mv (.t 10), .none⟩,
     ⟨(some 45), (some (43, false)), false, .indexSl 6 (.t 44) (.c (.int .i64 0)), .free⟩,
     ⟨(some 46), (some (43, false)), false, .load true 6 (.t 45) .copy, .free⟩,
     ⟨(some 47), (some (43, false)), false, .load true 5 (.t 2) .copy, (.loc 0)⟩,
     ⟨(some 48), (some (43, false)), false, .callF 16 [(.u 47 .share)], .none⟩,
     ⟨(some 49), (some (43, false)), false, .callF 13 [(.u 46 .share), (.u 48 .share)], .none⟩,
     ⟨(some 50), (some (43, false)), false, .un .not (.t 49), .none⟩,
     ⟨(some 51), none, false, .pick (.t 43) (.c (.bool true)) (.t 50), .none⟩,
     ⟨(some 52), none, false, .mv (.t 51), .none⟩,
     ⟨(some 53), (some (52, false)), false, .callF 12 [(.t 9)], .none⟩,
     ⟨(some 54), (some (52, false)), false, .bin .neq (.t 53) (.c (.int .i64 0)), .none⟩,
     ⟨(some 55), none, false, .pick (.t 52) (.c (.bool true)) (.t 54), .none⟩])
   (.cond (.t 55)
    (.seq (.region false [⟨(some 4), none, false, .mv (.c (.bool false)), .none⟩])
    (.ret))
    (.skip))))
   (.skip)))
  (.seq (.region false [⟨(some 56), none, false, .buildSlice 1 [(.int .u8 0)] 0 [], .none⟩,
    ⟨(some 11), none, false, .mv (.u 56 .take), .none⟩])
  (.seq (.seq (.region false [⟨(some 57), none, false, .mv (.t 1), .none⟩,
    ⟨(some 58), none, false, .callF 18 [(.u 57 .share)], .none⟩,
    ⟨(some 59), none, true, .callF 11 [(.t 9), (.u 58 .share)], .none⟩,
    ⟨(some 60), none, false, .lenSl (.u 59 .peek), .none⟩,
    ⟨(some 61), none, false, .mv (.c (.int .i64 0)), .none⟩])
  (.block 0 (.loop [1, 9, 11, 59, 60, 61] (.seq (.region false [⟨(some 62), none, false, .bin .lss (.t 61) (.t 60), .none⟩])
   (.seq (.cond (.t 62)
    (.skip)
    (.exit 0))
   (.seq (.block 1 (.seq (.region false [⟨(some 63), none, false, .mv (.t 61), .none⟩,
     ⟨(some 64), none, false, .indexSl 6 (.u 59 .peek) (.t 61), .none⟩,
     ⟨(some 65), none, false, .load true 6 (.t 64) .copy, .none⟩,
     ⟨(some 13), none, false, .allocL 1 [(.int .i64 0), (.int .i64 0), (.int .i64 0), (.int .i64 0), .nils, (.int .i64 0)], .none⟩,
     ⟨(some 12), none, false, .mv (.t 63), .none⟩,
     ⟨none, none, false, .store 6 (.t 13) (.u 65 .share), .none⟩])
   (.seq (.seq (.region false [⟨(some 66), none, false, .fieldAddr 0 (.t 13), .none⟩,
     ⟨(some 67), none, false, .fieldAddr 0 (.t 66), .none⟩,
     ⟨(some 68), none, false, .load false 1 (.t 67) .copy, .none⟩,
     ⟨(some 69), none, false, .bin .neq (.t 68) (.c (.int .i64 6)), .none⟩,
     ⟨(some 70), none, false, .mv (.t 69), .none⟩,
     ⟨(some 71), (some (70, false)), false, .fieldAddr 0 (.t 13), .none⟩,
     ⟨(some 72), (some (70, false)), false, .fieldAddr 4 (.t 71), .none⟩,
     ⟨(some 73), (some (70, false)), false, .load false 1 (.t 72) .copy, .none⟩,
     ⟨(some 74), (some (70, false)), false, .lenSl (.t 73), .none⟩,
     ⟨(some 75), (some (70, false)), false, .mv (.t 1), .none⟩,
     ⟨(some 76), (some (70, false)), false, .lenSl (.t 75), .none⟩,
     ⟨(some 77), (some (70, false)), false, .mv (.t 12), .none⟩,
     ⟨(some 78), (some (70, false)), false, .bin .mul (.c (.int .i64 512)) (.t 77), .none⟩,
     ⟨(some 79), (some (70, false)), false, .bin .sub (.t 76) (.t 78), .none⟩,
     ⟨(some 80), (some (70, false)), false, .minMax false (.c (.int .i64 512)) [(.t 79)], .none⟩,
     ⟨(some 81), (some (70, false)), false, .bin .neq (.t 74) (.t 80), .none⟩,
     ⟨(some 82), none, false, .pick (.t 70) (.c (.bool true)) (.t 81), .none⟩])
   (.cond (.t 82)
    (.seq (.region false [⟨(some 4), none, false, .mv (.c (.bool false)), .none⟩])
    (.ret))
    (.skip)))
   (.region false [⟨(some 83), none, false, .mv (.u 11 .take), .none⟩,
     ⟨(some 84), none, false, .fieldAddr 0 (.t 13), .none⟩,
     ⟨(some 85), none, false, .fieldAddr 4 (.t 84), .none⟩,
     ⟨(some 86), none, false, .load false 1 (.t 85) .copy, .none⟩,
     ⟨(some 87), none, false, .append 1 (.u 83 .take) (.u 86 .take), .none⟩,
     ⟨(some 11), none, false, .mv (.u 87 .take), .none⟩]))))
   (.region false [⟨(some 88), none, false, .bin .add (.t 61) (.c (.int .i64 1)), .none⟩,
     ⟨(some 61), none, false, .mv (.t 88), .none⟩])))))))
  (.seq (.region false [⟨(some 89), none, false, .callF 12 [(.t 9)], .none⟩,
    ⟨(some 90), none, false, .bin .eql (.t 89) (.c (.int .i64 0)), .none⟩,
    ⟨(some 91), none, false, .mv (.t 90), .none⟩,
    ⟨(some 92), (some (91, true)), false, .mv (.u 11 .take), .none⟩,
    ⟨(some 93), (some (91, true)), false, .mv (.t 1), .none⟩,
    ⟨(some 94), (some (91, true)), false, .callF 17 [(.u 92 .share), (.u 93 .share)], .none⟩,
    ⟨(some 95), none, false, .pick (.t 91) (.t 94) (.c (.bool false)), .none⟩,
    ⟨(some 4), none, false, .mv (.t 95), .none⟩])
  (.ret))))))))))⟩
def v4 : List Nat := [0, 1, 2, 4, 5, 6, 7, 8, 9, 10, 11, 12, 13, 15, 35, 37, 55, 59, 60, 61, 62, 82]
def b4 : List Nat := [0, 1]
-- behind t15: [1, 2]
-- behind t35: [1, 2, 5, 6]
-- behind t37: [1, 9]
-- behind t55: [1, 9]
-- behind t62: [1, 9, 11, 59, 60, 61]
-- behind t82: [1, 9, 11, 13, 59, 60, 61]
theorem c4 : cFunc Proofs.Try.prog p4 4 = some a4 := by decide +kernel

-- 5 casement/casementlaw20.FrameParts
def p5 : Plan := ⟨[8], 1, [((24, 10), { mark := .free }),
    ((24, 8), { mark := .free }),
    ((24, 5), { mark := (.loc 0) }),
    ((24, 2), { mark := .free }),
    ((4, 1), { uses := [(19, .share)] }),
    ((4, 2), { uses := [(20, .share)] }),
    ((5, 1), { uses := [(21, .take)] }),
    ((11, 0), { uses := [(8, .take)] }),
    ((11, 7), { uses := [(41, .share)] }),
    ((11, 8), { uses := [(35, .take), (42, .take)] }),
    ((11, 9), { uses := [(43, .take)] }),
    ((14, 0), { uses := [(8, .take)] }),
    ((14, 4), { uses := [(51, .share)] }),
    ((14, 5), { uses := [(48, .take), (52, .take)] }),
    ((14, 6), { uses := [(53, .take)] }),
    ((16, 0), { uses := [(8, .peek)] }),
    ((18, 2), { box := some 0 }),
    ((18, 3), { uses := [(59, .share)] }),
    ((24, 11), { uses := [(100, .share)] }),
    ((24, 12), { uses := [(95, .share), (101, .share)] })],
  [[0, 5, 6, 7, 8, 9, 22, 23, 24], [5, 6, 7, 8, 13, 14, 54, 55, 56], [5, 6, 7, 8, 13, 14, 16, 54, 55, 56], [5, 6, 7, 13, 14]]⟩
def a5 : AFunc := ⟨2, 135, 1, [.tmp 4],
  .seq (.region false [⟨(some 4), none, false, .mv (.c (.bool false)), .none⟩])
  (.seq (.seq (.region false [⟨(some 17), none, false, .callF 9 [], .none⟩,
    ⟨(some 18), none, false, .un .not (.t 17), .none⟩])
  (.cond (.t 18)
   (.seq (.region false [⟨(some 4), none, false, .mv (.c (.bool false)), .none⟩])
   (.ret))
   (.skip)))
  (.seq (.region false [⟨(some 5), none, false, .allocM [.nils], .none⟩,
    ⟨(some 6), none, false, .allocM [.nils], .none⟩])
  (.seq (.region false [⟨(some 19), none, false, .mv (.t 0), .none⟩,
    ⟨(some 20), none, false, .callF 11 [(.t 6), (.u 19 .share)], .none⟩,
    ⟨(some 7), none, false, .mv (.u 20 .share), .none⟩])
  (.seq (.region false [⟨(some 21), none, false, .buildSlice 6 [(.int .i64 0), (.int .i64 0), (.int .i64 0), (.int .i64 0), .nils, (.int .i64 0)] 0 [], .none⟩,
    ⟨(some 8), none, true, .mv (.u 21 .take), .none⟩])
  (.seq (.region false [⟨(some 9), none, false, .mv (.c (.int .i64 0)), .none⟩])
  (.seq (.seq (.region false [⟨(some 22), none, false, .mv (.t 1), .none⟩,
    ⟨(some 23), none, false, .lenSl (.t 22), .none⟩,
    ⟨(some 24), none, false, .mv (.c (.int .i64 0)), .none⟩])
  (.block 0 (.loop [0, 5, 6, 7, 8, 9, 22, 23, 24] (.seq (.region false [⟨(some 25), none, false, .bin .lss (.t 24) (.t 23), .none⟩])
   (.seq (.cond (.t 25)
    (.skip)
    (.exit 0))
   (.seq (.block 1 (.seq (.region false [⟨(some 26), none, false, .indexSl 1 (.t 22) (.t 24), .none⟩,
     ⟨(some 27), none, false, .load false 1 (.t 26) .copy, .none⟩,
     ⟨(some 11), none, false, .mv (.t 27), .none⟩])
   (.seq (.region false [⟨(some 28), none, false, .mv (.t 11), .none⟩,
     ⟨(some 29), none, false, .bin .and (.t 28) (.c (.int .i64 31)), .none⟩,
     ⟨(some 30), none, false, .mv (.t 0), .none⟩,
     ⟨(some 31), none, false, .lenSl (.t 30), .none⟩,
     ⟨(some 32), none, false, .mv (.t 9), .none⟩,
     ⟨(some 33), none, false, .bin .sub (.t 31) (.t 32), .none⟩,
     ⟨(some 34), none, false, .minMax false (.t 29) [(.t 33)], .none⟩,
     ⟨(some 12), none, false, .mv (.t 34), .none⟩])
   (.seq (.region false [⟨(some 35), none, false, .mv (.u 8 .take), .none⟩,
     ⟨(some 36), none, false, .mv (.t 0), .none⟩,
     ⟨(some 37), none, false, .mv (.t 9), .none⟩,
     ⟨(some 38), none, false, .mv (.t 9), .none⟩,
     ⟨(some 39), none, false, .mv (.t 12), .none⟩,
     ⟨(some 40), none, false, .bin .add (.t 38) (.t 39), .none⟩,
     ⟨(some 41), none, false, .sliceV 1 (.t 36) (some (.t 37)) (some (.t 40)), .none⟩,
     ⟨(some 42), none, false, .callF 11 [(.t 5), (.u 41 .share)], .none⟩,
     ⟨(some 43), none, false, .append 6 (.u 35 .take) (.u 42 .take), .none⟩,
     ⟨(some 8), none, true, .mv (.u 43 .take), .none⟩])
   (.region false [⟨(some 44), none, false, .mv (.t 9), .none⟩,
     ⟨(some 45), none, false, .mv (.t 12), .none⟩,
     ⟨(some 46), none, false, .bin .add (.t 44) (.t 45), .none⟩,
     ⟨(some 9), none, false, .mv (.t 46), .none⟩])))))
   (.region false [⟨(some 47), none, false, .bin .add (.t 24) (.c (.int .i64 1)), .none⟩,
     ⟨(some 24), none, false, .mv (.t 47), .none⟩])))))))
  (.seq (.region false [⟨(some 48), none, false, .mv (.u 8 .take), .none⟩,
    ⟨(some 49), none, false, .mv (.t 0), .none⟩,
    ⟨(some 50), none, false, .mv (.t 9), .none⟩,
    ⟨(some 51), none, false, .sliceV 1 (.t 49) (some (.t 50)) none, .none⟩,
    ⟨(some 52), none, false, .callF 11 [(.t 5), (.u 51 .share)], .none⟩,
    ⟨(some 53), none, false, .append 6 (.u 48 .take) (.u 52 .take), .none⟩,
    ⟨(some 8), none, true, .mv (.u 53 .take), .none⟩])
  (.seq (.region false [⟨(some 13), none, false, .mv (.c (.int .i64 0)), .none⟩,
    ⟨(some 14), none, false, .mv (.c (.int .i64 0)), .none⟩])
  (.seq (.seq (.region false [⟨(some 54), none, false, .mv (.u 8 .peek), .none⟩,
    ⟨(some 55), none, false, .lenSl (.t 54), .none⟩,
    ⟨(some 56), none, false, .mv (.c (.int .i64 0)), .none⟩])
  (.block 2 (.loop [5, 6, 7, 8, 13, 14, 54, 55, 56] (.seq (.region false [⟨(some 57), none, false, .bin .lss (.t 56) (.t 55), .none⟩])
   (.seq (.cond (.t 57)
    (.skip)
    (.exit 2))
   (.seq (.block 3 (.seq (.region false [⟨(some 58), none, false, .indexSl 6 (.t 54) (.t 56), .none⟩,
     ⟨(some 59), none, false, .load true 6 (.t 58) .copy, .none⟩,
     ⟨(some 16), none, false, .allocL 0 [(.int .i64 0), (.int .i64 0), (.int .i64 0), (.int .i64 0), .nils, (.int .i64 0)], .none⟩,
     ⟨none, none, false, .store 6 (.t 16) (.u 59 .share), .none⟩])
   (.seq (.region false [⟨(some 60), none, false, .mv (.t 13), .none⟩,
     ⟨(some 61), none, false, .fieldAddr 5 (.t 16), .none⟩,
     ⟨(some 62), none, false, .load false 1 (.t 61) .copy, .none⟩,
     ⟨(some 63), none, false, .bin .add (.t 60) (.t 62), .none⟩,
     ⟨(some 13), none, false, .mv (.t 63), .none⟩])
   (.seq (.seq (.region false [⟨(some 64), none, false, .fieldAddr 0 (.t 16), .none⟩,
     ⟨(some 65), none, false, .fieldAddr 0 (.t 64), .none⟩,
     ⟨(some 66), none, false, .load false 1 (.t 65) .copy, .none⟩,
     ⟨(some 67), none, false, .bin .eql (.t 66) (.c (.int .i64 0)), .none⟩])
   (.cond (.t 67)
    (.exit 3)
    (.skip)))
   (.seq (.block 4 (.loop [5, 6, 7, 8, 13, 14, 16, 54, 55, 56] (.seq (.seq (.region false [⟨(some 68), none, false, .mv (.t 14), .none⟩,
      ⟨(some 69), none, false, .mv (.t 7), .none⟩,
      ⟨(some 70), none, false, .lenSl (.t 69), .none⟩,
      ⟨(some 71), none, false, .bin .lss (.t 68) (.t 70), .none⟩,
      ⟨(some 72), none, false, .mv (.t 71), .none⟩,
      ⟨(some 73), (some (72, true)), false, .mv (.t 7), .none⟩,
      ⟨(some 74), (some (72, true)), false, .mv (.t 14), .none⟩,
      ⟨(some 75), (some (72, true)), false, .indexSl 6 (.t 73) (.t 74), .none⟩,
      ⟨(some 76), (some (72, true)), false, .fieldAddr 0 (.t 75), .none⟩,
      ⟨(some 77), (some (72, true)), false, .fieldAddr 0 (.t 76), .none⟩,
      ⟨(some 78), (some (72, true)), false, .load false 1 (.t 77) .copy, .none⟩,
      ⟨(some 79), (some (72, true)), false, .bin .eql (.t 78) (.c (.int .i64 0)), .none⟩,
      ⟨(some 80), none, false, .pick (.t 72) (.t 79) (.c (.bool false)), .none⟩])
    (.cond (.t 80)
     (.skip)
     (.exit 4)))
    (.block 5 (.seq (.region false [⟨(some 81), none, false, .mv (.t 13), .none⟩,
      ⟨(some 82), none, false, .mv (.t 7), .none⟩,
      ⟨(some 83), none, false, .mv (.t 14), .none⟩,
      ⟨(some 84), none, false, .indexSl 6 (.t 82) (.t 83), .none⟩,
      ⟨(some 85), none, false, .fieldAddr 5 (.t 84), .none⟩,
      ⟨(some 86), none, false, .load false 1 (.t 85) .copy, .none⟩,
      ⟨(some 87), none, false, .bin .sub (.t 81) (.t 86), .none⟩,
      ⟨(some 13), none, false, .mv (.t 87), .none⟩])
    (.region false [⟨(some 88), none, false, .mv (.t 14), .none⟩,
      ⟨(some 89), none, false, .bin .add (.t 88) (.c (.int .i64 1)), .none⟩,
      ⟨(some 14), none, false, .mv (.t 89), .none⟩]))))))
   (.seq (.seq (.region true [⟨(some 90), none, false, .mv (.t 14), .none⟩,
     ⟨(some 91), none, false, .mv (.t 7), .none⟩,
     ⟨(some 92), none, false, .lenSl (.t 91), .free⟩,
     ⟨(some 93), none, false, .bin .geq (.t 90) (.t 92), .none⟩,
     ⟨(some 94), none, false, .mv (.t 93), .none⟩,
     ⟨(some 95), (some (94, false)), false, .load true 6 (.t 16) .copy, (.loc 0)⟩,
     ⟨(some 96), (some (94, false)), false, .mv (.t 7), .none⟩,
     ⟨(some 97), (some (94, false)), false, .mv (.t 14), .none⟩,
     ⟨(some 98), (some (94, false)), false, .indexSl 6 (.t 96) (.t 97), .free⟩,
     ⟨(some 99), (some (94, false)), false, .fieldAddr 0 (.t 98), .none⟩,
     ⟨(some 100), (some (94, false)), false, .load true 5 (.t 99) .copy, .free⟩,
     ⟨(some 101), (some (94, false)), false, .callF 16 [(.u 100 .share)], .none⟩,
     ⟨(some 102), (some (94, false)), false, .callF 13 [(.u 95 .share), (.u 101 .share)], .none⟩,
     ⟨(some 103), (some (94, false)), false, .un .not (.t 102), .none⟩,
     ⟨(some 104), none, false, .pick (.t 94) (.c (.bool true)) (.t 103), .none⟩])
   (.cond (.t 104)
    (.seq (.region false [⟨(some 4), none, false, .mv (.c (.bool false)), .none⟩])
    (.ret))
    (.skip)))
   (.region false [⟨(some 105), none, false, .mv (.t 14), .none⟩,
     ⟨(some 106), none, false, .bin .add (.t 105) (.c (.int .i64 1)), .none⟩,
     ⟨(some 14), none, false, .mv (.t 106), .none⟩])))))))
   (.region false [⟨(some 107), none, false, .bin .add (.t 56) (.c (.int .i64 1)), .none⟩,
     ⟨(some 56), none, false, .mv (.t 107), .none⟩])))))))
  (.seq (.block 6 (.loop [5, 6, 7, 13, 14] (.seq (.seq (.region false [⟨(some 108), none, false, .mv (.t 14), .none⟩,
     ⟨(some 109), none, false, .mv (.t 7), .none⟩,
     ⟨(some 110), none, false, .lenSl (.t 109), .none⟩,
     ⟨(some 111), none, false, .bin .lss (.t 108) (.t 110), .none⟩])
   (.cond (.t 111)
    (.skip)
    (.exit 6)))
   (.seq (.block 7 (.seq (.seq (.region false [⟨(some 114), none, false, .mv (.t 7), .none⟩,
     ⟨(some 115), none, false, .mv (.t 14), .none⟩,
     ⟨(some 116), none, false, .indexSl 6 (.t 114) (.t 115), .none⟩,
     ⟨(some 117), none, false, .fieldAddr 0 (.t 116), .none⟩,
     ⟨(some 118), none, false, .fieldAddr 0 (.t 117), .none⟩,
     ⟨(some 119), none, false, .load false 1 (.t 118) .copy, .none⟩,
     ⟨(some 120), none, false, .bin .neq (.t 119) (.c (.int .i64 0)), .none⟩])
   (.cond (.t 120)
    (.seq (.region false [⟨(some 4), none, false, .mv (.c (.bool false)), .none⟩])
    (.ret))
    (.skip)))
   (.region false [⟨(some 121), none, false, .mv (.t 13), .none⟩,
     ⟨(some 122), none, false, .mv (.t 7), .none⟩,
     ⟨(some 123), none, false, .mv (.t 14), .none⟩,
     ⟨(some 124), none, false, .indexSl 6 (.t 122) (.t 123), .none⟩,
     ⟨(some 125), none, false, .fieldAddr 5 (.t 124), .none⟩,
     ⟨(some 126), none, false, .load false 1 (.t 125) .copy, .none⟩,
     ⟨(some 127), none, false, .bin .sub (.t 121) (.t 126), .none⟩,
     ⟨(some 13), none, false, .mv (.t 127), .none⟩])))
   (.region false [⟨(some 112), none, false, .mv (.t 14), .none⟩,
     ⟨(some 113), none, false, .bin .add (.t 112) (.c (.int .i64 1)), .none⟩,
     ⟨(some 14), none, false, .mv (.t 113), .none⟩])))))
  (.seq (.region false [⟨(some 128), none, false, .mv (.t 13), .none⟩,
    ⟨(some 129), none, false, .bin .eql (.t 128) (.c (.int .i64 0)), .none⟩,
    ⟨(some 130), none, false, .mv (.t 129), .none⟩,
    ⟨(some 131), (some (130, true)), false, .callF 12 [(.t 5)], .none⟩,
    ⟨(some 132), (some (130, true)), false, .callF 12 [(.t 6)], .none⟩,
    ⟨(some 133), (some (130, true)), false, .bin .eql (.t 131) (.t 132), .none⟩,
    ⟨(some 134), none, false, .pick (.t 130) (.t 133) (.c (.bool false)), .none⟩,
    ⟨(some 4), none, false, .mv (.t 134), .none⟩])
  (.ret))))))))))))⟩
def v5 : List Nat := [0, 1, 4, 5, 6, 7, 8, 9, 11, 12, 13, 14, 16, 18, 22, 23, 24, 25, 54, 55, 56, 57, 67, 80, 104, 111, 120]
def b5 : List Nat := [0]
-- behind t18: [0, 1]
-- behind t25: [0, 5, 6, 7, 8, 9, 22, 23, 24]
-- behind t57: [5, 6, 7, 13, 14, 54, 55, 56]
-- behind t67: [5, 6, 7, 13, 14, 16, 54, 55, 56]
-- behind t80: [5, 6, 7, 13, 14, 16, 54, 55, 56]
-- behind t104: [5, 6, 7, 13, 14, 54, 55, 56]
-- behind t111: [5, 6, 7, 13, 14]
-- behind t120: [5, 6, 7, 13, 14]
theorem c5 : cFunc Proofs.Try.prog p5 5 = some a5 := by decide +kernel

-- 6 casement/casementlaw20.FrameBehind
def p6 : Plan := ⟨[], 1, [((23, 7), { mark := .free }),
    ((23, 6), { mark := .free }),
    ((23, 3), { mark := .free }),
    ((23, 2), { mark := .free }),
    ((4, 1), { uses := [(16, .share)] }),
    ((7, 1), { uses := [(20, .take)] }),
    ((8, 1), { uses := [(21, .take)] }),
    ((11, 2), { box := some 0 }),
    ((11, 3), { uses := [(27, .share)] }),
    ((12, 1), { uses := [(29, .share)] }),
    ((12, 5), { uses := [(31, .share)] }),
    ((14, 0), { uses := [(6, .take)] }),
    ((14, 2), { uses := [(35, .take), (36, .take)] }),
    ((14, 3), { uses := [(37, .take)] }),
    ((15, 0), { uses := [(7, .take)] }),
    ((15, 2), { uses := [(39, .share)] }),
    ((15, 3), { uses := [(38, .take), (40, .take)] }),
    ((15, 4), { uses := [(41, .take)] }),
    ((17, 0), { uses := [(6, .take)] }),
    ((17, 1), { uses := [(43, .share)] }),
    ((17, 2), { uses := [(44, .share)] }),
    ((18, 2), { mode := .share }),
    ((23, 8), { uses := [(66, .share)] }),
    ((23, 9), { uses := [(62, .share), (67, .share)] })],
  [[5, 6, 7, 22, 23, 24], [7, 12, 55, 56]]⟩
def a6 : AFunc := ⟨2, 71, 1, [.tmp 4],
  .seq (.region false [⟨(some 4), none, false, .mv (.c (.bool false)), .none⟩])
  (.seq (.seq (.region false [⟨(some 14), none, false, .callF 9 [], .none⟩,
    ⟨(some 15), none, false, .un .not (.t 14), .none⟩])
  (.cond (.t 15)
   (.seq (.region false [⟨(some 4), none, false, .mv (.c (.bool false)), .none⟩])
   (.ret))
   (.skip)))
  (.seq (.region false [⟨(some 5), none, false, .allocM [.nils], .none⟩])
  (.seq (.region false [⟨(some 16), none, false, .mv (.t 0), .none⟩,
    ⟨(some 17), none, false, .callF 11 [(.t 5), (.u 16 .share)], .none⟩])
  (.seq (.seq (.region false [⟨(some 18), none, false, .callF 12 [(.t 5)], .none⟩,
    ⟨(some 19), none, false, .bin .gtr (.t 18) (.c (.int .i64 0)), .none⟩])
  (.cond (.t 19)
   (.seq (.region false [⟨(some 4), none, false, .mv (.c (.bool true)), .none⟩])
   (.ret))
   (.skip)))
  (.seq (.region false [⟨(some 20), none, false, .buildSlice 1 [(.int .u8 0)] 0 [], .none⟩,
    ⟨(some 6), none, false, .mv (.u 20 .take), .none⟩])
  (.seq (.region false [⟨(some 21), none, false, .buildSlice 5 [(.int .i64 0), (.int .i64 0), (.int .i64 0), (.int .i64 0), .nils] 0 [], .none⟩,
    ⟨(some 7), none, false, .mv (.u 21 .take), .none⟩])
  (.seq (.seq (.region false [⟨(some 22), none, false, .mv (.t 1), .none⟩,
    ⟨(some 23), none, false, .lenSl (.t 22), .none⟩,
    ⟨(some 24), none, false, .mv (.c (.int .i64 0)), .none⟩])
  (.block 0 (.loop [5, 6, 7, 22, 23, 24] (.seq (.region false [⟨(some 25), none, false, .bin .lss (.t 24) (.t 23), .none⟩])
   (.seq (.cond (.t 25)
    (.skip)
    (.exit 0))
   (.seq (.block 1 (.seq (.region false [⟨(some 26), none, false, .indexSl 5 (.t 22) (.t 24), .none⟩,
     ⟨(some 27), none, false, .load true 5 (.t 26) .copy, .none⟩,
     ⟨(some 9), none, false, .allocL 0 [(.int .i64 0), (.int .i64 0), (.int .i64 0), (.int .i64 0), .nils], .none⟩,
     ⟨none, none, false, .store 5 (.t 9) (.u 27 .share), .none⟩])
   (.seq (.region false [⟨(some 29), none, false, .load true 5 (.t 9) .copy, .none⟩,
     ⟨(some 30), none, false, .callF 14 [(.u 29 .share)], .none⟩,
     ⟨(some 28), none, false, .mv (.t 30), .none⟩,
     ⟨(some 31), none, false, .extract (.t 28) 0, .none⟩,
     ⟨(some 32), none, false, .extract (.t 28) 1, .none⟩,
     ⟨(some 10), none, false, .mv (.u 31 .share), .none⟩,
     ⟨(some 11), none, false, .mv (.t 32), .none⟩])
   (.seq (.region false [⟨(some 33), none, false, .mv (.t 11), .none⟩,
     ⟨(some 34), none, false, .bin .eql (.t 33) (.c (.int .i64 0)), .none⟩])
   (.cond (.t 34)
    (.seq (.region false [⟨(some 35), none, false, .mv (.u 6 .take), .none⟩,
      ⟨(some 36), none, false, .mv (.t 10), .none⟩,
      ⟨(some 37), none, false, .append 1 (.u 35 .take) (.u 36 .take), .none⟩,
      ⟨(some 6), none, false, .mv (.u 37 .take), .none⟩])
    (.region false [⟨(some 38), none, false, .mv (.u 7 .take), .none⟩,
      ⟨(some 39), none, false, .load true 5 (.t 9) .copy, .none⟩,
      ⟨(some 40), none, false, .buildSlice 5 [(.int .i64 0), (.int .i64 0), (.int .i64 0), (.int .i64 0), .nils] 1 [(0, (.u 39 .share))], .none⟩,
      ⟨(some 41), none, false, .append 5 (.u 38 .take) (.u 40 .take), .none⟩,
      ⟨(some 7), none, false, .mv (.u 41 .take), .none⟩]))
    (.skip))))))
   (.region false [⟨(some 42), none, false, .bin .add (.t 24) (.c (.int .i64 1)), .none⟩,
     ⟨(some 24), none, false, .mv (.t 42), .none⟩])))))))
  (.seq (.region false [⟨(some 43), none, false, .mv (.u 6 .take), .none⟩,
    ⟨(some 44), none, false, .callF 11 [(.t 5), (.u 43 .share)], .none⟩,
    ⟨(some 12), none, false, .mv (.u 44 .share), .none⟩])
  (.seq (.seq (.region false [⟨(some 45), none, false, .mv (.t 12), .none⟩,
    ⟨(some 46), none, false, .lenSl (.t 45), .none⟩,
    ⟨(some 47), none, false, .mvK 7, .none⟩,
    ⟨(some 48), none, false, .lenSl (.t 47), .none⟩,
    ⟨(some 49), none, false, .bin .neq (.t 46) (.t 48), .none⟩,
    ⟨(some 50), none, false, .mv (.t 49), .none⟩,
    ⟨(some 51), (some (50, false)), false, .callF 12 [(.t 5)], .none⟩,
    ⟨(some 52), (some (50, false)), false, .bin .neq (.t 51) (.c (.int .i64 0)), .none⟩,
    ⟨(some 53), none, false, .pick (.t 50) (.c (.bool true)) (.t 52), .none⟩])
  (.cond (.t 53)
   (.seq (.region false [⟨(some 4), none, false, .mv (.c (.bool false)), .none⟩])
   (.ret))
   (.skip)))
  (.seq (.seq (.region false [⟨(some 54), none, false, .mv (.t 12), .none⟩,
    ⟨(some 55), none, false, .lenSl (.t 54), .none⟩,
    ⟨(some 56), none, false, .mv (.c (.int .i64 0)), .none⟩])
  (.block 2 (.loop [7, 12, 55, 56] (.seq (.region false [⟨(some 57), none, false, .bin .lss (.t 56) (.t 55), .none⟩])
   (.seq (.cond (.t 57)
    (.skip)
    (.exit 2))
   (.seq (.block 3 (.seq (.region false [⟨(some 58), none, false, .mv (.t 56), .none⟩,
     ⟨(some 13), none, false, .mv (.t 58), .none⟩])
   (.seq (.region true [⟨(some 59), none, false, .mv (.t 12), .none⟩,
     ⟨(some 60), none, false, .mv (.t 13), .none⟩,
     ⟨(some 61), none, false, .indexSl 6 (.t 59) (.t 60), .free⟩,
     ⟨(some 62), none, false, .load true 6 (.t 61) .copy, .free⟩,
     ⟨(some 63), none, false, .mv (.t 7), .none⟩,
     ⟨(some 64), none, false, .mv (.t 13), .none⟩,
     ⟨(some 65), none, false, .indexSl 5 (.t 63) (.t 64), .free⟩,
     ⟨(some 66), none, false, .load true 5 (.t 65) .copy, .free⟩,
     ⟨(some 67), none, false, .callF 16 [(.u 66 .share)], .none⟩,
     ⟨(some 68), none, false, .callF 13 [(.u 62 .share), (.u 67 .share)], .none⟩,
     ⟨(some 69), none, false, .un .not (.t 68), .none⟩])
   (.cond (.t 69)
    (.seq (.region false [⟨(some 4), none, false, .mv (.c (.bool false)), .none⟩])
    (.ret))
    (.skip)))))
   (.region false [⟨(some 70), none, false, .bin .add (.t 56) (.c (.int .i64 1)), .none⟩,
     ⟨(some 56), none, false, .mv (.t 70), .none⟩])))))))
  (.seq (.region false [⟨(some 4), none, false, .mv (.c (.bool true)), .none⟩])
  (.ret))))))))))))⟩
def v6 : List Nat := [0, 1, 4, 5, 6, 7, 9, 10, 11, 12, 13, 15, 19, 22, 23, 24, 25, 34, 53, 55, 56, 57, 69]
def b6 : List Nat := [0]
-- behind t15: [0, 1]
-- behind t19: [1, 5]
-- behind t25: [5, 6, 7, 22, 23, 24]
-- behind t34: [5, 6, 7, 22, 23, 24]
-- behind t53: [7, 12]
-- behind t57: [7, 12, 55, 56]
-- behind t69: [7, 12, 55, 56]
theorem c6 : cFunc Proofs.Try.prog p6 6 = some a6 := by decide +kernel

-- 7 casement/casementlaw20.FrameTurns
def p7 : Plan := ⟨[10, 44], 2, [((0, 0), { box := some 0 }),
    ((3, 1), { uses := [(19, .share)] }),
    ((3, 5), { uses := [(21, .share)] }),
    ((9, 2), { uses := [(36, .take), (37, .take)] }),
    ((9, 3), { uses := [(38, .take)] }),
    ((10, 0), { uses := [(10, .peek)] }),
    ((12, 0), { uses := [(10, .take)] }),
    ((12, 1), { uses := [(43, .share)] }),
    ((12, 2), { uses := [(44, .peek)] }),
    ((14, 0), { uses := [(44, .peek)] }),
    ((14, 2), { box := some 1 }),
    ((14, 3), { uses := [(49, .share)] }),
    ((16, 2), { uses := [(72, .share)] }),
    ((16, 6), { uses := [(74, .share)] })],
  [[3, 7, 9, 44, 45, 46]]⟩
def a7 : AFunc := ⟨3, 82, 2, [.tmp 6],
  .seq (.region false [⟨(some 3), none, false, .boxL 0 (.t 0), .none⟩,
    ⟨(some 6), none, false, .mv (.c (.bool false)), .none⟩])
  (.seq (.seq (.region false [⟨(some 16), none, false, .callF 9 [], .none⟩,
    ⟨(some 17), none, false, .un .not (.t 16), .none⟩])
  (.cond (.t 17)
   (.seq (.region false [⟨(some 6), none, false, .mv (.c (.bool false)), .none⟩])
   (.ret))
   (.skip)))
  (.seq (.region false [⟨(some 19), none, false, .load true 5 (.t 3) .copy, .none⟩,
    ⟨(some 20), none, false, .callF 14 [(.u 19 .share)], .none⟩,
    ⟨(some 18), none, false, .mv (.t 20), .none⟩,
    ⟨(some 21), none, false, .extract (.t 18) 0, .none⟩,
    ⟨(some 22), none, false, .extract (.t 18) 1, .none⟩,
    ⟨(some 7), none, false, .mv (.u 21 .share), .none⟩,
    ⟨(some 8), none, false, .mv (.t 22), .none⟩])
  (.seq (.seq (.region false [⟨(some 23), none, false, .mv (.t 8), .none⟩,
    ⟨(some 24), none, false, .bin .neq (.t 23) (.c (.int .i64 0)), .none⟩])
  (.cond (.t 24)
   (.seq (.region false [⟨(some 6), none, false, .mv (.c (.bool true)), .none⟩])
   (.ret))
   (.skip)))
  (.seq (.region false [⟨(some 25), none, false, .mv (.t 1), .none⟩,
    ⟨(some 26), none, false, .bin .and (.t 25) (.c (.int .i64 1023)), .none⟩,
    ⟨(some 27), none, false, .mv (.t 7), .none⟩,
    ⟨(some 28), none, false, .lenSl (.t 27), .none⟩,
    ⟨(some 29), none, false, .bin .rem (.t 26) (.t 28), .none⟩,
    ⟨(some 9), none, false, .mv (.t 29), .none⟩])
  (.seq (.seq (.region false [⟨(some 30), none, false, .mv (.t 7), .none⟩,
    ⟨(some 31), none, false, .mv (.t 9), .none⟩,
    ⟨(some 32), none, false, .indexSl 1 (.t 30) (.t 31), .none⟩,
    ⟨(some 33), none, false, .load false 1 (.t 32) .copy, .none⟩,
    ⟨(some 34), none, false, .mv (.t 2), .none⟩,
    ⟨(some 35), none, false, .bin .eql (.t 33) (.t 34), .none⟩])
  (.cond (.t 35)
   (.seq (.region false [⟨(some 6), none, false, .mv (.c (.bool true)), .none⟩])
   (.ret))
   (.skip)))
  (.seq (.region false [⟨(some 36), none, false, .buildSlice 1 [(.int .u8 0)] 0 [], .none⟩,
    ⟨(some 37), none, false, .mv (.t 7), .none⟩,
    ⟨(some 38), none, false, .append 1 (.u 36 .take) (.u 37 .take), .none⟩,
    ⟨(some 10), none, true, .mv (.u 38 .take), .none⟩])
  (.seq (.region false [⟨(some 39), none, false, .mv (.u 10 .peek), .none⟩,
    ⟨(some 40), none, false, .mv (.t 9), .none⟩,
    ⟨(some 41), none, false, .mv (.t 2), .none⟩,
    ⟨(some 42), none, false, .indexSl 1 (.t 39) (.t 40), .none⟩,
    ⟨none, none, false, .store 1 (.t 42) (.t 41), .none⟩])
  (.seq (.region false [⟨(some 11), none, false, .allocM [.nils], .none⟩])
  (.seq (.seq (.region false [⟨(some 43), none, false, .mv (.u 10 .take), .none⟩,
    ⟨(some 44), none, true, .callF 11 [(.t 11), (.u 43 .share)], .none⟩,
    ⟨(some 45), none, false, .lenSl (.u 44 .peek), .none⟩,
    ⟨(some 46), none, false, .mv (.c (.int .i64 0)), .none⟩])
  (.block 0 (.loop [3, 7, 9, 44, 45, 46] (.seq (.region false [⟨(some 47), none, false, .bin .lss (.t 46) (.t 45), .none⟩])
   (.seq (.cond (.t 47)
    (.skip)
    (.exit 0))
   (.seq (.block 1 (.seq (.region false [⟨(some 48), none, false, .indexSl 6 (.u 44 .peek) (.t 46), .none⟩,
     ⟨(some 49), none, false, .load true 6 (.t 48) .copy, .none⟩,
     ⟨(some 13), none, false, .allocL 1 [(.int .i64 0), (.int .i64 0), (.int .i64 0), (.int .i64 0), .nils, (.int .i64 0)], .none⟩,
     ⟨none, none, false, .store 6 (.t 13) (.u 49 .share), .none⟩])
   (.seq (.region false [⟨(some 50), none, false, .fieldAddr 0 (.t 13), .none⟩,
     ⟨(some 51), none, false, .fieldAddr 0 (.t 50), .none⟩,
     ⟨(some 52), none, false, .load false 1 (.t 51) .copy, .none⟩,
     ⟨(some 53), none, false, .fieldAddr 0 (.t 3), .none⟩,
     ⟨(some 54), none, false, .load false 1 (.t 53) .copy, .none⟩,
     ⟨(some 55), none, false, .bin .eql (.t 52) (.t 54), .none⟩,
     ⟨(some 56), none, false, .mv (.t 55), .none⟩,
     ⟨(some 57), (some (56, true)), false, .fieldAddr 0 (.t 13), .none⟩,
     ⟨(some 58), (some (56, true)), false, .fieldAddr 4 (.t 57), .none⟩,
     ⟨(some 59), (some (56, true)), false, .load false 1 (.t 58) .copy, .none⟩,
     ⟨(some 60), (some (56, true)), false, .lenSl (.t 59), .none⟩,
     ⟨(some 61), (some (56, true)), false, .fieldAddr 4 (.t 3), .none⟩,
     ⟨(some 62), (some (56, true)), false, .load false 1 (.t 61) .copy, .none⟩,
     ⟨(some 63), (some (56, true)), false, .lenSl (.t 62), .none⟩,
     ⟨(some 64), (some (56, true)), false, .bin .eql (.t 60) (.t 63), .none⟩,
     ⟨(some 65), none, false, .pick (.t 56) (.t 64) (.c (.bool false)), .none⟩,
     ⟨(some 66), none, false, .mv (.t 65), .none⟩,
     ⟨(some 67), (some (66, true)), false, .mv (.t 9), .none⟩,
     ⟨(some 68), (some (66, true)), false, .bin .neq (.t 67) (.c (.int .i64 1)), .none⟩,
     ⟨(some 69), none, false, .pick (.t 66) (.t 68) (.c (.bool false)), .none⟩])
   (.cond (.t 69)
    (.seq (.region false [⟨(some 71), none, false, .fieldAddr 0 (.t 13), .none⟩,
      ⟨(some 72), none, false, .load true 5 (.t 71) .copy, .none⟩,
      ⟨(some 73), none, false, .callF 14 [(.u 72 .share)], .none⟩,
      ⟨(some 70), none, false, .mv (.t 73), .none⟩,
      ⟨(some 74), none, false, .extract (.t 70) 0, .none⟩,
      ⟨(some 75), none, false, .extract (.t 70) 1, .none⟩,
      ⟨(some 14), none, false, .mv (.u 74 .share), .none⟩,
      ⟨(some 15), none, false, .mv (.t 75), .none⟩])
    (.seq (.region false [⟨(some 76), none, false, .mv (.t 14), .none⟩,
      ⟨(some 77), none, false, .lenSl (.t 76), .none⟩,
      ⟨(some 78), none, false, .mv (.t 7), .none⟩,
      ⟨(some 79), none, false, .lenSl (.t 78), .none⟩,
      ⟨(some 80), none, false, .bin .eql (.t 77) (.t 79), .none⟩])
    (.cond (.t 80)
     (.seq (.region false [⟨(some 6), none, false, .mv (.c (.bool false)), .none⟩])
     (.ret))
     (.skip))))
    (.skip)))))
   (.region false [⟨(some 81), none, false, .bin .add (.t 46) (.c (.int .i64 1)), .none⟩,
     ⟨(some 46), none, false, .mv (.t 81), .none⟩])))))))
  (.seq (.region false [⟨(some 6), none, false, .mv (.c (.bool true)), .none⟩])
  (.ret)))))))))))⟩
def v7 : List Nat := [0, 1, 2, 3, 6, 7, 8, 9, 10, 11, 13, 14, 17, 24, 35, 44, 45, 46, 47, 69, 80]
def b7 : List Nat := [0, 1]
-- behind t17: [1, 2, 3]
-- behind t24: [1, 2, 3, 7]
-- behind t35: [2, 3, 7, 9]
-- behind t47: [3, 7, 9, 44, 45, 46]
-- behind t69: [3, 7, 9, 44, 45, 46]
-- behind t80: [3, 7, 9, 44, 45, 46]
theorem c7 : cFunc Proofs.Try.prog p7 7 = some a7 := by decide +kernel

-- 8 casement/casementlaw20.FrameWaits
def p8 : Plan := ⟨[], 1, [((12, 14), { mark := (.loc 0) }),
    ((12, 13), { mark := .free }),
    ((12, 12), { mark := .free }),
    ((12, 7), { mark := .free }),
    ((12, 5), { mark := .free }),
    ((12, 1), { mark := .free }),
    ((0, 0), { box := some 0 }),
    ((3, 1), { uses := [(14, .share)] }),
    ((3, 5), { uses := [(16, .share)] }),
    ((8, 3), { uses := [(34, .share)] }),
    ((8, 4), { uses := [(35, .share)] }),
    ((11, 3), { uses := [(46, .share)] }),
    ((11, 4), { uses := [(47, .share)] }),
    ((12, 15), { uses := [(62, .share)] }),
    ((12, 16), { uses := [(61, .share), (63, .share)] })],
  []⟩
def a8 : AFunc := ⟨2, 70, 1, [.tmp 4],
  .seq (.region false [⟨(some 2), none, false, .boxL 0 (.t 0), .none⟩,
    ⟨(some 4), none, false, .mv (.c (.bool false)), .none⟩])
  (.seq (.seq (.region false [⟨(some 11), none, false, .callF 9 [], .none⟩,
    ⟨(some 12), none, false, .un .not (.t 11), .none⟩])
  (.cond (.t 12)
   (.seq (.region false [⟨(some 4), none, false, .mv (.c (.bool false)), .none⟩])
   (.ret))
   (.skip)))
  (.seq (.region false [⟨(some 14), none, false, .load true 5 (.t 2) .copy, .none⟩,
    ⟨(some 15), none, false, .callF 14 [(.u 14 .share)], .none⟩,
    ⟨(some 13), none, false, .mv (.t 15), .none⟩,
    ⟨(some 16), none, false, .extract (.t 13) 0, .none⟩,
    ⟨(some 17), none, false, .extract (.t 13) 1, .none⟩,
    ⟨(some 5), none, false, .mv (.u 16 .share), .none⟩,
    ⟨(some 6), none, false, .mv (.t 17), .none⟩])
  (.seq (.seq (.region false [⟨(some 18), none, false, .mv (.t 6), .none⟩,
    ⟨(some 19), none, false, .bin .neq (.t 18) (.c (.int .i64 0)), .none⟩])
  (.cond (.t 19)
   (.seq (.region false [⟨(some 20), none, false, .mv (.t 5), .none⟩,
     ⟨(some 21), none, false, .lenSl (.t 20), .none⟩,
     ⟨(some 22), none, false, .bin .eql (.t 21) (.c (.int .i64 0)), .none⟩,
     ⟨(some 23), none, false, .mv (.t 22), .none⟩,
     ⟨(some 24), (some (23, true)), false, .mv (.t 6), .none⟩,
     ⟨(some 25), (some (23, true)), false, .bin .eql (.t 24) (.c (.int .i64 200)), .none⟩,
     ⟨(some 26), none, false, .pick (.t 23) (.t 25) (.c (.bool false)), .none⟩,
     ⟨(some 4), none, false, .mv (.t 26), .none⟩])
   (.ret))
   (.skip)))
  (.seq (.region false [⟨(some 27), none, false, .mv (.t 1), .none⟩,
    ⟨(some 28), none, false, .bin .and (.t 27) (.c (.int .i64 1023)), .none⟩,
    ⟨(some 29), none, false, .mv (.t 5), .none⟩,
    ⟨(some 30), none, false, .lenSl (.t 29), .none⟩,
    ⟨(some 31), none, false, .bin .rem (.t 28) (.t 30), .none⟩,
    ⟨(some 7), none, false, .mv (.t 31), .none⟩])
  (.seq (.region false [⟨(some 8), none, false, .allocM [.nils], .none⟩])
  (.seq (.region false [⟨(some 32), none, false, .mv (.t 5), .none⟩,
    ⟨(some 33), none, false, .mv (.t 7), .none⟩,
    ⟨(some 34), none, false, .sliceV 1 (.t 32) none (some (.t 33)), .none⟩,
    ⟨(some 35), none, false, .callF 11 [(.t 8), (.u 34 .share)], .none⟩,
    ⟨(some 9), none, false, .mv (.u 35 .share), .none⟩])
  (.seq (.seq (.region false [⟨(some 36), none, false, .mv (.t 9), .none⟩,
    ⟨(some 37), none, false, .lenSl (.t 36), .none⟩,
    ⟨(some 38), none, false, .bin .neq (.t 37) (.c (.int .i64 0)), .none⟩,
    ⟨(some 39), none, false, .mv (.t 38), .none⟩,
    ⟨(some 40), (some (39, false)), false, .callF 12 [(.t 8)], .none⟩,
    ⟨(some 41), (some (39, false)), false, .mv (.t 7), .none⟩,
    ⟨(some 42), (some (39, false)), false, .bin .neq (.t 40) (.t 41), .none⟩,
    ⟨(some 43), none, false, .pick (.t 39) (.c (.bool true)) (.t 42), .none⟩])
  (.cond (.t 43)
   (.seq (.region false [⟨(some 4), none, false, .mv (.c (.bool false)), .none⟩])
   (.ret))
   (.skip)))
  (.seq (.region false [⟨(some 44), none, false, .mv (.t 5), .none⟩,
    ⟨(some 45), none, false, .mv (.t 7), .none⟩,
    ⟨(some 46), none, false, .sliceV 1 (.t 44) (some (.t 45)) none, .none⟩,
    ⟨(some 47), none, false, .callF 11 [(.t 8), (.u 46 .share)], .none⟩,
    ⟨(some 10), none, false, .mv (.u 47 .share), .none⟩])
  (.seq (.region true [⟨(some 48), none, false, .mv (.t 10), .none⟩,
    ⟨(some 49), none, false, .lenSl (.t 48), .free⟩,
    ⟨(some 50), none, false, .bin .eql (.t 49) (.c (.int .i64 1)), .none⟩,
    ⟨(some 51), none, false, .mv (.t 50), .none⟩,
    ⟨(some 52), (some (51, true)), false, .mv (.t 10), .none⟩,
    ⟨(some 53), (some (51, true)), false, .indexSl 6 (.t 52) (.c (.int .i64 0)), .free⟩,
    ⟨(some 54), (some (51, true)), false, .fieldAddr 5 (.t 53), .none⟩,
    ⟨(some 55), (some (51, true)), false, .load false 1 (.t 54) .copy, .free⟩,
    ⟨(some 56), (some (51, true)), false, .bin .eql (.t 55) (.c (.int .i64 0)), .none⟩,
    ⟨(some 57), none, false, .pick (.t 51) (.t 56) (.c (.bool false)), .none⟩,
    ⟨(some 58), none, false, .mv (.t 57), .none⟩,
    ⟨(some 59), (some (58, true)), false, .mv (.t 10), .none⟩,
    ⟨(some 60), (some (58, true)), false, .indexSl 6 (.t 59) (.c (.int .i64 0)), .free⟩,
    ⟨(some 61), (some (58, true)), false, .load true 6 (.t 60) .copy, .free⟩,
    ⟨(some 62), (some (58, true)), false, .load true 5 (.t 2) .copy, (.loc 0)⟩,
    ⟨(some 63), (some (58, true)), false, .callF 16 [(.u 62 .share)], .none⟩,
    ⟨(some 64), (some (58, true)), false, .callF 13 [(.u 61 .share), (.u 63 .share)], .none⟩,
    ⟨(some 65), none, false, .pick (.t 58) (.t 64) (.c (.bool false)), .none⟩,
    ⟨(some 66), none, false, .mv (.t 65), .none⟩,
    ⟨(some 67), (some (66, true)), false, .callF 12 [(.t 8)], .none⟩,
    ⟨(some 68), (some (66, true)), false, .bin .eql (.t 67) (.c (.int .i64 0)), .none⟩,
    ⟨(some 69), none, false, .pick (.t 66) (.t 68) (.c (.bool false)), .none⟩,
    ⟨(some 4), none, false, .mv (.t 69), .none⟩])
  (.ret))))))))))⟩
def v8 : List Nat := [0, 1, 2, 4, 5, 6, 7, 8, 9, 10, 12, 19, 43]
def b8 : List Nat := [0]
-- behind t12: [1, 2]
-- behind t19: [1, 2, 5]
-- behind t43: [2, 5, 7, 8]
theorem c8 : cFunc Proofs.Try.prog p8 8 = some a8 := by decide +kernel

-- 9 casement/casementlaw20.alive
def p9 : Plan := ⟨[71], 0, [((2, 1), { uses := [(9, .share)] }),
    ((2, 2), { uses := [(10, .share)] }),
    ((3, 1), { uses := [(11, .share)] }),
    ((3, 2), { uses := [(12, .share)] }),
    ((4, 1), { uses := [(13, .share)] }),
    ((4, 2), { uses := [(14, .share)] }),
    ((5, 1), { uses := [(16, .share)] }),
    ((5, 5), { uses := [(18, .share)] }),
    ((6, 42), { uses := [(60, .share), (61, .share)] }),
    ((6, 50), { uses := [(69, .take)] }),
    ((6, 51), { uses := [(70, .share)] }),
    ((6, 52), { uses := [(71, .peek)] })],
  []⟩
def a9 : AFunc := ⟨0, 75, 0, [.tmp 0],
  .seq (.region false [⟨(some 0), none, false, .mv (.c (.bool false)), .none⟩])
  (.seq (.region false [⟨(some 1), none, false, .allocM [.nils], .none⟩,
    ⟨(some 2), none, false, .allocM [.nils], .none⟩,
    ⟨(some 3), none, false, .allocM [.nils], .none⟩])
  (.seq (.region false [⟨(some 9), none, false, .buildSlice 1 [(.int .u8 0)] 7 [(0, (.c (.int .u8 1))), (1, (.c (.int .u8 2))), (2, (.c (.int .u8 197))), (3, (.c (.int .u8 4))), (4, (.c (.int .u8 0))), (5, (.c (.int .u8 0))), (6, (.c (.int .u8 4)))], .none⟩,
    ⟨(some 10), none, false, .callF 11 [(.t 1), (.u 9 .share)], .none⟩,
    ⟨(some 4), none, false, .mv (.u 10 .share), .none⟩])
  (.seq (.region false [⟨(some 11), none, false, .buildSlice 1 [(.int .u8 0)] 2 [(0, (.c (.int .u8 197))), (1, (.c (.int .u8 9)))], .none⟩,
    ⟨(some 12), none, false, .callF 11 [(.t 2), (.u 11 .share)], .none⟩,
    ⟨(some 5), none, false, .mv (.u 12 .share), .none⟩])
  (.seq (.region false [⟨(some 13), none, false, .buildSlice 1 [(.int .u8 0)] 3 [(0, (.c (.int .u8 197))), (1, (.c (.int .u8 4))), (2, (.c (.int .u8 0)))], .none⟩,
    ⟨(some 14), none, false, .callF 11 [(.t 3), (.u 13 .share)], .none⟩,
    ⟨(some 6), none, false, .mv (.u 14 .share), .none⟩])
  (.seq (.region false [⟨(some 16), none, false, .build [(.int .i64 0), (.int .i64 0), (.int .i64 0), (.int .i64 0), .nils] [(0, 1, (.c (.int .i64 4)))], .none⟩,
    ⟨(some 17), none, false, .callF 14 [(.u 16 .share)], .none⟩,
    ⟨(some 15), none, false, .mv (.t 17), .none⟩,
    ⟨(some 18), none, false, .extract (.t 15) 0, .none⟩,
    ⟨(some 19), none, false, .extract (.t 15) 1, .none⟩,
    ⟨(some 7), none, false, .mv (.u 18 .share), .none⟩,
    ⟨(some 8), none, false, .mv (.t 19), .none⟩])
  (.seq (.region false [⟨(some 20), none, false, .mv (.t 4), .none⟩,
    ⟨(some 21), none, false, .lenSl (.t 20), .none⟩,
    ⟨(some 22), none, false, .bin .eql (.t 21) (.c (.int .i64 2)), .none⟩,
    ⟨(some 23), none, false, .mv (.t 22), .none⟩,
    ⟨(some 24), (some (23, true)), false, .mv (.t 4), .none⟩,
    ⟨(some 25), (some (23, true)), false, .indexSl 6 (.t 24) (.c (.int .i64 0)), .none⟩,
    ⟨(some 26), (some (23, true)), false, .fieldAddr 5 (.t 25), .none⟩,
    ⟨(some 27), (some (23, true)), false, .load false 1 (.t 26) .copy, .none⟩,
    ⟨(some 28), (some (23, true)), false, .bin .eql (.t 27) (.c (.int .i64 2)), .none⟩,
    ⟨(some 29), none, false, .pick (.t 23) (.t 28) (.c (.bool false)), .none⟩,
    ⟨(some 30), none, false, .mv (.t 29), .none⟩,
    ⟨(some 31), (some (30, true)), false, .mv (.t 4), .none⟩,
    ⟨(some 32), (some (30, true)), false, .indexSl 6 (.t 31) (.c (.int .i64 1)), .none⟩,
    ⟨(some 33), (some (30, true)), false, .fieldAddr 0 (.t 32), .none⟩,
    ⟨(some 34), (some (30, true)), false, .fieldAddr 0 (.t 33), .none⟩,
    ⟨(some 35), (some (30, true)), false, .load false 1 (.t 34) .copy, .none⟩,
    ⟨(some 36), (some (30, true)), false, .bin .eql (.t 35) (.c (.int .i64 4)), .none⟩,
    ⟨(some 37), none, false, .pick (.t 30) (.t 36) (.c (.bool false)), .none⟩,
    ⟨(some 38), none, false, .mv (.t 37), .none⟩,
    ⟨(some 39), (some (38, true)), false, .mv (.t 5), .none⟩,
    ⟨(some 40), (some (38, true)), false, .lenSl (.t 39), .none⟩,
    ⟨(some 41), (some (38, true)), false, .bin .eql (.t 40) (.c (.int .i64 1)), .none⟩,
    ⟨(some 42), none, false, .pick (.t 38) (.t 41) (.c (.bool false)), .none⟩,
    ⟨(some 43), none, false, .mv (.t 42), .none⟩,
    ⟨(some 44), (some (43, true)), false, .mv (.t 5), .none⟩,
    ⟨(some 45), (some (43, true)), false, .indexSl 6 (.t 44) (.c (.int .i64 0)), .none⟩,
    ⟨(some 46), (some (43, true)), false, .fieldAddr 5 (.t 45), .none⟩,
    ⟨(some 47), (some (43, true)), false, .load false 1 (.t 46) .copy, .none⟩,
    ⟨(some 48), (some (43, true)), false, .bin .eql (.t 47) (.c (.int .i64 2)), .none⟩,
    ⟨(some 49), none, false, .pick (.t 43) (.t 48) (.c (.bool false)), .none⟩,
    ⟨(some 50), none, false, .mv (.t 49), .none⟩,
    ⟨(some 51), (some (50, true)), false, .mv (.t 6), .none⟩,
    ⟨(some 52), (some (50, true)), false, .lenSl (.t 51), .none⟩,
    ⟨(some 53), (some (50, true)), false, .bin .eql (.t 52) (.c (.int .i64 0)), .none⟩,
    ⟨(some 54), none, false, .pick (.t 50) (.t 53) (.c (.bool false)), .none⟩,
    ⟨(some 55), none, false, .mv (.t 54), .none⟩,
    ⟨(some 56), (some (55, true)), false, .callF 12 [(.t 3)], .none⟩,
    ⟨(some 57), (some (55, true)), false, .bin .eql (.t 56) (.c (.int .i64 3)), .none⟩,
    ⟨(some 58), none, false, .pick (.t 55) (.t 57) (.c (.bool false)), .none⟩,
    ⟨(some 59), none, false, .mv (.t 58), .none⟩,
    ⟨(some 60), (some (59, true)), false, .mv (.t 7), .none⟩,
    ⟨(some 61), (some (59, true)), false, .buildSlice 1 [(.int .u8 0)] 5 [(0, (.c (.int .u8 197))), (1, (.c (.int .u8 4))), (2, (.c (.int .u8 0))), (3, (.c (.int .u8 0))), (4, (.c (.int .u8 4)))], .none⟩,
    ⟨(some 62), (some (59, true)), false, .callF 17 [(.u 60 .share), (.u 61 .share)], .none⟩,
    ⟨(some 63), none, false, .pick (.t 59) (.t 62) (.c (.bool false)), .none⟩,
    ⟨(some 64), none, false, .mv (.t 63), .none⟩,
    ⟨(some 65), (some (64, true)), false, .mv (.t 8), .none⟩,
    ⟨(some 66), (some (64, true)), false, .bin .eql (.t 65) (.c (.int .i64 0)), .none⟩,
    ⟨(some 67), none, false, .pick (.t 64) (.t 66) (.c (.bool false)), .none⟩,
    ⟨(some 68), none, false, .mv (.t 67), .none⟩,
    ⟨(some 69), (some (68, true)), false, .buildSlice 1 [(.int .u8 0)] 1 [(0, (.c (.int .u8 120)))], .none⟩,
    ⟨(some 70), (some (68, true)), false, .convB (.u 69 .take), .none⟩,
    ⟨(some 71), (some (68, true)), true, .callF 18 [(.u 70 .share)], .none⟩,
    ⟨(some 72), (some (68, true)), false, .lenSl (.u 71 .peek), .none⟩,
    ⟨(some 73), (some (68, true)), false, .bin .eql (.t 72) (.c (.int .i64 6)), .none⟩,
    ⟨(some 74), none, false, .pick (.t 68) (.t 73) (.c (.bool false)), .none⟩,
    ⟨(some 0), none, false, .mv (.t 74), .none⟩])
  (.ret)))))))⟩
def v9 : List Nat := [0, 1, 2, 3, 4, 5, 6, 7, 8]
def b9 : List Nat := []
theorem c9 : cFunc Proofs.Try.prog p9 9 = some a9 := by decide +kernel

-- 10 casement/casementref20.Feed
def p10 : Plan := ⟨[], 1, [((1, 1), { uses := [(10, .take)] }),
    ((5, 3), { uses := [(18, .share)] }),
    ((5, 8), { box := some 0 }),
    ((5, 9), { uses := [(20, .share)] }),
    ((11, 0), { uses := [(4, .take)] }),
    ((11, 3), { uses := [(38, .share)] }),
    ((11, 4), { uses := [(36, .take), (39, .take)] }),
    ((11, 5), { uses := [(40, .take)] }),
    ((13, 0), { uses := [(4, .take)] }),
    ((13, 2), { uses := [(42, .share)] }),
    ((13, 3), { uses := [(41, .take), (43, .take)] }),
    ((13, 4), { uses := [(44, .take)] }),
    ((16, 0), { uses := [(4, .take)] }),
    ((16, 3), { uses := [(52, .share)] }),
    ((16, 4), { uses := [(50, .take), (53, .take)] }),
    ((16, 5), { uses := [(54, .take)] }),
    ((17, 0), { uses := [(4, .take)] }),
    ((17, 4), { uses := [(55, .share)] }),
    ((17, 5), { uses := [(58, .share)] })],
  [[0, 4, 5, 6]]⟩
def a10 : AFunc := ⟨1, 59, 1, [.tmp 2, .tmp 3],
  .seq (.region false [⟨(some 2), none, false, .mv (.c .nils), .none⟩,
    ⟨(some 3), none, false, .mv (.c .nils), .none⟩])
  (.seq (.region false [⟨(some 10), none, false, .buildSlice 6 [(.int .i64 0), (.int .i64 0), (.int .i64 0), (.int .i64 0), (.int .i64 0), .nils] 0 [], .none⟩,
    ⟨(some 4), none, false, .mv (.u 10 .take), .none⟩])
  (.seq (.region false [⟨(some 5), none, false, .mv (.c (.int .i64 0)), .none⟩])
  (.seq (.region false [⟨(some 6), none, false, .mv (.c (.int .i64 0)), .none⟩])
  (.seq (.block 0 (.loop [0, 4, 5, 6] (.seq (.seq (.region false [⟨(some 11), none, false, .mv (.t 6), .none⟩,
     ⟨(some 12), none, false, .mv (.t 0), .none⟩,
     ⟨(some 13), none, false, .lenSl (.t 12), .none⟩,
     ⟨(some 14), none, false, .bin .lss (.t 11) (.t 13), .none⟩])
   (.cond (.t 14)
    (.skip)
    (.exit 0)))
   (.block 1 (.seq (.region false [⟨(some 16), none, false, .mv (.t 0), .none⟩,
     ⟨(some 17), none, false, .mv (.t 6), .none⟩,
     ⟨(some 18), none, false, .sliceV 1 (.t 16) (some (.t 17)) none, .none⟩,
     ⟨(some 19), none, false, .callF 19 [(.u 18 .share)], .none⟩,
     ⟨(some 15), none, false, .mv (.t 19), .none⟩,
     ⟨(some 20), none, false, .extract (.t 15) 0, .none⟩,
     ⟨(some 21), none, false, .extract (.t 15) 1, .none⟩,
     ⟨(some 22), none, false, .extract (.t 15) 2, .none⟩,
     ⟨(some 7), none, false, .allocL 0 [(.int .i64 0), (.int .i64 0), (.int .i64 0), (.int .i64 0), (.int .i64 0), .nils], .none⟩,
     ⟨none, none, false, .store 6 (.t 7) (.u 20 .share), .none⟩,
     ⟨(some 8), none, false, .mv (.t 21), .none⟩,
     ⟨(some 9), none, false, .mv (.t 22), .none⟩])
   (.seq (.seq (.region false [⟨(some 23), none, false, .mv (.t 8), .none⟩,
     ⟨(some 24), none, false, .bin .eql (.t 23) (.c (.int .i64 0)), .none⟩,
     ⟨(some 25), none, false, .mv (.t 24), .none⟩,
     ⟨(some 26), (some (25, true)), false, .mv (.t 9), .none⟩,
     ⟨(some 27), none, false, .pick (.t 25) (.t 26) (.c (.bool false)), .none⟩])
   (.cond (.t 27)
    (.exit 0)
    (.skip)))
   (.seq (.seq (.region false [⟨(some 28), none, false, .mv (.t 8), .none⟩,
     ⟨(some 29), none, false, .bin .eql (.t 28) (.c (.int .i64 0)), .none⟩])
   (.cond (.t 29)
    (.seq (.region false [⟨(some 30), none, false, .mv (.t 5), .none⟩,
      ⟨(some 31), none, false, .bin .add (.t 30) (.c (.int .i64 1)), .none⟩,
      ⟨(some 5), none, false, .mv (.t 31), .none⟩])
    (.seq (.region false [⟨(some 32), none, false, .mv (.t 6), .none⟩,
      ⟨(some 33), none, false, .bin .add (.t 32) (.c (.int .i64 1)), .none⟩,
      ⟨(some 6), none, false, .mv (.t 33), .none⟩])
    (.exit 1)))
    (.skip)))
   (.seq (.seq (.region false [⟨(some 34), none, false, .mv (.t 5), .none⟩,
     ⟨(some 35), none, false, .bin .gtr (.t 34) (.c (.int .i64 0)), .none⟩])
   (.cond (.t 35)
    (.region false [⟨(some 36), none, false, .mv (.u 4 .take), .none⟩,
      ⟨(some 37), none, false, .mv (.t 5), .none⟩,
      ⟨(some 38), none, false, .build [(.int .i64 0), (.int .i64 0), (.int .i64 0), (.int .i64 0), (.int .i64 0), .nils] [(4, 1, (.t 37))], .none⟩,
      ⟨(some 39), none, false, .buildSlice 6 [(.int .i64 0), (.int .i64 0), (.int .i64 0), (.int .i64 0), (.int .i64 0), .nils] 1 [(0, (.u 38 .share))], .none⟩,
      ⟨(some 40), none, false, .append 6 (.u 36 .take) (.u 39 .take), .none⟩,
      ⟨(some 4), none, false, .mv (.u 40 .take), .none⟩])
    (.skip)))
   (.seq (.region false [⟨(some 5), none, false, .mv (.c (.int .i64 0)), .none⟩])
   (.seq (.region false [⟨(some 41), none, false, .mv (.u 4 .take), .none⟩,
     ⟨(some 42), none, false, .load true 6 (.t 7) .copy, .none⟩,
     ⟨(some 43), none, false, .buildSlice 6 [(.int .i64 0), (.int .i64 0), (.int .i64 0), (.int .i64 0), (.int .i64 0), .nils] 1 [(0, (.u 42 .share))], .none⟩,
     ⟨(some 44), none, false, .append 6 (.u 41 .take) (.u 43 .take), .none⟩,
     ⟨(some 4), none, false, .mv (.u 44 .take), .none⟩])
   (.region false [⟨(some 45), none, false, .mv (.t 6), .none⟩,
     ⟨(some 46), none, false, .mv (.t 8), .none⟩,
     ⟨(some 47), none, false, .bin .add (.t 45) (.t 46), .none⟩,
     ⟨(some 6), none, false, .mv (.t 47), .none⟩])))))))))))
  (.seq (.seq (.region false [⟨(some 48), none, false, .mv (.t 5), .none⟩,
    ⟨(some 49), none, false, .bin .gtr (.t 48) (.c (.int .i64 0)), .none⟩])
  (.cond (.t 49)
   (.region false [⟨(some 50), none, false, .mv (.u 4 .take), .none⟩,
     ⟨(some 51), none, false, .mv (.t 5), .none⟩,
     ⟨(some 52), none, false, .build [(.int .i64 0), (.int .i64 0), (.int .i64 0), (.int .i64 0), (.int .i64 0), .nils] [(4, 1, (.t 51))], .none⟩,
     ⟨(some 53), none, false, .buildSlice 6 [(.int .i64 0), (.int .i64 0), (.int .i64 0), (.int .i64 0), (.int .i64 0), .nils] 1 [(0, (.u 52 .share))], .none⟩,
     ⟨(some 54), none, false, .append 6 (.u 50 .take) (.u 53 .take), .none⟩,
     ⟨(some 4), none, false, .mv (.u 54 .take), .none⟩])
   (.skip)))
  (.seq (.region true [⟨(some 55), none, false, .mv (.u 4 .take), .none⟩,
    ⟨(some 56), none, false, .mv (.t 0), .none⟩,
    ⟨(some 57), none, false, .mv (.t 6), .none⟩,
    ⟨(some 58), none, false, .sliceV 1 (.t 56) (some (.t 57)) none, .none⟩,
    ⟨(some 2), none, false, .mv (.u 55 .share), .none⟩,
    ⟨(some 3), none, false, .mv (.u 58 .share), .none⟩])
  (.ret)))))))⟩
def v10 : List Nat := [0, 2, 3, 4, 5, 6, 7, 8, 9, 14, 27, 29, 35, 49]
def b10 : List Nat := [0]
-- behind t14: [0, 4, 5, 6]
-- behind t27: [0, 4, 5, 6, 7, 8]
-- behind t29: [0, 4, 5, 6, 7, 8]
-- behind t35: [0, 4, 6, 7, 8]
-- behind t49: [0, 4, 6]
theorem c10 : cFunc Proofs.Try.prog p10 10 = some a10 := by decide +kernel

-- 11 (*casement/frame.Reader).Feed
def p11 : Plan := ⟨[], 1, [((10, 5), { uses := [(69, .share)], mark := .free }),
    ((10, 4), { uses := [(68, .share)], mark := .free }),
    ((10, 3), { mark := (.loc 0) }),
    ((9, 11), { mark := .free }),
    ((9, 10), { mark := .free }),
    ((8, 14), { mark := .cool }),
    ((8, 13), { uses := [(49, .share)], mark := (.loc 0) }),
    ((8, 11), { mark := .cool }),
    ((8, 10), { mark := .cool }),
    ((8, 9), { mark := .cool }),
    ((8, 8), { uses := [(47, .share)], mark := .quiet }),
    ((8, 7), { mark := .cool }),
    ((8, 6), { mark := .cool }),
    ((8, 5), { mark := .cool }),
    ((8, 4), { mark := .cool }),
    ((8, 3), { mark := .cool }),
    ((8, 2), { mark := .free }),
    ((8, 1), { mark := .cool }),
    ((8, 0), { mark := .cool }),
    ((2, 4), { uses := [(15, .share)] }),
    ((2, 6), { uses := [(16, .take), (17, .take)] }),
    ((2, 7), { uses := [(18, .share)] }),
    ((5, 1), { uses := [(23, .share)] }),
    ((8, 12), { box := some 0 }),
    ((9, 6), { uses := [(56, .share)] }),
    ((10, 0), { uses := [(5, .take)] }),
    ((10, 2), { uses := [(65, .take)] }),
    ((10, 6), { uses := [(67, .take), (70, .take)] }),
    ((10, 7), { uses := [(71, .take)] }),
    ((11, 4), { uses := [(74, .share)] }),
    ((13, 2), { uses := [(78, .share)] }),
    ((14, 2), { uses := [(80, .share)] }),
    ((14, 5), { uses := [(81, .share)] }),
    ((15, 0), { uses := [(5, .take)] }),
    ((15, 2), { uses := [(84, .take)] }),
    ((15, 3), { uses := [(86, .take)] })],
  [[0, 5, 6, 7]]⟩
def a11 : AFunc := ⟨2, 87, 1, [.tmp 4],
  .seq (.region false [⟨(some 4), none, false, .mv (.c .nils), .none⟩])
  (.seq (.region false [⟨(some 5), none, false, .mv (.c .nils), .none⟩])
  (.seq (.region false [⟨(some 12), none, false, .mv (.t 0), .none⟩,
    ⟨(some 13), none, false, .nilCheck (.t 12), .none⟩,
    ⟨(some 14), none, false, .fieldAddr 0 (.t 13), .none⟩,
    ⟨(some 15), none, false, .load false 1 (.t 14) .copy, .none⟩,
    ⟨(some 16), none, false, .callF 20 [(.u 15 .share)], .none⟩,
    ⟨(some 17), none, false, .mv (.t 1), .none⟩,
    ⟨(some 18), none, false, .append 1 (.u 16 .take) (.u 17 .take), .none⟩,
    ⟨(some 6), none, false, .mv (.u 18 .share), .none⟩])
  (.seq (.region false [⟨(some 7), none, false, .mv (.c (.int .i64 0)), .none⟩])
  (.seq (.block 0 (.loop [0, 5, 6, 7] (.seq (.seq (.region false [⟨(some 19), none, false, .mv (.t 6), .none⟩,
     ⟨(some 20), none, false, .lenSl (.t 19), .none⟩,
     ⟨(some 21), none, false, .bin .gtr (.t 20) (.c (.int .i64 0)), .none⟩])
   (.cond (.t 21)
    (.skip)
    (.exit 0)))
   (.block 1 (.seq (.region false [⟨(some 23), none, false, .mv (.t 6), .none⟩,
     ⟨(some 24), none, false, .callF 21 [(.u 23 .share)], .none⟩,
     ⟨(some 22), none, false, .mv (.t 24), .none⟩,
     ⟨(some 25), none, false, .extract (.t 22) 0, .none⟩,
     ⟨(some 26), none, false, .extract (.t 22) 1, .none⟩,
     ⟨(some 8), none, false, .mv (.t 25), .none⟩,
     ⟨(some 9), none, false, .mv (.t 26), .none⟩])
   (.seq (.seq (.region false [⟨(some 27), none, false, .mv (.t 9), .none⟩,
     ⟨(some 28), none, false, .mv (.t 27), .none⟩,
     ⟨(some 29), (some (28, true)), false, .mv (.t 8), .none⟩,
     ⟨(some 30), (some (28, true)), false, .bin .eql (.t 29) (.c (.int .i64 0)), .none⟩,
     ⟨(some 31), (some (28, true)), false, .mv (.t 30), .none⟩,
     ⟨(some 32), (some (31, false)), false, .mv (.t 8), .none⟩,
     ⟨(some 33), (some (31, false)), false, .mv (.t 6), .none⟩,
     ⟨(some 34), (some (31, false)), false, .lenSl (.t 33), .none⟩,
     ⟨(some 35), (some (31, false)), false, .bin .gtr (.t 32) (.t 34), .none⟩,
     ⟨(some 36), (some (28, true)), false, .pick (.t 31) (.c (.bool true)) (.t 35), .none⟩,
     ⟨(some 37), none, false, .pick (.t 28) (.t 36) (.c (.bool false)), .none⟩])
   (.cond (.t 37)
    (.exit 0)
    (.skip)))
   (.seq (.seq (.region false [⟨(some 38), none, false, .mv (.t 9), .none⟩])
   (.cond (.t 38)
    (.seq (.region true [⟨(some 40), none, false, .mv (.t 6), .cool⟩,
      ⟨(some 41), none, false, .indexSl 1 (.t 40) (.c (.int .i64 1)), .cool⟩,
      ⟨(some 42), none, false, .load false 1 (.t 41) .copy, .free⟩,
      ⟨(some 43), none, false, .conv .i64 (.t 42), .cool⟩,
      ⟨(some 44), none, false, .mv (.t 6), .cool⟩,
      ⟨(some 45), none, false, .mv (.t 8), .cool⟩,
      ⟨(some 46), none, false, .bin .sub (.t 45) (.c (.int .i64 1)), .cool⟩,
      ⟨(some 47), none, false, .sliceV 1 (.t 44) (some (.c (.int .i64 4))) (some (.t 46)), .cool⟩,
      ⟨(some 48), none, false, .callF 22 [(.t 43), (.u 47 .share)], .quiet⟩,
      ⟨(some 39), none, false, .mv (.t 48), .cool⟩,
      ⟨(some 49), none, false, .extract (.t 39) 0, .cool⟩,
      ⟨(some 50), none, false, .extract (.t 39) 1, .cool⟩,
      ⟨(some 10), none, false, .allocL 0 [(.int .i64 0), (.int .i64 0), (.int .i64 0), (.int .i64 0), .nils], .none⟩,
      ⟨none, none, false, .store 5 (.t 10) (.u 49 .share), (.loc 0)⟩,
      ⟨(some 11), none, false, .mv (.t 50), .cool⟩])
    (.seq (.region true [⟨(some 51), none, false, .mv (.t 11), .none⟩,
      ⟨(some 52), none, false, .mv (.t 51), .none⟩,
      ⟨(some 53), (some (52, true)), false, .mv (.t 6), .none⟩,
      ⟨(some 54), (some (52, true)), false, .mv (.t 8), .none⟩,
      ⟨(some 55), (some (52, true)), false, .bin .sub (.t 54) (.c (.int .i64 1)), .none⟩,
      ⟨(some 56), (some (52, true)), false, .sliceV 1 (.t 53) (some (.c (.int .i64 1))) (some (.t 55)), .none⟩,
      ⟨(some 57), (some (52, true)), false, .callF 23 [(.u 56 .share)], .none⟩,
      ⟨(some 58), (some (52, true)), false, .mv (.t 6), .none⟩,
      ⟨(some 59), (some (52, true)), false, .mv (.t 8), .none⟩,
      ⟨(some 60), (some (52, true)), false, .bin .sub (.t 59) (.c (.int .i64 1)), .none⟩,
      ⟨(some 61), (some (52, true)), false, .indexSl 1 (.t 58) (.t 60), .free⟩,
      ⟨(some 62), (some (52, true)), false, .load false 1 (.t 61) .copy, .free⟩,
      ⟨(some 63), (some (52, true)), false, .bin .eql (.t 57) (.t 62), .none⟩,
      ⟨(some 64), none, false, .pick (.t 52) (.t 63) (.c (.bool false)), .none⟩])
    (.cond (.t 64)
     (.seq (.region true [⟨(some 65), none, false, .mv (.u 5 .take), .none⟩,
       ⟨(some 66), none, false, .mv (.t 7), .none⟩,
       ⟨(some 67), none, false, .callF 24 [(.u 65 .take), (.t 66)], .none⟩,
       ⟨(some 68), none, false, .load true 5 (.t 10) .copy, (.loc 0)⟩,
       ⟨(some 69), none, false, .build [(.int .i64 0), (.int .i64 0), (.int .i64 0), (.int .i64 0), .nils, (.int .i64 0)] [(0, 5, (.u 68 .share))], .free⟩,
       ⟨(some 70), none, false, .buildSlice 6 [(.int .i64 0), (.int .i64 0), (.int .i64 0), (.int .i64 0), .nils, (.int .i64 0)] 1 [(0, (.u 69 .share))], .free⟩,
       ⟨(some 71), none, false, .append 6 (.u 67 .take) (.u 70 .take), .none⟩,
       ⟨(some 5), none, false, .mv (.u 71 .take), .none⟩])
     (.seq (.region true [⟨(some 72), none, false, .mv (.t 6), .none⟩,
       ⟨(some 73), none, false, .mv (.t 8), .none⟩,
       ⟨(some 74), none, false, .sliceV 1 (.t 72) (some (.t 73)) none, .none⟩,
       ⟨(some 7), none, false, .mv (.c (.int .i64 0)), .none⟩,
       ⟨(some 6), none, false, .mv (.u 74 .share), .none⟩])
     (.exit 1)))
     (.skip))))
    (.skip)))
   (.seq (.region false [⟨(some 75), none, false, .mv (.t 7), .none⟩,
     ⟨(some 76), none, false, .bin .add (.t 75) (.c (.int .i64 1)), .none⟩,
     ⟨(some 7), none, false, .mv (.t 76), .none⟩])
   (.region false [⟨(some 77), none, false, .mv (.t 6), .none⟩,
     ⟨(some 78), none, false, .sliceV 1 (.t 77) (some (.c (.int .i64 1))) none, .none⟩,
     ⟨(some 6), none, false, .mv (.u 78 .share), .none⟩])))))))))
  (.seq (.region false [⟨(some 79), none, false, .mv (.t 0), .none⟩,
    ⟨(some 80), none, false, .mv (.t 6), .none⟩,
    ⟨(some 81), none, false, .callF 20 [(.u 80 .share)], .none⟩,
    ⟨(some 82), none, false, .nilCheck (.t 79), .none⟩,
    ⟨(some 83), none, false, .fieldAddr 0 (.t 82), .none⟩,
    ⟨none, none, false, .store 1 (.t 83) (.u 81 .share), .none⟩])
  (.seq (.region false [⟨(some 84), none, false, .mv (.u 5 .take), .none⟩,
    ⟨(some 85), none, false, .mv (.t 7), .none⟩,
    ⟨(some 86), none, false, .callF 24 [(.u 84 .take), (.t 85)], .none⟩,
    ⟨(some 4), none, false, .mv (.u 86 .take), .none⟩])
  (.ret)))))))⟩
def v11 : List Nat := [0, 1, 4, 5, 6, 7, 8, 9, 10, 11, 21, 37, 38, 64]
def b11 : List Nat := [0]
-- behind t21: [0, 5, 6, 7]
-- behind t37: [0, 5, 6, 7, 8, 9]
-- behind t38: [0, 5, 6, 7]
-- behind t64: [0, 5, 6, 7]
theorem c11 : cFunc Proofs.Try.prog p11 11 = some a11 := by decide +kernel

-- 12 (*casement/frame.Reader).Waits
def p12 : Plan := ⟨[], 0, [],
  []⟩
def a12 : AFunc := ⟨1, 8, 0, [.tmp 2],
  .seq (.region false [⟨(some 2), none, false, .mv (.c (.int .i64 0)), .none⟩])
  (.seq (.region false [⟨(some 3), none, false, .mv (.t 0), .none⟩,
    ⟨(some 4), none, false, .nilCheck (.t 3), .none⟩,
    ⟨(some 5), none, false, .fieldAddr 0 (.t 4), .none⟩,
    ⟨(some 6), none, false, .load false 1 (.t 5) .copy, .none⟩,
    ⟨(some 7), none, false, .lenSl (.t 6), .none⟩,
    ⟨(some 2), none, false, .mv (.t 7), .none⟩])
  (.ret))⟩
def v12 : List Nat := [0, 2]
def b12 : List Nat := []
theorem c12 : cFunc Proofs.Try.prog p12 12 = some a12 := by decide +kernel

-- 13 casement/casementlaw20.same
def p13 : Plan := ⟨[], 3, [((0, 0), { box := some 0 }),
    ((0, 1), { box := some 1 }),
    ((1, 2), { box := some 2 }),
    ((1, 3), { uses := [(7, .share)] }),
    ((2, 38), { uses := [(43, .share), (45, .share)] })],
  []⟩
def a13 : AFunc := ⟨2, 48, 3, [.tmp 4],
  .seq (.region false [⟨(some 2), none, false, .boxL 0 (.t 0), .none⟩,
    ⟨(some 3), none, false, .boxL 1 (.t 1), .none⟩,
    ⟨(some 4), none, false, .mv (.c (.bool false)), .none⟩])
  (.seq (.region false [⟨(some 6), none, false, .fieldAddr 0 (.t 2), .none⟩,
    ⟨(some 7), none, false, .load true 5 (.t 6) .copy, .none⟩,
    ⟨(some 5), none, false, .allocL 2 [(.int .i64 0), (.int .i64 0), (.int .i64 0), (.int .i64 0), .nils], .none⟩,
    ⟨none, none, false, .store 5 (.t 5) (.u 7 .share), .none⟩])
  (.seq (.region false [⟨(some 8), none, false, .fieldAddr 5 (.t 2), .none⟩,
    ⟨(some 9), none, false, .load false 1 (.t 8) .copy, .none⟩,
    ⟨(some 10), none, false, .fieldAddr 4 (.t 3), .none⟩,
    ⟨(some 11), none, false, .load false 1 (.t 10) .copy, .none⟩,
    ⟨(some 12), none, false, .bin .eql (.t 9) (.t 11), .none⟩,
    ⟨(some 13), none, false, .mv (.t 12), .none⟩,
    ⟨(some 14), (some (13, true)), false, .fieldAddr 0 (.t 5), .none⟩,
    ⟨(some 15), (some (13, true)), false, .load false 1 (.t 14) .copy, .none⟩,
    ⟨(some 16), (some (13, true)), false, .fieldAddr 0 (.t 3), .none⟩,
    ⟨(some 17), (some (13, true)), false, .load false 1 (.t 16) .copy, .none⟩,
    ⟨(some 18), (some (13, true)), false, .bin .eql (.t 15) (.t 17), .none⟩,
    ⟨(some 19), none, false, .pick (.t 13) (.t 18) (.c (.bool false)), .none⟩,
    ⟨(some 20), none, false, .mv (.t 19), .none⟩,
    ⟨(some 21), (some (20, true)), false, .fieldAddr 1 (.t 5), .none⟩,
    ⟨(some 22), (some (20, true)), false, .load false 1 (.t 21) .copy, .none⟩,
    ⟨(some 23), (some (20, true)), false, .fieldAddr 1 (.t 3), .none⟩,
    ⟨(some 24), (some (20, true)), false, .load false 1 (.t 23) .copy, .none⟩,
    ⟨(some 25), (some (20, true)), false, .bin .eql (.t 22) (.t 24), .none⟩,
    ⟨(some 26), none, false, .pick (.t 20) (.t 25) (.c (.bool false)), .none⟩,
    ⟨(some 27), none, false, .mv (.t 26), .none⟩,
    ⟨(some 28), (some (27, true)), false, .fieldAddr 2 (.t 5), .none⟩,
    ⟨(some 29), (some (27, true)), false, .load false 1 (.t 28) .copy, .none⟩,
    ⟨(some 30), (some (27, true)), false, .fieldAddr 2 (.t 3), .none⟩,
    ⟨(some 31), (some (27, true)), false, .load false 1 (.t 30) .copy, .none⟩,
    ⟨(some 32), (some (27, true)), false, .bin .eql (.t 29) (.t 31), .none⟩,
    ⟨(some 33), none, false, .pick (.t 27) (.t 32) (.c (.bool false)), .none⟩,
    ⟨(some 34), none, false, .mv (.t 33), .none⟩,
    ⟨(some 35), (some (34, true)), false, .fieldAddr 3 (.t 5), .none⟩,
    ⟨(some 36), (some (34, true)), false, .load false 1 (.t 35) .copy, .none⟩,
    ⟨(some 37), (some (34, true)), false, .fieldAddr 3 (.t 3), .none⟩,
    ⟨(some 38), (some (34, true)), false, .load false 1 (.t 37) .copy, .none⟩,
    ⟨(some 39), (some (34, true)), false, .bin .eql (.t 36) (.t 38), .none⟩,
    ⟨(some 40), none, false, .pick (.t 34) (.t 39) (.c (.bool false)), .none⟩,
    ⟨(some 41), none, false, .mv (.t 40), .none⟩,
    ⟨(some 42), (some (41, true)), false, .fieldAddr 4 (.t 5), .none⟩,
    ⟨(some 43), (some (41, true)), false, .load false 1 (.t 42) .copy, .none⟩,
    ⟨(some 44), (some (41, true)), false, .fieldAddr 5 (.t 3), .none⟩,
    ⟨(some 45), (some (41, true)), false, .load false 1 (.t 44) .copy, .none⟩,
    ⟨(some 46), (some (41, true)), false, .callF 17 [(.u 43 .share), (.u 45 .share)], .none⟩,
    ⟨(some 47), none, false, .pick (.t 41) (.t 46) (.c (.bool false)), .none⟩,
    ⟨(some 4), none, false, .mv (.t 47), .none⟩])
  (.ret)))⟩
def v13 : List Nat := [0, 1, 2, 3, 4, 5]
def b13 : List Nat := [0, 1, 2]
theorem c13 : cFunc Proofs.Try.prog p13 13 = some a13 := by decide +kernel

-- 14 casement/frame.Encode
def p14 : Plan := ⟨[9], 2, [((0, 0), { box := some 0 }),
    ((7, 15), { uses := [(38, .share)] }),
    ((9, 8), { uses := [(48, .share)] }),
    ((4, 2), { uses := [(20, .share)] }),
    ((12, 3), { uses := [(66, .share)] }),
    ((12, 7), { box := some 1 }),
    ((12, 8), { uses := [(68, .share)] }),
    ((15, 12), { uses := [(112, .take), (113, .take)] }),
    ((15, 13), { uses := [(114, .take)] }),
    ((16, 0), { uses := [(9, .peek)] }),
    ((16, 1), { uses := [(9, .peek)] }),
    ((16, 2), { uses := [(116, .take)], lend := true }),
    ((16, 3), { uses := [(117, .share)] }),
    ((16, 5), { uses := [(115, .take), (119, .take)] }),
    ((16, 6), { uses := [(120, .share)] })],
  []⟩
def a14 : AFunc := ⟨1, 121, 2, [.tmp 2, .tmp 3],
  .seq (.region false [⟨(some 1), none, false, .boxL 0 (.t 0), .none⟩,
    ⟨(some 2), none, false, .mv (.c .nils), .none⟩,
    ⟨(some 3), none, false, .mv (.c (.int .i64 0)), .none⟩])
  (.seq (.region false [⟨(some 11), none, false, .fieldAddr 0 (.t 1), .none⟩,
    ⟨(some 12), none, false, .load false 1 (.t 11) .copy, .none⟩,
    ⟨(some 13), none, false, .callF 25 [(.t 12)], .none⟩,
    ⟨(some 10), none, false, .mv (.t 13), .none⟩,
    ⟨(some 14), none, false, .extract (.t 10) 0, .none⟩,
    ⟨(some 15), none, false, .extract (.t 10) 1, .none⟩,
    ⟨(some 16), none, false, .extract (.t 10) 2, .none⟩,
    ⟨(some 4), none, false, .mv (.t 14), .none⟩,
    ⟨(some 5), none, false, .mv (.t 15), .none⟩,
    ⟨(some 6), none, false, .mv (.t 16), .none⟩])
  (.seq (.region false [⟨(some 7), none, false, .mv (.c .nils), .none⟩])
  (.seq (.seq (.region false [⟨(some 17), none, false, .fieldAddr 0 (.t 1), .none⟩,
    ⟨(some 18), none, false, .load false 1 (.t 17) .copy, .none⟩])
  (.block 0 (.seq (.seq (.region false [⟨(some 22), none, false, .bin .eql (.t 18) (.c (.int .i64 1)), .none⟩,
    ⟨(some 21), none, false, .mv (.t 22), .none⟩])
  (.cond (.t 21)
   (.skip)
   (.region false [⟨(some 23), none, false, .bin .eql (.t 18) (.c (.int .i64 3)), .none⟩,
     ⟨(some 21), none, false, .mv (.t 23), .none⟩])))
  (.cond (.t 21)
   (.region false [⟨(some 24), none, false, .fieldAddr 1 (.t 1), .none⟩,
     ⟨(some 25), none, false, .load false 1 (.t 24) .copy, .none⟩,
     ⟨(some 26), none, false, .conv .u8 (.t 25), .none⟩,
     ⟨(some 27), none, false, .fieldAddr 1 (.t 1), .none⟩,
     ⟨(some 28), none, false, .load false 1 (.t 27) .copy, .none⟩,
     ⟨(some 29), none, false, .bin .shr (.t 28) (.c (.int .u64 8)), .none⟩,
     ⟨(some 30), none, false, .conv .u8 (.t 29), .none⟩,
     ⟨(some 31), none, false, .fieldAddr 2 (.t 1), .none⟩,
     ⟨(some 32), none, false, .load false 1 (.t 31) .copy, .none⟩,
     ⟨(some 33), none, false, .conv .u8 (.t 32), .none⟩,
     ⟨(some 34), none, false, .fieldAddr 2 (.t 1), .none⟩,
     ⟨(some 35), none, false, .load false 1 (.t 34) .copy, .none⟩,
     ⟨(some 36), none, false, .bin .shr (.t 35) (.c (.int .u64 8)), .none⟩,
     ⟨(some 37), none, false, .conv .u8 (.t 36), .none⟩,
     ⟨(some 38), none, false, .buildSlice 1 [(.int .u8 0)] 4 [(0, (.t 26)), (1, (.t 30)), (2, (.t 33)), (3, (.t 37))], .none⟩,
     ⟨(some 7), none, false, .mv (.u 38 .share), .none⟩])
   (.seq (.region false [⟨(some 40), none, false, .bin .eql (.t 18) (.c (.int .i64 7)), .none⟩,
     ⟨(some 39), none, false, .mv (.t 40), .none⟩])
   (.cond (.t 39)
    (.region false [⟨(some 41), none, false, .fieldAddr 3 (.t 1), .none⟩,
      ⟨(some 42), none, false, .load false 1 (.t 41) .copy, .none⟩,
      ⟨(some 43), none, false, .conv .u8 (.t 42), .none⟩,
      ⟨(some 44), none, false, .fieldAddr 3 (.t 1), .none⟩,
      ⟨(some 45), none, false, .load false 1 (.t 44) .copy, .none⟩,
      ⟨(some 46), none, false, .bin .shr (.t 45) (.c (.int .u64 8)), .none⟩,
      ⟨(some 47), none, false, .conv .u8 (.t 46), .none⟩,
      ⟨(some 48), none, false, .buildSlice 1 [(.int .u8 0)] 2 [(0, (.t 43)), (1, (.t 47))], .none⟩,
      ⟨(some 7), none, false, .mv (.u 48 .share), .none⟩])
    (.region false [⟨(some 19), none, false, .fieldAddr 4 (.t 1), .none⟩,
      ⟨(some 20), none, false, .load false 1 (.t 19) .copy, .none⟩,
      ⟨(some 7), none, false, .mv (.u 20 .share), .none⟩])))))))
  (.seq (.seq (.region false [⟨(some 49), none, false, .mv (.t 6), .none⟩,
    ⟨(some 50), none, false, .un .not (.t 49), .none⟩,
    ⟨(some 51), none, false, .mv (.t 50), .none⟩,
    ⟨(some 52), (some (51, false)), false, .mv (.t 7), .none⟩,
    ⟨(some 53), (some (51, false)), false, .lenSl (.t 52), .none⟩,
    ⟨(some 54), (some (51, false)), false, .mv (.t 4), .none⟩,
    ⟨(some 55), (some (51, false)), false, .bin .lss (.t 53) (.t 54), .none⟩,
    ⟨(some 56), none, false, .pick (.t 51) (.c (.bool true)) (.t 55), .none⟩,
    ⟨(some 57), none, false, .mv (.t 56), .none⟩,
    ⟨(some 58), (some (57, false)), false, .mv (.t 7), .none⟩,
    ⟨(some 59), (some (57, false)), false, .lenSl (.t 58), .none⟩,
    ⟨(some 60), (some (57, false)), false, .mv (.t 5), .none⟩,
    ⟨(some 61), (some (57, false)), false, .bin .gtr (.t 59) (.t 60), .none⟩,
    ⟨(some 62), none, false, .pick (.t 57) (.c (.bool true)) (.t 61), .none⟩])
  (.cond (.t 62)
   (.seq (.region false [⟨(some 2), none, false, .mv (.c .nils), .none⟩,
     ⟨(some 3), none, false, .mv (.c (.int .i64 200)), .none⟩])
   (.ret))
   (.skip)))
  (.seq (.region false [⟨(some 64), none, false, .fieldAddr 0 (.t 1), .none⟩,
    ⟨(some 65), none, false, .load false 1 (.t 64) .copy, .none⟩,
    ⟨(some 66), none, false, .mv (.t 7), .none⟩,
    ⟨(some 67), none, false, .callF 22 [(.t 65), (.u 66 .share)], .none⟩,
    ⟨(some 63), none, false, .mv (.t 67), .none⟩,
    ⟨(some 68), none, false, .extract (.t 63) 0, .none⟩,
    ⟨(some 69), none, false, .extract (.t 63) 1, .none⟩,
    ⟨(some 8), none, false, .allocL 1 [(.int .i64 0), (.int .i64 0), (.int .i64 0), (.int .i64 0), .nils], .none⟩,
    ⟨none, none, false, .store 5 (.t 8) (.u 68 .share), .none⟩,
    ⟨(some 6), none, false, .mv (.t 69), .none⟩])
  (.seq (.seq (.region false [⟨(some 70), none, false, .mv (.t 6), .none⟩,
    ⟨(some 71), none, false, .un .not (.t 70), .none⟩,
    ⟨(some 72), none, false, .mv (.t 71), .none⟩,
    ⟨(some 73), (some (72, false)), false, .fieldAddr 1 (.t 8), .none⟩,
    ⟨(some 74), (some (72, false)), false, .load false 1 (.t 73) .copy, .none⟩,
    ⟨(some 75), (some (72, false)), false, .fieldAddr 1 (.t 1), .none⟩,
    ⟨(some 76), (some (72, false)), false, .load false 1 (.t 75) .copy, .none⟩,
    ⟨(some 77), (some (72, false)), false, .bin .neq (.t 74) (.t 76), .none⟩,
    ⟨(some 78), none, false, .pick (.t 72) (.c (.bool true)) (.t 77), .none⟩,
    ⟨(some 79), none, false, .mv (.t 78), .none⟩,
    ⟨(some 80), (some (79, false)), false, .fieldAddr 2 (.t 8), .none⟩,
    ⟨(some 81), (some (79, false)), false, .load false 1 (.t 80) .copy, .none⟩,
    ⟨(some 82), (some (79, false)), false, .fieldAddr 2 (.t 1), .none⟩,
    ⟨(some 83), (some (79, false)), false, .load false 1 (.t 82) .copy, .none⟩,
    ⟨(some 84), (some (79, false)), false, .bin .neq (.t 81) (.t 83), .none⟩,
    ⟨(some 85), none, false, .pick (.t 79) (.c (.bool true)) (.t 84), .none⟩,
    ⟨(some 86), none, false, .mv (.t 85), .none⟩,
    ⟨(some 87), (some (86, false)), false, .fieldAddr 3 (.t 8), .none⟩,
    ⟨(some 88), (some (86, false)), false, .load false 1 (.t 87) .copy, .none⟩,
    ⟨(some 89), (some (86, false)), false, .fieldAddr 3 (.t 1), .none⟩,
    ⟨(some 90), (some (86, false)), false, .load false 1 (.t 89) .copy, .none⟩,
    ⟨(some 91), (some (86, false)), false, .bin .neq (.t 88) (.t 90), .none⟩,
    ⟨(some 92), none, false, .pick (.t 86) (.c (.bool true)) (.t 91), .none⟩,
    ⟨(some 93), none, false, .mv (.t 92), .none⟩,
    ⟨(some 94), (some (93, false)), false, .fieldAddr 4 (.t 8), .none⟩,
    ⟨(some 95), (some (93, false)), false, .load false 1 (.t 94) .copy, .none⟩,
    ⟨(some 96), (some (93, false)), false, .lenSl (.t 95), .none⟩,
    ⟨(some 97), (some (93, false)), false, .fieldAddr 4 (.t 1), .none⟩,
    ⟨(some 98), (some (93, false)), false, .load false 1 (.t 97) .copy, .none⟩,
    ⟨(some 99), (some (93, false)), false, .lenSl (.t 98), .none⟩,
    ⟨(some 100), (some (93, false)), false, .bin .neq (.t 96) (.t 99), .none⟩,
    ⟨(some 101), none, false, .pick (.t 93) (.c (.bool true)) (.t 100), .none⟩])
  (.cond (.t 101)
   (.seq (.region false [⟨(some 2), none, false, .mv (.c .nils), .none⟩,
     ⟨(some 3), none, false, .mv (.c (.int .i64 200)), .none⟩])
   (.ret))
   (.skip)))
  (.seq (.region false [⟨(some 102), none, false, .fieldAddr 0 (.t 1), .none⟩,
    ⟨(some 103), none, false, .load false 1 (.t 102) .copy, .none⟩,
    ⟨(some 104), none, false, .conv .u8 (.t 103), .none⟩,
    ⟨(some 105), none, false, .mv (.t 7), .none⟩,
    ⟨(some 106), none, false, .lenSl (.t 105), .none⟩,
    ⟨(some 107), none, false, .conv .u8 (.t 106), .none⟩,
    ⟨(some 108), none, false, .mv (.t 7), .none⟩,
    ⟨(some 109), none, false, .lenSl (.t 108), .none⟩,
    ⟨(some 110), none, false, .bin .shr (.t 109) (.c (.int .u64 8)), .none⟩,
    ⟨(some 111), none, false, .conv .u8 (.t 110), .none⟩,
    ⟨(some 112), none, false, .buildSlice 1 [(.int .u8 0)] 4 [(0, (.c (.int .u8 197))), (1, (.t 104)), (2, (.t 107)), (3, (.t 111))], .none⟩,
    ⟨(some 113), none, false, .mv (.t 7), .none⟩,
    ⟨(some 114), none, false, .append 1 (.u 112 .take) (.u 113 .take), .none⟩,
    ⟨(some 9), none, true, .mv (.u 114 .take), .none⟩])
  (.seq (.region false [⟨(some 115), none, false, .mv (.u 9 .peek), .none⟩,
    ⟨(some 116), none, false, .mv (.u 9 .peek), .none⟩,
    ⟨(some 117), none, false, .mv (.c .undef), .none⟩,
    ⟨(some 118), none, false, .lend 23 1 (.t 116) 1, .none⟩,
    ⟨(some 119), none, false, .buildSlice 1 [(.int .u8 0)] 1 [(0, (.t 118))], .none⟩,
    ⟨(some 120), none, false, .append 1 (.u 115 .take) (.u 119 .take), .none⟩,
    ⟨(some 2), none, false, .mv (.u 120 .share), .none⟩,
    ⟨(some 3), none, false, .mv (.c (.int .i64 0)), .none⟩])
  (.ret)))))))))⟩
def v14 : List Nat := [0, 1, 2, 3, 4, 5, 6, 7, 8, 9, 18, 21, 39, 62, 101]
def b14 : List Nat := [0, 1]
-- behind t21: [1, 4, 5, 6, 18, 21]
-- behind t21: [1, 4, 5, 6, 7]
-- behind t39: [1, 4, 5, 6, 7]
-- behind t62: [1, 7]
-- behind t101: [1, 7]
theorem c14 : cFunc Proofs.Try.prog p14 14 = some a14 := by decide +kernel

-- 15 casement/casementref20.Frame
def p15 : Plan := ⟨[], 1, [((0, 0), { box := some 0 }),
    ((1, 1), { uses := [(10, .share)] }),
    ((1, 5), { uses := [(12, .share)] }),
    ((4, 12), { uses := [(27, .take)] }),
    ((9, 0), { uses := [(6, .take)] }),
    ((9, 6), { uses := [(44, .take), (49, .take)] }),
    ((9, 7), { uses := [(50, .take)] }),
    ((11, 0), { uses := [(6, .take)] }),
    ((11, 5), { uses := [(58, .take), (62, .take)] }),
    ((11, 6), { uses := [(63, .share)] })],
  [[4, 6, 7, 8]]⟩
def a15 : AFunc := ⟨1, 64, 1, [.tmp 2, .tmp 3],
  .seq (.region false [⟨(some 1), none, false, .boxL 0 (.t 0), .none⟩,
    ⟨(some 2), none, false, .mv (.c .nils), .none⟩,
    ⟨(some 3), none, false, .mv (.c (.int .i64 0)), .none⟩])
  (.seq (.region false [⟨(some 10), none, false, .load true 6 (.t 1) .copy, .none⟩,
    ⟨(some 11), none, false, .callF 26 [(.u 10 .share)], .none⟩,
    ⟨(some 9), none, false, .mv (.t 11), .none⟩,
    ⟨(some 12), none, false, .extract (.t 9) 0, .none⟩,
    ⟨(some 13), none, false, .extract (.t 9) 1, .none⟩,
    ⟨(some 4), none, false, .mv (.u 12 .share), .none⟩,
    ⟨(some 5), none, false, .mv (.t 13), .none⟩])
  (.seq (.seq (.region false [⟨(some 14), none, false, .mv (.t 5), .none⟩,
    ⟨(some 15), none, false, .un .not (.t 14), .none⟩])
  (.cond (.t 15)
   (.seq (.region false [⟨(some 2), none, false, .mv (.c .nils), .none⟩,
     ⟨(some 3), none, false, .mv (.c (.int .i64 200)), .none⟩])
   (.ret))
   (.skip)))
  (.seq (.region false [⟨(some 16), none, false, .fieldAddr 0 (.t 1), .none⟩,
    ⟨(some 17), none, false, .load false 1 (.t 16) .copy, .none⟩,
    ⟨(some 18), none, false, .conv .u8 (.t 17), .none⟩,
    ⟨(some 19), none, false, .mv (.t 4), .none⟩,
    ⟨(some 20), none, false, .lenSl (.t 19), .none⟩,
    ⟨(some 21), none, false, .bin .rem (.t 20) (.c (.int .i64 256)), .none⟩,
    ⟨(some 22), none, false, .conv .u8 (.t 21), .none⟩,
    ⟨(some 23), none, false, .mv (.t 4), .none⟩,
    ⟨(some 24), none, false, .lenSl (.t 23), .none⟩,
    ⟨(some 25), none, false, .bin .quo (.t 24) (.c (.int .i64 256)), .none⟩,
    ⟨(some 26), none, false, .conv .u8 (.t 25), .none⟩,
    ⟨(some 27), none, false, .buildSlice 1 [(.int .u8 0)] 4 [(0, (.c (.int .u8 197))), (1, (.t 18)), (2, (.t 22)), (3, (.t 26))], .none⟩,
    ⟨(some 6), none, false, .mv (.u 27 .take), .none⟩])
  (.seq (.region false [⟨(some 28), none, false, .fieldAddr 0 (.t 1), .none⟩,
    ⟨(some 29), none, false, .load false 1 (.t 28) .copy, .none⟩,
    ⟨(some 30), none, false, .mv (.t 4), .none⟩,
    ⟨(some 31), none, false, .lenSl (.t 30), .none⟩,
    ⟨(some 32), none, false, .bin .rem (.t 31) (.c (.int .i64 256)), .none⟩,
    ⟨(some 33), none, false, .bin .add (.t 29) (.t 32), .none⟩,
    ⟨(some 34), none, false, .mv (.t 4), .none⟩,
    ⟨(some 35), none, false, .lenSl (.t 34), .none⟩,
    ⟨(some 36), none, false, .bin .quo (.t 35) (.c (.int .i64 256)), .none⟩,
    ⟨(some 37), none, false, .bin .add (.t 33) (.t 36), .none⟩,
    ⟨(some 7), none, false, .mv (.t 37), .none⟩])
  (.seq (.seq (.region false [⟨(some 8), none, false, .mv (.c (.int .i64 0)), .none⟩])
  (.block 0 (.loop [4, 6, 7, 8] (.seq (.seq (.region false [⟨(some 38), none, false, .mv (.t 8), .none⟩,
     ⟨(some 39), none, false, .mv (.t 4), .none⟩,
     ⟨(some 40), none, false, .lenSl (.t 39), .none⟩,
     ⟨(some 41), none, false, .bin .lss (.t 38) (.t 40), .none⟩])
   (.cond (.t 41)
    (.skip)
    (.exit 0)))
   (.seq (.block 1 (.seq (.region false [⟨(some 44), none, false, .mv (.u 6 .take), .none⟩,
     ⟨(some 45), none, false, .mv (.t 4), .none⟩,
     ⟨(some 46), none, false, .mv (.t 8), .none⟩,
     ⟨(some 47), none, false, .indexSl 1 (.t 45) (.t 46), .none⟩,
     ⟨(some 48), none, false, .load false 1 (.t 47) .copy, .none⟩,
     ⟨(some 49), none, false, .buildSlice 1 [(.int .u8 0)] 1 [(0, (.t 48))], .none⟩,
     ⟨(some 50), none, false, .append 1 (.u 44 .take) (.u 49 .take), .none⟩,
     ⟨(some 6), none, false, .mv (.u 50 .take), .none⟩])
   (.region false [⟨(some 51), none, false, .mv (.t 7), .none⟩,
     ⟨(some 52), none, false, .mv (.t 4), .none⟩,
     ⟨(some 53), none, false, .mv (.t 8), .none⟩,
     ⟨(some 54), none, false, .indexSl 1 (.t 52) (.t 53), .none⟩,
     ⟨(some 55), none, false, .load false 1 (.t 54) .copy, .none⟩,
     ⟨(some 56), none, false, .conv .i64 (.t 55), .none⟩,
     ⟨(some 57), none, false, .bin .add (.t 51) (.t 56), .none⟩,
     ⟨(some 7), none, false, .mv (.t 57), .none⟩])))
   (.region false [⟨(some 42), none, false, .mv (.t 8), .none⟩,
     ⟨(some 43), none, false, .bin .add (.t 42) (.c (.int .i64 1)), .none⟩,
     ⟨(some 8), none, false, .mv (.t 43), .none⟩]))))))
  (.seq (.region false [⟨(some 58), none, false, .mv (.u 6 .take), .none⟩,
    ⟨(some 59), none, false, .mv (.t 7), .none⟩,
    ⟨(some 60), none, false, .bin .rem (.t 59) (.c (.int .i64 256)), .none⟩,
    ⟨(some 61), none, false, .conv .u8 (.t 60), .none⟩,
    ⟨(some 62), none, false, .buildSlice 1 [(.int .u8 0)] 1 [(0, (.t 61))], .none⟩,
    ⟨(some 63), none, false, .append 1 (.u 58 .take) (.u 62 .take), .none⟩,
    ⟨(some 2), none, false, .mv (.u 63 .share), .none⟩,
    ⟨(some 3), none, false, .mv (.c (.int .i64 0)), .none⟩])
  (.ret)))))))⟩
def v15 : List Nat := [0, 1, 2, 3, 4, 5, 6, 7, 8, 15, 41]
def b15 : List Nat := [0]
-- behind t15: [1, 4]
-- behind t41: [4, 6, 7, 8]
theorem c15 : cFunc Proofs.Try.prog p15 15 = some a15 := by decide +kernel

-- 16 casement/casementlaw20.of
def p16 : Plan := ⟨[], 2, [((0, 0), { box := some 0 }),
    ((0, 1), { box := some 1 }),
    ((1, 10), { uses := [(12, .share)] }),
    ((1, 11), { uses := [(13, .share)] })],
  []⟩
def a16 : AFunc := ⟨1, 14, 2, [.cell 2 true 6],
  .seq (.region false [⟨(some 1), none, false, .boxL 0 (.t 0), .none⟩,
    ⟨(some 2), none, false, .allocL 1 [(.int .i64 0), (.int .i64 0), (.int .i64 0), (.int .i64 0), (.int .i64 0), .nils], .none⟩])
  (.seq (.region false [⟨(some 3), none, false, .fieldAddr 0 (.t 1), .none⟩,
    ⟨(some 4), none, false, .load false 1 (.t 3) .copy, .none⟩,
    ⟨(some 5), none, false, .fieldAddr 1 (.t 1), .none⟩,
    ⟨(some 6), none, false, .load false 1 (.t 5) .copy, .none⟩,
    ⟨(some 7), none, false, .fieldAddr 2 (.t 1), .none⟩,
    ⟨(some 8), none, false, .load false 1 (.t 7) .copy, .none⟩,
    ⟨(some 9), none, false, .fieldAddr 3 (.t 1), .none⟩,
    ⟨(some 10), none, false, .load false 1 (.t 9) .copy, .none⟩,
    ⟨(some 11), none, false, .fieldAddr 4 (.t 1), .none⟩,
    ⟨(some 12), none, false, .load false 1 (.t 11) .copy, .none⟩,
    ⟨(some 13), none, false, .build [(.int .i64 0), (.int .i64 0), (.int .i64 0), (.int .i64 0), (.int .i64 0), .nils] [(0, 1, (.t 4)), (1, 1, (.t 6)), (2, 1, (.t 8)), (3, 1, (.t 10)), (5, 1, (.u 12 .share))], .none⟩,
    ⟨none, none, false, .store 6 (.t 2) (.u 13 .share), .none⟩])
  (.ret))⟩
def v16 : List Nat := [0, 1, 2]
def b16 : List Nat := [0, 1]
theorem c16 : cFunc Proofs.Try.prog p16 16 = some a16 := by decide +kernel

-- 17 casement/casementref01.SameBytes
def p17 : Plan := ⟨[], 0, [],
  [[0, 1, 5]]⟩
def a17 : AFunc := ⟨2, 26, 0, [.tmp 4],
  .seq (.region false [⟨(some 4), none, false, .mv (.c (.bool false)), .none⟩])
  (.seq (.seq (.region false [⟨(some 6), none, false, .mv (.t 0), .none⟩,
    ⟨(some 7), none, false, .lenSl (.t 6), .none⟩,
    ⟨(some 8), none, false, .mv (.t 1), .none⟩,
    ⟨(some 9), none, false, .lenSl (.t 8), .none⟩,
    ⟨(some 10), none, false, .bin .neq (.t 7) (.t 9), .none⟩])
  (.cond (.t 10)
   (.seq (.region false [⟨(some 4), none, false, .mv (.c (.bool false)), .none⟩])
   (.ret))
   (.skip)))
  (.seq (.seq (.region false [⟨(some 5), none, false, .mv (.c (.int .i64 0)), .none⟩])
  (.block 0 (.loop [0, 1, 5] (.seq (.seq (.region false [⟨(some 11), none, false, .mv (.t 5), .none⟩,
     ⟨(some 12), none, false, .mv (.t 0), .none⟩,
     ⟨(some 13), none, false, .lenSl (.t 12), .none⟩,
     ⟨(some 14), none, false, .bin .lss (.t 11) (.t 13), .none⟩])
   (.cond (.t 14)
    (.skip)
    (.exit 0)))
   (.seq (.block 1 (.seq (.region true [⟨(some 17), none, false, .mv (.t 0), .none⟩,
     ⟨(some 18), none, false, .mv (.t 5), .none⟩,
     ⟨(some 19), none, false, .indexSl 1 (.t 17) (.t 18), .none⟩,
     ⟨(some 20), none, false, .load false 1 (.t 19) .copy, .none⟩,
     ⟨(some 21), none, false, .mv (.t 1), .none⟩,
     ⟨(some 22), none, false, .mv (.t 5), .none⟩,
     ⟨(some 23), none, false, .indexSl 1 (.t 21) (.t 22), .none⟩,
     ⟨(some 24), none, false, .load false 1 (.t 23) .copy, .none⟩,
     ⟨(some 25), none, false, .bin .neq (.t 20) (.t 24), .none⟩])
   (.cond (.t 25)
    (.seq (.region false [⟨(some 4), none, false, .mv (.c (.bool false)), .none⟩])
    (.ret))
    (.skip))))
   (.region false [⟨(some 15), none, false, .mv (.t 5), .none⟩,
     ⟨(some 16), none, false, .bin .add (.t 15) (.c (.int .i64 1)), .none⟩,
     ⟨(some 5), none, false, .mv (.t 16), .none⟩]))))))
  (.seq (.region false [⟨(some 4), none, false, .mv (.c (.bool true)), .none⟩])
  (.ret))))⟩
def v17 : List Nat := [0, 1, 4, 5, 10, 14, 25]
def b17 : List Nat := []
-- behind t10: [0, 1]
-- behind t14: [0, 1, 5]
-- behind t25: [0, 1, 5]
theorem c17 : cFunc Proofs.Try.prog p17 17 = some a17 := by decide +kernel

-- 19 casement/casementref20.At
def p19 : Plan := ⟨[], 2, [((14, 10), { uses := [(79, .share)], mark := (.loc 1) }),
    ((14, 8), { uses := [(78, .share)], mark := .quiet }),
    ((14, 7), { mark := .cool }),
    ((14, 6), { mark := .cool }),
    ((14, 5), { mark := .cool }),
    ((14, 4), { mark := .cool }),
    ((14, 3), { mark := .cool }),
    ((14, 2), { mark := .free }),
    ((14, 1), { mark := .cool }),
    ((14, 0), { mark := .cool }),
    ((0, 0), { box := some 0 }),
    ((2, 1), { uses := [(16, .share)] }),
    ((4, 1), { uses := [(20, .share)] }),
    ((7, 1), { uses := [(32, .share)] }),
    ((13, 1), { uses := [(70, .share)] }),
    ((14, 9), { box := some 1 }),
    ((15, 1), { uses := [(81, .share)] }),
    ((15, 5), { uses := [(83, .share)] }),
    ((16, 8), { uses := [(88, .share), (92, .share)] }),
    ((17, 3), { uses := [(95, .share)] }),
    ((18, 1), { uses := [(98, .share)] }),
    ((19, 1), { uses := [(99, .share)] })],
  [[0, 2, 6, 8]]⟩
def a19 : AFunc := ⟨1, 100, 2, [.cell 2 true 6, .tmp 3, .tmp 4],
  .seq (.region false [⟨(some 2), none, false, .allocL 0 [(.int .i64 0), (.int .i64 0), (.int .i64 0), (.int .i64 0), (.int .i64 0), .nils], .none⟩,
    ⟨(some 3), none, false, .mv (.c (.int .i64 0)), .none⟩,
    ⟨(some 4), none, false, .mv (.c (.bool false)), .none⟩])
  (.seq (.seq (.region false [⟨(some 12), none, false, .mv (.t 0), .none⟩,
    ⟨(some 13), none, false, .indexSl 1 (.t 12) (.c (.int .i64 0)), .none⟩,
    ⟨(some 14), none, false, .load false 1 (.t 13) .copy, .none⟩,
    ⟨(some 15), none, false, .bin .neq (.t 14) (.c (.int .u8 197)), .none⟩])
  (.cond (.t 15)
   (.seq (.region false [⟨(some 16), none, false, .build [(.int .i64 0), (.int .i64 0), (.int .i64 0), (.int .i64 0), (.int .i64 0), .nils] [], .none⟩,
     ⟨none, none, false, .store 6 (.t 2) (.u 16 .share), .none⟩,
     ⟨(some 3), none, false, .mv (.c (.int .i64 0)), .none⟩,
     ⟨(some 4), none, false, .mv (.c (.bool false)), .none⟩])
   (.ret))
   (.skip)))
  (.seq (.seq (.region false [⟨(some 17), none, false, .mv (.t 0), .none⟩,
    ⟨(some 18), none, false, .lenSl (.t 17), .none⟩,
    ⟨(some 19), none, false, .bin .eql (.t 18) (.c (.int .i64 1)), .none⟩])
  (.cond (.t 19)
   (.seq (.region false [⟨(some 20), none, false, .build [(.int .i64 0), (.int .i64 0), (.int .i64 0), (.int .i64 0), (.int .i64 0), .nils] [], .none⟩,
     ⟨none, none, false, .store 6 (.t 2) (.u 20 .share), .none⟩,
     ⟨(some 3), none, false, .mv (.c (.int .i64 0)), .none⟩,
     ⟨(some 4), none, false, .mv (.c (.bool true)), .none⟩])
   (.ret))
   (.skip)))
  (.seq (.region false [⟨(some 22), none, false, .mv (.t 0), .none⟩,
    ⟨(some 23), none, false, .indexSl 1 (.t 22) (.c (.int .i64 1)), .none⟩,
    ⟨(some 24), none, false, .load false 1 (.t 23) .copy, .none⟩,
    ⟨(some 25), none, false, .conv .i64 (.t 24), .none⟩,
    ⟨(some 26), none, false, .callF 28 [(.t 25)], .none⟩,
    ⟨(some 21), none, false, .mv (.t 26), .none⟩,
    ⟨(some 27), none, false, .extract (.t 21) 0, .none⟩,
    ⟨(some 28), none, false, .extract (.t 21) 1, .none⟩,
    ⟨(some 29), none, false, .extract (.t 21) 2, .none⟩,
    ⟨(some 5), none, false, .mv (.t 27), .none⟩,
    ⟨(some 6), none, false, .mv (.t 28), .none⟩,
    ⟨(some 7), none, false, .mv (.t 29), .none⟩])
  (.seq (.seq (.region false [⟨(some 30), none, false, .mv (.t 7), .none⟩,
    ⟨(some 31), none, false, .un .not (.t 30), .none⟩])
  (.cond (.t 31)
   (.seq (.region false [⟨(some 32), none, false, .build [(.int .i64 0), (.int .i64 0), (.int .i64 0), (.int .i64 0), (.int .i64 0), .nils] [], .none⟩,
     ⟨none, none, false, .store 6 (.t 2) (.u 32 .share), .none⟩,
     ⟨(some 3), none, false, .mv (.c (.int .i64 0)), .none⟩,
     ⟨(some 4), none, false, .mv (.c (.bool false)), .none⟩])
   (.ret))
   (.skip)))
  (.seq (.seq (.region false [⟨(some 33), none, false, .mv (.t 5), .none⟩,
    ⟨(some 8), none, false, .mv (.t 33), .none⟩])
  (.block 0 (.loop [0, 2, 6, 8] (.seq (.seq (.region false [⟨(some 34), none, false, .mv (.t 8), .none⟩,
     ⟨(some 35), none, false, .mv (.t 6), .none⟩,
     ⟨(some 36), none, false, .bin .leq (.t 34) (.t 35), .none⟩])
   (.cond (.t 36)
    (.skip)
    (.exit 0)))
   (.seq (.block 1 (.seq (.seq (.region false [⟨(some 39), none, false, .mv (.t 0), .none⟩,
     ⟨(some 40), none, false, .lenSl (.t 39), .none⟩,
     ⟨(some 41), none, false, .bin .gtr (.t 40) (.c (.int .i64 2)), .none⟩,
     ⟨(some 42), none, false, .mv (.t 41), .none⟩,
     ⟨(some 43), (some (42, true)), false, .mv (.t 8), .none⟩,
     ⟨(some 44), (some (42, true)), false, .bin .rem (.t 43) (.c (.int .i64 256)), .none⟩,
     ⟨(some 45), (some (42, true)), false, .conv .u8 (.t 44), .none⟩,
     ⟨(some 46), (some (42, true)), false, .mv (.t 0), .none⟩,
     ⟨(some 47), (some (42, true)), false, .indexSl 1 (.t 46) (.c (.int .i64 2)), .none⟩,
     ⟨(some 48), (some (42, true)), false, .load false 1 (.t 47) .copy, .none⟩,
     ⟨(some 49), (some (42, true)), false, .bin .neq (.t 45) (.t 48), .none⟩,
     ⟨(some 50), none, false, .pick (.t 42) (.t 49) (.c (.bool false)), .none⟩,
     ⟨(some 51), none, false, .mv (.t 50), .none⟩,
     ⟨(some 52), (some (51, false)), false, .mv (.t 0), .none⟩,
     ⟨(some 53), (some (51, false)), false, .lenSl (.t 52), .none⟩,
     ⟨(some 54), (some (51, false)), false, .bin .gtr (.t 53) (.c (.int .i64 3)), .none⟩,
     ⟨(some 55), (some (51, false)), false, .mv (.t 54), .none⟩,
     ⟨(some 56), (some (55, true)), false, .mv (.t 8), .none⟩,
     ⟨(some 57), (some (55, true)), false, .bin .quo (.t 56) (.c (.int .i64 256)), .none⟩,
     ⟨(some 58), (some (55, true)), false, .conv .u8 (.t 57), .none⟩,
     ⟨(some 59), (some (55, true)), false, .mv (.t 0), .none⟩,
     ⟨(some 60), (some (55, true)), false, .indexSl 1 (.t 59) (.c (.int .i64 3)), .none⟩,
     ⟨(some 61), (some (55, true)), false, .load false 1 (.t 60) .copy, .none⟩,
     ⟨(some 62), (some (55, true)), false, .bin .neq (.t 58) (.t 61), .none⟩,
     ⟨(some 63), (some (51, false)), false, .pick (.t 55) (.t 62) (.c (.bool false)), .none⟩,
     ⟨(some 64), none, false, .pick (.t 51) (.c (.bool true)) (.t 63), .none⟩])
   (.cond (.t 64)
    (.exit 1)
    (.skip)))
   (.seq (.seq (.region false [⟨(some 65), none, false, .mv (.t 0), .none⟩,
     ⟨(some 66), none, false, .lenSl (.t 65), .none⟩,
     ⟨(some 67), none, false, .mv (.t 8), .none⟩,
     ⟨(some 68), none, false, .bin .add (.t 67) (.c (.int .i64 5)), .none⟩,
     ⟨(some 69), none, false, .bin .lss (.t 66) (.t 68), .none⟩])
   (.cond (.t 69)
    (.seq (.region false [⟨(some 70), none, false, .build [(.int .i64 0), (.int .i64 0), (.int .i64 0), (.int .i64 0), (.int .i64 0), .nils] [], .none⟩,
      ⟨none, none, false, .store 6 (.t 2) (.u 70 .share), .none⟩,
      ⟨(some 3), none, false, .mv (.c (.int .i64 0)), .none⟩,
      ⟨(some 4), none, false, .mv (.c (.bool true)), .none⟩])
    (.ret))
    (.skip)))
   (.seq (.region true [⟨(some 71), none, false, .mv (.t 0), .cool⟩,
     ⟨(some 72), none, false, .indexSl 1 (.t 71) (.c (.int .i64 1)), .cool⟩,
     ⟨(some 73), none, false, .load false 1 (.t 72) .copy, .free⟩,
     ⟨(some 74), none, false, .conv .i64 (.t 73), .cool⟩,
     ⟨(some 75), none, false, .mv (.t 0), .cool⟩,
     ⟨(some 76), none, false, .mv (.t 8), .cool⟩,
     ⟨(some 77), none, false, .bin .add (.c (.int .i64 4)) (.t 76), .cool⟩,
     ⟨(some 78), none, false, .sliceV 1 (.t 75) (some (.c (.int .i64 4))) (some (.t 77)), .cool⟩,
     ⟨(some 79), none, false, .callF 29 [(.t 74), (.u 78 .share)], .quiet⟩,
     ⟨(some 9), none, false, .allocL 1 [(.int .i64 0), (.int .i64 0), (.int .i64 0), (.int .i64 0), (.int .i64 0), .nils], .none⟩,
     ⟨none, none, false, .store 6 (.t 9) (.u 79 .share), (.loc 1)⟩])
   (.seq (.region false [⟨(some 81), none, false, .load true 6 (.t 9) .copy, .none⟩,
     ⟨(some 82), none, false, .callF 15 [(.u 81 .share)], .none⟩,
     ⟨(some 80), none, false, .mv (.t 82), .none⟩,
     ⟨(some 83), none, false, .extract (.t 80) 0, .none⟩,
     ⟨(some 84), none, false, .extract (.t 80) 1, .none⟩,
     ⟨(some 10), none, false, .mv (.u 83 .share), .none⟩,
     ⟨(some 11), none, false, .mv (.t 84), .none⟩])
   (.seq (.seq (.region false [⟨(some 85), none, false, .mv (.t 11), .none⟩,
     ⟨(some 86), none, false, .bin .eql (.t 85) (.c (.int .i64 0)), .none⟩,
     ⟨(some 87), none, false, .mv (.t 86), .none⟩,
     ⟨(some 88), (some (87, true)), false, .mv (.t 10), .none⟩,
     ⟨(some 89), (some (87, true)), false, .mv (.t 0), .none⟩,
     ⟨(some 90), (some (87, true)), false, .mv (.t 8), .none⟩,
     ⟨(some 91), (some (87, true)), false, .bin .add (.t 90) (.c (.int .i64 5)), .none⟩,
     ⟨(some 92), (some (87, true)), false, .sliceV 1 (.t 89) none (some (.t 91)), .none⟩,
     ⟨(some 93), (some (87, true)), false, .callF 17 [(.u 88 .share), (.u 92 .share)], .none⟩,
     ⟨(some 94), none, false, .pick (.t 87) (.t 93) (.c (.bool false)), .none⟩])
   (.cond (.t 94)
    (.seq (.region false [⟨(some 95), none, false, .load true 6 (.t 9) .copy, .none⟩,
      ⟨(some 96), none, false, .mv (.t 8), .none⟩,
      ⟨(some 97), none, false, .bin .add (.t 96) (.c (.int .i64 5)), .none⟩,
      ⟨none, none, false, .store 6 (.t 2) (.u 95 .share), .none⟩,
      ⟨(some 3), none, false, .mv (.t 97), .none⟩,
      ⟨(some 4), none, false, .mv (.c (.bool true)), .none⟩])
    (.ret))
    (.skip)))
   (.seq (.region false [⟨(some 98), none, false, .build [(.int .i64 0), (.int .i64 0), (.int .i64 0), (.int .i64 0), (.int .i64 0), .nils] [], .none⟩,
     ⟨none, none, false, .store 6 (.t 2) (.u 98 .share), .none⟩,
     ⟨(some 3), none, false, .mv (.c (.int .i64 0)), .none⟩,
     ⟨(some 4), none, false, .mv (.c (.bool false)), .none⟩])
   (.ret))))))))
   (.region false [⟨(some 37), none, false, .mv (.t 8), .none⟩,
     ⟨(some 38), none, false, .bin .add (.t 37) (.c (.int .i64 1)), .none⟩,
     ⟨(some 8), none, false, .mv (.t 38), .none⟩]))))))
  (.seq (.region false [⟨(some 99), none, false, .build [(.int .i64 0), (.int .i64 0), (.int .i64 0), (.int .i64 0), (.int .i64 0), .nils] [], .none⟩,
    ⟨none, none, false, .store 6 (.t 2) (.u 99 .share), .none⟩,
    ⟨(some 3), none, false, .mv (.c (.int .i64 0)), .none⟩,
    ⟨(some 4), none, false, .mv (.c (.bool false)), .none⟩])
  (.ret)))))))⟩
def v19 : List Nat := [0, 2, 3, 4, 5, 6, 7, 8, 9, 10, 11, 15, 19, 31, 36, 64, 69, 94]
def b19 : List Nat := [0, 1]
-- behind t15: [0, 2]
-- behind t19: [0, 2]
-- behind t31: [0, 2, 5, 6]
-- behind t36: [0, 2, 6, 8]
-- behind t64: [0, 2, 8]
-- behind t69: [0, 2, 8]
-- behind t94: [2]
theorem c19 : cFunc Proofs.Try.prog p19 19 = some a19 := by decide +kernel

-- 20 slices.Clone[[]byte,byte]
def p20 : Plan := ⟨[], 0, [((3, 2), { uses := [(5, .take), (6, .take)] }),
    ((3, 3), { uses := [(7, .take)] })],
  []⟩
def a20 : AFunc := ⟨1, 8, 0, [.tmp 2],
  .seq (.region false [⟨(some 2), none, false, .mv (.c .nils), .none⟩])
  (.seq (.seq (.region false [⟨(some 3), none, false, .mv (.t 0), .none⟩,
    ⟨(some 4), none, false, .eq false .slice (.t 3) (.c .nils), .none⟩])
  (.cond (.t 4)
   (.seq (.region false [⟨(some 2), none, false, .mv (.c .nils), .none⟩])
   (.ret))
   (.skip)))
  (.seq (.region false [⟨(some 5), none, false, .buildSlice 1 [(.int .u8 0)] 0 [], .none⟩,
    ⟨(some 6), none, false, .mv (.t 0), .none⟩,
    ⟨(some 7), none, false, .append 1 (.u 5 .take) (.u 6 .take), .none⟩,
    ⟨(some 2), none, false, .mv (.u 7 .take), .none⟩])
  (.ret)))⟩
def v20 : List Nat := [0, 2, 4]
def b20 : List Nat := []
-- behind t4: [0]
theorem c20 : cFunc Proofs.Try.prog p20 20 = some a20 := by decide +kernel

-- 21 casement/frame.size
def p21 : Plan := ⟨[], 0, [((17, 2), { uses := [(49, .share)] })],
  [[0, 5, 7]]⟩
def a21 : AFunc := ⟨1, 62, 0, [.tmp 2, .tmp 3],
  .seq (.region false [⟨(some 2), none, false, .mv (.c (.int .i64 0)), .none⟩,
    ⟨(some 3), none, false, .mv (.c (.bool false)), .none⟩])
  (.seq (.seq (.region false [⟨(some 9), none, false, .mv (.t 0), .none⟩,
    ⟨(some 10), none, false, .indexSl 1 (.t 9) (.c (.int .i64 0)), .none⟩,
    ⟨(some 11), none, false, .load false 1 (.t 10) .copy, .none⟩,
    ⟨(some 12), none, false, .bin .neq (.t 11) (.c (.int .u8 197)), .none⟩])
  (.cond (.t 12)
   (.seq (.region false [⟨(some 2), none, false, .mv (.c (.int .i64 0)), .none⟩,
     ⟨(some 3), none, false, .mv (.c (.bool false)), .none⟩])
   (.ret))
   (.skip)))
  (.seq (.seq (.region false [⟨(some 13), none, false, .mv (.t 0), .none⟩,
    ⟨(some 14), none, false, .lenSl (.t 13), .none⟩,
    ⟨(some 15), none, false, .bin .eql (.t 14) (.c (.int .i64 1)), .none⟩])
  (.cond (.t 15)
   (.seq (.region false [⟨(some 2), none, false, .mv (.c (.int .i64 0)), .none⟩,
     ⟨(some 3), none, false, .mv (.c (.bool true)), .none⟩])
   (.ret))
   (.skip)))
  (.seq (.region false [⟨(some 17), none, false, .mv (.t 0), .none⟩,
    ⟨(some 18), none, false, .indexSl 1 (.t 17) (.c (.int .i64 1)), .none⟩,
    ⟨(some 19), none, false, .load false 1 (.t 18) .copy, .none⟩,
    ⟨(some 20), none, false, .conv .i64 (.t 19), .none⟩,
    ⟨(some 21), none, false, .callF 25 [(.t 20)], .none⟩,
    ⟨(some 16), none, false, .mv (.t 21), .none⟩,
    ⟨(some 22), none, false, .extract (.t 16) 0, .none⟩,
    ⟨(some 23), none, false, .extract (.t 16) 1, .none⟩,
    ⟨(some 24), none, false, .extract (.t 16) 2, .none⟩,
    ⟨(some 4), none, false, .mv (.t 22), .none⟩,
    ⟨(some 5), none, false, .mv (.t 23), .none⟩,
    ⟨(some 6), none, false, .mv (.t 24), .none⟩])
  (.seq (.block 0 (.seq (.region false [⟨(some 26), none, false, .mv (.t 6), .none⟩,
    ⟨(some 27), none, false, .un .not (.t 26), .none⟩,
    ⟨(some 25), none, false, .mv (.t 27), .none⟩])
  (.cond (.t 25)
   (.seq (.region false [⟨(some 2), none, false, .mv (.c (.int .i64 0)), .none⟩,
     ⟨(some 3), none, false, .mv (.c (.bool false)), .none⟩])
   (.ret))
   (.seq (.region false [⟨(some 29), none, false, .mv (.t 0), .none⟩,
     ⟨(some 30), none, false, .lenSl (.t 29), .none⟩,
     ⟨(some 31), none, false, .bin .eql (.t 30) (.c (.int .i64 2)), .none⟩,
     ⟨(some 28), none, false, .mv (.t 31), .none⟩])
   (.cond (.t 28)
    (.seq (.region false [⟨(some 2), none, false, .mv (.c (.int .i64 0)), .none⟩,
      ⟨(some 3), none, false, .mv (.c (.bool true)), .none⟩])
    (.ret))
    (.seq (.region false [⟨(some 33), none, false, .mv (.t 0), .none⟩,
      ⟨(some 34), none, false, .lenSl (.t 33), .none⟩,
      ⟨(some 35), none, false, .bin .eql (.t 34) (.c (.int .i64 3)), .none⟩,
      ⟨(some 32), none, false, .mv (.t 35), .none⟩])
    (.cond (.t 32)
     (.seq (.seq (.region false [⟨(some 36), none, false, .mv (.t 4), .none⟩,
       ⟨(some 7), none, false, .mv (.t 36), .none⟩])
     (.block 1 (.loop [0, 5, 7] (.seq (.seq (.region false [⟨(some 37), none, false, .mv (.t 7), .none⟩,
        ⟨(some 38), none, false, .mv (.t 5), .none⟩,
        ⟨(some 39), none, false, .bin .leq (.t 37) (.t 38), .none⟩])
      (.cond (.t 39)
       (.skip)
       (.exit 1)))
      (.seq (.block 2 (.seq (.region false [⟨(some 42), none, false, .mv (.t 7), .none⟩,
        ⟨(some 43), none, false, .conv .u8 (.t 42), .none⟩,
        ⟨(some 44), none, false, .mv (.t 0), .none⟩,
        ⟨(some 45), none, false, .indexSl 1 (.t 44) (.c (.int .i64 2)), .none⟩,
        ⟨(some 46), none, false, .load false 1 (.t 45) .copy, .none⟩,
        ⟨(some 47), none, false, .bin .eql (.t 43) (.t 46), .none⟩])
      (.cond (.t 47)
       (.seq (.region false [⟨(some 2), none, false, .mv (.c (.int .i64 0)), .none⟩,
         ⟨(some 3), none, false, .mv (.c (.bool true)), .none⟩])
       (.ret))
       (.skip))))
      (.region false [⟨(some 40), none, false, .mv (.t 7), .none⟩,
        ⟨(some 41), none, false, .bin .add (.t 40) (.c (.int .i64 1)), .none⟩,
        ⟨(some 7), none, false, .mv (.t 41), .none⟩]))))))
     (.seq (.region false [⟨(some 2), none, false, .mv (.c (.int .i64 0)), .none⟩,
       ⟨(some 3), none, false, .mv (.c (.bool false)), .none⟩])
     (.ret)))
     (.skip))))))))
  (.seq (.region false [⟨(some 48), none, false, .mv (.t 0), .none⟩,
    ⟨(some 49), none, false, .sliceV 1 (.t 48) (some (.c (.int .i64 2))) none, .none⟩,
    ⟨(some 50), none, false, .callF 30 [(.u 49 .share)], .none⟩,
    ⟨(some 8), none, false, .mv (.t 50), .none⟩])
  (.seq (.region false [⟨(some 51), none, false, .mv (.t 8), .none⟩,
    ⟨(some 52), none, false, .bin .add (.c (.int .i64 4)) (.t 51), .none⟩,
    ⟨(some 53), none, false, .bin .add (.t 52) (.c (.int .i64 1)), .none⟩,
    ⟨(some 54), none, false, .mv (.t 8), .none⟩,
    ⟨(some 55), none, false, .mv (.t 4), .none⟩,
    ⟨(some 56), none, false, .bin .geq (.t 54) (.t 55), .none⟩,
    ⟨(some 57), none, false, .mv (.t 56), .none⟩,
    ⟨(some 58), (some (57, true)), false, .mv (.t 8), .none⟩,
    ⟨(some 59), (some (57, true)), false, .mv (.t 5), .none⟩,
    ⟨(some 60), (some (57, true)), false, .bin .leq (.t 58) (.t 59), .none⟩,
    ⟨(some 61), none, false, .pick (.t 57) (.t 60) (.c (.bool false)), .none⟩,
    ⟨(some 2), none, false, .mv (.t 53), .none⟩,
    ⟨(some 3), none, false, .mv (.t 61), .none⟩])
  (.ret)))))))⟩
def v21 : List Nat := [0, 2, 3, 4, 5, 6, 7, 8, 12, 15, 25, 28, 32, 39, 47]
def b21 : List Nat := []
-- behind t12: [0]
-- behind t15: [0]
-- behind t25: [0, 4, 5]
-- behind t28: [0, 4, 5]
-- behind t32: [0, 4, 5]
-- behind t39: [0, 5, 7]
-- behind t47: [0, 5, 7]
theorem c21 : cFunc Proofs.Try.prog p21 21 = some a21 := by decide +kernel

-- 22 casement/frame.message
def p22 : Plan := ⟨[], 2, [((9, 9), { uses := [(34, .share)], mark := (.loc 0) }),
    ((9, 6), { mark := (.loc 1) }),
    ((9, 2), { mark := (.loc 1) }),
    ((9, 0), { mark := (.loc 1) }),
    ((6, 9), { uses := [(20, .share)], mark := (.loc 0) }),
    ((6, 6), { mark := (.loc 1) }),
    ((6, 2), { mark := (.loc 1) }),
    ((6, 0), { mark := (.loc 1) }),
    ((0, 0), { box := some 0 }),
    ((1, 2), { box := some 1 }),
    ((1, 3), { uses := [(8, .share)] }),
    ((5, 1), { uses := [(13, .share)] }),
    ((5, 4), { uses := [(16, .share)] }),
    ((8, 1), { uses := [(31, .share)] }),
    ((13, 1), { uses := [(47, .share)] }),
    ((13, 3), { uses := [(48, .share)] }),
    ((14, 1), { uses := [(50, .share)] })],
  []⟩
def a22 : AFunc := ⟨2, 51, 2, [.cell 4 true 5, .tmp 5],
  .seq (.region false [⟨(some 4), none, false, .allocL 0 [(.int .i64 0), (.int .i64 0), (.int .i64 0), (.int .i64 0), .nils], .none⟩,
    ⟨(some 5), none, false, .mv (.c (.bool false)), .none⟩])
  (.seq (.region false [⟨(some 7), none, false, .mv (.t 0), .none⟩,
    ⟨(some 8), none, false, .build [(.int .i64 0), (.int .i64 0), (.int .i64 0), (.int .i64 0), .nils] [(0, 1, (.t 7))], .none⟩,
    ⟨(some 6), none, false, .allocL 1 [(.int .i64 0), (.int .i64 0), (.int .i64 0), (.int .i64 0), .nils], .none⟩,
    ⟨none, none, false, .store 5 (.t 6) (.u 8 .share), .none⟩])
  (.seq (.seq (.region false [⟨(some 9), none, false, .mv (.t 0), .none⟩])
  (.block 0 (.seq (.seq (.region false [⟨(some 11), none, false, .bin .eql (.t 9) (.c (.int .i64 1)), .none⟩,
    ⟨(some 10), none, false, .mv (.t 11), .none⟩])
  (.cond (.t 10)
   (.skip)
   (.region false [⟨(some 12), none, false, .bin .eql (.t 9) (.c (.int .i64 3)), .none⟩,
     ⟨(some 10), none, false, .mv (.t 12), .none⟩])))
  (.cond (.t 10)
   (.seq (.region true [⟨(some 13), none, false, .mv (.t 1), .none⟩,
     ⟨(some 14), none, false, .callF 30 [(.u 13 .share)], .none⟩,
     ⟨(some 15), none, false, .mv (.t 1), .none⟩,
     ⟨(some 16), none, false, .sliceV 1 (.t 15) (some (.c (.int .i64 2))) none, .none⟩,
     ⟨(some 17), none, false, .callF 30 [(.u 16 .share)], .none⟩,
     ⟨(some 18), none, false, .fieldAddr 1 (.t 6), .none⟩,
     ⟨none, none, false, .store 1 (.t 18) (.t 14), .none⟩,
     ⟨(some 19), none, false, .fieldAddr 2 (.t 6), .none⟩,
     ⟨none, none, false, .store 1 (.t 19) (.t 17), .none⟩])
   (.seq (.region true [⟨(some 20), none, false, .load true 5 (.t 6) .copy, (.loc 1)⟩,
     ⟨(some 21), none, false, .fieldAddr 1 (.t 6), .none⟩,
     ⟨(some 22), none, false, .load false 1 (.t 21) .copy, (.loc 1)⟩,
     ⟨(some 23), none, false, .callF 31 [(.t 22)], .none⟩,
     ⟨(some 24), none, false, .mv (.t 23), .none⟩,
     ⟨(some 25), (some (24, true)), false, .fieldAddr 2 (.t 6), .none⟩,
     ⟨(some 26), (some (24, true)), false, .load false 1 (.t 25) .copy, (.loc 1)⟩,
     ⟨(some 27), (some (24, true)), false, .callF 31 [(.t 26)], .none⟩,
     ⟨(some 28), none, false, .pick (.t 24) (.t 27) (.c (.bool false)), .none⟩,
     ⟨none, none, false, .store 5 (.t 4) (.u 20 .share), (.loc 0)⟩,
     ⟨(some 5), none, false, .mv (.t 28), .none⟩])
   (.ret)))
   (.seq (.region false [⟨(some 30), none, false, .bin .eql (.t 9) (.c (.int .i64 7)), .none⟩,
     ⟨(some 29), none, false, .mv (.t 30), .none⟩])
   (.cond (.t 29)
    (.seq (.region false [⟨(some 31), none, false, .mv (.t 1), .none⟩,
      ⟨(some 32), none, false, .callF 30 [(.u 31 .share)], .none⟩,
      ⟨(some 33), none, false, .fieldAddr 3 (.t 6), .none⟩,
      ⟨none, none, false, .store 1 (.t 33) (.t 32), .none⟩])
    (.seq (.region true [⟨(some 34), none, false, .load true 5 (.t 6) .copy, (.loc 1)⟩,
      ⟨(some 35), none, false, .fieldAddr 3 (.t 6), .none⟩,
      ⟨(some 36), none, false, .load false 1 (.t 35) .copy, (.loc 1)⟩,
      ⟨(some 37), none, false, .bin .geq (.t 36) (.c (.int .i64 1)), .none⟩,
      ⟨(some 38), none, false, .mv (.t 37), .none⟩,
      ⟨(some 39), (some (38, true)), false, .fieldAddr 3 (.t 6), .none⟩,
      ⟨(some 40), (some (38, true)), false, .load false 1 (.t 39) .copy, (.loc 1)⟩,
      ⟨(some 41), (some (38, true)), false, .bin .leq (.t 40) (.c (.int .i64 999)), .none⟩,
      ⟨(some 42), none, false, .pick (.t 38) (.t 41) (.c (.bool false)), .none⟩,
      ⟨none, none, false, .store 5 (.t 4) (.u 34 .share), (.loc 0)⟩,
      ⟨(some 5), none, false, .mv (.t 42), .none⟩])
    (.ret)))
    (.seq (.seq (.region false [⟨(some 44), none, false, .bin .eql (.t 9) (.c (.int .i64 2)), .none⟩,
      ⟨(some 43), none, false, .mv (.t 44), .none⟩])
    (.cond (.t 43)
     (.skip)
     (.seq (.region false [⟨(some 45), none, false, .bin .eql (.t 9) (.c (.int .i64 5)), .none⟩,
       ⟨(some 43), none, false, .mv (.t 45), .none⟩])
     (.cond (.t 43)
      (.skip)
      (.region false [⟨(some 46), none, false, .bin .eql (.t 9) (.c (.int .i64 6)), .none⟩,
        ⟨(some 43), none, false, .mv (.t 46), .none⟩])))))
    (.cond (.t 43)
     (.region false [⟨(some 47), none, false, .mv (.t 1), .none⟩,
       ⟨(some 48), none, false, .callF 20 [(.u 47 .share)], .none⟩,
       ⟨(some 49), none, false, .fieldAddr 4 (.t 6), .none⟩,
       ⟨none, none, false, .store 1 (.t 49) (.u 48 .share), .none⟩])
     (.skip)))))))))
  (.seq (.region false [⟨(some 50), none, false, .load true 5 (.t 6) .copy, .none⟩,
    ⟨none, none, false, .store 5 (.t 4) (.u 50 .share), .none⟩,
    ⟨(some 5), none, false, .mv (.c (.bool true)), .none⟩])
  (.ret))))⟩
def v22 : List Nat := [0, 1, 4, 5, 6, 9, 10, 29, 43]
def b22 : List Nat := [0, 1]
-- behind t10: [1, 4, 6, 9, 10]
-- behind t10: [4, 6]
-- behind t29: [4, 6]
-- behind t43: [1, 4, 6, 43]
-- behind t43: [1, 4, 6, 43]
-- behind t43: [4, 6]
theorem c22 : cFunc Proofs.Try.prog p22 22 = some a22 := by decide +kernel

-- 23 casement/frame.sum
def p23 : Plan := ⟨[], 0, [],
  [[3, 6, 7, 8]]⟩
def a23 : AFunc := ⟨1, 17, 0, [.tmp 2],
  .seq (.region false [⟨(some 2), none, false, .mv (.c (.int .u8 0)), .none⟩])
  (.seq (.region false [⟨(some 3), none, false, .mv (.c (.int .u8 0)), .none⟩])
  (.seq (.seq (.region false [⟨(some 6), none, false, .mv (.t 0), .none⟩,
    ⟨(some 7), none, false, .lenSl (.t 6), .none⟩,
    ⟨(some 8), none, false, .mv (.c (.int .i64 0)), .none⟩])
  (.block 0 (.loop [3, 6, 7, 8] (.seq (.region false [⟨(some 9), none, false, .bin .lss (.t 8) (.t 7), .none⟩])
   (.seq (.cond (.t 9)
    (.skip)
    (.exit 0))
   (.seq (.block 1 (.seq (.region false [⟨(some 10), none, false, .indexSl 1 (.t 6) (.t 8), .none⟩,
     ⟨(some 11), none, false, .load false 1 (.t 10) .copy, .none⟩,
     ⟨(some 5), none, false, .mv (.t 11), .none⟩])
   (.region false [⟨(some 12), none, false, .mv (.t 3), .none⟩,
     ⟨(some 13), none, false, .mv (.t 5), .none⟩,
     ⟨(some 14), none, false, .bin .add (.t 12) (.t 13), .none⟩,
     ⟨(some 3), none, false, .mv (.t 14), .none⟩])))
   (.region false [⟨(some 15), none, false, .bin .add (.t 8) (.c (.int .i64 1)), .none⟩,
     ⟨(some 8), none, false, .mv (.t 15), .none⟩])))))))
  (.seq (.region false [⟨(some 16), none, false, .mv (.t 3), .none⟩,
    ⟨(some 2), none, false, .mv (.t 16), .none⟩])
  (.ret))))⟩
def v23 : List Nat := [0, 2, 3, 5, 6, 7, 8, 9]
def b23 : List Nat := []
-- behind t9: [3, 6, 7, 8]
theorem c23 : cFunc Proofs.Try.prog p23 23 = some a23 := by decide +kernel

-- 24 casement/frame.pass
def p24 : Plan := ⟨[], 0, [((2, 0), { uses := [(0, .take)] }),
    ((2, 3), { uses := [(9, .share)] }),
    ((2, 4), { uses := [(7, .take), (10, .take)] }),
    ((2, 5), { uses := [(11, .take)] }),
    ((3, 0), { uses := [(0, .take)] }),
    ((3, 1), { uses := [(12, .take)] })],
  []⟩
def a24 : AFunc := ⟨2, 13, 0, [.tmp 4],
  .seq (.region false [⟨(some 4), none, false, .mv (.c .nils), .none⟩])
  (.seq (.seq (.region false [⟨(some 5), none, false, .mv (.t 1), .none⟩,
    ⟨(some 6), none, false, .bin .gtr (.t 5) (.c (.int .i64 0)), .none⟩])
  (.cond (.t 6)
   (.region false [⟨(some 7), none, false, .mv (.u 0 .take), .none⟩,
     ⟨(some 8), none, false, .mv (.t 1), .none⟩,
     ⟨(some 9), none, false, .build [(.int .i64 0), (.int .i64 0), (.int .i64 0), (.int .i64 0), .nils, (.int .i64 0)] [(5, 1, (.t 8))], .none⟩,
     ⟨(some 10), none, false, .buildSlice 6 [(.int .i64 0), (.int .i64 0), (.int .i64 0), (.int .i64 0), .nils, (.int .i64 0)] 1 [(0, (.u 9 .share))], .none⟩,
     ⟨(some 11), none, false, .append 6 (.u 7 .take) (.u 10 .take), .none⟩,
     ⟨(some 0), none, false, .mv (.u 11 .take), .none⟩])
   (.skip)))
  (.seq (.region false [⟨(some 12), none, false, .mv (.u 0 .take), .none⟩,
    ⟨(some 4), none, false, .mv (.u 12 .take), .none⟩])
  (.ret)))⟩
def v24 : List Nat := [0, 1, 4, 6]
def b24 : List Nat := []
-- behind t6: [0]
theorem c24 : cFunc Proofs.Try.prog p24 24 = some a24 := by decide +kernel

-- 25 casement/frame.lengths
def p25 : Plan := ⟨[], 0, [],
  []⟩
def a25 : AFunc := ⟨1, 20, 0, [.tmp 2, .tmp 3, .tmp 4],
  .seq (.region false [⟨(some 2), none, false, .mv (.c (.int .i64 0)), .none⟩,
    ⟨(some 3), none, false, .mv (.c (.int .i64 0)), .none⟩,
    ⟨(some 4), none, false, .mv (.c (.bool false)), .none⟩])
  (.seq (.seq (.region false [⟨(some 5), none, false, .mv (.t 0), .none⟩])
  (.block 0 (.seq (.seq (.region false [⟨(some 7), none, false, .bin .eql (.t 5) (.c (.int .i64 1)), .none⟩,
    ⟨(some 6), none, false, .mv (.t 7), .none⟩])
  (.cond (.t 6)
   (.skip)
   (.region false [⟨(some 8), none, false, .bin .eql (.t 5) (.c (.int .i64 3)), .none⟩,
     ⟨(some 6), none, false, .mv (.t 8), .none⟩])))
  (.cond (.t 6)
   (.seq (.region false [⟨(some 2), none, false, .mv (.c (.int .i64 4)), .none⟩,
     ⟨(some 3), none, false, .mv (.c (.int .i64 4)), .none⟩,
     ⟨(some 4), none, false, .mv (.c (.bool true)), .none⟩])
   (.ret))
   (.seq (.region false [⟨(some 10), none, false, .bin .eql (.t 5) (.c (.int .i64 2)), .none⟩,
     ⟨(some 9), none, false, .mv (.t 10), .none⟩])
   (.cond (.t 9)
    (.seq (.region false [⟨(some 2), none, false, .mv (.c (.int .i64 1)), .none⟩,
      ⟨(some 3), none, false, .mv (.c (.int .i64 256)), .none⟩,
      ⟨(some 4), none, false, .mv (.c (.bool true)), .none⟩])
    (.ret))
    (.seq (.seq (.region false [⟨(some 12), none, false, .bin .eql (.t 5) (.c (.int .i64 4)), .none⟩,
      ⟨(some 11), none, false, .mv (.t 12), .none⟩])
    (.cond (.t 11)
     (.skip)
     (.region false [⟨(some 13), none, false, .bin .eql (.t 5) (.c (.int .i64 8)), .none⟩,
       ⟨(some 11), none, false, .mv (.t 13), .none⟩])))
    (.cond (.t 11)
     (.seq (.region false [⟨(some 2), none, false, .mv (.c (.int .i64 0)), .none⟩,
       ⟨(some 3), none, false, .mv (.c (.int .i64 0)), .none⟩,
       ⟨(some 4), none, false, .mv (.c (.bool true)), .none⟩])
     (.ret))
     (.seq (.region false [⟨(some 15), none, false, .bin .eql (.t 5) (.c (.int .i64 5)), .none⟩,
       ⟨(some 14), none, false, .mv (.t 15), .none⟩])
     (.cond (.t 14)
      (.seq (.region false [⟨(some 2), none, false, .mv (.c (.int .i64 1)), .none⟩,
        ⟨(some 3), none, false, .mv (.c (.int .i64 64)), .none⟩,
        ⟨(some 4), none, false, .mv (.c (.bool true)), .none⟩])
      (.ret))
      (.seq (.region false [⟨(some 17), none, false, .bin .eql (.t 5) (.c (.int .i64 6)), .none⟩,
        ⟨(some 16), none, false, .mv (.t 17), .none⟩])
      (.cond (.t 16)
       (.seq (.region false [⟨(some 2), none, false, .mv (.c (.int .i64 1)), .none⟩,
         ⟨(some 3), none, false, .mv (.c (.int .i64 512)), .none⟩,
         ⟨(some 4), none, false, .mv (.c (.bool true)), .none⟩])
       (.ret))
       (.seq (.region false [⟨(some 19), none, false, .bin .eql (.t 5) (.c (.int .i64 7)), .none⟩,
         ⟨(some 18), none, false, .mv (.t 19), .none⟩])
       (.cond (.t 18)
        (.seq (.region false [⟨(some 2), none, false, .mv (.c (.int .i64 2)), .none⟩,
          ⟨(some 3), none, false, .mv (.c (.int .i64 2)), .none⟩,
          ⟨(some 4), none, false, .mv (.c (.bool true)), .none⟩])
        (.ret))
        (.skip)))))))))))))))
  (.seq (.region false [⟨(some 2), none, false, .mv (.c (.int .i64 0)), .none⟩,
    ⟨(some 3), none, false, .mv (.c (.int .i64 0)), .none⟩,
    ⟨(some 4), none, false, .mv (.c (.bool false)), .none⟩])
  (.ret)))⟩
def v25 : List Nat := [0, 2, 3, 4, 5, 6, 9, 11, 14, 16, 18]
def b25 : List Nat := []
-- behind t6: [5, 6]
-- behind t6: []
-- behind t9: []
-- behind t11: [5, 11]
-- behind t11: []
-- behind t14: []
-- behind t16: []
-- behind t18: []
theorem c25 : cFunc Proofs.Try.prog p25 25 = some a25 := by decide +kernel

-- 26 casement/casementref20.Payload
def p26 : Plan := ⟨[], 1, [((0, 0), { box := some 0 }),
    ((8, 17), { uses := [(99, .share)] }),
    ((10, 9), { uses := [(117, .share)] }),
    ((13, 2), { uses := [(139, .share)] })],
  []⟩
def a26 : AFunc := ⟨1, 140, 1, [.tmp 2, .tmp 3],
  .seq (.region false [⟨(some 1), none, false, .boxL 0 (.t 0), .none⟩,
    ⟨(some 2), none, false, .mv (.c .nils), .none⟩,
    ⟨(some 3), none, false, .mv (.c (.bool false)), .none⟩])
  (.seq (.region false [⟨(some 9), none, false, .fieldAddr 0 (.t 1), .none⟩,
    ⟨(some 10), none, false, .load false 1 (.t 9) .copy, .none⟩,
    ⟨(some 11), none, false, .callF 28 [(.t 10)], .none⟩,
    ⟨(some 8), none, false, .mv (.t 11), .none⟩,
    ⟨(some 12), none, false, .extract (.t 8) 0, .none⟩,
    ⟨(some 13), none, false, .extract (.t 8) 1, .none⟩,
    ⟨(some 14), none, false, .extract (.t 8) 2, .none⟩,
    ⟨(some 4), none, false, .mv (.t 12), .none⟩,
    ⟨(some 5), none, false, .mv (.t 13), .none⟩,
    ⟨(some 6), none, false, .mv (.t 14), .none⟩])
  (.seq (.seq (.region false [⟨(some 15), none, false, .mv (.t 6), .none⟩,
    ⟨(some 16), none, false, .un .not (.t 15), .none⟩])
  (.cond (.t 16)
   (.seq (.region false [⟨(some 2), none, false, .mv (.c .nils), .none⟩,
     ⟨(some 3), none, false, .mv (.c (.bool false)), .none⟩])
   (.ret))
   (.skip)))
  (.seq (.region false [⟨(some 17), none, false, .fieldAddr 0 (.t 1), .none⟩,
    ⟨(some 18), none, false, .load false 1 (.t 17) .copy, .none⟩,
    ⟨(some 19), none, false, .bin .eql (.t 18) (.c (.int .i64 1)), .none⟩,
    ⟨(some 20), none, false, .mv (.t 19), .none⟩,
    ⟨(some 21), (some (20, false)), false, .fieldAddr 0 (.t 1), .none⟩,
    ⟨(some 22), (some (20, false)), false, .load false 1 (.t 21) .copy, .none⟩,
    ⟨(some 23), (some (20, false)), false, .bin .eql (.t 22) (.c (.int .i64 3)), .none⟩,
    ⟨(some 24), none, false, .pick (.t 20) (.c (.bool true)) (.t 23), .none⟩,
    ⟨(some 7), none, false, .mv (.t 24), .none⟩])
  (.seq (.seq (.region false [⟨(some 25), none, false, .mv (.t 7), .none⟩,
    ⟨(some 26), none, false, .fieldAddr 1 (.t 1), .none⟩,
    ⟨(some 27), none, false, .load false 1 (.t 26) .copy, .none⟩,
    ⟨(some 28), none, false, .bin .neq (.t 27) (.c (.int .i64 0)), .none⟩,
    ⟨(some 29), none, false, .eq true .bool (.t 25) (.t 28), .none⟩,
    ⟨(some 30), none, false, .mv (.t 29), .none⟩,
    ⟨(some 31), (some (30, false)), false, .mv (.t 7), .none⟩,
    ⟨(some 32), (some (30, false)), false, .fieldAddr 2 (.t 1), .none⟩,
    ⟨(some 33), (some (30, false)), false, .load false 1 (.t 32) .copy, .none⟩,
    ⟨(some 34), (some (30, false)), false, .bin .neq (.t 33) (.c (.int .i64 0)), .none⟩,
    ⟨(some 35), (some (30, false)), false, .eq true .bool (.t 31) (.t 34), .none⟩,
    ⟨(some 36), none, false, .pick (.t 30) (.c (.bool true)) (.t 35), .none⟩,
    ⟨(some 37), none, false, .mv (.t 36), .none⟩,
    ⟨(some 38), (some (37, false)), false, .fieldAddr 0 (.t 1), .none⟩,
    ⟨(some 39), (some (37, false)), false, .load false 1 (.t 38) .copy, .none⟩,
    ⟨(some 40), (some (37, false)), false, .bin .eql (.t 39) (.c (.int .i64 7)), .none⟩,
    ⟨(some 41), (some (37, false)), false, .fieldAddr 3 (.t 1), .none⟩,
    ⟨(some 42), (some (37, false)), false, .load false 1 (.t 41) .copy, .none⟩,
    ⟨(some 43), (some (37, false)), false, .bin .neq (.t 42) (.c (.int .i64 0)), .none⟩,
    ⟨(some 44), (some (37, false)), false, .eq true .bool (.t 40) (.t 43), .none⟩,
    ⟨(some 45), none, false, .pick (.t 37) (.c (.bool true)) (.t 44), .none⟩,
    ⟨(some 46), none, false, .mv (.t 45), .none⟩,
    ⟨(some 47), (some (46, false)), false, .fieldAddr 1 (.t 1), .none⟩,
    ⟨(some 48), (some (46, false)), false, .load false 1 (.t 47) .copy, .none⟩,
    ⟨(some 49), (some (46, false)), false, .bin .lss (.t 48) (.c (.int .i64 0)), .none⟩,
    ⟨(some 50), none, false, .pick (.t 46) (.c (.bool true)) (.t 49), .none⟩,
    ⟨(some 51), none, false, .mv (.t 50), .none⟩,
    ⟨(some 52), (some (51, false)), false, .fieldAddr 1 (.t 1), .none⟩,
    ⟨(some 53), (some (51, false)), false, .load false 1 (.t 52) .copy, .none⟩,
    ⟨(some 54), (some (51, false)), false, .bin .gtr (.t 53) (.c (.int .i64 200)), .none⟩,
    ⟨(some 55), none, false, .pick (.t 51) (.c (.bool true)) (.t 54), .none⟩,
    ⟨(some 56), none, false, .mv (.t 55), .none⟩,
    ⟨(some 57), (some (56, false)), false, .fieldAddr 2 (.t 1), .none⟩,
    ⟨(some 58), (some (56, false)), false, .load false 1 (.t 57) .copy, .none⟩,
    ⟨(some 59), (some (56, false)), false, .bin .lss (.t 58) (.c (.int .i64 0)), .none⟩,
    ⟨(some 60), none, false, .pick (.t 56) (.c (.bool true)) (.t 59), .none⟩,
    ⟨(some 61), none, false, .mv (.t 60), .none⟩,
    ⟨(some 62), (some (61, false)), false, .fieldAddr 2 (.t 1), .none⟩,
    ⟨(some 63), (some (61, false)), false, .load false 1 (.t 62) .copy, .none⟩,
    ⟨(some 64), (some (61, false)), false, .bin .gtr (.t 63) (.c (.int .i64 200)), .none⟩,
    ⟨(some 65), none, false, .pick (.t 61) (.c (.bool true)) (.t 64), .none⟩,
    ⟨(some 66), none, false, .mv (.t 65), .none⟩,
    ⟨(some 67), (some (66, false)), false, .fieldAddr 3 (.t 1), .none⟩,
    ⟨(some 68), (some (66, false)), false, .load false 1 (.t 67) .copy, .none⟩,
    ⟨(some 69), (some (66, false)), false, .bin .lss (.t 68) (.c (.int .i64 0)), .none⟩,
    ⟨(some 70), none, false, .pick (.t 66) (.c (.bool true)) (.t 69), .none⟩,
    ⟨(some 71), none, false, .mv (.t 70), .none⟩,
    ⟨(some 72), (some (71, false)), false, .fieldAddr 3 (.t 1), .none⟩,
    ⟨(some 73), (some (71, false)), false, .load false 1 (.t 72) .copy, .none⟩,
    ⟨(some 74), (some (71, false)), false, .bin .gtr (.t 73) (.c (.int .i64 999)), .none⟩,
    ⟨(some 75), none, false, .pick (.t 71) (.c (.bool true)) (.t 74), .none⟩])
  (.cond (.t 75)
   (.seq (.region false [⟨(some 2), none, false, .mv (.c .nils), .none⟩,
     ⟨(some 3), none, false, .mv (.c (.bool false)), .none⟩])
   (.ret))
   (.skip)))
  (.seq (.seq (.region false [⟨(some 76), none, false, .mv (.t 7), .none⟩,
    ⟨(some 77), none, false, .mv (.t 76), .none⟩,
    ⟨(some 78), (some (77, true)), false, .fieldAddr 5 (.t 1), .none⟩,
    ⟨(some 79), (some (77, true)), false, .load false 1 (.t 78) .copy, .none⟩,
    ⟨(some 80), (some (77, true)), false, .lenSl (.t 79), .none⟩,
    ⟨(some 81), (some (77, true)), false, .bin .eql (.t 80) (.c (.int .i64 0)), .none⟩,
    ⟨(some 82), none, false, .pick (.t 77) (.t 81) (.c (.bool false)), .none⟩])
  (.cond (.t 82)
   (.seq (.region false [⟨(some 83), none, false, .fieldAddr 1 (.t 1), .none⟩,
     ⟨(some 84), none, false, .load false 1 (.t 83) .copy, .none⟩,
     ⟨(some 85), none, false, .bin .rem (.t 84) (.c (.int .i64 256)), .none⟩,
     ⟨(some 86), none, false, .conv .u8 (.t 85), .none⟩,
     ⟨(some 87), none, false, .fieldAddr 1 (.t 1), .none⟩,
     ⟨(some 88), none, false, .load false 1 (.t 87) .copy, .none⟩,
     ⟨(some 89), none, false, .bin .quo (.t 88) (.c (.int .i64 256)), .none⟩,
     ⟨(some 90), none, false, .conv .u8 (.t 89), .none⟩,
     ⟨(some 91), none, false, .fieldAddr 2 (.t 1), .none⟩,
     ⟨(some 92), none, false, .load false 1 (.t 91) .copy, .none⟩,
     ⟨(some 93), none, false, .bin .rem (.t 92) (.c (.int .i64 256)), .none⟩,
     ⟨(some 94), none, false, .conv .u8 (.t 93), .none⟩,
     ⟨(some 95), none, false, .fieldAddr 2 (.t 1), .none⟩,
     ⟨(some 96), none, false, .load false 1 (.t 95) .copy, .none⟩,
     ⟨(some 97), none, false, .bin .quo (.t 96) (.c (.int .i64 256)), .none⟩,
     ⟨(some 98), none, false, .conv .u8 (.t 97), .none⟩,
     ⟨(some 99), none, false, .buildSlice 1 [(.int .u8 0)] 4 [(0, (.t 86)), (1, (.t 90)), (2, (.t 94)), (3, (.t 98))], .none⟩,
     ⟨(some 2), none, false, .mv (.u 99 .share), .none⟩,
     ⟨(some 3), none, false, .mv (.c (.bool true)), .none⟩])
   (.ret))
   (.skip)))
  (.seq (.seq (.region false [⟨(some 100), none, false, .fieldAddr 0 (.t 1), .none⟩,
    ⟨(some 101), none, false, .load false 1 (.t 100) .copy, .none⟩,
    ⟨(some 102), none, false, .bin .eql (.t 101) (.c (.int .i64 7)), .none⟩,
    ⟨(some 103), none, false, .mv (.t 102), .none⟩,
    ⟨(some 104), (some (103, true)), false, .fieldAddr 5 (.t 1), .none⟩,
    ⟨(some 105), (some (103, true)), false, .load false 1 (.t 104) .copy, .none⟩,
    ⟨(some 106), (some (103, true)), false, .lenSl (.t 105), .none⟩,
    ⟨(some 107), (some (103, true)), false, .bin .eql (.t 106) (.c (.int .i64 0)), .none⟩,
    ⟨(some 108), none, false, .pick (.t 103) (.t 107) (.c (.bool false)), .none⟩])
  (.cond (.t 108)
   (.seq (.region false [⟨(some 109), none, false, .fieldAddr 3 (.t 1), .none⟩,
     ⟨(some 110), none, false, .load false 1 (.t 109) .copy, .none⟩,
     ⟨(some 111), none, false, .bin .rem (.t 110) (.c (.int .i64 256)), .none⟩,
     ⟨(some 112), none, false, .conv .u8 (.t 111), .none⟩,
     ⟨(some 113), none, false, .fieldAddr 3 (.t 1), .none⟩,
     ⟨(some 114), none, false, .load false 1 (.t 113) .copy, .none⟩,
     ⟨(some 115), none, false, .bin .quo (.t 114) (.c (.int .i64 256)), .none⟩,
     ⟨(some 116), none, false, .conv .u8 (.t 115), .none⟩,
     ⟨(some 117), none, false, .buildSlice 1 [(.int .u8 0)] 2 [(0, (.t 112)), (1, (.t 116))], .none⟩,
     ⟨(some 2), none, false, .mv (.u 117 .share), .none⟩,
     ⟨(some 3), none, false, .mv (.c (.bool true)), .none⟩])
   (.ret))
   (.skip)))
  (.seq (.seq (.region false [⟨(some 118), none, false, .mv (.t 7), .none⟩,
    ⟨(some 119), none, false, .mv (.t 118), .none⟩,
    ⟨(some 120), (some (119, false)), false, .fieldAddr 0 (.t 1), .none⟩,
    ⟨(some 121), (some (119, false)), false, .load false 1 (.t 120) .copy, .none⟩,
    ⟨(some 122), (some (119, false)), false, .bin .eql (.t 121) (.c (.int .i64 7)), .none⟩,
    ⟨(some 123), none, false, .pick (.t 119) (.c (.bool true)) (.t 122), .none⟩,
    ⟨(some 124), none, false, .mv (.t 123), .none⟩,
    ⟨(some 125), (some (124, false)), false, .fieldAddr 5 (.t 1), .none⟩,
    ⟨(some 126), (some (124, false)), false, .load false 1 (.t 125) .copy, .none⟩,
    ⟨(some 127), (some (124, false)), false, .lenSl (.t 126), .none⟩,
    ⟨(some 128), (some (124, false)), false, .mv (.t 4), .none⟩,
    ⟨(some 129), (some (124, false)), false, .bin .lss (.t 127) (.t 128), .none⟩,
    ⟨(some 130), none, false, .pick (.t 124) (.c (.bool true)) (.t 129), .none⟩,
    ⟨(some 131), none, false, .mv (.t 130), .none⟩,
    ⟨(some 132), (some (131, false)), false, .fieldAddr 5 (.t 1), .none⟩,
    ⟨(some 133), (some (131, false)), false, .load false 1 (.t 132) .copy, .none⟩,
    ⟨(some 134), (some (131, false)), false, .lenSl (.t 133), .none⟩,
    ⟨(some 135), (some (131, false)), false, .mv (.t 5), .none⟩,
    ⟨(some 136), (some (131, false)), false, .bin .gtr (.t 134) (.t 135), .none⟩,
    ⟨(some 137), none, false, .pick (.t 131) (.c (.bool true)) (.t 136), .none⟩])
  (.cond (.t 137)
   (.seq (.region false [⟨(some 2), none, false, .mv (.c .nils), .none⟩,
     ⟨(some 3), none, false, .mv (.c (.bool false)), .none⟩])
   (.ret))
   (.skip)))
  (.seq (.region false [⟨(some 138), none, false, .fieldAddr 5 (.t 1), .none⟩,
    ⟨(some 139), none, false, .load false 1 (.t 138) .copy, .none⟩,
    ⟨(some 2), none, false, .mv (.u 139 .share), .none⟩,
    ⟨(some 3), none, false, .mv (.c (.bool true)), .none⟩])
  (.ret)))))))))⟩
def v26 : List Nat := [0, 1, 2, 3, 4, 5, 6, 7, 16, 75, 82, 108, 137]
def b26 : List Nat := [0]
-- behind t16: [1, 4, 5]
-- behind t75: [1, 4, 5, 7]
-- behind t82: [1, 4, 5, 7]
-- behind t108: [1, 4, 5, 7]
-- behind t137: [1]
theorem c26 : cFunc Proofs.Try.prog p26 26 = some a26 := by decide +kernel

-- 28 casement/casementref20.bounds
def p28 : Plan := ⟨[], 0, [((1, 1), { uses := [(7, .share)] }),
    ((2, 1), { uses := [(8, .share)] })],
  []⟩
def a28 : AFunc := ⟨1, 25, 0, [.tmp 2, .tmp 3, .tmp 4],
  .seq (.region false [⟨(some 2), none, false, .mv (.c (.int .i64 0)), .none⟩,
    ⟨(some 3), none, false, .mv (.c (.int .i64 0)), .none⟩,
    ⟨(some 4), none, false, .mv (.c (.bool false)), .none⟩])
  (.seq (.region false [⟨(some 7), none, false, .buildSlice 1 [(.int .i64 0)] 8 [(0, (.c (.int .i64 4))), (1, (.c (.int .i64 1))), (2, (.c (.int .i64 4))), (3, (.c (.int .i64 0))), (4, (.c (.int .i64 1))), (5, (.c (.int .i64 1))), (6, (.c (.int .i64 2))), (7, (.c (.int .i64 0)))], .none⟩,
    ⟨(some 5), none, false, .mv (.u 7 .share), .none⟩])
  (.seq (.region false [⟨(some 8), none, false, .buildSlice 1 [(.int .i64 0)] 8 [(0, (.c (.int .i64 4))), (1, (.c (.int .i64 256))), (2, (.c (.int .i64 4))), (3, (.c (.int .i64 0))), (4, (.c (.int .i64 64))), (5, (.c (.int .i64 512))), (6, (.c (.int .i64 2))), (7, (.c (.int .i64 0)))], .none⟩,
    ⟨(some 6), none, false, .mv (.u 8 .share), .none⟩])
  (.seq (.seq (.region false [⟨(some 9), none, false, .mv (.t 0), .none⟩,
    ⟨(some 10), none, false, .bin .lss (.t 9) (.c (.int .i64 1)), .none⟩,
    ⟨(some 11), none, false, .mv (.t 10), .none⟩,
    ⟨(some 12), (some (11, false)), false, .mv (.t 0), .none⟩,
    ⟨(some 13), (some (11, false)), false, .bin .gtr (.t 12) (.c (.int .i64 8)), .none⟩,
    ⟨(some 14), none, false, .pick (.t 11) (.c (.bool true)) (.t 13), .none⟩])
  (.cond (.t 14)
   (.seq (.region false [⟨(some 2), none, false, .mv (.c (.int .i64 0)), .none⟩,
     ⟨(some 3), none, false, .mv (.c (.int .i64 0)), .none⟩,
     ⟨(some 4), none, false, .mv (.c (.bool false)), .none⟩])
   (.ret))
   (.skip)))
  (.seq (.region true [⟨(some 15), none, false, .mv (.t 5), .none⟩,
    ⟨(some 16), none, false, .mv (.t 0), .none⟩,
    ⟨(some 17), none, false, .bin .sub (.t 16) (.c (.int .i64 1)), .none⟩,
    ⟨(some 18), none, false, .indexSl 1 (.t 15) (.t 17), .none⟩,
    ⟨(some 19), none, false, .load false 1 (.t 18) .copy, .none⟩,
    ⟨(some 20), none, false, .mv (.t 6), .none⟩,
    ⟨(some 21), none, false, .mv (.t 0), .none⟩,
    ⟨(some 22), none, false, .bin .sub (.t 21) (.c (.int .i64 1)), .none⟩,
    ⟨(some 23), none, false, .indexSl 1 (.t 20) (.t 22), .none⟩,
    ⟨(some 24), none, false, .load false 1 (.t 23) .copy, .none⟩,
    ⟨(some 2), none, false, .mv (.t 19), .none⟩,
    ⟨(some 3), none, false, .mv (.t 24), .none⟩,
    ⟨(some 4), none, false, .mv (.c (.bool true)), .none⟩])
  (.ret)))))⟩
def v28 : List Nat := [0, 2, 3, 4, 5, 6, 14]
def b28 : List Nat := []
-- behind t14: [0, 5, 6]
theorem c28 : cFunc Proofs.Try.prog p28 28 = some a28 := by decide +kernel

-- 29 casement/casementref20.guess
def p29 : Plan := ⟨[], 2, [((0, 0), { box := some 0 }),
    ((1, 2), { box := some 1 }),
    ((1, 3), { uses := [(7, .share)] }),
    ((3, 2), { uses := [(9, .share)] }),
    ((10, 1), { uses := [(49, .share)] })],
  []⟩
def a29 : AFunc := ⟨2, 50, 2, [.cell 4 true 6],
  .seq (.region false [⟨(some 4), none, false, .allocL 0 [(.int .i64 0), (.int .i64 0), (.int .i64 0), (.int .i64 0), (.int .i64 0), .nils], .none⟩])
  (.seq (.region false [⟨(some 6), none, false, .mv (.t 0), .none⟩,
    ⟨(some 7), none, false, .build [(.int .i64 0), (.int .i64 0), (.int .i64 0), (.int .i64 0), (.int .i64 0), .nils] [(0, 1, (.t 6))], .none⟩,
    ⟨(some 5), none, false, .allocL 1 [(.int .i64 0), (.int .i64 0), (.int .i64 0), (.int .i64 0), (.int .i64 0), .nils], .none⟩,
    ⟨none, none, false, .store 6 (.t 5) (.u 7 .share), .none⟩])
  (.seq (.seq (.region false [⟨(some 8), none, false, .mv (.t 0), .none⟩])
  (.block 0 (.seq (.seq (.region false [⟨(some 12), none, false, .bin .eql (.t 8) (.c (.int .i64 1)), .none⟩,
    ⟨(some 11), none, false, .mv (.t 12), .none⟩])
  (.cond (.t 11)
   (.skip)
   (.region false [⟨(some 13), none, false, .bin .eql (.t 8) (.c (.int .i64 3)), .none⟩,
     ⟨(some 11), none, false, .mv (.t 13), .none⟩])))
  (.cond (.t 11)
   (.seq (.region true [⟨(some 14), none, false, .mv (.t 1), .none⟩,
     ⟨(some 15), none, false, .indexSl 1 (.t 14) (.c (.int .i64 0)), .none⟩,
     ⟨(some 16), none, false, .load false 1 (.t 15) .copy, .none⟩,
     ⟨(some 17), none, false, .conv .i64 (.t 16), .none⟩,
     ⟨(some 18), none, false, .mv (.t 1), .none⟩,
     ⟨(some 19), none, false, .indexSl 1 (.t 18) (.c (.int .i64 1)), .none⟩,
     ⟨(some 20), none, false, .load false 1 (.t 19) .copy, .none⟩,
     ⟨(some 21), none, false, .conv .i64 (.t 20), .none⟩,
     ⟨(some 22), none, false, .bin .mul (.c (.int .i64 256)) (.t 21), .none⟩,
     ⟨(some 23), none, false, .bin .add (.t 17) (.t 22), .none⟩,
     ⟨(some 24), none, false, .fieldAddr 1 (.t 5), .none⟩,
     ⟨none, none, false, .store 1 (.t 24) (.t 23), .none⟩])
   (.region true [⟨(some 25), none, false, .mv (.t 1), .none⟩,
     ⟨(some 26), none, false, .indexSl 1 (.t 25) (.c (.int .i64 2)), .none⟩,
     ⟨(some 27), none, false, .load false 1 (.t 26) .copy, .none⟩,
     ⟨(some 28), none, false, .conv .i64 (.t 27), .none⟩,
     ⟨(some 29), none, false, .mv (.t 1), .none⟩,
     ⟨(some 30), none, false, .indexSl 1 (.t 29) (.c (.int .i64 3)), .none⟩,
     ⟨(some 31), none, false, .load false 1 (.t 30) .copy, .none⟩,
     ⟨(some 32), none, false, .conv .i64 (.t 31), .none⟩,
     ⟨(some 33), none, false, .bin .mul (.c (.int .i64 256)) (.t 32), .none⟩,
     ⟨(some 34), none, false, .bin .add (.t 28) (.t 33), .none⟩,
     ⟨(some 35), none, false, .fieldAddr 2 (.t 5), .none⟩,
     ⟨none, none, false, .store 1 (.t 35) (.t 34), .none⟩]))
   (.seq (.region false [⟨(some 37), none, false, .bin .eql (.t 8) (.c (.int .i64 7)), .none⟩,
     ⟨(some 36), none, false, .mv (.t 37), .none⟩])
   (.cond (.t 36)
    (.region true [⟨(some 38), none, false, .mv (.t 1), .none⟩,
      ⟨(some 39), none, false, .indexSl 1 (.t 38) (.c (.int .i64 0)), .none⟩,
      ⟨(some 40), none, false, .load false 1 (.t 39) .copy, .none⟩,
      ⟨(some 41), none, false, .conv .i64 (.t 40), .none⟩,
      ⟨(some 42), none, false, .mv (.t 1), .none⟩,
      ⟨(some 43), none, false, .indexSl 1 (.t 42) (.c (.int .i64 1)), .none⟩,
      ⟨(some 44), none, false, .load false 1 (.t 43) .copy, .none⟩,
      ⟨(some 45), none, false, .conv .i64 (.t 44), .none⟩,
      ⟨(some 46), none, false, .bin .mul (.c (.int .i64 256)) (.t 45), .none⟩,
      ⟨(some 47), none, false, .bin .add (.t 41) (.t 46), .none⟩,
      ⟨(some 48), none, false, .fieldAddr 3 (.t 5), .none⟩,
      ⟨none, none, false, .store 1 (.t 48) (.t 47), .none⟩])
    (.region false [⟨(some 9), none, false, .mv (.t 1), .none⟩,
      ⟨(some 10), none, false, .fieldAddr 5 (.t 5), .none⟩,
      ⟨none, none, false, .store 1 (.t 10) (.u 9 .share), .none⟩])))))))
  (.seq (.region false [⟨(some 49), none, false, .load true 6 (.t 5) .copy, .none⟩,
    ⟨none, none, false, .store 6 (.t 4) (.u 49 .share), .none⟩])
  (.ret))))⟩
def v29 : List Nat := [0, 1, 4, 5, 8, 11, 36]
def b29 : List Nat := [0, 1]
-- behind t11: [1, 4, 5, 8, 11]
-- behind t11: [4, 5]
-- behind t36: [4, 5]
theorem c29 : cFunc Proofs.Try.prog p29 29 = some a29 := by decide +kernel

-- 30 casement/frame.two
def p30 : Plan := ⟨[], 0, [],
  []⟩
def a30 : AFunc := ⟨1, 13, 0, [.tmp 2],
  .seq (.region false [⟨(some 2), none, false, .mv (.c (.int .i64 0)), .none⟩])
  (.seq (.region true [⟨(some 3), none, false, .mv (.t 0), .none⟩,
    ⟨(some 4), none, false, .indexSl 1 (.t 3) (.c (.int .i64 0)), .none⟩,
    ⟨(some 5), none, false, .load false 1 (.t 4) .copy, .none⟩,
    ⟨(some 6), none, false, .conv .i64 (.t 5), .none⟩,
    ⟨(some 7), none, false, .mv (.t 0), .none⟩,
    ⟨(some 8), none, false, .indexSl 1 (.t 7) (.c (.int .i64 1)), .none⟩,
    ⟨(some 9), none, false, .load false 1 (.t 8) .copy, .none⟩,
    ⟨(some 10), none, false, .conv .i64 (.t 9), .none⟩,
    ⟨(some 11), none, false, .bin .shl (.t 10) (.c (.int .u64 8)), .none⟩,
    ⟨(some 12), none, false, .bin .or (.t 6) (.t 11), .none⟩,
    ⟨(some 2), none, false, .mv (.t 12), .none⟩])
  (.ret))⟩
def v30 : List Nat := [0, 2]
def b30 : List Nat := []
theorem c30 : cFunc Proofs.Try.prog p30 30 = some a30 := by decide +kernel

-- 31 casement/frame.side
def p31 : Plan := ⟨[], 0, [],
  []⟩
def a31 : AFunc := ⟨1, 9, 0, [.tmp 2],
  .seq (.region false [⟨(some 2), none, false, .mv (.c (.bool false)), .none⟩])
  (.seq (.region false [⟨(some 3), none, false, .mv (.t 0), .none⟩,
    ⟨(some 4), none, false, .bin .geq (.t 3) (.c (.int .i64 1)), .none⟩,
    ⟨(some 5), none, false, .mv (.t 4), .none⟩,
    ⟨(some 6), (some (5, true)), false, .mv (.t 0), .none⟩,
    ⟨(some 7), (some (5, true)), false, .bin .leq (.t 6) (.c (.int .i64 200)), .none⟩,
    ⟨(some 8), none, false, .pick (.t 5) (.t 7) (.c (.bool false)), .none⟩,
    ⟨(some 2), none, false, .mv (.t 8), .none⟩])
  (.ret))⟩
def v31 : List Nat := [0, 2]
def b31 : List Nat := []
theorem c31 : cFunc Proofs.Try.prog p31 31 = some a31 := by decide +kernel


def codes : List (Nat × AFunc) := [(4, a4), (5, a5), (6, a6), (7, a7), (8, a8), (9, a9), (10, a10), (11, a11), (12, a12), (13, a13), (14, a14), (15, a15), (16, a16), (17, a17), (19, a19), (20, a20), (21, a21), (22, a22), (23, a23), (24, a24), (25, a25), (26, a26), (28, a28), (29, a29), (30, a30), (31, a31)]
def FT : Table := tableOf codes scrX
theorem codes_ok : allOK Proofs.Try.prog codes := ⟨cFunc_ok c4, cFunc_ok c5, cFunc_ok c6, cFunc_ok c7, cFunc_ok c8, cFunc_ok c9, cFunc_ok c10, cFunc_ok c11, cFunc_ok c12, cFunc_ok c13, cFunc_ok c14, cFunc_ok c15, cFunc_ok c16, cFunc_ok c17, cFunc_ok c19, cFunc_ok c20, cFunc_ok c21, cFunc_ok c22, cFunc_ok c23, cFunc_ok c24, cFunc_ok c25, cFunc_ok c26, cFunc_ok c28, cFunc_ok c29, cFunc_ok c30, cFunc_ok c31, trivial⟩
end Go.Proofs.Ytgglgcehiolpcaa.Am.Frame
