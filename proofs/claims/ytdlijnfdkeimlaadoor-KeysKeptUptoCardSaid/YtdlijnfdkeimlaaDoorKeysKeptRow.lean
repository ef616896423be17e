/-
KeysKept answers true where the input is of bounded bulk; the input reads as it did.
-/
import Derived.Test.YtdlijnfdkeimlaaDoorAmKeysKeptRow5
import Derived.Carry
import Derived.OpenShut
import Derived.ChangeSame
import Derived.RowKit
import Derived.Test.YtdlijnfdkeimlaaDoorRows
import Derived.LaidSub
import Derived.Test.YtdlijnfdkeimlaaDoorCards
import Derived.Test.YtdlijnfdkeimlaaDoorTie
import Derived.WalkKit
import Derived.ProofKit
import Derived.Deep.DeepHandedRow
import Derived.Lib.LaidTab
namespace Go.Proofs.YtdlijnfdkeimlaaDoor.Am
section
variable {P : Program} {W : World}
inductive ArgOK (W : World) : V → Value → Prop
 | leaf {x : V} {v : Value} (h : RB (blocksOf W) W x v) : ArgOK W x v
 | agg (cs : List V) (arr : Array Value) (hs : arr.size = cs.length) (h : ∀ k, k < cs.length → RB (blocksOf W) W (cs.getD k .undef) (arr.getD k undef)) : ArgOK W (.agg cs) (.agg arr)
def g0 (W : World) : G := ⟨id, id, fun _ => False, blocksOf W⟩
theorem RB.toR1 {x : V} {v : Value} (h : RB (blocksOf W) W x v) : R1 (g0 W) W 0 x v := by
 cases h with
 | func f => exact ⟨#[], rfl, rfl, fun k hk => absurd hk (by simp)⟩
 | bool b => exact RB.bool b
 | int k n => exact RB.int k n
 | str b => exact RB.str b
 | nilp => exact RB.nilp
 | nils => exact RB.nils
 | nilf => exact RB.nilf
 | nili => exact RB.nili
 | slice sz xs a cap vs hs hp hc hz hv hr => exact RB.slice sz xs a cap vs hs hp hc hz hv hr
theorem RB.ok0 {x : V} {v : Value} (h : RB (blocksOf W) W x v) : x.ok0 = true := by
 cases h <;> rfl
theorem RB.cnt {x : V} {v : Value} (h : RB (blocksOf W) W x v) (c : Nat) : cnt0 c x v = 0 := by
 cases h <;> rfl
theorem ArgOK.r3 {x : V} {v : Value} (h : ArgOK W x v) (τ : Nat → Value) : R3 (g0 W) W 0 τ x v := by
 cases h with
 | leaf h =>
  have h1 := h.toR1
  cases h <;> exact h1
 | agg cs arr hs h => exact ⟨arr, rfl, hs, fun k hk => ⟨.inl (h k hk).ok0, (h k hk).toR1⟩⟩
theorem ArgOK.okArg {x : V} {v : Value} (h : ArgOK W x v) : x.okArg = true := by
 cases h with
 | leaf h => cases h <;> rfl
 | agg cs arr hs h =>
  simp only [V.okArg, List.all_eq_true]
  intro y hy
  obtain ⟨k, hk, rfl⟩ := List.getElem_of_mem hy
  have := (h k hk).ok0
  rwa [List.getD_eq_getElem?_getD, List.getElem?_eq_getElem hk] at this
theorem ArgOK.cnt {x : V} {v : Value} (h : ArgOK W x v) (c : Nat) : cnt2 c x v = 0 := by
 cases h with
 | leaf h =>
  have h1 := h.cnt c
  cases h <;> exact h1
 | agg cs arr hs h => exact sumTo_zero fun k hk => (h k hk).cnt c
theorem start {args : List V} {vs : Array Value} (hl : args.length = vs.toList.length) (ha : ∀ k, k < args.length → ArgOK W (args.getD k .undef) (vs.toList.getD k undef)) :
  SR (g0 W) W 0 (fun _ => 0) (fun _ => false) ⟨fun _ => .undef, fun _ => [], []⟩ #[] (args.zip vs.toList) := by
 have hmem : ∀ p ∈ args.zip vs.toList, ArgOK W p.1 p.2 := fun p hp => by
  obtain ⟨k, hk, rfl⟩ := List.getElem_of_mem hp
  have hk' : k < args.length := by simp at hk; omega
  have h1 := ha k hk'
  simp only [List.getElem_zip]
  rw [List.getD_eq_getElem?_getD, List.getElem?_eq_getElem hk', List.getD_eq_getElem?_getD, List.getElem?_eq_getElem (by omega)] at h1
  exact h1
 have hcP : ∀ c, cntP c (args.zip vs.toList) = 0 := fun c => by
  rw [cntP_zip hl]; exact sumTo_zero fun k hk => (ha k hk).cnt c
 have hT : ∀ c, total (g0 W) W 0 (fun _ => 0) ⟨fun _ => .undef, fun _ => [], []⟩ #[] (args.zip vs.toList) c = persOf (g0 W) c := fun c => by
  have e1 : cntT c (fun _ => V.undef) #[] = 0 := rfl
  have e2 : cntB (g0 W) W c 0 (fun _ => []) = 0 := rfl
  have e3 : cntM (g0 W) W c [] = 0 := rfl
  unfold total
  simp only [e1, e2, e3, hcP]
  omega
 refine ⟨fun s => trivial, fun s _ => rfl, fun s d hd => (by cases hd), fun p hp => (hmem p hp).r3 _, fun p hp d hd => ?_, fun j => by simp [g0], fun j hj => absurd rfl hj, fun b hb => absurd hb (by simp), fun c => ?_, fun c hc => ?_⟩
 ·obtain ⟨b, o, e⟩ := okArg_root (hmem p hp).okArg hd; cases e
 ·rw [hT]; unfold persOf; split <;> omega
 ·rw [hT]; unfold persOf
  rw [if_neg]
  show ¬ (c < W.heap.size)
  omega
theorem law_calls [Lay P] {T : Table} (hLd : Laid P (g0 W) W) (hT : TableOK P T) {f : Nat} {args : List V} {m' : List (List V)} {vs : Array Value} {b : Bool} (hret : RF T f args [] = some (.bool b, m')) (hl : args.length = vs.toList.length)
  (ha : ∀ k, k < args.length → ArgOK W (args.getD k .undef) (vs.toList.getD k undef)) : Calls P f vs W fun e W' => e = .returned (.bool b) ∧ RowKit.Below W.heap.size W W' := by
 obtain ⟨_, hcall⟩ := ret_sound hT (RF_ret.1 hret)
 have hok : args.all V.okArg = true := List.all_eq_true.2 fun y hy => by
  obtain ⟨k, hk, rfl⟩ := List.getElem_of_mem hy
  have := (ha k hk).okArg
  rwa [List.getD_eq_getElem?_getD, List.getElem?_eq_getElem hk] at this
 refine (hcall (g0 W) W (fun _ => 0) vs (by simpa using hl.symm) hok hLd (start hl ha)).mono fun e W' ⟨v, g', he, hS, hE, _⟩ => ?_
 have hv : v = .bool b := R3.bool (hS.pend _ (.head _))
 exact ⟨by rw [he, hv], hE.os, hE.tape, hE.output, hE.size, fun k hk => (hE.pers k hk).2⟩
def FitsV (P : Program) (t : TypeId) (x : V) : Prop :=
 match P.underlying t with
 | some (.struct _) | some (.array _ _) => ∃ cs, x = .agg cs ∧ Fits P t cs
 | _ => Fits P t [x]
section
variable {H : Type} {enc : TypeId × Value → H}
theorem arg_of {d : Nat} {t : TypeId} (hsup : supT P d t = true) {v : Value} {dd : DataW H} {ps : List MemPlace} {base : Nat} (hval : Value.okWide P W .any base t v) (h : DataW.Trod enc P W 0 (fun _ => true) true t v dd ps) :
  ∃ x, FitsV P t x ∧ ArgOK W x v := by
 obtain ⟨fuel, h⟩ := h
 obtain ⟨cs, hfit, hr⟩ := reads_iff.1 (reads_of hsup h)
 have agg : ∀ arr : Array Value, v = .agg arr → ArgOK W (.agg cs) v := fun arr e => by
  subst e
  have hc : (Value.agg arr).cells = arr := rfl
  rw [hc] at hr
  refine .agg cs arr (by have := hr.1; simpa using this.symm) fun k hk => ?_
  have := hr.2 k (by rw [← hr.1]; exact hk)
  rwa [array_toList_getD] at this
 have leaf : (∀ arr, v ≠ .agg arr) → cs.length = 1 → ∃ x, cs = [x] ∧ ArgOK W x v := fun hv h1 => by
  match cs, h1 with
  | [x], _ =>
   refine ⟨x, rfl, .leaf ?_⟩
   rw [cells_leaf hv] at hr
   exact hr.2 0 (by simp)
 unfold FitsV
 unfold Value.okWide at hval
 cases hu : P.underlying t with
 | none => cases hfit <;> simp_all
 | some ud =>
  rw [hu] at hval
  cases ud with
  | struct fs => obtain ⟨arr, e, _⟩ := hval; exact ⟨.agg cs, ⟨cs, rfl, hfit⟩, agg arr e⟩
  | array n e => obtain ⟨arr, e, _⟩ := hval; exact ⟨.agg cs, ⟨cs, rfl, hfit⟩, agg arr e⟩
  | _ =>
   simp only at hval ⊢
   have h1 : cs.length = 1 := by cases hfit <;> first | rfl | simp_all
   have h2 : ∀ arr, v ≠ .agg arr := fun arr e => by
    subst e
    simp only [Cell.okWide, Cell.ok, hu] at hval
   obtain ⟨x, rfl, hx⟩ := leaf h2 h1
   exact ⟨x, hfit, hx⟩
theorem args_of {d : Nat} : ∀ {ts : List TypeId} {vs : List Value} {ds : List (DataW H)} {ps : List MemPlace} {base : Nat}, ts.all (supT P d) = true → (∀ (j : Nat) (t : TypeId) (v : Value), ts[j]? = some t → vs[j]? = some v → Value.okWide P W .any base t v) →
  DataW.TrodAll enc P W 0 (fun _ => true) true ts vs ds ps → ∃ args : List V, args.length = vs.length ∧ ts.length = vs.length ∧ (∀ (j : Nat) (t : TypeId), ts[j]? = some t → FitsV P t (args.getD j .undef)) ∧ ∀ k, k < args.length → ArgOK W (args.getD k .undef) (vs.getD k undef)
 | [], vs, ds, ps, base, _, _, h => by
  obtain ⟨rfl, rfl, rfl⟩ := ChangeShapes.trodAll_nil h
  exact ⟨[], rfl, rfl, fun j t hj => by simp at hj, fun k hk => absurd hk (by simp)⟩
 | t :: ts, vs, ds, ps, base, hsup, hval, h => by
  obtain ⟨v, vs', dd, ds', p, q, rfl, rfl, rfl, h0, r0⟩ := ChangeShapes.trodAll_cons h
  simp only [List.all_cons, Bool.and_eq_true] at hsup
  obtain ⟨x, hx1, hx2⟩ := arg_of hsup.1 (hval 0 t v rfl rfl) h0
  obtain ⟨args, h1, h2, h3, h4⟩ := args_of hsup.2 (fun j t v hj hv => hval (j + 1) t v hj hv) r0
  refine ⟨x :: args, by simp [h1], by simp [h2], fun j t' hj => ?_, fun k hk => ?_⟩
  ·cases j with
   | zero => simp only [List.getElem?_cons_zero, Option.some.injEq] at hj; subst hj; exact hx1
   | succ j => exact h3 j t' hj
  ·cases k with
   | zero => exact hx2
   | succ k => exact h4 k (by simpa using hk)
theorem args_stay (hl : laidOutB P = true) {W' : World} {sp : Nat → Bool} : ∀ {ts : List TypeId} {vs : List Value} {ds : List (DataW H)} {ps : List MemPlace}, (ts.all fun t => P.readableRec t && decide (t < P.types.size)) = true →
  DataW.TrodAll enc P W 0 (fun _ => true) true ts vs ds ps → (∀ p ∈ ps, W.sameAt W' p) → (∀ p ∈ ps, sp p.block = true) → DataW.TrodAll enc P W' 0 sp true ts vs ds ps
 | [], vs, ds, ps, _, h, _, _ => by
  obtain ⟨rfl, rfl, rfl⟩ := ChangeShapes.trodAll_nil h
  exact rfl
 | t :: ts, vs, ds, ps, hr, h, hs, hsp => by
  obtain ⟨v, vs', dd, ds', p, q, rfl, rfl, rfl, h0, r0⟩ := ChangeShapes.trodAll_cons h
  simp only [List.all_cons, Bool.and_eq_true, decide_eq_true_eq] at hr
  exact trodAll_cons_mk (WideElems.Trod_stays hl hr.1.1 hr.1.2 h0 (fun x hx => hs x (List.mem_append_left _ hx)) (fun x hx => hsp x (List.mem_append_left _ hx)))
   (args_stay hl hr.2 r0 (fun x hx => hs x (List.mem_append_right _ hx)) (fun x hx => hsp x (List.mem_append_right _ hx)))
theorem trodAll_len : ∀ {ts : List TypeId} {vs : List Value} {ds : List (DataW H)} {ps : List MemPlace}, DataW.TrodAll enc P W 0 (fun _ => true) true ts vs ds ps → ds.length = ts.length
 | [], vs, ds, ps, h => by obtain ⟨rfl, rfl, rfl⟩ := ChangeShapes.trodAll_nil h; rfl
 | t :: ts, vs, ds, ps, h => by
  obtain ⟨v, vs', dd, ds', p, q, rfl, rfl, rfl, h0, r0⟩ := ChangeShapes.trodAll_cons h
  simp [trodAll_len r0]
open ChangeShapes in
theorem post_of_below {f : Func} {s : ChangeSpec} {apart fresh handsOn again : Bool} {W W' : World} {args : Array Value} {v : Value} {ds gs : List (DataW H)} {before pa pv : List MemPlace}
  (hW : DataW.Whole enc P f.params.toList s.vars apart W args.toList ds gs before)
  (hres : ∀ (b : Nat) (sp : Nat → Bool) (hd : Bool), DataW.TrodAll enc P W' b sp hd f.resultTypes.toList (v.resultList f.resultTypes.size) (s.fn H (ds ++ gs)).results [])
  (hargs : ∀ sp : Nat → Bool, (∀ p ∈ before, sp p.block = true) → DataW.TrodAll enc P W' 0 sp true f.params.toList args.toList (s.fn H (ds ++ gs)).args pa)
  (hvars : ∀ sp : Nat → Bool, (∀ p ∈ before, sp p.block = true) → DataW.TrodVars enc P W' sp s.vars (s.fn H (ds ++ gs)).vars pv)
  (hps : before = pa ++ pv) (hb : RowKit.Below W.heap.size W W')
  (hok : ∀ (j : Nat) (t : TypeId) (r : Value), f.resultTypes[j]? = some t → (v.resultList f.resultTypes.size)[j]? = some r → Value.okWide P W' .any 0 t r) :
  s.post enc P f apart fresh handsOn again W args v W' := by
 have hlt : ∀ p ∈ before, p.block < W.heap.size := fun p hp => hW.lt p hp
 have hold : ∀ p ∈ before, (fun b => decide (b < W.heap.size)) p.block = true := fun p hp => by simpa using hlt p hp
 refine ⟨ds, gs, before, [], pa, pv, hW, hres _ _ _, hargs _ hold, hvars _ hold, World.keptBut_mono (fun p hp => ⟨hp, ?_⟩) (hb.frame (· ∈ before)), fun _ => ?_⟩
 ·rw [hps, List.mem_append] at hp
  exact Or.inr hp
 ·obtain ⟨_, _, _, _, _, hz, hn⟩ := hW
  refine ⟨hok, _, _, ([] ++ pa) ++ pv, ⟨[] ++ pa, pv, trodAll_append (hargs _ (fun _ _ => rfl)) (hres _ _ _), hvars _ (fun _ _ => rfl), rfl, ?_, ?_⟩, ?_⟩
  ·intro b off hp
   have hp' : MemPlace.cell b off ∈ before := by rw [hps]; simpa using hp
   rw [hb.frozen (p := ⟨b, off, none⟩) (hlt _ hp')]
   exact hz b off hp'
  ·intro ha
   have := hn ha
   rw [hps] at this
   simpa using this
  ·intro p hp _
   rw [hps]
   simpa using hp
end
end
end Go.Proofs.YtdlijnfdkeimlaaDoor.Am

set_option linter.all false
namespace Go.Proofs.YtdlijnfdkeimlaaDoor.Am.Keys
open Go.Proofs
theorem gl2 : Tryd.prog.globalNamed "unicode/utf8.acceptRanges" = some 1 := by kernel_rfl
theorem gl1 : Tryd.prog.globalNamed "unicode/utf8.first" = some 0 := by kernel_rfl
theorem gt2 : (Tryd.prog.globals[1]?).map (·.type) = some 161 := by kernel_rfl
theorem gt1 : (Tryd.prog.globals[0]?).map (·.type) = some 158 := by kernel_rfl
noncomputable def eT (t : TypeId) : TypeId := match Tryd.prog.underlying t with | some (.array _ e) => e | _ => 0
noncomputable def fsT (t : TypeId) : Array Field := match Tryd.prog.underlying t with | some (.struct fs) => fs | _ => #[]
theorem ut1 : Tryd.prog.underlying 158 = some (.array 256 (eT 158)) := by kernel_rfl
theorem ut2 : Tryd.prog.underlying 161 = some (.array 16 (eT 161)) := by kernel_rfl
theorem ue1 : Tryd.prog.underlying (eT 158) = some (.int .u8) := by kernel_rfl
theorem ue2 : Tryd.prog.underlying (eT 161) = some (.struct (fsT (eT 161))) := by kernel_rfl
theorem uf0 : ((fsT (eT 161))[0]?.map fun f => (f.type, f.offset)) = some (5, 0) := by kernel_rfl
theorem uf1 : ((fsT (eT 161))[1]?.map fun f => (f.type, f.offset)) = some (5, 1) := by kernel_rfl
theorem u5 : Tryd.prog.underlying 5 = some (.int .u8) := by kernel_rfl
theorem kc1 : Tryd.prog.cellsOf (eT 158) = 1 := by kernel_rfl
theorem kc2 : Tryd.prog.cellsOf (eT 161) = 2 := by kernel_rfl
theorem kc5 : Tryd.prog.cellsOf 5 = 1 := by kernel_rfl
theorem laid_one {l : List (String × DataW Unit)} {W : World} {n : String} {d : DataW Unit} {g : Nat} {t : TypeId} (h : laidMetH Tryd.prog l W)
  (hf : (l.filter fun x => x.2.handleName?.isNone).filter (fun x => x.1 == n) = [(n, d)]) (hg : Tryd.prog.globalNamed n = some g) (hty : (Tryd.prog.globals[g]?).map (·.type) = some t) :
  ∃ (cs : Array Value) (fuel : Nat) (p : List MemPlace), (∀ i, W.cell? ⟨g, i, none⟩ = cs[i]?) ∧ g < W.heap.size ∧ DataW.trod (fun _ => ()) Tryd.prog W 0 (fun _ => true) false fuel t cs.toList = some (d, p) ∧ W.var? Tryd.prog n = some cs := by
 have h2 := (laidMetH_iff.1 h).1.filter (fun x => x.1 == n)
 rw [hf] at h2
 obtain ⟨ps, ⟨g', t', cs, fuel, p, q, hg', ht', hvar, hd, _, _⟩, _⟩ := h2
 obtain rfl := Option.some.inj (hg.symm.trans hg')
 obtain rfl := Option.some.inj (hty.symm.trans ht')
 have hv := hvar
 refine ⟨cs, fuel, p, fun i => World.var?_cell hg hvar i, ?_, hd, hv⟩
 clear hv
 unfold World.var? at hvar
 rw [hg] at hvar
 simp only [Option.bind_some] at hvar
 cases hh : W.heap[g]? with
 | none => rw [hh] at hvar; cases hvar
 | some o => exact (Array.getElem?_eq_some_iff.1 hh).1
noncomputable def lst (x : List V) : DataW Unit := match x with
 | [.int k n] => .lit (.int k n)
 | [.int k n, .int k' n'] => .agg [.lit (.int k n), .lit (.int k' n')]
 | _ => .nil
theorem first_rows {W : World} {cs : Array Value} {fuel : Nat} {p : List MemPlace} (h : DataW.trod (fun _ => ()) Tryd.prog W 0 (fun _ => true) false fuel 158 cs.toList = some (.agg (tab1.map lst), p)) (i : Nat) (hi : i < 256) :
  ∃ n, tab1[i]? = some [.int .u8 n] ∧ cs[i]? = some (.int .u8 n) := by
 obtain ⟨xs, m, _, hx, hl, hlen, hr⟩ := DataW.trod_array ut1 h
 have hxs : tab1.map lst = xs.map (·.1) := by
  have := congrArg Prod.fst hx
  simpa using this
 have h1 := hr i hi
 rw [kc1, List.getElem?_eq_getElem (by omega)] at h1
 obtain ⟨n, hc, hy, _⟩ := DataW.trod_int ue1 h1
 have h2 : (tab1.map lst)[i]? = some (.lit (.int .u8 n)) := by
  rw [hxs, List.getElem?_map, List.getElem?_eq_getElem (by omega), hy]; rfl
 refine ⟨n, ?_, ?_⟩
 ·rw [List.getElem?_map] at h2
  obtain ⟨x, hx1, hx2⟩ := Option.map_eq_some_iff.1 h2
  rw [hx1]
  have hk : ∀ y ∈ tab1, ∃ z, y = [.int .u8 z] := by
   have : tab1.all (fun y => match y with | [.int .u8 _] => true | _ => false) = true := by decide +kernel
   intro y hy
   have := List.all_eq_true.1 this y hy
   split at this
   ·exact ⟨_, rfl⟩
   ·cases this
  obtain ⟨z, rfl⟩ := hk x (List.mem_of_getElem? hx1)
  simp only [lst, DataW.lit.injEq, Lit.int.injEq, true_and] at hx2
  rw [hx2]
 ·have := congrArg (·[0]?) hc
  simpa [List.getElem?_take, List.getElem?_drop] using this
theorem second_rows {W : World} {cs : Array Value} {fuel : Nat} {p : List MemPlace} (h : DataW.trod (fun _ => ()) Tryd.prog W 0 (fun _ => true) false fuel 161 cs.toList = some (.agg (tab2.map lst), p)) (i : Nat) (hi : i < 16) :
  ∃ a b, tab2[i]? = some [.int .u8 a, .int .u8 b] ∧ cs[i * 2]? = some (.int .u8 a) ∧ cs[i * 2 + 1]? = some (.int .u8 b) := by
 obtain ⟨xs, m, _, hx, hl, hlen, hr⟩ := DataW.trod_array ut2 h
 have hxs : tab2.map lst = xs.map (·.1) := by
  have := congrArg Prod.fst hx
  simpa using this
 have h1 := hr i hi
 rw [kc2, List.getElem?_eq_getElem (by omega)] at h1
 obtain ⟨ys, m2, _, hy, hl2, hlen2, hr2⟩ := DataW.trod_struct ue2 h1
 have hsz : (fsT (eT 161)).size = 2 := by kernel_rfl
 obtain ⟨g0, hg0, hq0⟩ := Option.map_eq_some_iff.1 uf0
 obtain ⟨g1, hg1, hq1⟩ := Option.map_eq_some_iff.1 uf1
 have f0 := hr2 0 _ hg0
 have f1 := hr2 1 _ hg1
 rw [show g0.type = 5 from congrArg Prod.fst hq0, show g0.offset = 0 from congrArg Prod.snd hq0, kc5] at f0
 rw [show g1.type = 5 from congrArg Prod.fst hq1, show g1.offset = 1 from congrArg Prod.snd hq1, kc5] at f1
 rw [List.getElem?_eq_getElem (by omega)] at f0 f1
 obtain ⟨a, ha, hya, _⟩ := DataW.trod_int u5 f0
 obtain ⟨b, hb, hyb, _⟩ := DataW.trod_int u5 f1
 have hys : ys.map (·.1) = [.lit (.int .u8 a), .lit (.int .u8 b)] := by
  match ys, hlen2.trans hsz with
  | [y0, y1], _ =>
   simp only [List.getElem_cons_zero, List.getElem_cons_succ] at hya hyb
   rw [hya, hyb]; rfl
 have h2 : (tab2.map lst)[i]? = some (.agg [.lit (.int .u8 a), .lit (.int .u8 b)]) := by
  rw [hxs, List.getElem?_map, List.getElem?_eq_getElem (by omega), hy, ← hys]; rfl
 refine ⟨a, b, ?_, ?_, ?_⟩
 ·rw [List.getElem?_map] at h2
  obtain ⟨x, hx1, hx2⟩ := Option.map_eq_some_iff.1 h2
  rw [hx1]
  have hk : ∀ y ∈ tab2, ∃ z z', y = [.int .u8 z, .int .u8 z'] := by
   have : tab2.all (fun y => match y with | [.int .u8 _, .int .u8 _] => true | _ => false) = true := by decide +kernel
   intro y hy
   have := List.all_eq_true.1 this y hy
   split at this
   ·exact ⟨_, _, rfl⟩
   ·cases this
  obtain ⟨z, z', rfl⟩ := hk x (List.mem_of_getElem? hx1)
  simp only [lst, DataW.agg.injEq, List.cons.injEq, DataW.lit.injEq, Lit.int.injEq, true_and, and_true] at hx2
  rw [hx2.1, hx2.2]
 ·have := congrArg (·[0]?) ha
  simpa [List.getElem?_take, List.getElem?_drop] using this
 ·have := congrArg (·[0]?) hb
  simpa [List.getElem?_take, List.getElem?_drop] using this
theorem laid_of {l : List (String × DataW Unit)} {W : World} (h : laidMetH Tryd.prog l W)
  (h1 : (l.filter fun x => x.2.handleName?.isNone).filter (fun x => x.1 == "unicode/utf8.first") = [("unicode/utf8.first", .agg (tab1.map lst))])
  (h2 : (l.filter fun x => x.2.handleName?.isNone).filter (fun x => x.1 == "unicode/utf8.acceptRanges") = [("unicode/utf8.acceptRanges", .agg (tab2.map lst))]) : Laid Tryd.prog (g0 W) W := by
 obtain ⟨cs1, f1, p1, e1, s1, t1, _⟩ := laid_one h h1 gl1 gt1
 obtain ⟨cs2, f2, p2, e2, s2, t2, _⟩ := laid_one h h2 gl2 gt2
 have len1 : tab1.length = 256 := by decide +kernel
 have len2 : tab2.length = 16 := by decide +kernel
 refine ⟨fun t ht => ?_, fun t ht => ?_⟩
 case refine_2 =>
  have ht : t ∈ ([] : List (Nat × String × IntKind × List Int)) := ht
  cases ht
 have ht : t ∈ [(0, 1, tab1), (1, 2, tab2)] := ht
 rcases List.mem_cons.1 ht with rfl | ht
 ·refine ⟨s1, fun i hi => ?_, fun i k hi hk => ?_⟩
  ·have hi : i < tab1.length := hi
   obtain ⟨n, a, _⟩ := first_rows t1 i (by omega)
   show (tab1.getD i []).length = 1
   rw [List.getD_eq_getElem?_getD, a]; rfl
  ·have hi : i < tab1.length := hi
   have hk : k < 1 := hk
   obtain ⟨n, a, b⟩ := first_rows t1 i (by omega)
   obtain rfl : k = 0 := by omega
   refine ⟨.int .u8 n, ?_, ?_⟩
   ·show W.cell? ⟨0, 0 + (i * 1 + 0), none⟩ = _
    rw [show 0 + (i * 1 + 0) = i by omega, e1, b]
   ·show RB _ W ((tab1.getD i []).getD 0 .undef) _
    rw [show tab1.getD i [] = _ from List.getD_eq_getElem?_getD, a]; exact RB.int _ _
 ·obtain rfl := List.mem_singleton.1 ht
  refine ⟨s2, fun i hi => ?_, fun i k hi hk => ?_⟩
  ·have hi : i < tab2.length := hi
   obtain ⟨n, n', a, _⟩ := second_rows t2 i (by omega)
   show (tab2.getD i []).length = 2
   rw [List.getD_eq_getElem?_getD, a]; rfl
  ·have hi : i < tab2.length := hi
   have hk : k < 2 := hk
   obtain ⟨n, n', a, b, c⟩ := second_rows t2 i (by omega)
   match k, hk with
   | 0, _ =>
    refine ⟨.int .u8 n, ?_, ?_⟩
    ·show W.cell? ⟨1, 0 + (i * 2 + 0), none⟩ = _
     rw [show 0 + (i * 2 + 0) = i * 2 by omega, e2, b]
    ·show RB _ W ((tab2.getD i []).getD 0 .undef) _
     rw [show tab2.getD i [] = _ from List.getD_eq_getElem?_getD, a]; exact RB.int _ _
   | 1, _ =>
    refine ⟨.int .u8 n', ?_, ?_⟩
    ·show W.cell? ⟨1, 0 + (i * 2 + 1), none⟩ = _
     rw [show 0 + (i * 2 + 1) = i * 2 + 1 by omega, e2, c]
    ·show RB _ W ((tab2.getD i []).getD 1 .undef) _
     rw [show tab2.getD i [] = _ from List.getD_eq_getElem?_getD, a]; exact RB.int _ _
end Go.Proofs.YtdlijnfdkeimlaaDoor.Am.Keys

namespace Go.Proofs.YtdlijnfdkeimlaaDoor.Am
def ints (xs : List Int) : List (List V) := xs.map fun n => [.int .i64 n]
inductive IV : V → List Int → Prop
 | nil : IV .nils []
 | sl (xs : List Int) : IV (.slice false 1 (ints xs)) xs
def boolL (xs : List Bool) : List (List V) := xs.map fun b => [.bool b]
inductive BV : V → List Bool → Prop
 | nil : BV .nils []
 | sl (xs : List Bool) : BV (.slice false 1 (boolL xs)) xs
section
variable {P : Program}
theorem fits_int {t : TypeId} {k : IntKind} (ht : P.underlying t = some (.int k)) {vs : List V} (h : Fits P t vs) : ∃ n, vs = [.int k n] ∧ (Lit.int k n).wf = true := by
 cases h <;> simp_all
theorem fits_bool {t : TypeId} (ht : P.underlying t = some .bool) {vs : List V} (h : Fits P t vs) : ∃ b, vs = [.bool b] := by
 cases h <;> simp_all
theorem fits_str {t : TypeId} (ht : P.underlying t = some .string) {vs : List V} (h : Fits P t vs) : ∃ s, vs = [.str s] ∧ s.length ≤ maxLen := by
 cases h <;> simp_all
theorem fits_slice {t e : TypeId} (ht : P.underlying t = some (.slice e)) {vs : List V} (h : Fits P t vs) : vs = [.nils] ∨ ∃ xs, vs = [.slice false (P.cellsOf e) xs] ∧ xs.length ≤ maxLen ∧ ∀ x ∈ xs, Fits P e x := by
 cases h with
 | nils => exact .inl rfl
 | slice xs h hl hx =>
  rw [ht] at h
  cases h
  refine .inr ⟨xs, rfl, hl, fun x hm => ?_⟩
  obtain ⟨i, hi, rfl⟩ := List.getElem_of_mem hm
  have := hx i hi
  rwa [List.getD_eq_getElem?_getD, List.getElem?_eq_getElem hi] at this
 | _ => simp_all
theorem fitsV_leaf {t : TypeId} {x : V} {d : TypeDesc} (ht : P.underlying t = some d) (h : FitsV P t x) (hs : ∀ fs, d ≠ .struct fs) (ha : ∀ n e, d ≠ .array n e) : Fits P t [x] := by
 unfold FitsV at h
 rw [ht] at h
 cases d <;> first | exact h | exact absurd rfl (hs _) | exact absurd rfl (ha _ _)
end
end Go.Proofs.YtdlijnfdkeimlaaDoor.Am

namespace Go.Proofs.YtdlijnfdkeimlaaDoor.Am
inductive LT where
 | bool
 | int (k : IntKind)
 | str
 | slice (e : TypeId)
 deriving DecidableEq
def leafsF (P : Program) (F : TypeId → Option (List LT)) : Nat → List Field → Option (List LT)
 | _, [] => some []
 | n, f :: fs => if f.offset = n ∧ (F f.type).map List.length = some (P.cellsOf f.type) then (F f.type).bind fun l => (leafsF P F (n + P.cellsOf f.type) fs).bind fun r => some (l ++ r) else none
def leafs (P : Program) : Nat → TypeId → Option (List LT)
 | 0, _ => none
 | d + 1, t => match P.underlying t with
  | some .bool => some [.bool]
  | some (.int k) => some [.int k]
  | some .string => some [.str]
  | some (.slice e) => some [.slice e]
  | some (.struct fs) => (leafsF P (leafs P d) 0 fs.toList).bind fun l => if l.length = P.cellsOf t then some l else none
  | some (.array n e) => (leafs P d e).bind fun l => if l.length = P.cellsOf e ∧ P.cellsOf t = n * P.cellsOf e then some (List.replicate n l).flatten else none
  | _ => none
def LV (P : Program) (l : LT) (v : V) : Prop :=
 match l with
 | .bool => ∃ b, v = .bool b
 | .int k => ∃ n, v = .int k n ∧ (Lit.int k n).wf = true
 | .str => ∃ s, v = .str s ∧ s.length ≤ maxLen
 | .slice e => v = .nils ∨ ∃ xs, v = .slice false (P.cellsOf e) xs ∧ xs.length ≤ maxLen ∧ ∀ x ∈ xs, Fits P e x
def LVs (P : Program) : List LT → List V → Prop
 | [], [] => True
 | l :: ls, v :: vs => LV P l v ∧ LVs P ls vs
 | _, _ => False
section
variable {P : Program}
theorem LVs.append : ∀ {ls ks : List LT} {vs us : List V}, LVs P ls vs → LVs P ks us → LVs P (ls ++ ks) (vs ++ us)
 | [], _, [], _, _, h => h
 | _ :: _, _, _ :: _, _, h, k => ⟨h.1, LVs.append h.2 k⟩
 | [], _, _ :: _, _, h, _ => h.elim
 | _ :: _, _, [], _, h, _ => h.elim
theorem LVs.len : ∀ {ls : List LT} {vs : List V}, LVs P ls vs → vs.length = ls.length
 | [], [], _ => rfl
 | _ :: _, _ :: _, h => by rw [List.length_cons, List.length_cons, LVs.len h.2]
 | [], _ :: _, h => h.elim
 | _ :: _, [], h => h.elim
theorem leafsF_ok {F : TypeId → Option (List LT)} (hF : ∀ t ls vs, F t = some ls → Fits P t vs → LVs P ls vs) {vs : List V} : ∀ {fs : List Field} {n : Nat} {ls : List LT}, leafsF P F n fs = some ls → (∀ f ∈ fs, Fits P f.type ((vs.drop f.offset).take (P.cellsOf f.type))) →
  LVs P ls ((vs.drop n).take ls.length)
 | [], n, ls, h, _ => by
  simp only [leafsF, Option.some.injEq] at h
  subst h
  rw [List.length_nil, List.take_zero]; trivial
 | f :: fs, n, ls, h, hf => by
  simp only [leafsF] at h
  split at h
  ·rename_i hc
   simp only [Option.bind_eq_some_iff, Option.some.injEq] at h
   obtain ⟨l, hl, r, hr, rfl⟩ := h
   have h1 := hF _ _ _ hl (hf f (.head _))
   have h2 := leafsF_ok hF hr fun g hg => hf g (.tail _ hg)
   have hlen : l.length = P.cellsOf f.type := by
    have := hc.2
    rw [hl] at this
    simpa using this
   rw [hc.1, ← hlen] at h1
   rw [← hlen] at h2
   have hsplit : (vs.drop n).take (l ++ r).length = (vs.drop n).take l.length ++ (vs.drop (n + l.length)).take r.length := by
    rw [List.length_append, List.take_add, List.drop_drop]
   rw [hsplit]
   exact h1.append h2
  ·cases h
theorem leafs_rep {l : List LT} {e : TypeId} (hF : ∀ vs, Fits P e vs → LVs P l vs) (hl : l.length = P.cellsOf e) {vs : List V} : ∀ {n i : Nat}, (∀ j, i ≤ j → j < i + n → Fits P e ((vs.drop (j * P.cellsOf e)).take (P.cellsOf e))) →
  LVs P (List.replicate n l).flatten ((vs.drop (i * P.cellsOf e)).take (n * P.cellsOf e))
 | 0, i, _ => by rw [Nat.zero_mul, List.take_zero]; trivial
 | n + 1, i, h => by
  have h1 := hF _ (h i (Nat.le_refl _) (by omega))
  have h2 := leafs_rep hF hl (n := n) (i := i + 1) fun j hj hk => h j (by omega) (by omega)
  rw [List.replicate_succ, List.flatten_cons, Nat.succ_mul, Nat.add_comm, List.take_add, List.drop_drop]
  rw [Nat.succ_mul] at h2
  exact h1.append h2
theorem fits_leafs : ∀ {d : Nat} {t : TypeId} {ls : List LT} {vs : List V}, leafs P d t = some ls → Fits P t vs → LVs P ls vs := by
 intro d
 induction d with
 | zero => intro t ls vs h; cases h
 | succ d ih =>
  intro t ls vs h hf
  unfold leafs at h
  split at h
  ·rename_i ht
   cases h
   obtain ⟨b, rfl⟩ := fits_bool ht hf
   exact ⟨⟨b, rfl⟩, trivial⟩
  ·rename_i ht
   cases h
   obtain ⟨n, rfl, hw⟩ := fits_int ht hf
   exact ⟨⟨n, rfl, hw⟩, trivial⟩
  ·rename_i ht
   cases h
   obtain ⟨s, rfl, hw⟩ := fits_str ht hf
   exact ⟨⟨s, rfl, hw⟩, trivial⟩
  ·rename_i ht
   cases h
   rcases fits_slice ht hf with rfl | ⟨xs, rfl, h1, h2⟩
   ·exact ⟨.inl rfl, trivial⟩
   ·exact ⟨.inr ⟨xs, rfl, h1, h2⟩, trivial⟩
  ·rename_i fs ht
   simp only [Option.bind_eq_some_iff] at h
   obtain ⟨l, hl, h⟩ := h
   split at h
   ·rename_i hc
    cases h
    cases hf with
    | struct _ ht2 hlen hff =>
     rw [ht] at ht2
     cases ht2
     have := leafsF_ok (vs := vs) (fun _ _ _ a b => ih a b) hl hff
     rwa [List.drop_zero, List.take_of_length_le (by omega)] at this
    | _ => simp_all
   ·cases h
  ·rename_i n e ht
   simp only [Option.bind_eq_some_iff] at h
   obtain ⟨l, hl, h⟩ := h
   split at h
   ·rename_i hc
    cases h
    cases hf with
    | array _ ht2 hlen hff =>
     rw [ht] at ht2
     cases ht2
     have := leafs_rep (vs := vs) (fun _ b => ih hl b) hc.1 (n := n) (i := 0) fun j _ hj => hff j (by omega)
     rwa [Nat.zero_mul, List.drop_zero, List.take_of_length_le (by omega)] at this
    | _ => simp_all
   ·cases h
  ·cases h
end
end Go.Proofs.YtdlijnfdkeimlaaDoor.Am

namespace Go.Proofs.YtdlijnfdkeimlaaDoor.Am
section
variable {P : Program} {W : World} {H : Type} {enc : TypeId × Value → H}
def AsLong (x : V) (d : DataW H) : Prop := ∀ o z xs, x = .slice o z xs → ∃ elems spare, d = .slice elems spare ∧ elems.length = xs.length
theorem asLong {x : V} {v : Value} {t : TypeId} {d : DataW H} {ps : List MemPlace} (hf : FitsV P t x) (ha : ArgOK W x v) (h : DataW.Trod enc P W 0 (fun _ => true) true t v d ps) : AsLong x d := by
 intro o z xs hx
 subst hx
 have hs : ∃ e, P.underlying t = some (.slice e) := by
  unfold FitsV at hf
  split at hf
  ·obtain ⟨cs, e, _⟩ := hf; cases e
  ·obtain ⟨cs, e, _⟩ := hf; cases e
  ·cases hf <;> first | exact ⟨_, by assumption⟩ | simp_all
 obtain ⟨e, ht⟩ := hs
 have hv : ∃ a cap, v = .slice (some a) xs.length cap := by
  cases ha with
  | leaf h => cases h with | slice _ _ a cap _ _ _ _ _ _ _ => exact ⟨a, cap, rfl⟩
 obtain ⟨a, cap, rfl⟩ := hv
 obtain ⟨fuel, h⟩ := h
 rcases DataW.trod_slice ht h with ⟨h1, _⟩ | ⟨a', len, cap', elems, rest, n, _, h1, h2, _, _, _, hel, _⟩
 ·simp [Value.cells] at h1
 ·simp only [Prod.mk.injEq] at h2
  refine ⟨_, _, h2.1, ?_⟩
  have e1 : len = xs.length := by
   have : (Value.slice (some a) xs.length cap).cells.toList = [.slice (some a) xs.length cap] := rfl
   rw [this] at h1
   injection h1 with h1 _
   injection h1 with _ h1 _
   exact h1.symm
  rw [List.length_map, hel, e1]
theorem asLongs : ∀ {ts : List TypeId} {vs : List Value} {ds : List (DataW H)} {ps : List MemPlace} {args : List V}, DataW.TrodAll enc P W 0 (fun _ => true) true ts vs ds ps → args.length = vs.length → (∀ (j : Nat) (t : TypeId), ts[j]? = some t → FitsV P t (args.getD j .undef)) → (∀ k, k < args.length → ArgOK W (args.getD k .undef) (vs.getD k undef)) →
  ∀ (j : Nat) (d : DataW H), ds[j]? = some d → AsLong (args.getD j .undef) d
 | [], vs, ds, ps, args, h, _, _, _, j, d, hd => by
  obtain ⟨rfl, rfl, rfl⟩ := ChangeShapes.trodAll_nil h
  simp at hd
 | t :: ts, vs, ds, ps, args, h, hl, hf, ha, j, d, hd => by
  obtain ⟨v, vs', dd, ds', p, q, rfl, rfl, rfl, h0, r0⟩ := ChangeShapes.trodAll_cons h
  match args, hl with
  | x :: args, hl =>
   cases j with
   | zero =>
    simp only [List.getElem?_cons_zero, Option.some.injEq] at hd
    subst hd
    exact asLong (hf 0 t rfl) (ha 0 (by simp)) h0
   | succ j =>
    exact asLongs r0 (by simpa using hl) (fun i t' hi => hf (i + 1) t' hi) (fun k hk => ha (k + 1) (by simpa using hk)) j d hd
theorem law_contractU [Lay P] {T : Table} (hLd : Laid P (g0 W) W) (hT : TableOK P T) {f : Nat} {fn : Func} {tb : TypeId} {s : ChangeSpec} {apart fresh handsOn again : Bool} {d : Nat} (hbool : P.underlying tb = some .bool) (hres : fn.resultTypes = #[tb]) (hvars : s.vars = [])
  (hspec : ∀ ds : List (DataW H), ds.length = fn.params.toList.length → s.fn H ds = { results := [.lit (.bool true)], args := ds }) (hl : laidOutB P = true) (hr : (fn.params.toList.all fun t => P.readableRec t && decide (t < P.types.size)) = true)
  (hsup : fn.params.toList.all (supT P d) = true) {base : Nat} {args : Array Value} {ds gs : List (DataW H)} {before : List MemPlace}
  (law : ds.length = fn.params.toList.length → ∀ zs9 : List V, zs9.length = fn.params.toList.length → (∀ (j : Nat) (t : TypeId), fn.params.toList[j]? = some t → FitsV P t (zs9.getD j .undef)) → (∀ (j : Nat) (d : DataW H), ds[j]? = some d → AsLong (zs9.getD j .undef) d) → ∃ m', RF T f zs9 [] = some (.bool true, m'))
  (hval : ∀ (j : Nat) t v, fn.params[j]? = some t → args[j]? = some v → Value.okWide P W .any base t v) (hW : DataW.Whole enc P fn.params.toList s.vars apart W args.toList ds gs before) :
  Calls P f args W fun e W' => ∃ v, e = .returned v ∧ s.post enc P fn apart fresh handsOn again W args v W' := by
 have hW' := hW
 obtain ⟨p, q, hA, hV, rfl, hfz, hnd⟩ := hW
 rw [hvars] at hV
 obtain ⟨rfl, rfl⟩ := ChangeShapes.trodVars_none hV
 obtain ⟨zs9, h1, h2, h3, h4⟩ := args_of (base := base) hsup (fun j t v hj hv => hval j t v (by simpa using hj) (by simpa using hv)) hA
 obtain ⟨m', hm⟩ := law (trodAll_len hA) zs9 (by rw [h1, h2]) h3 (asLongs hA h1 h3 h4)
 have hds : ds.length = fn.params.toList.length := trodAll_len hA
 refine (law_calls hLd hT hm h1 h4).mono fun e W' ⟨he, hb⟩ => ?_
 subst he
 have hsp : s.fn H (ds ++ []) = { results := [.lit (.bool true)], args := ds } := by rw [List.append_nil]; exact hspec ds hds
 refine ⟨_, rfl, post_of_below (pa := p) (pv := []) hW' (fun b sp hd => ?_) (fun sp hspb => ?_) (fun sp _ => ?_) rfl hb (RowKit.ok_one hres rfl (RowKit.okWide_bool_mk hbool _))⟩
 ·rw [hsp, hres]
  exact trodAll_cons_mk (RowKit.shut_bool hbool true) rfl
 ·rw [hsp]
  exact args_stay hl hr hA (fun x hx => hb.same (hW'.lt x (by simpa using hx))) (fun x hx => hspb x (by simpa using hx))
 ·rw [hsp, hvars]; exact rfl
end
end Go.Proofs.YtdlijnfdkeimlaaDoor.Am

set_option linter.all false
namespace Go.Proofs.YtdlijnfdkeimlaaDoor.Am.Keys
open Go.Proofs.YtdlijnfdkeimlaaDoor.Am.T
theorem den_long {H : Type} {ρ : List Nat} {w : Bool} {z : Nat} {ys : List (List TV)} {x : V} {d : DataW H} (h : Den ρ (.sl w z ys) x) (ha : AsLong x d) : ys.length = 0 ∨ ∃ elems spare, d = .slice elems spare ∧ elems.length = ys.length := by
  rcases den_sl h with ⟨_, rfl⟩ | ⟨zs, rfl, hp⟩
  · exact .inl rfl
  · obtain ⟨elems, spare, e, hl⟩ := ha _ _ _ rfl
    exact .inr ⟨elems, spare, e, by rw [hl, hp.length]⟩
end Go.Proofs.YtdlijnfdkeimlaaDoor.Am.Keys

set_option linter.all false
namespace Go.Proofs.YtdlijnfdkeimlaaDoor.Am.Keys
open Go.Proofs.YtdlijnfdkeimlaaDoor.Am.T
theorem cells_key {P : Program} {e : TypeId} (hl : leafs P 8 e = some [.int .i32, .int .i64]) {cs : List V} (h : Fits P e cs) : ∃ k : Key, Pw Den0 k.c cs := by
  have h3 := fits_leafs hl h
  have h4 : cs.length = 2 := h3.len
  match cs, h4 with
  | [x1, x2], _ =>
    obtain ⟨h1, h2, _⟩ := h3
    obtain ⟨a, rfl, _⟩ := h1
    obtain ⟨b, rfl, _⟩ := h2
    exact ⟨⟨a, b⟩, .cons (.int _ _) (.cons (.int _ _) .nil)⟩
theorem keys_list {P : Program} {e : TypeId} (hl : leafs P 8 e = some [.int .i32, .int .i64]) : ∀ xs : List (List V), (∀ y ∈ xs, Fits P e y) → ∃ ks : List Key, Pw (Pw Den0) (ks.map Key.c) xs
  | [], _ => ⟨[], .nil⟩
  | y :: ys, hh => by
    obtain ⟨ks, h1⟩ := keys_list hl ys fun z hz => hh z (.tail _ hz)
    obtain ⟨k, h2⟩ := cells_key hl (hh y (.head _))
    exact ⟨k :: ks, .cons h2 h1⟩
theorem keys_den0 {P : Program} {t e : TypeId} (ht : P.underlying t = some (.slice e)) (hl : leafs P 8 e = some [.int .i32, .int .i64]) (hc : P.cellsOf e = 2) {cs : List V} (h : Fits P t cs) : ∃ ks : List Key, Pw Den0 [.sl false 2 (ks.map Key.c)] cs := by
  rcases fits_slice ht h with h | ⟨xs, h, _, hx⟩
  · subst h; exact ⟨[], .cons (.sln false 2) .nil⟩
  · subst h
    obtain ⟨ks, h1⟩ := keys_list hl xs hx
    rw [hc]
    exact ⟨ks, .cons (.sl false 2 h1) .nil⟩
theorem fits_keys {P : Program} {t e : TypeId} (ht : P.underlying t = some (.slice e)) (hl : leafs P 8 e = some [.int .i32, .int .i64]) (hc : P.cellsOf e = 2) {x : V} (h : Fits P t [x]) : ∃ ks : List Key, Den [] (.sl false 2 (ks.map Key.c)) x := by
  obtain ⟨ks, h⟩ := keys_den0 ht hl hc h
  cases h with | cons h _ => exact ⟨ks, .base h⟩
theorem lists_list {P : Program} {t e : TypeId} (ht : P.underlying t = some (.slice e)) (hl : leafs P 8 e = some [.int .i32, .int .i64]) (hc : P.cellsOf e = 2) : ∀ xs : List (List V), (∀ y ∈ xs, Fits P t y) → ∃ bs : List (List Key), Pw (Pw Den0) (bs.map e_List_Key) xs
  | [], _ => ⟨[], .nil⟩
  | y :: ys, hh => by
    obtain ⟨bs, h1⟩ := lists_list ht hl hc ys fun z hz => hh z (.tail _ hz)
    obtain ⟨b, h2⟩ := keys_den0 ht hl hc (hh y (.head _))
    exact ⟨b :: bs, .cons h2 h1⟩
theorem fits_lists {P : Program} {s t e : TypeId} (hs : P.underlying s = some (.slice t)) (h1 : P.cellsOf t = 1) (ht : P.underlying t = some (.slice e)) (hl : leafs P 8 e = some [.int .i32, .int .i64]) (hc : P.cellsOf e = 2) {x : V} (h : Fits P s [x]) : ∃ bs : List (List Key), Den [] (.sl false 1 (bs.map e_List_Key)) x := by
  rcases fits_slice hs h with h | ⟨xs, h, _, hx⟩
  · injection h with h _; subst h; exact ⟨[], .base (.sln false 1)⟩
  · injection h with h _; subst h
    obtain ⟨bs, h2⟩ := lists_list ht hl hc xs hx
    rw [h1]
    exact ⟨bs, .base (.sl false 1 h2)⟩
theorem keysKept_ok {bs : List (List Key)} {ks : List Key} {x y : V} (hx : Den [] (.sl false 1 (bs.map e_List_Key)) x) (hy : Den [] (.sl false 2 (ks.map Key.c)) y) (hb : bs.length ≤ 1048576) (hk : ks.length ≤ 1048576) : ∃ m', RF ET 7 [x, y] [] = some (.bool true, m') :=
  CallT.law (casementlaw18_KeysKept_ok (kept_pure hb hk)) (.cons hx (.cons hy .nil))
end Go.Proofs.YtdlijnfdkeimlaaDoor.Am.Keys

/-
KeysKept answers true where the input is of bounded bulk; the input reads as it did.
-/
namespace Go.Proofs.YtdlijnfdkeimlaaDoor
open Go.Proofs.YtdlijnfdkeimlaaDoor.Am Go.Proofs.YtdlijnfdkeimlaaDoor.Am.Keys
open Go.ChangeShapes Go.WideShapes Go.ChangeAt Go.RowKit
namespace keysKeptUpto
theorem shape (l : List V) (h : l.length = 2) : ∃ x0 x1, l = [x0, x1] := by
  match l, h with
  | [x0, x1], _ => exact ⟨x0, x1, rfl⟩
theorem own : ownKnob Tryd.prog.godebug = none := by kernel_rfl
theorem laidB : laidOutB Tryd.prog = true := by kernel_rfl
theorem one_le {H : Type} (d : DataW H) : 1 ≤ Rows.uptoBulk d := by
  cases d with
  | lit l => cases l <;> simp [Rows.uptoBulk]
  | _ => simp [Rows.uptoBulk]
theorem part_le {H : Type} {d : DataW H} {l : List (DataW H)} (h : d ∈ l) : Rows.uptoBulk d ≤ Rows.uptoBulkAll l := by
  induction l with
  | nil => cases h
  | cons x r ih =>
    simp only [Rows.uptoBulkAll]
    cases List.mem_cons.1 h with
    | inl e => subst e; omega
    | inr e => have := ih e; omega
theorem append_le {H : Type} (l r : List (DataW H)) : Rows.uptoBulkAll l ≤ Rows.uptoBulkAll (l ++ r) := by
  induction l with
  | nil => exact Nat.zero_le _
  | cons x l ih => rw [List.cons_append]; simp only [Rows.uptoBulkAll]; omega
theorem len_le {H : Type} (l : List (DataW H)) : l.length ≤ Rows.uptoBulkAll l := by
  induction l with
  | nil => exact Nat.zero_le _
  | cons x l ih => simp only [Rows.uptoBulkAll, List.length_cons]; have := one_le x; omega
theorem slice_le {H : Type} {n : Nat} {d : DataW H} (h : n = 0 ∨ ∃ elems spare, d = .slice elems spare ∧ elems.length = n) (hb : Rows.uptoBulk d ≤ 1048576) : n ≤ 1048576 := by
  rcases h with rfl | ⟨elems, spare, rfl, rfl⟩
  · omega
  · have := len_le elems
    simp only [Rows.uptoBulk] at hb
    omega
set_option maxRecDepth 100000 in
theorem law {H : Type} (ds : List (DataW H)) (hk : Rows.uptoBulkAll ds ≤ 1048576) (hds : ds.length = Tryd.f7.params.toList.length) (l : List V) (hl : l.length = Tryd.f7.params.toList.length) (h : ∀ (j : Nat) (t : TypeId), Tryd.f7.params.toList[j]? = some t → FitsV Tryd.prog t (l.getD j .undef)) (hlong : ∀ (j : Nat) (d : DataW H), ds[j]? = some d → AsLong (l.getD j .undef) d) : ∃ m', RF ET 7 l [] = some (.bool true, m') := by
  have hln : l.length = 2 := hl
  have hdn : ds.length = 2 := hds
  obtain ⟨x0, x1, rfl⟩ := shape l hln
  match ds, hdn with
  | [d0, d1], _ =>
    have h0 := h 0 57 (by kernel_rfl)
    have k0 := hlong 0 _ rfl
    have b0 : Rows.uptoBulk d0 ≤ 1048576 := Nat.le_trans (part_le (by simp)) hk
    have h1 := h 1 43 (by kernel_rfl)
    have k1 := hlong 1 _ rfl
    have b1 : Rows.uptoBulk d1 ≤ 1048576 := Nat.le_trans (part_le (by simp)) hk
    have u0 : Tryd.prog.underlying 57 = some (.slice 43) := by kernel_rfl
    have u1 : Tryd.prog.underlying 43 = some (.slice 42) := by kernel_rfl
    have ul : leafs Tryd.prog 8 42 = some [.int .i32, .int .i64] := by kernel_rfl
    obtain ⟨bs, hx⟩ := fits_lists u0 (by kernel_rfl) u1 ul (by kernel_rfl) (fitsV_leaf u0 h0 (fun _ e => by cases e) (fun _ _ e => by cases e))
    obtain ⟨ks, hy⟩ := fits_keys u1 ul (by kernel_rfl) (fitsV_leaf u1 h1 (fun _ e => by cases e) (fun _ _ e => by cases e))
    have e0 := slice_le (den_long hx k0) b0
    have e1 := slice_le (den_long hy k1) b1
    rw [List.length_map] at e0 e1
    exact keysKept_ok hx hy e0 e1
noncomputable def laidWorld (os : Os) : World :=
  { World.holding Tryd.prog os ⟨#[], #[], []⟩ with heap := (((World.holding Tryd.prog os ⟨#[], #[], []⟩).heap.modify 0 fun
      | .cells _ t frozen => .cells ((Go.Pinned.utf8FirstZ.map fun (n : Nat) => Value.int .u8 n).toArray) t frozen
      | o => o).modify 1 fun
      | .cells _ t frozen => .cells #[.int .u8 128, .int .u8 191, .int .u8 160, .int .u8 191, .int .u8 128, .int .u8 159, .int .u8 144, .int .u8 191, .int .u8 128, .int .u8 143, .int .u8 0, .int .u8 0, .int .u8 0, .int .u8 0, .int .u8 0, .int .u8 0, .int .u8 0, .int .u8 0, .int .u8 0, .int .u8 0, .int .u8 0, .int .u8 0, .int .u8 0, .int .u8 0, .int .u8 0, .int .u8 0, .int .u8 0, .int .u8 0, .int .u8 0, .int .u8 0, .int .u8 0, .int .u8 0] t frozen
      | o => o) }
theorem laid_met (os : Os) : laidMet Tryd.prog Rows.keysKeptUptoRow.laid ((laidWorld os).forCall (fun _ _ => 0) ⟨#[], #[.slice none 0 0, .slice none 0 0], []⟩).memory :=
  laidMet_of_run' 8 (by kernel_rfl) (by kernel_rfl)
theorem reads (os : Os) {H : Type} (enc : TypeId × Value → H) : ∃ places, DataW.whole enc Tryd.prog ((laidWorld os).forCall (fun _ _ => 0) ⟨#[], #[.slice none 0 0, .slice none 0 0], []⟩).memory Tryd.f7.params.toList Rows.keysKeptSpec.vars false (#[.slice none 0 0, .slice none 0 0] : Array Value).toList 8 = some ([.nil, .nil], [], places) :=
  ⟨[], by kernel_rfl⟩
set_option maxRecDepth 100000 in
theorem lifted (os : Os) (started : os.Started) (H : Type) (enc : TypeId × Value → H) (F : Stop.Interp) :
    ReturnsInHanded {} Tryd.checked os 7 .any ((Rows.OpenSpec.upto Rows.keysKeptSpec).preRow enc Tryd.prog Tryd.f7 Rows.keysKeptUptoRow.domain false Rows.keysKeptUptoRow.laid) (((Rows.OpenSpec.upto Rows.keysKeptSpec).at F).post enc Tryd.prog Tryd.f7 false true false false) := by
  obtain ⟨places, hx⟩ := reads os enc
  refine returnsInHanded_of_row (C := Tryd.checked) (s := (Rows.OpenSpec.upto Rows.keysKeptSpec)) own started (by kernel_rfl) Tryd.func7
    (witness_row_at (enc := enc) (C := Tryd.checked) false (laidWorld os) #[.slice none 0 0, .slice none 0 0] rfl (by kernel_rfl) (by kernel_rfl) (by kernel_rfl)
      (OpenSpec.preRow_of_cond 8 hx (by kernel_rfl) (fun k hk => by cases hk; kernel_rfl) (by kernel_rfl) (laid_met os))) ?_
  intro W base args ds gs before hval hW _ hk _ hlaid _ _
  have hk2 : Rows.uptoBulkAll ds ≤ 1048576 := Nat.le_trans (append_le ds gs) (of_decide_eq_true (hk Rows.uptoSmall rfl))
  exact law_contractU (laid_of hlaid (by kernel_rfl) (by kernel_rfl)) ET_ok (tb := 4) (d := 8) (by kernel_rfl) (by kernel_rfl) rfl
    (fun ds hd => by
      have hdn : ds.length = 2 := hd
      match ds, hdn with
      | [_, _], _ => rfl) laidB (by kernel_rfl) (by kernel_rfl) (law ds hk2) hval hW
theorem said : Rows.KeysKeptUptoSaid :=
  OpenClaim.holds_of_cond 7 Tryd.f7 rfl rfl rfl rfl rfl rfl rfl ⟨rfl, rfl, rfl, rfl, rfl⟩ rfl rfl rfl rfl rfl (by kernel_rfl) Tryd.func7 (by kernel_rfl)
    (of_decide_eq_true (by kernel_rfl)) (by unfold Func.isWrapper; first | (rw [if_pos (by decide +kernel)]; kernel_rfl) | (rw [if_neg (by decide +kernel)]; exact ⟨rfl, rfl⟩))
    (fun os started H enc _ F => by rw [OpenClaim.pre_eq_preRow]; exact lifted os started H enc F)
theorem nowant : (Tryd.f7.params.toList.all fun t => Tryd.prog.wantsStandIn t == false) = true := by kernel_rfl
theorem plain (f : FuncId) (fn : Func) (hf : Tryd.pinned.checked.prog.funcNamed "casement/casementlaw18.KeysKept" = some f) (hfn : Tryd.pinned.checked.prog.funcs[f]? = some fn) :
    false = Tryd.pinned.checked.prog.looks [] ∧ ∀ (j : Nat) t, fn.params[j]? = some t → Tryd.pinned.checked.prog.wantsStandIn t = false := by
  obtain rfl : f = 7 := Option.some.inj ((show Tryd.prog.funcNamed "casement/casementlaw18.KeysKept" = some 7 by kernel_rfl).symm.trans hf) |>.symm
  obtain rfl : fn = Tryd.f7 := (Option.some.inj (Tryd.func7.symm.trans hfn)).symm
  refine ⟨by kernel_rfl, fun j t ht => ?_⟩
  exact beq_iff_eq.1 (List.all_eq_true.1 nowant t (Array.mem_toList_iff.2 (Array.mem_of_getElem? ht)))
theorem holds : Rows.KeysKeptUptoCardSaid :=
  Claim7.holds_tied_plain_at .later [] _ _ _ _ said (fun _ h => by cases h) (by kernel_rfl) (fun _ h => by cases h) keysKeptUpto_row_tie rfl ⟨rfl, rfl⟩ (by kernel_rfl) rfl plain (by kernel_rfl)
#print axioms holds
end keysKeptUpto
end Go.Proofs.YtdlijnfdkeimlaaDoor
