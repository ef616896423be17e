/-
A part of the proof of a law: am func, am dec, am ok, am eq, am wp, am wp s, am wp c, am tab, sb ext, sb tab, am eval, sb code, sb shelf, am fresh, am app, sb app, am fits.
-/
import Derived.Test.YtdlijnfdkeimlaaDoorAmSgrBetweenRow2
import Derived.Lib.ItoaNum
import Derived.Test.YtdlijnfdkeimlaaDoorProg
import Derived.Shelf.Strconv.AppendUint10
import Derived.Ground.NamesProg
import Derived.Shelf.Strconv.Itoa1
import Derived.Shelf.Strconv.Itoa2
import Derived.Lib.Walk
import Derived.Lib.ItoaWalk
import Derived.Lib.ItoaMem
import Derived.Lib.AppendIntMem
import Derived.Lib.BufferKept
import Derived.Lib.Slices
import Derived.Lib.Hide
import Derived.OwnWalk
import Derived.WalkKit
import Derived.ChangeReads
import Derived.ChangeArms
namespace Go.Proofs.YtdlijnfdkeimlaaDoor.Am
section
variable {P : Program}
def resOK (P : Program) : ResultVar → ARes → Prop
 | .tmp t, .tmp s => t = s
 | .cell t ty, .cell s agg n => t = s ∧ varAt P ty = some (agg, n)
 | _, _ => False
def ressOK (P : Program) : List ResultVar → List ARes → Prop
 | [], [] => True
 | r :: rs, a :: zs9 => resOK P r a ∧ ressOK P rs zs9
 | _, _ => False
def FuncOK (P : Program) [Lay P] (f : Nat) (af : AFunc) : Prop :=
 ∃ fn c S, P.funcs[f]? = some fn ∧ fn.body = some c ∧ (fn.name == "runtime.NumGoroutine") = false ∧ fn.ntmps = af.nt ∧ af.np ≤ af.nt ∧ CodeOK P S af.nl af.nt c af.body ∧ ressOK P fn.results.toList af.results
theorem sumTo_front {n : Nat} {f : Nat → Nat} : sumTo (n + 1) f = f 0 + sumTo n (fun k => f (k + 1)) := by
 induction n with
 | zero => simp [sumTo]
 | succ n ih => rw [sumTo, ih]; simp only [sumTo]; omega
theorem cntP_zip {c : Nat} : ∀ {args : List V} {vs : List Value}, args.length = vs.length → cntP c (args.zip vs) = sumTo args.length fun k => cnt2 c (args.getD k .undef) (vs.getD k undef)
 | [], [], _ => rfl
 | x :: args, v :: vs, h => by
  rw [List.zip_cons_cons, cntP_cons, cntP_zip (by simpa using h), List.length_cons, sumTo_front]
  simp
theorem sumTo_split {n k : Nat} {f : Nat → Nat} (h : ∀ i, n ≤ i → f i = 0) : sumTo (n + k) f = sumTo n f := by
 induction k with
 | zero => rfl
 | succ k ih => rw [← Nat.add_assoc, sumTo, ih, h _ (by omega)]; omega
theorem zip_mem {args : List V} {vs : List Value} (h : args.length = vs.length) {k : Nat} (hk : k < args.length) : (args.getD k .undef, vs.getD k undef) ∈ args.zip vs := by
 have hk2 : k < vs.length := by omega
 have : (args.zip vs)[k]'(by simp; omega) = (args.getD k .undef, vs.getD k undef) := by
  simp [List.getD_eq_getElem?_getD, List.getElem?_eq_getElem hk, List.getElem?_eq_getElem hk2]
 rw [← this]
 exact List.getElem_mem _
theorem SR.enter {g : G} {w : World} {fr : Nat → Nat} {m : List (List V)} {args : List V} {vs : Array Value} (h : SR g w 0 fr (fun _ => false) ⟨fun _ => .undef, fun _ => [], m⟩ #[] (args.zip vs.toList)) (hl : vs.size = args.length)
  (hok : args.all V.okArg = true) (S : Nat → Bool) (nl k : Nat) : SR g w nl fr S ⟨fun i => args.getD i .undef, fun _ => [], m⟩ (vs ++ Array.replicate k undef) [] := by
 have hl' : args.length = vs.toList.length := by simp [hl]
 have hin : ∀ s, s < args.length → (args.getD s .undef).okArg = true := fun s hs => List.all_eq_true.1 hok _ (by simp [List.getD_eq_getElem?_getD, List.getElem?_eq_getElem hs])
 have hout : ∀ s, args.length ≤ s → args.getD s .undef = .undef := fun s hs => by simp [List.getD_eq_getElem?_getD, List.getElem?_eq_none hs]
 have hts : ∀ s, s < args.length → tsAt (vs ++ Array.replicate k undef) s = vs.toList.getD s undef := fun s hs => by
  unfold tsAt
  rw [agetD_append_l (by omega), array_toList_getD]
 have hcT : ∀ c, cntT c (fun i => args.getD i .undef) (vs ++ Array.replicate k undef) = cntP c (args.zip vs.toList) := fun c => by
  rw [cntP_zip hl']
  unfold cntT
  rw [show (vs ++ Array.replicate k undef).size = args.length + k from by simp [hl]]
  rw [sumTo_split (f := fun s => cnt2 c (args.getD s .undef) (tsAt (vs ++ Array.replicate k undef) s)) (fun i hi => by rw [hout i hi, cnt2_undef])]
  exact sumTo_congr fun i hi => by rw [hts i hi]
 have hT : ∀ c, total g w nl fr ⟨fun i => args.getD i .undef, fun _ => [], m⟩ (vs ++ Array.replicate k undef) [] c = total g w 0 fr ⟨fun _ => .undef, fun _ => [], m⟩ #[] (args.zip vs.toList) c := fun c => by
  have e1 : cntT c (fun _ => V.undef) #[] = 0 := rfl
  have e2 : cntB g w c 0 (fun _ => []) = 0 := rfl
  have e3 : cntB g w c nl (fun _ => []) = 0 := sumTo_zero fun j _ => by simp [boxOf, cntL, sumTo]
  unfold total
  rw [cntP_nil]
  simp only [hcT, e1, e2, e3]
  omega
 refine ⟨fun s => ?_, fun s hs => hout s (by simp [hl] at hs; omega), fun s d hd => ?_, fun p hp => (by cases hp), fun p hp => (by cases hp), h.lvs, fun j hj => absurd rfl hj, h.mem, fun c => by rw [hT]; exact h.one c, fun c hc => by rw [hT]; exact h.out c hc⟩
 ·rcases Nat.lt_or_ge s args.length with hs | hs
  ·have := h.pend _ (zip_mem hl' hs)
   rw [hts s hs]
   exact R3.tau this fun s' e => by obtain ⟨b, o, e'⟩ := okArg_root (hin s hs) e; cases e'
  ·show R3 _ _ _ _ (args.getD s .undef) _
   rw [hout s hs]; trivial
 ·rcases Nat.lt_or_ge s args.length with hs | hs
  ·obtain ⟨b, o, e⟩ := okArg_root (hin s hs) hd; cases e
  ·have hd' : (args.getD s .undef).root? = some (.tmp d) := hd
   rw [hout s hs] at hd'; cases hd'
theorem R1.shrink {g : G} {w : World} {n n' : Nat} {x : V} {v : Value} (hok : x.cellOk) (ht : x.top ≤ n') (h : R1 g w n x v) : R1 g w n' x v := by
 cases x with
 | ptr b o => exact ⟨ht, h.2⟩
 | func f cs =>
  obtain ⟨vs, e, hs, hk⟩ := h
  refine ⟨vs, e, hs, fun k hlt => ?_⟩
  obtain ⟨b, off, e1, hb, e2⟩ := hk k hlt
  refine ⟨b, off, e1, ?_, e2⟩
  have : ∀ (l : List V), ∀ y ∈ l, capTop y ≤ l.foldr (fun v m => max (capTop v) m) 0 := fun l => by
   induction l with
   | nil => intro y hy; cases hy
   | cons z l ih =>
    intro y hy
    simp only [List.foldr_cons]
    cases hy with
    | head => omega
    | tail _ hy => have := ih y hy; omega
  have h1 := this cs cs[k] (List.getElem_mem _)
  have h2 : cs[k] = .ptr b off := by rw [← e1]; simp [List.getD_eq_getElem?_getD, List.getElem?_eq_getElem hlt]
  have h3 : capTop (V.ptr b off) = b + 1 := rfl
  have ht' : cs.foldr (fun v m => max (capTop v) m) 0 ≤ n' := ht
  rw [h2, h3] at h1
  omega
 | el r z i k => rcases hok with h' | h' <;> simp [V.ok0] at h'
 | place r => rcases hok with h' | h' <;> simp [V.ok0] at h'
 | agg _ => exact h.elim
 | tuple _ => exact h.elim
 | slice o sz xs => cases o <;> exact h
 | _ => exact h
theorem le_foldr {f : V → Nat} : ∀ {l : List V} {y : V}, y ∈ l → f y ≤ l.foldr (fun v n => max (f v) n) 0
 | z :: l, y, hy => by
  simp only [List.foldr_cons]
  cases hy with
  | head => omega
  | tail _ hy => have := le_foldr (f := f) hy; omega
theorem R2.shrink {g : G} {w : World} {n n' : Nat} {τ : Nat → Value} {x : V} {v : Value} (hok : x.ok1 = true) (ht : x.top1 ≤ n') (h : R2 g w n τ x v) : R2 g w n' τ x v := by
 have leaf : x.ok0 = true → x.top ≤ n' → R1 g w n x v → R1 g w n' x v := fun a b c => c.shrink (.inl a) b
 cases x with
 | agg cs =>
  obtain ⟨arr, e, hs, hk⟩ := h
  refine ⟨arr, e, hs, fun k hlt => ⟨(hk k hlt).1, (hk k hlt).2.shrink (hk k hlt).1 ?_⟩⟩
  exact tops_le_iff.1 ht k hlt
 | place r => simp [V.ok1, V.ok0] at hok
 | el r z i k => simp [V.ok1, V.ok0] at hok
 | _ => exact leaf hok ht h
theorem ok1_cellOk1 {x : V} (h : x.ok1 = true) : x.cellOk1 := by
 cases x <;> first | trivial | exact .inl h
theorem R3.r2 {g : G} {w : World} {n : Nat} {τ : Nat → Value} {x : V} {v : Value} (hok : x.ok1 = true) (h : R3 g w n τ x v) : R2 g w n τ x v := by
 cases x <;> first | exact h | (simp [V.ok1, V.ok0] at hok; done)
def okRet : V → Bool
 | .tuple vs => vs.all V.ok1
 | x => x.ok1
theorem okRet_root {x : V} (h : okRet x = true) (r : Root) : x.root? ≠ some r := by
 cases x <;> first | (simp [V.root?]; done) | (simp [okRet, V.ok1, V.ok0] at h)
theorem okRet_loc {x : V} (h : okRet x = true) (j o : Nat) : x ≠ .loc j o := by
 rintro rfl; simp [okRet, V.ok1, V.ok0] at h
theorem R3.shrink {g : G} {w : World} {n n' : Nat} {τ : Nat → Value} {x : V} {v : Value} (hok : okRet x = true) (ht : x.top2 ≤ n') (h : R3 g w n τ x v) : R3 g w n' τ x v := by
 have leaf : x.ok1 = true → x.top1 ≤ n' → R2 g w n τ x v → R2 g w n' τ x v := fun a b c => c.shrink a b
 cases x with
 | tuple vs =>
  obtain ⟨arr, e, hs, hk⟩ := h
  refine ⟨arr, e, hs, fun k hlt => ⟨(hk k hlt).1, ?_⟩⟩
  have hm : vs.getD k .undef ∈ vs := by simp [List.getD_eq_getElem?_getD, List.getElem?_eq_getElem hlt]
  have h1 := List.all_eq_true.1 hok _ hm
  have h2 : (vs.getD k .undef).top1 ≤ vs.foldr (fun v n => max v.top1 n) 0 := le_foldr (f := V.top1) hm
  exact (hk k hlt).2.shrink h1 (Nat.le_trans h2 ht)
 | place r => simp [okRet, V.ok1, V.ok0] at hok
 | el r z i k => simp [okRet, V.ok1, V.ok0] at hok
 | _ => exact leaf hok ht h
theorem R3.notau {g : G} {w : World} {n : Nat} {τ τ' : Nat → Value} {x : V} {v : Value} (hok : okRet x = true) (h : R3 g w n τ x v) : R3 g w n τ' x v :=
 R3.tau h fun _ e => absurd e (okRet_root hok _)
theorem SR.leave {g : G} {w : World} {nl : Nat} {fr : Nat → Nat} {S : Nat → Bool} {st : St} {ts : Array Value} {r : V} {v : Value} (h : SR g w nl fr S st ts [(r, v)]) (hok : okRet r = true) {m' : List (List V)}
  (hm : m' = st.m ∨ ∃ n, n ≤ st.m.length ∧ m' = st.m.take n ∧ r.top2 ≤ n) : SR { g with lv := fun _ => False } w 0 fr (fun _ => false) ⟨fun _ => .undef, fun _ => [], m'⟩ #[] [(r, v)] := by
 have hle : m'.length ≤ st.m.length := by rcases hm with rfl | ⟨n, hn, rfl, _⟩ <;> simp <;> omega
 have hget : ∀ b, b < m'.length → m'.getD b [] = st.m.getD b [] := fun b hb => by
  rcases hm with rfl | ⟨n, hn, rfl, _⟩
  ·rfl
  ·simp only [List.length_take] at hb
   simp only [List.getD_eq_getElem?_getD, List.getElem?_take]
   rw [if_pos (by omega)]
 have hT : ∀ c, total { g with lv := fun _ => False } w 0 fr ⟨fun _ => .undef, fun _ => [], m'⟩ #[] [(r, v)] c ≤ total g w nl fr st ts [(r, v)] c := fun c => by
  have e1 : cntT c (fun _ => V.undef) #[] = 0 := rfl
  have e2 : cntB { g with lv := fun _ => False } w c 0 (fun _ => []) = 0 := rfl
  have e3 : cntM { g with lv := fun _ => False } w c m' ≤ cntM g w c st.m := by
   unfold cntM
   refine Nat.le_trans (Nat.le_of_eq (sumTo_congr fun b hb => ?_)) (sumTo_le_of_le (f := fun b => memOf g w c st.m b) hle)
   unfold memOf
   rw [hget b hb]
  have e4 : persOf { g with lv := fun _ => False } c = persOf g c := rfl
  unfold total
  simp only [e1, e2, e4]
  omega
 refine ⟨fun s => trivial, fun s _ => rfl, fun s d hd => (by cases hd), fun p hp => ?_, fun p hp d hd => ?_, fun j => by simp, fun j hj => absurd rfl hj, fun b hb => ?_, fun c => Nat.le_trans (hT c) (h.one c), fun c hc => ?_⟩
 ·simp only [List.mem_singleton] at hp
  subst hp
  have h1 := h.pend _ (.head _)
  have h2 : R3 g w m'.length (tsAt #[]) r v := by
   rcases hm with rfl | ⟨n, hn, rfl, ht⟩
   ·exact h1.notau hok
   ·exact (h1.shrink hok (by simp; omega)).notau hok
  exact R3.mono (g := g) (τ := tsAt #[]) (fun c hc => ⟨hc, Same.refl _ _⟩) (Nat.le_refl _) (fun _ _ => rfl) (fun _ _ => Same.refl _ _) (fun j o e => absurd e (okRet_loc hok j o)) (fun x e => absurd e (okRet_root hok x)) h2
 ·simp only [List.mem_singleton] at hp
  subst hp; exact absurd hd (okRet_root hok _)
 ·have hb' : b < st.m.length := by simp only at hb; omega
  simp only
  rw [hget b hb]
  obtain ⟨⟨arr, e, hB, hs, hk⟩, ht⟩ := h.mem b hb'
  refine ⟨⟨arr, e, hB, hs, fun k hlt => ⟨(hk k hlt).1, ?_⟩⟩, ht⟩
  have h1 := (hk k hlt).2.shrink (n' := m'.length) (hk k hlt).1 (Nat.le_trans (tops_le_iff.1 ht k hlt) hb)
  exact R1.mono0 (g := g) (fun c hc => ⟨hc, Same.refl _ _⟩) (Nat.le_refl _) (fun _ _ => rfl) (fun _ _ => Same.refl _ _) (hk k hlt).1 h1
 ·have := hT c; rw [h.out c hc] at this; omega
def resRun (ts : Array Value) : ResultVar → Sem Value
 | .tmp t => pure (ts.getD t undef)
 | .cell a t => do loadVar t (← asAddr (ts.getD a undef))
theorem getRes_sound {S : Nat → Bool} {nl : Nat} {w : World} {fr : Nat → Nat} {a : Act} : ∀ {rs : List ResultVar} {zs9 : List ARes} {g : G} {st st' : St} {vs : List V} {ps : List (V × Value)}, ressOK P rs zs9 → getRes st zs9 = some (vs, st') → SR g w nl fr S st a.tmps ps →
  ∃ vals g', (rs.mapM (resRun a.tmps)).run P w = .ok vals w ∧ vs.length = vals.length ∧ GExt g g' ∧ SR g' w nl fr S st' a.tmps (vs.zip vals ++ ps) ∧ st'.m.length = st.m.length
 | [], [], g, st, st', vs, ps, _, h, hS => by
  simp only [getRes, Option.some.injEq, Prod.mk.injEq] at h
  obtain ⟨rfl, rfl⟩ := h
  exact ⟨[], g, rfl, rfl, .refl _, hS, rfl⟩
 | r :: rs, x :: zs9, g, st, st', vs, ps, hok, h, hS => by
  have fin : ∀ {g1 : G} {st1 : St} {y : V} {v : Value}, GExt g g1 → st1.m.length = st.m.length → SR g1 w nl fr S st1 a.tmps ((y, v) :: ps) → (resRun a.tmps r).run P w = .ok v w → (getRes st1 zs9).bind (fun q => some (y :: q.1, q.2)) = some (vs, st') →
    ∃ vals g', ((r :: rs).mapM (resRun a.tmps)).run P w = .ok vals w ∧ vs.length = vals.length ∧ GExt g g' ∧ SR g' w nl fr S st' a.tmps (vs.zip vals ++ ps) ∧ st'.m.length = st.m.length := fun {g1 st1 y v} hg1 hl1 hS1 hr hrest => by
   simp only [Option.bind_eq_some_iff, Option.some.injEq, Prod.mk.injEq] at hrest
   obtain ⟨q, hq, rfl, rfl⟩ := hrest
   obtain ⟨vals, g2, hm, hl, hg2, hS2, hl2⟩ := getRes_sound hok.2 hq hS1
   refine ⟨v :: vals, g2, ?_, by simp [hl], hg1.trans hg2, hS2.sub (fun p hp => ?_) (fun c => ?_), hl2.trans hl1⟩
   ·rw [List.mapM_cons, Sem.run_bind, hr]
    simp only [Result.andThen_ok, Sem.run_bind, hm]
    rfl
   ·simp only [List.zip_cons_cons, List.cons_append, List.mem_cons, List.mem_append] at hp ⊢
    rcases hp with hp | hp | hp
    ·exact .inr (.inl hp)
    ·exact .inl hp
    ·exact .inr (.inr hp)
   ·simp only [List.zip_cons_cons, List.cons_append, cntP_cons, cntP_append]; omega
  cases r with
  | tmp t =>
   cases x with
   | tmp s =>
    have : t = s := hok.1
    subst this
    simp only [getRes] at h
    exact fin (st1 := { st with σ := upd st.σ t .undef }) (y := st.σ t) (v := tsAt a.tmps t) (.refl g) rfl (hS.take t) rfl h
   | cell _ _ _ => exact hok.1.elim
  | cell t ty =>
   cases x with
   | tmp s => exact hok.1.elim
   | cell s agg n =>
    obtain ⟨rfl, hv⟩ := hok.1
    simp only [getRes, Option.bind_eq_some_iff] at h
    obtain ⟨p, hp, h⟩ := h
    obtain ⟨y, st1⟩ := p
    obtain ⟨v, g1, ad, e, hrun, hS1, hg1, hl1⟩ := hS.load (q := (agg, n)) hv (hS.temps t) (hS.peeks t) hp
    refine fin hg1 hl1 hS1 ?_ (by simp only [Option.bind_eq_some_iff]; exact h)
    have e' : a.tmps.getD t undef = .pointer (some ad) := e
    simp only [resRun, e', asAddr, Sem.run_bind, Sem.run_pure, Result.andThen_ok, hrun]
 | [], _ :: _, _, _, _, _, _, hok, _, _ => hok.elim
 | _ :: _, [], _, _, _, _, _, hok, _, _ => hok.elim
theorem results_run {fn : Func} {ts : Array Value} {vals : List Value} {w : World} (h : (fn.results.toList.mapM (resRun ts)).run P w = .ok vals w) : (results fn ts).run P w = .ok (if h : vals.length = 1 then vals[0] else .tuple vals.toArray) w := by
 have h2 : (fn.results.mapM (resRun ts)).run P w = .ok vals.toArray w := by
  rw [Array.mapM_eq_mapM_toList, Sem.run_map, h]; rfl
 have h3 : results fn ts = (fn.results.mapM (resRun ts) >>= fun vs => pure (if h : vs.size = 1 then vs[0] else .tuple vs)) := by
  unfold results
  congr 1
 rw [h3, Sem.run_bind, h2]
 simp
theorem SR.tuple {g : G} {w : World} {nl : Nat} {fr : Nat → Nat} {S : Nat → Bool} {st : St} {ts : Array Value} {vs : List V} {vals : List Value} (h : SR g w nl fr S st ts (vs.zip vals ++ [])) (hl : vs.length = vals.length) (hok : vs.all V.ok1 = true) :
  SR g w nl fr S st ts [(.tuple vs, .tuple vals.toArray)] := by
 have hk1 : ∀ k, k < vs.length → (vs.getD k .undef).ok1 = true := fun k hk => List.all_eq_true.1 hok _ (by simp [List.getD_eq_getElem?_getD, List.getElem?_eq_getElem hk])
 have hc : ∀ c, cnt2 c (.tuple vs) (.tuple vals.toArray) = cntP c (vs.zip vals ++ []) := fun c => by
  rw [List.append_nil, cntP_zip hl]
  exact sumTo_congr fun k hk => by rw [list_toArray_getD]; exact (cnt2_cell1 (ok1_cellOk1 (hk1 k hk))).symm
 have hT : ∀ c, total g w nl fr st ts [(.tuple vs, .tuple vals.toArray)] c = total g w nl fr st ts (vs.zip vals ++ []) c := fun c => by
  unfold total; rw [cntP_cons, cntP_nil, ← hc c]; rfl
 exact { h with
  pend := fun p hp => by
   simp only [List.mem_singleton] at hp
   subst hp
   refine ⟨_, rfl, by simp [hl], fun k hk => ⟨ok1_cellOk1 (hk1 k hk), ?_⟩⟩
   rw [list_toArray_getD]
   exact (h.pend _ (List.mem_append.2 (.inl (zip_mem hl hk)))).r2 (hk1 k hk)
  ppeeks := fun p hp d hd => by
   simp only [List.mem_singleton] at hp
   subst hp; cases hd
  one := fun c => by rw [hT]; exact h.one c
  out := fun c hc => by rw [hT]; exact h.out c hc }
theorem runF_sound [Lay P] {cf : CF} (hcf : Good P cf) {f : Nat} {af : AFunc} (hf : FuncOK P f af) {args : List V} {m m' : List (List V)} {r : V} (h : runF cf af args m = some (r, m')) : CallOK P f args m r m' := by
 intro g w fr vs hl hok hL hS
 obtain ⟨fn, c, S, hfn, hbody, _, hnt, hnp, hcode, hres⟩ := hf
 unfold runF at h
 split at h
 ·rename_i hlen
  simp only [Option.bind_eq_some_iff] at h
  obtain ⟨q, hq, h⟩ := h
  obtain ⟨e, st⟩ := q
  have hsz : (vs ++ Array.replicate (fn.ntmps - vs.size) undef).size = af.nt := by simp; omega
  refine calls_of_wp hfn hbody ?_
  have hS1 := hS.enter hl hok S af.nl (fn.ntmps - vs.size)
  refine exec_sound (a := { tmps := vs ++ Array.replicate (fn.ntmps - vs.size) undef, defers := [] }) hcf hL (g0 := g) (w0 := w) (n0 := m.length) (by rw [hsz]; exact hcode) hS1 (Ext.refl fr m.length g w) (Nat.le_refl _) hq fun a' g' w' h1 h2 h3 h4 h5 => ?_
  have fin : (result st af.results).bind (fun q => if m.length ≤ q.2.m.length then some (q.1, if q.1.top2 ≤ m.length then q.2.m.take m.length else q.2.m) else none) = some (r, m') →
    ∃ v, (results fn a'.tmps).run P w' = .ok v w' ∧ ∃ v2 g2, Ending.returned v = .returned v2 ∧ SR g2 w' 0 fr (fun _ => false) ⟨fun _ => .undef, fun _ => [], m'⟩ #[] [(r, v2)] ∧ Ext fr m.length g w g2 w' ∧ m.length ≤ m'.length ∧ (∀ x, r.root? ≠ some x) ∧ ∀ j o, r ≠ .loc j o := fun hr => by
   simp only [Option.bind_eq_some_iff] at hr
   obtain ⟨q, hq2, hr⟩ := hr
   obtain ⟨y, st2⟩ := q
   simp only at hr
   split at hr
   ·rename_i hml
    simp only [Option.some.injEq, Prod.mk.injEq] at hr
    obtain ⟨rfl, rfl⟩ := hr
    unfold result at hq2
    simp only [Option.bind_eq_some_iff] at hq2
    obtain ⟨p, hp, hq2⟩ := hq2
    obtain ⟨rv, st3⟩ := p
    split at hq2
    ·rename_i hall
     obtain ⟨vals, g3, hrun, hvl, hg3, hS3, hl3⟩ := getRes_sound hres hp h1
     have hrr := results_run (P := P) hrun
     have one : ∃ v, (if h : vals.length = 1 then vals[0] else .tuple vals.toArray) = v ∧ okRet y = true ∧ SR g3 w' af.nl fr S st2 a'.tmps [(y, v)] := by
      simp only at hq2 hall
      match rv, vals, hvl, hq2, hS3, hall with
      | [x], [z], _, hq2, hS3, hall =>
       simp only [Option.some.injEq, Prod.mk.injEq] at hq2
       obtain ⟨rfl, rfl⟩ := hq2
       refine ⟨z, rfl, ?_, by simpa using hS3⟩
       simp only [List.all_cons, List.all_nil, Bool.and_true] at hall
       cases x <;> first | exact hall | (simp [V.ok1, V.ok0] at hall)
      | [], [], _, hq2, hS3, _ =>
       simp only [Option.some.injEq, Prod.mk.injEq] at hq2
       obtain ⟨rfl, rfl⟩ := hq2
       exact ⟨_, rfl, rfl, SR.tuple (vs := []) (vals := []) hS3 rfl rfl⟩
      | x :: x' :: xs, z :: z' :: zs, hvl, hq2, hS3, hall =>
       simp only [Option.some.injEq, Prod.mk.injEq] at hq2
       obtain ⟨rfl, rfl⟩ := hq2
       exact ⟨_, by rw [dif_neg (by simp)], hall, SR.tuple hS3 hvl hall⟩
     obtain ⟨v, hv, hokr, hS4⟩ := one
     rw [hv] at hrr
     have hlv := hS4.leave hokr (m' := if y.top2 ≤ m.length then st2.m.take m.length else st2.m) (by
      split
      ·rename_i ht; exact .inr ⟨m.length, hml, rfl, ht⟩
      ·exact .inl rfl)
     refine ⟨v, hrr, v, _, rfl, hlv, ?_, ?_, okRet_root hokr, okRet_loc hokr⟩
     ·have := h4.trans (Ext.gext (fr := fr) (n0 := m.length) hg3 w') (Nat.le_refl _)
      exact ⟨this.os, this.tape, this.output, this.size, this.pers, this.frame, this.mb⟩
     ·split
      ·simp; omega
      ·exact hml
    ·cases hq2
   ·cases hr
  cases e with
  | normal =>
   obtain ⟨v, hv, hR⟩ := fin h
   exact ⟨by rw [h3], v, hv, hR⟩
  | ret =>
   obtain ⟨v, hv, hR⟩ := fin h
   exact ⟨by rw [h3], v, hv, hR⟩
  | exit i => cases h
 ·cases h
structure TableOK (P : Program) [Lay P] (T : Table) : Prop where
 code : ∀ f af, T.code f = some af → FuncOK P f af
 ext : Good P T.ext
theorem ret_sound [Lay P] {T : Table} (hT : TableOK P T) {f : Nat} {args : List V} {m m' : List (List V)} {r : V} (h : Ret T f args m r m') :
  (∃ fn, P.funcs[f]? = some fn ∧ fn.body.isSome = true ∧ (fn.name == "runtime.NumGoroutine") = false) ∧ CallOK P f args m r m' := by
 induction h with
 | mk cf f fn args m r m' hf h hcf ih =>
  have hF := hT.code f fn hf
  refine ⟨?_, runF_sound (fun f a m r m' hh => ih f a m r m' hh) hF h⟩
  obtain ⟨fn', c, S, h1, h2, h3, _⟩ := hF
  exact ⟨fn', h1, by rw [h2]; rfl, h3⟩
 | ext f args m r m' hf h => exact hT.ext f args m r m' h
end
end Go.Proofs.YtdlijnfdkeimlaaDoor.Am

namespace Go.Proofs.YtdlijnfdkeimlaaDoor.Am
mutual
def V.eqb : V → V → Bool
 | .undef, .undef => true
 | .bool a, .bool b => decide (a = b)
 | .int k a, .int k' b => decide (k = k') && decide (a = b)
 | .str a, .str b => decide (a = b)
 | .nilp, .nilp => true
 | .ptr a b, .ptr a' b' => decide (a = a') && decide (b = b')
 | .loc a b, .loc a' b' => decide (a = a') && decide (b = b')
 | .ro xs a, .ro ys b => V.eqbs xs ys && decide (a = b)
 | .el r a b c, .el r' a' b' c' => decide (r = r') && decide (a = a') && decide (b = b') && decide (c = c')
 | .place r, .place r' => decide (r = r')
 | .nils, .nils => true
 | .slice o s xs, .slice o' s' ys => decide (o = o') && decide (s = s') && V.eqbss xs ys
 | .agg xs, .agg ys => V.eqbs xs ys
 | .tuple xs, .tuple ys => V.eqbs xs ys
 | .func f xs, .func f' ys => decide (f = f') && V.eqbs xs ys
 | .nilf, .nilf => true
 | .nili, .nili => true
 | _, _ => false
def V.eqbs : List V → List V → Bool
 | [], [] => true
 | x :: xs, y :: ys => V.eqb x y && V.eqbs xs ys
 | _, _ => false
def V.eqbss : List (List V) → List (List V) → Bool
 | [], [] => true
 | x :: xs, y :: ys => V.eqbs x y && V.eqbss xs ys
 | _, _ => false
end
mutual
theorem V.eqb_iff : ∀ (a b : V), V.eqb a b = true ↔ a = b
 | .undef, b => by cases b <;> simp [V.eqb]
 | .bool a, b => by cases b <;> simp [V.eqb]
 | .int k a, b => by cases b <;> simp [V.eqb]
 | .str a, b => by cases b <;> simp [V.eqb]
 | .nilp, b => by cases b <;> simp [V.eqb]
 | .ptr a a', b => by cases b <;> simp [V.eqb]
 | .loc a a', b => by cases b <;> simp [V.eqb]
 | .ro xs a, b => by cases b <;> simp [V.eqb, V.eqbs_iff xs]
 | .el r a a' a'', b => by cases b <;> simp [V.eqb, and_assoc]
 | .place r, b => by cases b <;> simp [V.eqb]
 | .nils, b => by cases b <;> simp [V.eqb]
 | .slice o s xs, b => by cases b <;> simp [V.eqb, V.eqbss_iff xs, and_assoc]
 | .agg xs, b => by cases b <;> simp [V.eqb, V.eqbs_iff xs]
 | .tuple xs, b => by cases b <;> simp [V.eqb, V.eqbs_iff xs]
 | .func f xs, b => by cases b <;> simp [V.eqb, V.eqbs_iff xs]
 | .nilf, b => by cases b <;> simp [V.eqb]
 | .nili, b => by cases b <;> simp [V.eqb]
theorem V.eqbs_iff : ∀ (a b : List V), V.eqbs a b = true ↔ a = b
 | [], [] => by simp [V.eqbs]
 | [], _ :: _ => by simp [V.eqbs]
 | _ :: _, [] => by simp [V.eqbs]
 | x :: xs, y :: ys => by simp [V.eqbs, V.eqb_iff x y, V.eqbs_iff xs ys]
theorem V.eqbss_iff : ∀ (a b : List (List V)), V.eqbss a b = true ↔ a = b
 | [], [] => by simp [V.eqbss]
 | [], _ :: _ => by simp [V.eqbss]
 | _ :: _, [] => by simp [V.eqbss]
 | x :: xs, y :: ys => by simp [V.eqbss, V.eqbs_iff x y, V.eqbss_iff xs ys]
end
instance : DecidableEq V := fun a b => decidable_of_iff _ (V.eqb_iff a b)
deriving instance DecidableEq for Opd
deriving instance DecidableEq for AOp
deriving instance DecidableEq for AOper
deriving instance DecidableEq for ACode
deriving instance DecidableEq for ARes
deriving instance DecidableEq for AFunc
example : (ACode.region true [⟨some 1, none, false, .bin .add (.t 1) (.c (.int .i64 2)), .none⟩]) = (ACode.region true [⟨some 1, none, false, .bin .add (.t 1) (.c (.int .i64 2)), .none⟩]) := by decide +kernel
example : (V.slice true 2 [[.int .i64 1, .agg [.bool true]]]) = (V.slice true 2 [[.int .i64 1, .agg [.bool true]]]) := by decide +kernel
end Go.Proofs.YtdlijnfdkeimlaaDoor.Am

namespace Go.Proofs.YtdlijnfdkeimlaaDoor.Am
section
variable {P : Program} {S : Nat → Bool} {nl : Nat} {oc : Oper}
theorem mem_lookup {α : Type} {k : Nat} {v : α} : ∀ {l : List (Nat × α)}, l.lookup k = some v → (k, v) ∈ l
 | [], h => by cases h
 | (k', v') :: l, h => by
  simp only [List.lookup] at h
  split at h
  ·rename_i hk
   simp only [Option.some.injEq] at h
   have : k = k' := by simpa using hk
   subst this h
   exact .head _
  ·exact .tail _ (mem_lookup h)
theorem cOp_ok [Lay P] {h : Hint} (hbox : ∀ j, h.box = some j → j < nl) {op : Op} (hop : oc.op = op) {o : AOp} (hc : cOp P S h op = some o) : OpOK P S nl oc o := by
 cases op with
 | move x =>
  simp only [cOp] at hc
  split at hc
  ·split at hc
   ·rename_i hS
    simp only [Option.some.injEq] at hc
    subst hc
    exact ok_mvK (.inl hop) hS
   ·cases hc
  ·simp only [Option.map_eq_some_iff] at hc; obtain ⟨o1, h1, rfl⟩ := hc; exact ok_mv (.inl hop) (cO_ok h1)
 | assign x =>
  simp only [cOp] at hc
  split at hc
  ·split at hc
   ·rename_i hS
    simp only [Option.some.injEq] at hc
    subst hc
    exact ok_mvK (.inr hop) hS
   ·cases hc
  ·simp only [Option.map_eq_some_iff] at hc; obtain ⟨o1, h1, rfl⟩ := hc; exact ok_mv (.inr hop) (cO_ok h1)
 | pick c a b =>
  simp only [cOp, Option.bind_eq_some_iff, Option.map_eq_some_iff] at hc
  obtain ⟨o1, h1, o2, h2, o3, h3, rfl⟩ := hc
  exact ok_pick hop (cO_ok h1) (cO_ok h2) (cO_ok h3)
 | alloc e =>
  simp only [cOp] at hc
  split at hc
  ·rename_i z hz
   split at hc
   ·rename_i j hj
    simp only [Option.some.injEq] at hc; subst hc
    exact ok_allocL hop hz (hbox j hj)
   ·simp only [Option.some.injEq] at hc; subst hc
    exact ok_allocM hop hz
  ·cases hc
 | box t x =>
  simp only [cOp] at hc
  split at hc
  ·rename_i j hj
   simp only [Option.map_eq_some_iff] at hc
   obtain ⟨o1, h1, rfl⟩ := hc
   exact ok_boxL hop (cO_ok h1) (hbox j hj)
  ·simp only [Option.map_eq_some_iff] at hc
   obtain ⟨o1, h1, rfl⟩ := hc
   exact ok_boxM hop (cO_ok h1)
 | build t parts =>
  simp only [cOp] at hc
  split at hc
  ·rename_i fs z ht hz
   simp only [Option.bind_eq_some_iff, Option.map_eq_some_iff] at hc
   obtain ⟨pl, hpl, ps, hps, rfl⟩ := hc
   exact ok_build hop (.inl ⟨fs, pl, ht, hpl, rfl⟩) hz hps
  ·rename_i k e z ht hz
   simp only [Option.bind_eq_some_iff, Option.map_eq_some_iff] at hc
   obtain ⟨n, hn, ps, hps, rfl⟩ := hc
   exact ok_build hop (.inr ⟨k, e, n, ht, hn, rfl⟩) hz hps
  ·cases hc
 | buildSlice t len parts =>
  simp only [cOp] at hc
  split at hc
  ·rename_i e ht
   split at hc
   ·rename_i i z hi hz
    split at hc
    ·rename_i hcc
     simp only [Option.map_eq_some_iff] at hc
     obtain ⟨ps, hps, rfl⟩ := hc
     exact ok_buildSlice hop ht hi hz hcc.1 hcc.2.1 hcc.2.2 hps
    ·cases hc
   ·cases hc
  ·cases hc
 | load t p =>
  simp only [cOp, Option.bind_eq_some_iff, Option.map_eq_some_iff] at hc
  obtain ⟨q, hq, o1, h1, rfl⟩ := hc
  exact ok_load hop hq (cO_ok h1)
 | store t p x =>
  simp only [cOp, Option.bind_eq_some_iff, Option.map_eq_some_iff] at hc
  obtain ⟨n, hn, o1, h1, o2, h2, rfl⟩ := hc
  exact ok_store hop hn (cO_ok h1) (cO_ok h2)
 | nilCheck x => simp only [cOp, Option.map_eq_some_iff] at hc; obtain ⟨o1, h1, rfl⟩ := hc; exact ok_nilCheck hop (cO_ok h1)
 | binOp op t x y u =>
  simp only [cOp, Option.bind_eq_some_iff] at hc
  obtain ⟨o1, h1, o2, h2, hc⟩ := hc
  split at hc
  ·exact cEq_ok hop (.inl rfl) (cO_ok h1) (cO_ok h2) hc
  ·exact cEq_ok hop (.inr rfl) (cO_ok h1) (cO_ok h2) hc
  ·simp only [Option.some.injEq] at hc; subst hc
   exact ok_bin hop (cO_ok h1) (cO_ok h2)
 | unOp op t x => simp only [cOp, Option.map_eq_some_iff] at hc; obtain ⟨o1, h1, rfl⟩ := hc; exact ok_un hop (cO_ok h1)
 | convert src dst x =>
  simp only [cOp, Option.bind_eq_some_iff] at hc
  obtain ⟨o1, h1, hc⟩ := hc
  split at hc
  ·rename_i k1 k2 hs hd
   simp only [Option.some.injEq] at hc; subst hc
   exact ok_conv hop hs hd (cO_ok h1)
  ·rename_i hs hd
   simp only [Option.some.injEq] at hc; subst hc
   exact ok_strStr hop hs hd (cO_ok h1)
  ·rename_i e hs hd
   split at hc
   ·rename_i he
    simp only [Option.some.injEq] at hc; subst hc
    exact ok_strBytes hop hs hd he (cO_ok h1)
   ·cases hc
  ·rename_i e hs hd
   split at hc
   ·rename_i he
    simp only [Option.some.injEq] at hc; subst hc
    exact ok_bytesStr hop hs he hd (cO_ok h1)
   ·cases hc
  ·rename_i k hs hd
   simp only [Option.some.injEq] at hc; subst hc
   exact ok_intStr hop hs hd (cO_ok h1)
  ·rename_i e e2 hs hd
   split at hc
   ·rename_i he
    split at hc
    ·rename_i hsd
     subst hsd
     simp only [Option.some.injEq] at hc; subst hc
     exact ok_convB hop hs he (cO_ok h1)
    ·cases hc
   ·cases hc
  ·cases hc
 | makeSlice t l c =>
  simp only [cOp] at hc
  split at hc
  ·rename_i e ht
   split at hc
   ·rename_i i z hi hz
    split at hc
    ·rename_i hcc
     simp only [Option.bind_eq_some_iff, Option.map_eq_some_iff] at hc
     obtain ⟨o1, h1, o2, h2, rfl⟩ := hc
     exact ok_makeSlice hop ht hi hz hcc.1 hcc.2.1 hcc.2.2 (cO_ok h1) (cO_ok h2)
    ·cases hc
   ·cases hc
  ·cases hc
 | slice t x lo hi mx =>
  cases mx with
  | some _ => cases hc
  | none =>
   simp only [cOp] at hc
   split at hc
   ·rename_i ht
    simp only [Option.bind_eq_some_iff, Option.map_eq_some_iff] at hc
    obtain ⟨o1, h1, o2, h2, o3, h3, rfl⟩ := hc
    exact ok_sliceS hop ht (cO_ok h1) (cOo_ok h2) (cOo_ok h3)
   ·rename_i e ht
    simp only [Option.bind_eq_some_iff, Option.map_eq_some_iff] at hc
    obtain ⟨n, hn, o1, h1, o2, h2, o3, h3, rfl⟩ := hc
    exact ok_sliceV hop ht hn (cO_ok h1) (cOo_ok h2) (cOo_ok h3)
   ·cases hc
 | fieldAddr s x f =>
  simp only [cOp] at hc
  split at hc
  ·rename_i fs hs
   split at hc
   ·rename_i fd hf
    split at hc
    ·rename_i n hn
     split at hc
     ·cases hc
     ·rename_i hn0
      simp only [Option.map_eq_some_iff] at hc
      obtain ⟨o1, h1, rfl⟩ := hc
      exact ok_fieldAddr hop hs hf hn hn0 (cO_ok h1)
    ·cases hc
   ·cases hc
  ·cases hc
 | field t x f =>
  simp only [cOp] at hc
  split at hc
  ·rename_i fs hs
   split at hc
   ·rename_i fd hf
    simp only [Option.bind_eq_some_iff, Option.map_eq_some_iff] at hc
    obtain ⟨q, hq, o1, h1, rfl⟩ := hc
    exact ok_field hop hs hf hq (cO_ok h1)
   ·cases hc
  ·cases hc
 | indexAddr t x i =>
  have keyT : ∀ gl, x = .global gl → OpOK P S nl oc o := fun gl hx => by
   subst hx
   simp only [cOp] at hc
   split at hc
   ·rename_i len e ht
    simp only [Option.bind_eq_some_iff] at hc
    obtain ⟨q, hq, hc⟩ := hc
    obtain ⟨z, xs⟩ := q
    split at hc
    ·rename_i hz
     simp only [Option.map_eq_some_iff] at hc
     obtain ⟨o2, h2, rfl⟩ := hc
     exact ok_tab hop ht hz.1 (mem_lookup hq) hz.2 (cO_ok h2)
    ·cases hc
   ·cases hc
  by_cases hgx : ∃ gl, x = .global gl
  ·obtain ⟨gl, hx⟩ := hgx
   exact keyT gl hx
  have hc : (match P.underlying t with
   | some (.array len e) => (sizeAt P e).bind fun n => (cO S h x).bind fun o => (cO S h i).map fun j => AOp.indexArr len n o j
   | some (.slice e) => (sizeAt P e).bind fun n => (cO S h x).bind fun o => (cO S h i).map fun j => AOp.indexSl n o j
   | _ => none) = some o := by
   cases x with
   | global gl => exact absurd ⟨gl, rfl⟩ hgx
   | _ => exact hc
  split at hc
  ·rename_i len e ht
   simp only [Option.bind_eq_some_iff, Option.map_eq_some_iff] at hc
   obtain ⟨n, hn, o1, h1, o2, h2, rfl⟩ := hc
   exact ok_indexArr hop ht hn (cO_ok h1) (cO_ok h2)
  ·rename_i e ht
   simp only [Option.bind_eq_some_iff, Option.map_eq_some_iff] at hc
   obtain ⟨n, hn, o1, h1, o2, h2, rfl⟩ := hc
   exact ok_indexSl hop ht hn (cO_ok h1) (cO_ok h2)
  ·cases hc
 | index t x i =>
  simp only [cOp] at hc
  split at hc
  ·rename_i len e ht
   simp only [Option.bind_eq_some_iff] at hc
   obtain ⟨q, hq, n, hn, hc⟩ := hc
   split at hc
   ·rename_i hqn
    simp only [Option.bind_eq_some_iff, Option.map_eq_some_iff] at hc
    obtain ⟨o1, h1, o2, h2, rfl⟩ := hc
    exact ok_indexAgg hop ht hq hn hqn (cO_ok h1) (cO_ok h2)
   ·cases hc
  ·rename_i ht
   simp only [Option.bind_eq_some_iff, Option.map_eq_some_iff] at hc
   obtain ⟨o1, h1, o2, h2, rfl⟩ := hc
   exact ok_indexStr hop ht (cO_ok h1) (cO_ok h2)
  ·cases hc
 | extract x i => simp only [cOp, Option.map_eq_some_iff] at hc; obtain ⟨o1, h1, rfl⟩ := hc; exact ok_extract hop (cO_ok h1)
 | makeFunc fn first captured =>
  cases fn with
  | func f =>
   simp only [cOp] at hc
   split at hc
   ·rename_i hf
    simp only [Option.map_eq_some_iff] at hc
    obtain ⟨os, hos, rfl⟩ := hc
    exact ok_mkFunc ⟨first, hop, hf⟩ (cOs_ok hos)
   ·cases hc
  | _ => cases hc
 | call c =>
  simp only [cOp] at hc
  unfold cCall at hc
  split at hc
  ·rename_i f hcal
   split at hc
   ·rename_i fn hfn
    split at hc
    ·simp only [Option.map_eq_some_iff] at hc
     obtain ⟨os, hos, rfl⟩ := hc
     exact ok_callF hop hcal (cOs_ok hos)
    ·cases hc
   ·cases hc
  ·rename_i s hcal
   simp only [Option.bind_eq_some_iff, Option.map_eq_some_iff] at hc
   obtain ⟨o1, h1, os, hos, rfl⟩ := hc
   exact ok_callV hop hcal (cO_ok h1) (cOs_ok hos)
  ·rename_i x hcal hargs
   split at hc
   ·rename_i t hat
    split at hc
    ·rename_i ht
     simp only [Option.map_eq_some_iff] at hc
     obtain ⟨o1, h1, rfl⟩ := hc
     exact ok_lenStr hop hcal hargs hat ht (cO_ok h1)
    ·rename_i e ht
     simp only [Option.map_eq_some_iff] at hc
     obtain ⟨o1, h1, rfl⟩ := hc
     exact ok_lenSl hop hcal hargs hat ht (cO_ok h1)
    ·rename_i n e ht
     simp only [Option.some.injEq] at hc; subst hc
     exact ok_lenC hop hcal hargs hat ht
    ·cases hc
   ·cases hc
  ·rename_i x y hcal hargs
   split at hc
   ·rename_i t u hat
    have hat' : c.argTypes = #[t, u] := by rw [← Array.toArray_toList (xs := c.argTypes), hat]
    split at hc
    ·rename_i e ht
     split at hc
     ·rename_i i z e' hi hz hu
      split at hc
      ·rename_i hcc
       simp only [Option.bind_eq_some_iff, Option.map_eq_some_iff] at hc
       obtain ⟨o1, h1, o2, h2, rfl⟩ := hc
       exact ok_append hop hcal hargs hat' ht (.inl ⟨_, hu⟩) hi hz hcc.2.1 hcc.1 hcc.2.2 (cO_ok h1) (cO_ok h2)
      ·cases hc
     ·rename_i i z hi hz hu
      split at hc
      ·rename_i hcc
       simp only [Option.bind_eq_some_iff, Option.map_eq_some_iff] at hc
       obtain ⟨o1, h1, o2, h2, rfl⟩ := hc
       exact ok_append hop hcal hargs hat' ht (.inr hu) hi hz hcc.2.1 hcc.1 (by omega) (cO_ok h1) (cO_ok h2)
      ·cases hc
     ·cases hc
    ·cases hc
   ·cases hc
  ·rename_i x ys hcal hargs
   simp only [Option.bind_eq_some_iff, Option.map_eq_some_iff] at hc
   obtain ⟨o1, h1, os, hos, rfl⟩ := hc
   exact ok_minMax (mx := false) hop hcal hargs (cO_ok h1) (cOs_ok hos)
  ·rename_i x ys hcal hargs
   simp only [Option.bind_eq_some_iff, Option.map_eq_some_iff] at hc
   obtain ⟨o1, h1, os, hos, rfl⟩ := hc
   exact ok_minMax (mx := true) hop hcal hargs (cO_ok h1) (cOs_ok hos)
  ·cases hc
 | _ => cases hc
end
structure Plan where
 peeks : List Nat := []
 nl : Nat := 0
 hints : List ((Nat × Nat) × Hint) := []
 live : List (List Nat) := []
def Plan.S (p : Plan) : Nat → Bool := fun s => p.peeks.contains s
def Plan.hint (p : Plan) (id i : Nat) : Hint := (p.hints.lookup (id, i)).getD {}
def cOper (P : Program) [Lay P] (p : Plan) (nt : Nat) (ops : Array Oper) (h : Hint) (o : Oper) : Option AOper :=
 (some ((cOp P p.S h o.op).getD (.lenStr (.c .undef)))).bind fun a =>
  if (o.dst.all fun d => decide (d < nt)) && (h.box.all fun j => decide (j < p.nl)) then
   match o.guard with
   | none => some ⟨o.dst, none, (o.dst.map p.S).getD false, a, h.mark⟩
   | some (j, want) => match (ops[j]?).bind (·.dst) with
    | some s => if s < nt then some ⟨o.dst, some (s, want), (o.dst.map p.S).getD false, a, h.mark⟩ else none
    | none => none
  else none
def cOpers (P : Program) [Lay P] (p : Plan) (nt id : Nat) (ops : Array Oper) : Nat → List Oper → Option (List AOper)
 | _, [] => some []
 | i, o :: os => (cOper P p nt ops (p.hint id i) o).bind fun a => (cOpers P p nt id ops (i + 1) os).bind fun zs9 => some (a :: zs9)
def constN : Option Operand → Option Nat
 | none => some 0
 | some (.const (.int _ n)) => if 0 ≤ n then some n.toNat else none
 | _ => none
def cPair (P : Program) (p : Plan) (nt : Nat) (oc1 oc2 : Oper) : Option (AOper × AOper) :=
 match oc1.op, oc2.op, oc1.dst with
 | .slice t (.tmp s) ol none none, .call c, some d1 => match P.underlying t, c.callee, c.args.toList with
  | some (.slice e), .value (.func f), [.tmp d] => (sizeAt P e).bind fun n => (constN ol).bind fun lo =>
   if d1 < nt ∧ s ≠ d1 ∧ d = d1 ∧ oc1.guard = none ∧ oc2.guard = none ∧ (oc2.dst.all fun d => decide (d < nt)) = true then
    some (⟨some d1, none, p.S d1, .mv (.c .undef), .none⟩, ⟨oc2.dst, none, (oc2.dst.map p.S).getD false, .lend f n (.t s) lo, .none⟩) else none
  | _, _, _ => none
 | _, _, _ => none
def cLends (P : Program) (p : Plan) (nt id : Nat) (ops : Array Oper) : List Nat → List AOper → List AOper
 | i :: j :: is, o1 :: o2 :: os => match (if (p.hint id i).lend then (ops[i]?).bind fun a => (ops[j]?).bind fun b => cPair P p nt a b else none) with
  | some q => q.1 :: q.2 :: cLends P p nt id ops is os
  | none => o1 :: cLends P p nt id ops (j :: is) (o2 :: os)
 | _, os => os
def cCode (P : Program) [Lay P] (p : Plan) (nt : Nat) : Code → List (List Nat) → Option (ACode × List (List Nat))
 | .skip, ls => some (.skip, ls)
 | .label _, ls => some (.skip, ls)
 | .region id ops draw, ls => (cOpers P p nt id ops 0 ops.toList).bind fun os =>
   if draw then (if (P.follows .mixedOrders || !Region.departs ops) && drawOk ops os then some (.region true os, ls) else none) else some (.region false (cLends P p nt id ops (List.range ops.size) os), ls)
 | .seq a b, ls => (cCode P p nt a ls).bind fun x => (cCode P p nt b x.2).bind fun y => some (.seq x.1 y.1, y.2)
 | .cond c t e, ls => (cO p.S {} c).bind fun o => (cCode P p nt t ls).bind fun x => (cCode P p nt e x.2).bind fun y => some (.cond o x.1 y.1, y.2)
 | .block i b, ls => (cCode P p nt b ls).bind fun x => some (.block i x.1, x.2)
 | .loop b, ls => match ls with
  | l :: ls => (cCode P p nt b ls).bind fun x => some (.loop l x.1, x.2)
  | [] => none
 | .exit i, ls => some (.exit i, ls)
 | .ret, ls => some (.ret, ls)
 | .scope b, ls => cCode P p nt b ls
 | .rangeFunc _ _ _ _, ls => some (.cond (.c .undef) .skip .skip, ls)
 | _, _ => none
def cRes (P : Program) : ResultVar → Option ARes
 | .tmp t => some (.tmp t)
 | .cell t ty => (varAt P ty).map fun q => .cell t q.1 q.2
def cRess (P : Program) : List ResultVar → Option (List ARes)
 | [] => some []
 | r :: rs => (cRes P r).bind fun a => (cRess P rs).bind fun zs9 => some (a :: zs9)
def cFunc (P : Program) [Lay P] (p : Plan) (f : Nat) : Option AFunc :=
 (P.funcs[f]?).bind fun fn => fn.body.bind fun c =>
  if fn.name == "runtime.NumGoroutine" then none else
   (cCode P p fn.ntmps c p.live).bind fun x => (cRess P fn.results.toList).bind fun rs =>
    let np := fn.params.size + fn.nfree
    if np ≤ fn.ntmps then some ⟨np, fn.ntmps, p.nl, rs, x.1⟩ else none
section
variable {P : Program} {p : Plan} {nt : Nat}
theorem cOper_ok [Lay P] {ops : Array Oper} {h : Hint} {o : Oper} {a : AOper} (hc : cOper P p nt ops h o = some a) : OperOK P p.S p.nl nt ops o a := by
 simp only [cOper, Option.bind_eq_some_iff] at hc
 obtain ⟨x, hx, hc⟩ := hc
 split at hc
 ·rename_i hcc
  simp only [Bool.and_eq_true] at hcc
  have hok : (∀ j, h.box = some j → j < p.nl) → OpOK P p.S p.nl o x := fun hb => by
   simp only [Option.some.injEq] at hx
   cases hcop : cOp P p.S h o.op with
   | none => rw [hcop] at hx; subst hx; exact ok_stuck
   | some a => rw [hcop] at hx; simp only [Option.getD_some] at hx; subst hx; exact cOp_ok hb rfl hcop
  have hbox : ∀ j, h.box = some j → j < p.nl := fun j hj => by have := hcc.2; rw [hj] at this; simpa using this
  have hd : ∀ d, o.dst = some d → d < nt := fun d hd => by have := hcc.1; rw [hd] at this; simpa using this
  have hlt : ∀ d, o.dst = some d → d < nt ∧ ((o.dst.map p.S).getD false = true ∨ p.S d = false) := fun d hd' => ⟨hd d hd', by rw [hd']; cases h : p.S d <;> simp [h]⟩
  split at hc
  ·rename_i hg
   simp only [Option.some.injEq] at hc; subst hc
   exact ⟨rfl, hlt, .inl ⟨hg, rfl⟩, hok hbox⟩
  ·rename_i j want hg
   split at hc
   ·rename_i s hs
    split at hc
    ·rename_i hlt'
     simp only [Option.some.injEq] at hc; subst hc
     exact ⟨rfl, hlt, .inr ⟨j, want, s, hg, rfl, hs, hlt'⟩, hok hbox⟩
    ·cases hc
   ·cases hc
 ·cases hc
theorem cOpers_ok [Lay P] {ops : Array Oper} {id : Nat} : ∀ {l : List Oper} {i : Nat} {os : List AOper}, cOpers P p nt id ops i l = some os → os.length = l.length ∧ ∀ k oc, l[k]? = some oc → OperOK P p.S p.nl nt ops oc (os.getD k default)
 | [], i, os, hc => by
  simp only [cOpers, Option.some.injEq] at hc; subst hc
  exact ⟨rfl, fun k oc h => by simp at h⟩
 | o :: l, i, os, hc => by
  simp only [cOpers, Option.bind_eq_some_iff, Option.some.injEq] at hc
  obtain ⟨a, ha, zs9, has, rfl⟩ := hc
  obtain ⟨h1, h2⟩ := cOpers_ok has
  refine ⟨by simp [h1], fun k oc hk => ?_⟩
  cases k with
  | zero => simp only [List.getElem?_cons_zero, Option.some.injEq] at hk; subst hk; exact cOper_ok ha
  | succ k => simp only [List.getElem?_cons_succ] at hk; exact h2 k oc hk
theorem cPair_ok [Lay P] {oc1 oc2 : Oper} {q : AOper × AOper} (h : cPair P p nt oc1 oc2 = some q) : oc1.guard = none ∧ oc2.guard = none ∧ PairOK P p.S p.nl nt oc1 oc2 q.1 q.2 := by
 unfold cPair at h
 split at h
 ·rename_i t s ol c d1 h1 h2 hd1
  split at h
  ·rename_i e f d ht hc ha
   simp only [Option.bind_eq_some_iff] at h
   obtain ⟨n, hn, lo, hlo, h⟩ := h
   split at h
   ·rename_i hcc
    obtain ⟨q1, q2, q3, q4, q5, q6⟩ := hcc
    simp only [Option.some.injEq] at h
    subst h
    subst q3
    refine ⟨q4, q5, pair_lend (ox := .t s) h1 ht hn ?_ hd1 q1 q2 ?_ h2 hc (by rw [← Array.toArray_toList (xs := c.args), ha]) rfl rfl rfl rfl fun d hd => ⟨by rw [hd] at q6; simpa using q6, ?_⟩⟩
    ·cases ol with
     | none => simp only [constN, Option.some.injEq] at hlo; exact .inl ⟨rfl, hlo.symm⟩
     | some o =>
      cases o with
      | const v =>
       cases v with
       | int k m =>
        simp only [constN] at hlo
        split at hlo
        ·rename_i hm
         simp only [Option.some.injEq] at hlo
         refine .inr ⟨k, ?_⟩
         rw [← hlo, Int.toNat_of_nonneg hm]
        ·cases hlo
       | _ => cases hlo
      | _ => cases hlo
    ·cases p.S d <;> simp
    ·rw [hd]; cases hh : p.S d <;> simp [hh]
   ·cases h
  ·cases h
 ·cases h
def seqAll (P : Program) [Lay P] (S : Nat → Bool) (nl nt : Nat) (ops : Array Oper) : List Nat → List AOper → Prop
 | [], [] => True
 | i :: is, o :: os => (∃ oc, ops[i]? = some oc ∧ OperOK P S nl nt ops oc o) ∧ seqAll P S nl nt ops is os
 | _, _ => False
theorem seqAll_map [Lay P] {S : Nat → Bool} {nl : Nat} {ops : Array Oper} {os : List AOper} : ∀ {is : List Nat} (_ : ∀ i ∈ is, ∃ oc, ops[i]? = some oc ∧ OperOK P S nl nt ops oc (os.getD i default)), seqAll P S nl nt ops is (is.map fun i => os.getD i default)
 | [], _ => trivial
 | i :: _, h => ⟨h i (.head _), seqAll_map fun j hj => h j (.tail _ hj)⟩
theorem eachOK_all [Lay P] {S : Nat → Bool} {nl : Nat} {ops : Array Oper} {os : List AOper} (h : eachOK P S nl nt ops os) : seqAll P S nl nt ops (List.range ops.size) os := by
 have := seqAll_map (P := P) (S := S) (nl := nl) (nt := nt) (ops := ops) (os := os) (is := List.range ops.size) fun i hi => ⟨ops[i]'(List.mem_range.1 hi), Array.getElem?_eq_getElem _, h.2 i _ (Array.getElem?_eq_getElem _)⟩
 rw [← h.1, map_range_getD, h.1] at this
 exact this
theorem cLends_ok [Lay P] {ops : Array Oper} {id : Nat} : ∀ {is : List Nat} {os : List AOper}, seqAll P p.S p.nl nt ops is os → seqOK P p.S p.nl nt ops is (cLends P p nt id ops is os)
 | [], [], _ => .nil
 | [_], [_], h => .cons h.1 .nil
 | i :: j :: is, o1 :: o2 :: os, ⟨h1, h2, h3⟩ => by
  unfold cLends
  split
  ·rename_i q hq
   split at hq
   ·simp only [Option.bind_eq_some_iff] at hq
    obtain ⟨a, ha, b, hb, hq⟩ := hq
    obtain ⟨k1, k2, k3⟩ := cPair_ok hq
    exact .pair ⟨a, b, ha, hb, k1, k2, k3⟩ (cLends_ok h3)
   ·cases hq
  ·exact .cons h1 (cLends_ok ⟨h2, h3⟩)
 | [], _ :: _, h => h.elim
 | _ :: _, [], h => h.elim
 | [_], _ :: _ :: _, h => h.2.elim
 | _ :: _ :: _, [_], h => h.2.elim
theorem cCode_ok [Lay P] : ∀ {c : Code} {ls ls' : List (List Nat)} {ac : ACode}, cCode P p nt c ls = some (ac, ls') → CodeOK P p.S p.nl nt c ac := by
 intro c
 induction c with
 | skip => intro ls ls' ac hc; simp only [cCode, Option.some.injEq, Prod.mk.injEq] at hc; obtain ⟨rfl, _⟩ := hc; trivial
 | label _ => intro ls ls' ac hc; simp only [cCode, Option.some.injEq, Prod.mk.injEq] at hc; obtain ⟨rfl, _⟩ := hc; trivial
 | region id ops draw =>
  intro ls ls' ac hc
  simp only [cCode, Option.bind_eq_some_iff] at hc
  obtain ⟨os, hos, hc⟩ := hc
  obtain ⟨h1, h2⟩ := cOpers_ok hos
  have he : eachOK P p.S p.nl nt ops os := ⟨by simpa using h1, fun i oc hi => h2 i oc (by simpa using hi)⟩
  cases draw with
  | true =>
   simp only [if_true] at hc
   split at hc
   ·rename_i hcc
    simp only [Bool.and_eq_true] at hcc
    simp only [Option.some.injEq, Prod.mk.injEq] at hc; obtain ⟨rfl, _⟩ := hc
    exact ⟨rfl, region_draw he hcc.1 hcc.2⟩
   ·cases hc
  | false =>
   simp only [Bool.false_eq_true, if_false, Option.some.injEq, Prod.mk.injEq] at hc; obtain ⟨rfl, _⟩ := hc
   exact ⟨rfl, cLends_ok (eachOK_all he)⟩
 | seq a b iha ihb =>
  intro ls ls' ac hc
  simp only [cCode, Option.bind_eq_some_iff, Option.some.injEq, Prod.mk.injEq] at hc
  obtain ⟨x, hx, y, hy, rfl, _⟩ := hc
  exact ⟨iha hx, ihb hy⟩
 | cond c t e iht ihe =>
  intro ls ls' ac hc
  simp only [cCode, Option.bind_eq_some_iff, Option.some.injEq, Prod.mk.injEq] at hc
  obtain ⟨o, ho, x, hx, y, hy, rfl, _⟩ := hc
  exact ⟨cO_ok ho, iht hx, ihe hy⟩
 | block i b ih =>
  intro ls ls' ac hc
  simp only [cCode, Option.bind_eq_some_iff, Option.some.injEq, Prod.mk.injEq] at hc
  obtain ⟨x, hx, rfl, _⟩ := hc
  exact ⟨rfl, ih hx⟩
 | loop b ih =>
  intro ls ls' ac hc
  simp only [cCode] at hc
  split at hc
  ·simp only [Option.bind_eq_some_iff, Option.some.injEq, Prod.mk.injEq] at hc
   obtain ⟨x, hx, rfl, _⟩ := hc
   exact ih hx
  ·cases hc
 | exit i => intro ls ls' ac hc; simp only [cCode, Option.some.injEq, Prod.mk.injEq] at hc; obtain ⟨rfl, _⟩ := hc; exact rfl
 | ret => intro ls ls' ac hc; simp only [cCode, Option.some.injEq, Prod.mk.injEq] at hc; obtain ⟨rfl, _⟩ := hc; trivial
 | scope b ih => intro ls ls' ac hc; simp only [cCode] at hc; exact ih hc
 | rangeFunc f ps a b => intro ls ls' ac hc; simp only [cCode, Option.some.injEq, Prod.mk.injEq] at hc; obtain ⟨rfl, _⟩ := hc; trivial
 | _ => intro ls ls' ac hc; cases hc
theorem cRess_ok : ∀ {rs : List ResultVar} {zs9 : List ARes}, cRess P rs = some zs9 → ressOK P rs zs9
 | [], zs9, hc => by simp only [cRess, Option.some.injEq] at hc; subst hc; trivial
 | r :: rs, zs9, hc => by
  simp only [cRess, Option.bind_eq_some_iff, Option.some.injEq] at hc
  obtain ⟨a, ha, zs9', has, rfl⟩ := hc
  refine ⟨?_, cRess_ok has⟩
  cases r with
  | tmp t => simp only [cRes, Option.some.injEq] at ha; subst ha; rfl
  | cell t ty => simp only [cRes, Option.map_eq_some_iff] at ha; obtain ⟨q, hq, rfl⟩ := ha; exact ⟨rfl, hq⟩
theorem cFunc_ok [Lay P] {f : Nat} {af : AFunc} (hc : cFunc P p f = some af) : FuncOK P f af := by
 simp only [cFunc, Option.bind_eq_some_iff] at hc
 obtain ⟨fn, hfn, c, hbody, hc⟩ := hc
 split at hc
 ·cases hc
 ·rename_i hname
  simp only [Option.bind_eq_some_iff] at hc
  obtain ⟨x, hx, rs, hrs, hc⟩ := hc
  split at hc
  ·rename_i hnp
   simp only [Option.some.injEq] at hc; subst hc
   exact ⟨fn, c, p.S, hfn, hbody, by simpa using hname, rfl, hnp, cCode_ok hx, cRess_ok hrs⟩
  ·cases hc
end
end Go.Proofs.YtdlijnfdkeimlaaDoor.Am

namespace Go.Proofs.YtdlijnfdkeimlaaDoor.Am
def Le (cf1 cf2 : CF) : Prop := ∀ f a m x, cf1 f a m = some x → cf2 f a m = some x
section
variable {cf1 cf2 : CF}
theorem eval_mono (h : Le cf1 cf2) {st : St} {op : AOp} {y : V × St} (he : evalOp cf1 st op = some y) : evalOp cf2 st op = some y := by
 cases op with
 | callF f args =>
  simp only [evalOp, Option.bind_eq_some_iff] at he ⊢
  obtain ⟨p, hp, he⟩ := he
  refine ⟨p, hp, ?_⟩
  split at he
  ·rename_i hc
   rw [if_pos hc]
   simp only [Option.bind_eq_some_iff] at he ⊢
   obtain ⟨r, hr, he⟩ := he
   exact ⟨r, h _ _ _ _ hr, he⟩
  ·cases he
 | lend f z x lo =>
  simp only [evalOp, Option.bind_eq_some_iff] at he ⊢
  obtain ⟨v, hv, xs, hxs, he⟩ := he
  refine ⟨v, hv, xs, hxs, ?_⟩
  split at he
  ·rename_i hc
   rw [if_pos hc]
   simp only [Option.bind_eq_some_iff] at he ⊢
   obtain ⟨r, hr, he⟩ := he
   exact ⟨r, h _ _ _ _ hr, he⟩
  ·cases he
 | callV f args =>
  simp only [evalOp, Option.bind_eq_some_iff] at he ⊢
  obtain ⟨v, hv, he⟩ := he
  refine ⟨v, hv, ?_⟩
  cases v with
  | func g cap =>
   simp only [Option.bind_eq_some_iff] at he ⊢
   obtain ⟨p, hp, he⟩ := he
   refine ⟨p, hp, ?_⟩
   split at he
   ·rename_i hc
    rw [if_pos hc]
    simp only [Option.bind_eq_some_iff] at he ⊢
    obtain ⟨r, hr, he⟩ := he
    exact ⟨r, h _ _ _ _ hr, he⟩
   ·cases he
  | _ => cases he
 | _ => exact he
theorem bind_mono {α β : Type} {o1 o2 : Option α} {f1 f2 : α → Option β} (ho : ∀ x, o1 = some x → o2 = some x) (hf : ∀ x y, f1 x = some y → f2 x = some y) {y : β} (h : o1.bind f1 = some y) : o2.bind f2 = some y := by
 simp only [Option.bind_eq_some_iff] at h ⊢
 obtain ⟨x, hx, h⟩ := h
 exact ⟨x, ho x hx, hf x y h⟩
theorem stepOp_mono (h : Le cf1 cf2) {o : AOper} {st st' : St} (he : stepOp cf1 o st = some st') : stepOp cf2 o st = some st' := by
 unfold stepOp at he ⊢
 have hb : ∀ y, (evalOp cf1 st o.op).bind (putOp o) = some y → (evalOp cf2 st o.op).bind (putOp o) = some y := fun y => bind_mono (fun _ => eval_mono h) (fun _ _ h => h)
 split at he
 ·exact hb _ he
 ·split at he
  ·split at he
   ·rename_i hc; rw [if_pos hc]; exact hb _ he
   ·rename_i hc; rw [if_neg hc]; exact he
  ·exact he
  ·cases he
theorem runOps_mono (h : Le cf1 cf2) : ∀ {os : List AOper} {st st' : St}, runOps cf1 os st = some st' → runOps cf2 os st = some st'
 | [], _, _, he => he
 | _ :: _, _, _, he => bind_mono (fun _ => stepOp_mono h) (fun _ _ => runOps_mono h) he
theorem stepD_mono (h : Le cf1 cf2) {o : AOper} {st st' : St} (he : stepD cf1 o st = some st') : stepD cf2 o st = some st' := by
 unfold stepD at he ⊢
 have hb : ∀ y, stepU cf1 o st = some y → stepU cf2 o st = some y := fun y hy => by
  unfold stepU at hy ⊢
  split at hy
  ·rename_i hc; rw [if_pos hc]; exact bind_mono (fun _ => eval_mono h) (fun _ _ h => h) hy
  ·cases hy
 split at he
 ·exact hb _ he
 ·split at he
  ·split at he
   ·rename_i hc; rw [if_pos hc]; exact hb _ he
   ·rename_i hc; rw [if_neg hc]; exact he
  ·exact he
  ·cases he
theorem runD_mono (h : Le cf1 cf2) : ∀ {os : List AOper} {st st' : St}, runD cf1 os st = some st' → runD cf2 os st = some st'
 | [], _, _, he => he
 | _ :: _, _, _, he => bind_mono (fun _ => stepD_mono h) (fun _ _ => runD_mono h) he
theorem rounds_fmono {r1 r2 : St → Option (Ex × St)} (h : ∀ st x, r1 st = some x → r2 st = some x) : ∀ {k : Nat} {st : St} {x : Ex × St}, rounds r1 k st = some x → rounds r2 k st = some x
 | 0, _, _, he => by cases he
 | k + 1, st, x, he => by
  unfold rounds at he ⊢
  refine bind_mono (h st) (fun q y hq => ?_) he
  obtain ⟨e, st1⟩ := q
  cases e with
  | normal => exact rounds_fmono h hq
  | _ => exact hq
theorem exec_mono (h : Le cf1 cf2) : ∀ {c : ACode} {st : St} {x : Ex × St}, exec cf1 c st = some x → exec cf2 c st = some x := by
 intro c
 induction c with
 | skip => intro st x he; exact he
 | region d ops =>
  intro st x he
  cases d with
  | true => simp only [exec] at he ⊢; exact bind_mono (fun _ => runD_mono h) (fun _ _ h => h) he
  | false => simp only [exec] at he ⊢; exact bind_mono (fun _ => runOps_mono h) (fun _ _ h => h) he
 | seq a b iha ihb =>
  intro st x he
  simp only [exec] at he ⊢
  refine bind_mono (fun _ => iha) (fun q y hq => ?_) he
  obtain ⟨e, st1⟩ := q
  cases e with
  | normal => exact ihb hq
  | _ => exact hq
 | cond c t e iht ihe =>
  intro st x he
  simp only [exec] at he ⊢
  refine bind_mono (fun _ h => h) (fun v y hq => ?_) he
  cases v with
  | bool b =>
   cases b with
   | true => exact iht hq
   | false => exact ihe hq
  | _ => cases hq
 | block i b ih =>
  intro st x he
  simp only [exec] at he ⊢
  exact bind_mono (fun _ => ih) (fun _ _ h => h) he
 | loop live b ih =>
  intro st x he
  simp only [exec] at he ⊢
  obtain ⟨k, hk⟩ := loopRes_iff.1 he
  exact loopRes_iff.2 ⟨k, rounds_fmono (fun st x => ih) hk⟩
 | exit i => intro st x he; exact he
 | ret => intro st x he; exact he
theorem runF_mono (h : Le cf1 cf2) {f : AFunc} {args : List V} {m : List (List V)} {x : V × List (List V)} (he : runF cf1 f args m = some x) : runF cf2 f args m = some x := by
 unfold runF at he ⊢
 split at he
 ·rename_i hc
  rw [if_pos hc]
  exact bind_mono (fun _ => exec_mono h) (fun _ _ h => h) he
 ·cases he
end
theorem Ret.unique {T : Table} {f : Nat} {a : List V} {m m1 : List (List V)} {r1 : V} (h1 : Ret T f a m r1 m1) : ∀ {r2 : V} {m2 : List (List V)}, Ret T f a m r2 m2 → r1 = r2 ∧ m1 = m2 := by
 induction h1 with
 | mk cf1 f fn args m r1 m1 hf1 hr1 hcf1 ih =>
  intro r2 m2 h2
  cases h2 with
  | mk cf2 _ fn2 _ _ _ _ hf2 hr2 hcf2 =>
   rw [hf1] at hf2
   cases hf2
   have hle1 : Le cf1 (fun f a m => (cf1 f a m).or (cf2 f a m)) := fun f a m x hx => by simp [hx]
   have hle2 : Le cf2 (fun f a m => (cf1 f a m).or (cf2 f a m)) := fun f a m x hx => by
    cases hc : cf1 f a m with
    | none => simp [hc, hx]
    | some y =>
     obtain ⟨yr, ym⟩ := y
     obtain ⟨xr, xm⟩ := x
     obtain ⟨e1, e2⟩ := ih f a m yr ym hc (hcf2 f a m xr xm hx)
     simp [hc, e1, e2]
   have e1 := runF_mono hle1 hr1
   have e2 := runF_mono hle2 hr2
   rw [e1] at e2
   simp only [Option.some.injEq, Prod.mk.injEq] at e2
   exact e2
  | ext _ _ _ _ _ hf2 _ => rw [hf1] at hf2; cases hf2
 | ext f args m r m' hf h =>
  intro r2 m2 h2
  cases h2 with
  | mk cf2 _ fn2 _ _ _ _ hf2 _ _ => rw [hf] at hf2; cases hf2
  | ext _ _ _ _ _ _ h2 =>
   rw [h] at h2
   simp only [Option.some.injEq, Prod.mk.injEq] at h2
   exact h2
open Classical in
noncomputable def RF (T : Table) : CF := fun f a m =>
 if h : ∃ x : V × List (List V), Ret T f a m x.1 x.2 then some h.choose else none
theorem RF_ret {T : Table} {f : Nat} {a : List V} {m : List (List V)} {x : V × List (List V)} : RF T f a m = some x ↔ Ret T f a m x.1 x.2 := by
 unfold RF
 constructor
 ·intro h
  split at h
  ·rename_i hx
   simp only [Option.some.injEq] at h
   rw [← h]; exact hx.choose_spec
  ·cases h
 ·intro h
  have hx : ∃ x : V × List (List V), Ret T f a m x.1 x.2 := ⟨x, h⟩
  rw [dif_pos hx]
  obtain ⟨e1, e2⟩ := hx.choose_spec.unique h
  rw [Option.some.injEq]
  exact Prod.ext e1 e2
theorem RF_of {T : Table} {f : Nat} {fn : AFunc} (hf : T.code f = some fn) {a : List V} {m : List (List V)} {x : V × List (List V)} (h : runF (RF T) fn a m = some x) : RF T f a m = some x :=
 RF_ret.2 (.mk (RF T) f fn a m x.1 x.2 hf h fun _ _ _ _ _ hh => RF_ret.1 hh)
theorem RF_ext {T : Table} {f : Nat} (hf : T.code f = none) {a : List V} {m : List (List V)} {x : V × List (List V)} (h : T.ext f a m = some x) : RF T f a m = some x :=
 RF_ret.2 (.ext f a m x.1 x.2 hf h)
end Go.Proofs.YtdlijnfdkeimlaaDoor.Am

namespace Go.Proofs.YtdlijnfdkeimlaaDoor.Am
abbrev Ts := List (Nat × V)
abbrev Bs := List (Nat × List V)
abbrev Ms := List (List V)
def fnd {α : Type} : List (Nat × α) → Nat → Option α
 | [], _ => none
 | (k, v) :: r, s => bif Nat.beq k s then some v else fnd r s
def mapK (f : V → V) : Ts → (Ts → Prop) → Prop
 | [], k => k []
 | (s, v) :: r, k => mapK f r fun r' => k ((s, f v) :: r')
def pruneK {α : Type} (L : List (Nat × α)) : List Nat → (List (Nat × α) → Prop) → Prop
 | [], k => k []
 | s :: r, k => match fnd L s with
  | some v => pruneK L r fun r' => k ((s, v) :: r')
  | none => pruneK L r k
def rdP (v : V) (p : Prop) : Prop :=
 match v with
 | .slice true _ _ => False
 | .agg cs => cs.any V.own0 = false ∧ p
 | .tuple vs => vs.any V.own1 = false ∧ p
 | _ => p
def rdV (v : V) (k : V → Prop) : Prop := rdP v (k v)
def rdC (L : Ts) (o : Opd) (k : V → Prop) : Prop :=
 match o with
 | .c v => k v
 | .t s => match fnd L s with
  | some v => rdV v k
  | none => False
 | .u s .peek => k (.place (.tmp s))
 | .u _ _ => False
def rd (L : Ts) (o : Opd) (k : V → Ts → Prop) : Prop :=
 match o with
 | .c v => k v L
 | .t s => match fnd L s with
  | some v => rdV v fun v => k v L
  | none => False
 | .u s .take => match fnd L s with
  | some v => k v ((s, .undef) :: L)
  | none => False
 | .u s .share => match fnd L s with
  | some v => k v.share ((s, .undef) :: L)
  | none => False
 | .u s .peek => k (.place (.tmp s)) L
 | .u s .copy => match fnd L s with
  | some v => rdV v fun v => k v L
  | none => False
def rds (L : Ts) : List Opd → (List V → Ts → Prop) → Prop
 | [], k => k [] L
 | x :: xs, k => rd L x fun v L1 => rds L1 xs fun vs L2 => k (v :: vs) L2
def rdCs (L : Ts) : List Opd → (List V → Prop) → Prop
 | [], k => k []
 | x :: xs, k => rdC L x fun v => rdCs L xs fun vs => k (v :: vs)
def lookW (L : Ts) (B : Bs) (m : Ms) (r : Root) (k : V → Prop) : Prop :=
 match r with
 | .mem b o => ∃ cs, m[b]? = some cs ∧ ∃ v, cs[o]? = some v ∧ k v
 | .loc j o => match fnd B j with
  | some cs => ∃ v, cs[o]? = some v ∧ k v
  | none => False
 | .tmp s => match fnd L s with
  | some v => k v
  | none => False
def elemsV (v : V) (k : List (List V) → Prop) : Prop :=
 match v with
 | .slice _ _ xs => k xs
 | .nils => k []
 | _ => False
def elemsW (L : Ts) (B : Bs) (m : Ms) (v : V) (k : List (List V) → Prop) : Prop :=
 match v with
 | .slice _ _ xs => k xs
 | .nils => k []
 | .place r => lookW L B m r fun v => elemsV v k
 | _ => False
def elemsZV (sz : Nat) (v : V) (k : List (List V) → Prop) : Prop :=
 match v with
 | .nils => k []
 | .slice _ z xs => bif Nat.beq z sz then k xs else False
 | _ => False
def elemsZW (sz : Nat) (L : Ts) (B : Bs) (m : Ms) (v : V) (k : List (List V) → Prop) : Prop :=
 match v with
 | .nils => k []
 | .str s => bif Nat.beq sz 1 then k (byteCells s) else False
 | .slice _ z xs => bif Nat.beq z sz then k xs else False
 | .place r => lookW L B m r fun v => elemsZV sz v k
 | _ => False
def ldW (mode : Use) (root : Root) (agg : Bool) (n : Nat) (cs : List V) (off : Nat) (k : V → Option (List V) → Prop) : Prop :=
 match agg with
 | false => bif Nat.beq n 1 then ∃ v, cs[off]? = some v ∧ match mode with
   | .copy => v.own0 = false ∧ k v none
   | .take => k v (some (cs.set off v.left))
   | .share => k v.share0 (some (cs.set off v.share0))
   | .peek => k (.place root) none
  else False
 | true => off + n ≤ cs.length ∧ match mode with
   | .copy => ((cs.drop off).take n).any V.own0 = false ∧ k (.agg ((cs.drop off).take n)) none
   | .take => k (.agg ((cs.drop off).take n)) (some (setAt cs off (((cs.drop off).take n).map V.left)))
   | .share => k (.agg (((cs.drop off).take n).map V.share0)) (some (setAt cs off (((cs.drop off).take n).map V.share0)))
   | .peek => False
def loadW (agg : Bool) (n : Nat) (mode : Use) (L : Ts) (B : Bs) (m : Ms) (a : V) (k : V → Bs → Ms → Prop) : Prop :=
 match a with
 | .ptr b off => ∃ cs, m[b]? = some cs ∧ ldW mode (.mem b off) agg n cs off fun v c => match c with
  | none => k v B m
  | some c => k v B (m.set b c)
 | .loc j off => match mode with
  | .share => False
  | mode => match fnd B j with
   | some cs => ldW mode (.loc j off) agg n cs off fun v c => match c with
    | none => k v B m
    | some c => k v ((j, c) :: B) m
   | none => False
 | .ro cs off => match mode with
  | .copy => match agg with
   | false => bif Nat.beq n 1 then ∃ v, cs[off]? = some v ∧ k v B m else False
   | true => off + n ≤ cs.length ∧ k (.agg ((cs.drop off).take n)) B m
  | _ => False
 | .el r z i o => match mode with
  | .copy => lookW L B m r fun v => match v with
   | .slice true sz xs => bif Nat.beq z sz then ∃ cs, xs[i]? = some cs ∧ match agg with
     | false => bif Nat.beq n 1 then ∃ v, cs[o]? = some v ∧ k v B m else False
     | true => o + n ≤ cs.length ∧ k (.agg ((cs.drop o).take n)) B m
    else False
   | _ => False
  | _ => False
 | _ => False
def storeW (n : Nat) (cells : List V) (L : Ts) (B : Bs) (m : Ms) (a : V) (k : Ts → Bs → Ms → Prop) : Prop :=
 match a with
 | .ptr b off => ∃ old, m[b]? = some old ∧ (off + n ≤ old.length ∧ cells.length = n ∧ cells.all V.ok0 = true ∧ tops cells ≤ b + 1) ∧ mapK killV L fun L' => k L' B (m.set b (setAt old off cells))
 | .loc j off => match fnd B j with
  | some old => (off + n ≤ old.length ∧ cells.length = n ∧ cells.all V.ok0 = true) ∧ mapK killV L fun L' => k L' ((j, setAt old off cells) :: B) m
  | none => False
 | .el r z i o => (cells.length = n ∧ cells.all V.good = true) ∧ match r with
  | .mem b q => ∃ old, m[b]? = some old ∧ ∃ v, old[q]? = some v ∧ match v with
   | .slice true sz xs => bif Nat.beq z sz then ∃ cs, xs[i]? = some cs ∧ o + n ≤ cs.length ∧ k L B (m.set b (old.set q (.slice true sz (xs.set i (setAt cs o cells))))) else False
   | _ => False
  | .loc j q => match fnd B j with
   | some old => ∃ v, old[q]? = some v ∧ match v with
    | .slice true sz xs => bif Nat.beq z sz then ∃ cs, xs[i]? = some cs ∧ o + n ≤ cs.length ∧ k L ((j, old.set q (.slice true sz (xs.set i (setAt cs o cells)))) :: B) m else False
    | _ => False
   | none => False
  | .tmp s => match fnd L s with
   | some (.slice true sz xs) => bif Nat.beq z sz then ∃ cs, xs[i]? = some cs ∧ o + n ≤ cs.length ∧ k ((s, .slice true sz (xs.set i (setAt cs o cells))) :: L) B m else False
   | _ => False
 | _ => False
def fillW (L : Ts) (cells : List V) : List (Nat × Nat × Opd) → (List V → Ts → Prop) → Prop
 | [], k => k cells L
 | (off, n, x) :: r, k => rd L x fun v L1 => (v.cells.length = n ∧ off + n ≤ cells.length ∧ v.ok1 = true) ∧ fillW L1 (setAt cells off v.cells) r k
def fillEW (L : Ts) (sz : Nat) (xs : List (List V)) : List (Nat × Opd) → (List (List V) → Ts → Prop) → Prop
 | [], k => k xs L
 | (i, x) :: r, k => rd L x fun v L1 => (v.cells.length = sz ∧ i < xs.length ∧ v.cells.all V.good = true) ∧ fillEW L1 sz (xs.set i v.cells) r k
def bndW (L : Ts) (dflt : Nat) (o : Option Opd) (k : Nat → Prop) : Prop :=
 match o with
 | none => k dflt
 | some x => rdC L x fun v => match v with
  | .int _ i => 0 ≤ i ∧ k i.toNat
  | _ => False
def tell (b : Bool) (k : V → Prop) : Prop := ∀ c : Bool, b = c → k (.bool c)
def binW (op : BinOp) (x y : V) (k : V → Prop) : Prop :=
 match x, y with
 | .int a n, .int b p => match op with
  | .shl => 0 ≤ p ∧ k (.int a (a.wrap (n * 2 ^ min p.toNat a.bits)))
  | .shr => 0 ≤ p ∧ k (.int a (n.fdiv (2 ^ min p.toNat a.bits)))
  | .add => bif decide (a = b) then k (.int a (a.wrap (n + p))) else False
  | .sub => bif decide (a = b) then k (.int a (a.wrap (n - p))) else False
  | .mul => bif decide (a = b) then k (.int a (a.wrap (n * p))) else False
  | .quo => bif decide (a = b) then p ≠ 0 ∧ k (.int a (a.wrap (n.tdiv p))) else False
  | .rem => bif decide (a = b) then p ≠ 0 ∧ k (.int a (n.tmod p)) else False
  | .and => bif decide (a = b) then k (.int a (a.wrap ((BitVec.ofInt a.bits n &&& BitVec.ofInt a.bits p).toNat))) else False
  | .or => bif decide (a = b) then k (.int a (a.wrap ((BitVec.ofInt a.bits n ||| BitVec.ofInt a.bits p).toNat))) else False
  | .xor => bif decide (a = b) then k (.int a (a.wrap ((BitVec.ofInt a.bits n ^^^ BitVec.ofInt a.bits p).toNat))) else False
  | .andNot => bif decide (a = b) then k (.int a (a.wrap ((BitVec.ofInt a.bits n &&& ~~~ (BitVec.ofInt a.bits p)).toNat))) else False
  | .eql => bif decide (a = b) then tell (decide (n = p)) k else False
  | .neq => bif decide (a = b) then tell (decide (n ≠ p)) k else False
  | .lss => bif decide (a = b) then tell (decide (n < p)) k else False
  | .leq => bif decide (a = b) then tell (decide (n ≤ p)) k else False
  | .gtr => bif decide (a = b) then tell (decide (n > p)) k else False
  | .geq => bif decide (a = b) then tell (decide (n ≥ p)) k else False
 | .str s, .str t => match op with
  | .add => s.length + t.length ≤ 4611686018427387904 ∧ k (.str (s ++ t))
  | .eql => tell (decide (s = t)) k
  | .neq => tell (decide (s ≠ t)) k
  | _ => ∃ v, strBin op s t = some v ∧ k v
 | _, _ => False
def eqW (neg : Bool) (kind : EqK) (x y : V) (k : V → Prop) : Prop :=
 match kind with
 | .bool => match x, y with
  | .bool a, .bool b => tell (if neg then !(a == b) else (a == b)) k
  | _, _ => False
 | .plain ks => ∃ b, eqV (.plain ks) x y = some b ∧ tell (if neg then !b else b) k
 | kind => match eqV kind x y with
  | some b => k (.bool (if neg then !b else b))
  | none => False
def appW (sz : Nat) (ys : List (List V)) (xs : List (List V)) (z : Nat) (k : V → Prop) : Prop :=
 bif Nat.beq z sz then xs.length + ys.length ≤ most ∧ k (.slice true sz (xs ++ ys)) else False
def app0W (sz : Nat) (ys : List (List V)) (k : V → Prop) : Prop :=
 ys.length ≤ most ∧ (0 < ys.length → k (.slice true sz ys)) ∧ (ys = [] → k .nils)
def minMaxW (mx : Bool) (v : V) (vs : List V) (k : V → Prop) : Prop :=
 match v, vs with
 | .int kd a, [.int _ b] => match mx with
  | false => k (.int kd (min a b))
  | true => k (.int kd (max a b))
 | v, vs => match minMaxL mx v vs with
  | some r => k r
  | none => False
def wpOp (cf : CF) (op : AOp) (L : Ts) (B : Bs) (m : Ms) (k : V → Ts → Bs → Ms → Prop) : Prop :=
 match op with
 | .mv x => rd L x fun v L' => k v L' B m
 | .mvK s => match fnd L s with
  | some (.slice _ z xs) => k (.slice false z xs) ((s, .slice false z xs) :: L) B m
  | some .nils => k .nils L B m
  | _ => False
 | .pick c a b => rdC L c fun v => match v with
  | .bool t => rdC L (bif t then a else b) fun w => k w L B m
  | _ => False
 | .allocL j zero => bif zero.all V.ok0 then mapK (killLV j) L fun L' => k (.loc j 0) L' ((j, zero) :: B) m else False
 | .allocM zero => bif zero.all V.ok0 && Nat.beq (tops zero) 0 then k (.ptr m.length 0) L B (m ++ [zero]) else False
 | .boxL j x => rd L x fun v L1 => v.ok1 = true ∧ mapK (killLV j) L1 fun L' => k (.loc j 0) L' ((j, v.cells) :: B) m
 | .boxM x => rd L x fun v L1 => v.ok1 = true ∧ k (.ptr m.length 0) L1 B (m ++ [v.cells])
 | .build zero parts => fillW L zero parts fun cs L' => k (.agg cs) L' B m
 | .buildSlice sz zero len parts => bif Nat.beq zero.length sz && zero.all V.good then fillEW L sz (List.replicate len zero) parts fun xs L' => k (.slice true sz xs) L' B m else False
 | .load agg n p mode => rdC L p fun a => loadW agg n mode L B m a fun v B' m' => k v L B' m'
 | .store n p x => rd L x fun v L1 => rdC L1 p fun a => v.ok1 = true ∧ storeW n v.cells L1 B m a fun L' B' m' => k .undef L' B' m'
 | .nilCheck x => rdC L x fun v => match v with
  | .ptr .. | .loc .. | .ro .. | .el .. | .func .. => k v L B m
  | _ => False
 | .bin op x y => rdC L x fun a => rdC L y fun b => binW op a b fun v => k v L B m
 | .eq neg kind x y => rdC L x fun a => rdC L y fun b => eqW neg kind a b fun v => k v L B m
 | .un op x => rdC L x fun a => match doUn op a with
  | some v => k v L B m
  | none => False
 | .conv kd x => rdC L x fun a => match a with
  | .int _ n => k (.int kd (kd.wrap n)) L B m
  | _ => False
 | .strStr x => rdC L x fun a => match a with
  | .str s => k (.str s) L B m
  | _ => False
 | .strBytes x => rdC L x fun a => match a with
  | .str s => k (.slice true 1 (byteCells s)) L B m
  | _ => False
 | .bytesStr x => rdC L x fun a => elemsW L B m a fun xs => ∃ s, bytesOf xs = some s ∧ k (.str s) L B m
 | .intStr _ => False
 | .lend _ _ _ _ => False
 | .convB _ => False
 | .makeSlice sz zero l c => rdC L l fun a => rdC L c fun b => match a, b with
  | .int _ n, .int _ q => (0 ≤ n ∧ n ≤ q ∧ q ≤ (most : Int)) ∧ bif Nat.beq zero.length sz && zero.all V.good then k (.slice true sz (List.replicate n.toNat zero)) L B m else False
  | _, _ => False
 | .sliceS x lo hi => rdC L x fun a => match a with
  | .str s => bndW L s.length hi fun h => bndW L 0 lo fun l => (l ≤ h ∧ h ≤ s.length) ∧ k (.str ((s.drop l).take (h - l))) L B m
  | _ => False
 | .sliceV sz x lo hi => rd L x fun v L1 => match v with
  | .nils => bndW L1 0 hi fun h => bndW L1 0 lo fun l => (l = 0 ∧ h = 0) ∧ k .nils L1 B m
  | .slice o z xs => bif Nat.beq z sz then bndW L1 xs.length hi fun h => bndW L1 0 lo fun l => (l ≤ h ∧ h ≤ xs.length) ∧ k (.slice o sz ((xs.drop l).take (h - l))) L1 B m else False
  | _ => False
 | .fieldAddr off x => rdC L x fun v => match v with
  | .ptr b o => k (.ptr b (o + off)) L B m
  | .loc j o => k (.loc j (o + off)) L B m
  | .ro cs o => k (.ro cs (o + off)) L B m
  | .el r z i q => k (.el r z i (q + off)) L B m
  | _ => False
 | .field agg n off x => rdC L x fun v => match v with
  | .agg cs => match agg with
   | false => bif Nat.beq n 1 then (match cs[off]? with
    | some v => k v L B m
    | none => False) else False
   | true => off + n ≤ cs.length ∧ k (.agg ((cs.drop off).take n)) L B m
  | _ => False
 | .indexArr len sz x i => rdC L x fun v => rdC L i fun n => match n with
  | .int _ i => (0 ≤ i ∧ i < len) ∧ match v with
   | .ptr b o => k (.ptr b (o + i.toNat * sz)) L B m
   | .loc j o => k (.loc j (o + i.toNat * sz)) L B m
   | .ro cs o => k (.ro cs (o + i.toNat * sz)) L B m
   | .el r z e q => k (.el r z e (q + i.toNat * sz)) L B m
   | _ => False
  | _ => False
 | .indexSl sz x i => rdC L x fun v => rdC L i fun n => match n with
  | .int _ i => match v with
   | .slice false z xs => bif Nat.beq z sz then 0 ≤ i ∧ ∃ cs, xs[i.toNat]? = some cs ∧ k (.ro cs 0) L B m else False
   | .place r => lookW L B m r fun v => match v with
    | .slice false z xs => bif Nat.beq z sz then 0 ≤ i ∧ ∃ cs, xs[i.toNat]? = some cs ∧ k (.ro cs 0) L B m else False
    | .slice true z xs => bif Nat.beq z sz then (0 ≤ i ∧ i < xs.length) ∧ k (.el r sz i.toNat 0) L B m else False
    | _ => False
   | _ => False
  | _ => False
 | .indexAgg agg len sz x i => rdC L x fun v => rdC L i fun n => match v, n with
  | .agg cs, .int _ i => (0 ≤ i ∧ i < len ∧ i.toNat * sz + sz ≤ cs.length) ∧ match agg with
   | false => bif Nat.beq sz 1 then ∃ v, cs[i.toNat * sz]? = some v ∧ k v L B m else False
   | true => k (.agg ((cs.drop (i.toNat * sz)).take sz)) L B m
  | _, _ => False
 | .indexStr x i => rdC L x fun v => rdC L i fun n => match v, n with
  | .str s, .int _ i => (0 ≤ i ∧ i < s.length) ∧ k (.int .u8 ((s.getD i.toNat 0).toNat)) L B m
  | _, _ => False
 | .extract x i => rd L x fun v L1 => match v with
  | .tuple vs => match vs[i]? with
   | some v => k v L1 B m
   | none => False
  | _ => False
 | .callF f args => rds L args fun vs L1 => vs.all V.okArg = true ∧ ∃ r m', cf f vs m = some (r, m') ∧ mapK killMV L1 fun L' => k r L' B m'
 | .callV f args => rdC L f fun v => match v with
  | .func g cap => rds L args fun vs L1 => (vs.all V.okArg = true ∧ cap.all V.okArg = true) ∧ ∃ r m', cf g (vs ++ cap) m = some (r, m') ∧ mapK killMV L1 fun L' => k r L' B m'
  | _ => False
 | .lenStr x => rdC L x fun a => match a with
  | .str s => k (.int .i64 s.length) L B m
  | _ => False
 | .lenSl x => rdC L x fun a => elemsW L B m a fun xs => k (.int .i64 xs.length) L B m
 | .lenC n => k (.int .i64 n) L B m
 | .append sz x y => rd L x fun p L1 => rd L1 y fun q L2 => elemsZW sz L2 B m q fun ys => match p with
  | .nils => app0W sz ys fun v => k v L2 B m
  | .slice true z xs => appW sz ys xs z fun v => k v L2 B m
  | .place (.tmp s) => match fnd L2 s with
   | some (.slice true z xs) => appW sz ys xs z fun v => k v ((s, .undef) :: L2) B m
   | some .nils => app0W sz ys fun v => k v L2 B m
   | _ => False
  | .place (.mem b o) => ∃ cs, m[b]? = some cs ∧ ∃ w, cs[o]? = some w ∧ match w with
   | .slice true z xs => appW sz ys xs z fun v => k v L2 B (m.set b (cs.set o .undef))
   | .nils => app0W sz ys fun v => k v L2 B m
   | _ => False
  | .place (.loc j o) => match fnd B j with
   | some cs => ∃ w, cs[o]? = some w ∧ match w with
    | .slice true z xs => appW sz ys xs z fun v => k v L2 ((j, cs.set o .undef) :: B) m
    | .nils => app0W sz ys fun v => k v L2 B m
    | _ => False
   | none => False
  | _ => False
 | .minMax mx x ys => rdC L x fun v => rdCs L ys fun vs => minMaxW mx v vs fun r => k r L B m
 | .mkFunc f captured => rdCs L captured fun vs => vs.all okCap = true ∧ k (.func f vs) L B m
def putW (o : AOper) (v : V) (L : Ts) (k : Ts → Prop) : Prop :=
 match o.dst with
 | none => bif o.kt then (bif selfPlace none v then False else k L) else k L
 | some d => bif o.kt then (bif selfPlace (some d) v then False else mapK (killTV d) L fun L' => k ((d, v) :: L')) else k ((d, v) :: L)
def wpOps (cf : CF) : List AOper → Ts → Bs → Ms → (Ts → Bs → Ms → Prop) → Prop
 | [], L, B, m, k => k L B m
 | o :: os, L, B, m, k => match o.guard with
  | none => wpOp cf o.op L B m fun v L1 B1 m1 => putW o v L1 fun L2 => wpOps cf os L2 B1 m1 k
  | some (g, want) => match fnd L g with
   | some (.bool b) => bif b == want then wpOp cf o.op L B m fun v L1 B1 m1 => putW o v L1 fun L2 => wpOps cf os L2 B1 m1 k
    else putW o (.tuple []) L fun L2 => wpOps cf os L2 B m k
   | some (.tuple []) => putW o (.tuple []) L fun L2 => wpOps cf os L2 B m k
   | _ => False
def rootsW (lean : Bool) (L : Ts) : List Nat → Bool
 | [] => true
 | s :: r => match fnd L s with
  | some v => rootOk lean v && rootsW lean L r
  | none => false
def AOp.isCall : AOp → Bool
 | .callF _ _ | .callV _ _ => true
 | _ => false
def coolW (L : Ts) : List Nat → Bool
 | [] => true
 | s :: r => match fnd L s with
  | some v => notLoc v && coolW L r
  | none => false
def markW (o : AOper) (L : Ts) (m m' : Ms) (k : Prop) : Prop :=
 match o.mark with
 | .none => k
 | .cool => match o.op.ptr? with
  | none => bif coolW L (slots o.op.opds) then k else False
  | some _ => False
 | .quiet => bif o.op.isCall then m' = m ∧ k else False
 | mk => match o.op.ptr? with
  | none => k
  | some p => rdC L p fun v => match v with
   | .loc i _ => bif mk == .loc i then k else False
   | .ptr _ _ => bif mk == .mem then k else False
   | .ro _ _ => bif mk == .free then k else False
   | _ => False
def doD (cf : CF) (o : AOper) (L : Ts) (B : Bs) (m : Ms) (k : Ts → Bs → Ms → Prop) : Prop :=
 bif rootsW o.lean L (slots o.op.opds) then wpOp cf o.op L B m fun v L1 B1 m1 => bif resOk o v then markW o L m m1 (putW o v L1 fun L2 => k L2 B1 m1) else False else False
def wpD (cf : CF) : List AOper → Ts → Bs → Ms → (Ts → Bs → Ms → Prop) → Prop
 | [], L, B, m, k => k L B m
 | o :: os, L, B, m, k => match o.guard with
  | none => doD cf o L B m fun L2 B1 m1 => wpD cf os L2 B1 m1 k
  | some (g, want) => match fnd L g with
   | some (.bool b) => bif b == want then doD cf o L B m fun L2 B1 m1 => wpD cf os L2 B1 m1 k
    else putW o (.tuple []) L fun L2 => wpD cf os L2 B m k
   | some (.tuple []) => putW o (.tuple []) L fun L2 => wpD cf os L2 B m k
   | _ => False
structure WP (cf : CF) (c : ACode) (L : Ts) (B : Bs) (m : Ms) (Q : Ex → Ts → Bs → Ms → Prop) : Prop where
 go : ∀ st : St, (∀ s v, fnd L s = some v → st.σ s = v) → (∀ s v, fnd B s = some v → st.l s = v) → st.m = m →
  ∃ e st', exec cf c st = some (e, st') ∧ ∃ L' B', (∀ s v, fnd L' s = some v → st'.σ s = v) ∧ (∀ s v, fnd B' s = some v → st'.l s = v) ∧ Q e L' B' st'.m
def resW : List ARes → Ts → Bs → Ms → (List V → Ms → Prop) → Prop
 | [], _, _, m, k => k [] m
 | .tmp s :: r, L, B, m, k => match fnd L s with
  | some v => resW r ((s, .undef) :: L) B m fun vs m' => k (v :: vs) m'
  | none => False
 | .cell s agg n :: r, L, B, m, k => match fnd L s with
  | some a => loadW agg n .take L B m a fun v B' m' => resW r L B' m' fun vs m'' => k (v :: vs) m''
  | none => False
def tupled : List V → V
 | [v] => v
 | vs => .tuple vs
end Go.Proofs.YtdlijnfdkeimlaaDoor.Am

namespace Go.Proofs.YtdlijnfdkeimlaaDoor.Am
def Ag (L : Ts) (σ : Nat → V) : Prop := ∀ s v, fnd L s = some v → σ s = v
def AgB (B : Bs) (l : Nat → List V) : Prop := ∀ s v, fnd B s = some v → l s = v
theorem fnd_cons {α : Type} {k s : Nat} {v : α} {r : List (Nat × α)} : fnd ((k, v) :: r) s = if s = k then some v else fnd r s := by
 show (bif Nat.beq k s then some v else fnd r s) = _
 by_cases h : s = k
 ·subst h; simp
 ·have : Nat.beq k s = false := by
   cases hb : Nat.beq k s with
   | false => rfl
   | true => exact absurd (Nat.eq_of_beq_eq_true hb).symm h
  simp [h, this]
theorem Ag.upd {L : Ts} {σ : Nat → V} (h : Ag L σ) (d : Nat) (v : V) : Ag ((d, v) :: L) (Am.upd σ d v) := fun s x hx => by
 rw [fnd_cons] at hx
 unfold Am.upd
 split at hx
 ·rename_i e; rw [if_pos e]; exact Option.some.inj hx
 ·rename_i e; rw [if_neg e]; exact h s x hx
theorem AgB.upd {B : Bs} {l : Nat → List V} (h : AgB B l) (d : Nat) (v : List V) : AgB ((d, v) :: B) (Am.upd l d v) := fun s x hx => by
 rw [fnd_cons] at hx
 unfold Am.upd
 split at hx
 ·rename_i e; rw [if_pos e]; exact Option.some.inj hx
 ·rename_i e; rw [if_neg e]; exact h s x hx
theorem fnd_map {f : V → V} : ∀ {L : Ts} {s : Nat}, fnd (L.map fun p => (p.1, f p.2)) s = (fnd L s).map f
 | [], _ => rfl
 | (k, v) :: r, s => by
  rw [List.map_cons, fnd_cons, fnd_cons, fnd_map]
  split <;> rfl
theorem Ag.map {L : Ts} {σ : Nat → V} (h : Ag L σ) (f : V → V) : Ag (L.map fun p => (p.1, f p.2)) (fun i => f (σ i)) := fun s x hx => by
 rw [fnd_map, Option.map_eq_some_iff] at hx
 obtain ⟨y, hy, rfl⟩ := hx
 show f (σ s) = f y
 rw [h s y hy]
theorem mapK_iff {f : V → V} : ∀ {L : Ts} {k : Ts → Prop}, mapK f L k ↔ k (L.map fun p => (p.1, f p.2))
 | [], _ => Iff.rfl
 | (s, v) :: r, k => by
  unfold mapK
  rw [mapK_iff]; rfl
theorem prune_sound {L : Ts} {σ : Nat → V} (h : Ag L σ) : ∀ {r : List Nat} {k : Ts → Prop}, pruneK L r k → ∃ L', Ag L' σ ∧ (∀ s v, fnd L' s = some v → s ∈ r) ∧ k L'
 | [], k, hk => ⟨[], fun s v hv => (nomatch hv), fun s v hv => (nomatch hv), hk⟩
 | s :: r, k, hk => by
  unfold pruneK at hk
  cases hs : fnd L s with
  | none =>
   rw [hs] at hk
   obtain ⟨L', h1, h2, h3⟩ := prune_sound h hk
   exact ⟨L', h1, fun t v hv => .tail _ (h2 t v hv), h3⟩
  | some v =>
   rw [hs] at hk
   obtain ⟨L', h1, h2, h3⟩ := prune_sound h (k := fun r' => k ((s, v) :: r')) hk
   refine ⟨_, fun t x hx => ?_, fun t x hx => ?_, h3⟩
   ·rw [fnd_cons] at hx
    split at hx
    ·rename_i e; subst e; cases hx; exact h _ _ hs
    ·exact h1 t x hx
   ·rw [fnd_cons] at hx
    split at hx
    ·rename_i e; subst e; exact .head _
    ·exact .tail _ (h2 t x hx)
theorem rdV_inv {v : V} {k : V → Prop} (h : rdV v k) : v.hasOwn = false ∧ k v := by
 unfold rdV rdP at h
 split at h
 ·exact h.elim
 ·exact ⟨by simpa [V.hasOwn, V.own1] using h.1, h.2⟩
 ·exact ⟨by simpa [V.hasOwn] using h.1, h.2⟩
 ·rename_i h1 h2 h3
  refine ⟨?_, h⟩
  cases v with
  | slice o z xs => cases o with
   | true => exact (h1 _ _ rfl).elim
   | false => rfl
  | agg cs => exact (h2 _ rfl).elim
  | tuple vs => exact (h3 _ rfl).elim
  | _ => rfl
section
variable {L : Ts} {B : Bs} {st : St}
theorem rdC_sound (h : Ag L st.σ) {o : Opd} {k : V → Prop} (hk : rdC L o k) : ∃ v, getC st o = some v ∧ k v := by
 unfold rdC at hk
 cases o with
 | c v => exact ⟨v, rfl, hk⟩
 | t s =>
  simp only at hk
  cases hs : fnd L s with
  | none => rw [hs] at hk; exact hk.elim
  | some v =>
   rw [hs] at hk
   obtain ⟨h1, h2⟩ := rdV_inv hk
   refine ⟨v, ?_, h2⟩
   simp [getC, h s v hs, h1]
 | u s how =>
  cases how with
  | peek => exact ⟨_, rfl, hk⟩
  | _ => exact hk.elim
theorem rd_sound (h : Ag L st.σ) {o : Opd} {k : V → Ts → Prop} (hk : rd L o k) : ∃ v σ', getO st o = some (v, { st with σ := σ' }) ∧ ∃ L', Ag L' σ' ∧ k v L' := by
 unfold rd at hk
 have copy : ∀ s, (match fnd L s with | some v => rdV v fun v => k v L | none => False) → (st.σ s).hasOwn = false ∧ k (st.σ s) L := fun s hk => by
  cases hs : fnd L s with
  | none => rw [hs] at hk; exact hk.elim
  | some v =>
   rw [hs] at hk
   obtain ⟨h1, h2⟩ := rdV_inv hk
   rw [h s v hs]; exact ⟨h1, h2⟩
 have mv : ∀ (f : V → V) s, (match fnd L s with | some v => k (f v) ((s, .undef) :: L) | none => False) → k (f (st.σ s)) ((s, .undef) :: L) := fun f s hk => by
  cases hs : fnd L s with
  | none => rw [hs] at hk; exact hk.elim
  | some v => rw [hs] at hk; rw [h s v hs]; exact hk
 cases o with
 | c v => exact ⟨v, st.σ, rfl, L, h, hk⟩
 | t s =>
  obtain ⟨h1, h2⟩ := copy s hk
  exact ⟨_, st.σ, by simp [getO, h1], L, h, h2⟩
 | u s how =>
  cases how with
  | copy =>
   obtain ⟨h1, h2⟩ := copy s hk
   exact ⟨_, st.σ, by simp [getO, h1], L, h, h2⟩
  | take => exact ⟨_, _, rfl, _, h.upd s .undef, mv id s hk⟩
  | share => exact ⟨_, _, rfl, _, h.upd s .undef, mv V.share s hk⟩
  | peek => exact ⟨_, st.σ, rfl, L, h, hk⟩
theorem rds_sound : ∀ {xs : List Opd} {L : Ts} {st : St} (_ : Ag L st.σ) {k : List V → Ts → Prop} (_ : rds L xs k), ∃ vs σ', getOs st xs = some (vs, { st with σ := σ' }) ∧ ∃ L', Ag L' σ' ∧ k vs L'
 | [], L, st, h, k, hk => ⟨[], st.σ, rfl, L, h, hk⟩
 | x :: xs, L, st, h, k, hk => by
  unfold rds at hk
  obtain ⟨v, σ1, e1, L1, h1, hk1⟩ := rd_sound h hk
  obtain ⟨vs, σ2, e2, L2, h2, hk2⟩ := rds_sound (st := { st with σ := σ1 }) (L := L1) h1 hk1
  exact ⟨v :: vs, σ2, by simp [getOs, e1, e2], L2, h2, hk2⟩
theorem rdCs_sound (h : Ag L st.σ) : ∀ {xs : List Opd} {k : List V → Prop} (_ : rdCs L xs k), ∃ vs, getCs st xs = some vs ∧ k vs
 | [], k, hk => ⟨[], rfl, hk⟩
 | x :: xs, k, hk => by
  unfold rdCs at hk
  obtain ⟨v, e1, hk1⟩ := rdC_sound h hk
  obtain ⟨vs, e2, hk2⟩ := rdCs_sound h hk1
  exact ⟨v :: vs, by simp [getCs, e1, e2], hk2⟩
theorem getD_of {α : Type} {l : List α} {i : Nat} {d v : α} (h : l[i]? = some v) : l.getD i d = v := by
 rw [List.getD_eq_getElem?_getD, h]; rfl
theorem lt_of_get {α : Type} {l : List α} {i : Nat} {v : α} (h : l[i]? = some v) : i < l.length := (List.getElem?_eq_some_iff.1 h).1
theorem lookW_sound (h : Ag L st.σ) (hB : AgB B st.l) {r : Root} {k : V → Prop} (hk : lookW L B st.m r k) : k (look st r) := by
 unfold lookW at hk
 cases r with
 | mem b o =>
  obtain ⟨cs, h1, v, h2, hk⟩ := hk
  show k ((st.m.getD b []).getD o .undef)
  rw [getD_of h1, getD_of h2]; exact hk
 | loc j o =>
  simp only at hk
  cases hj : fnd B j with
  | none => rw [hj] at hk; exact hk.elim
  | some cs =>
   rw [hj] at hk
   obtain ⟨v, h2, hk⟩ := hk
   show k ((st.l j).getD o .undef)
   rw [hB j cs hj, getD_of h2]; exact hk
 | tmp s =>
  simp only at hk
  cases hj : fnd L s with
  | none => rw [hj] at hk; exact hk.elim
  | some v => rw [hj] at hk; simpa [look, h s v hj] using hk
theorem elemsW_sound (h : Ag L st.σ) (hB : AgB B st.l) {v : V} {k : List (List V) → Prop} (hk : elemsW L B st.m v k) : ∃ xs, elems st v = some xs ∧ k xs := by
 unfold elemsW at hk
 cases v with
 | nils => exact ⟨[], rfl, hk⟩
 | slice o z xs => exact ⟨xs, rfl, hk⟩
 | place r =>
  have h1 := lookW_sound h hB hk
  unfold elems
  cases hl : look st r with
  | nils => rw [hl] at h1; exact ⟨[], by simp [hl], h1⟩
  | slice o z xs => rw [hl] at h1; exact ⟨xs, by simp [hl], h1⟩
  | _ => rw [hl] at h1; exact h1.elim
 | _ => exact hk.elim
theorem elemsZW_sound (h : Ag L st.σ) (hB : AgB B st.l) {sz : Nat} {v : V} {k : List (List V) → Prop} (hk : elemsZW sz L B st.m v k) : ∃ xs, elemsZ sz st v = some xs ∧ k xs := by
 unfold elemsZW at hk
 have b : ∀ {x y : Nat} {p : Prop}, (bif Nat.beq x y then p else False) → x = y ∧ p := fun {x y p} hb => by
  cases e : Nat.beq x y with
  | true => rw [e] at hb; exact ⟨Nat.eq_of_beq_eq_true e, hb⟩
  | false => rw [e] at hb; exact hb.elim
 cases v with
 | nils => exact ⟨[], rfl, hk⟩
 | str s => obtain ⟨e, hk⟩ := b hk; exact ⟨_, by simp [elemsZ, e], hk⟩
 | slice o z xs => obtain ⟨e, hk⟩ := b hk; exact ⟨xs, by simp [elemsZ, e], hk⟩
 | place r =>
  have h1 := lookW_sound h hB hk
  unfold elemsZ
  cases hl : look st r with
  | nils => rw [hl] at h1; exact ⟨[], by simp [hl], h1⟩
  | slice o z xs => rw [hl] at h1; obtain ⟨e, hk⟩ := b h1; exact ⟨xs, by simp [hl, e], hk⟩
  | _ => rw [hl] at h1; exact h1.elim
 | _ => exact hk.elim
theorem bif_inv {c : Bool} {p : Prop} (h : bif c then p else False) : c = true ∧ p := by
 cases c with
 | true => exact ⟨rfl, h⟩
 | false => exact h.elim
theorem beq_inv {x y : Nat} {p : Prop} (h : bif Nat.beq x y then p else False) : x = y ∧ p :=
 let ⟨a, b⟩ := bif_inv h; ⟨Nat.eq_of_beq_eq_true a, b⟩
theorem take1 {cs : List V} {off : Nat} {v : V} (h : cs[off]? = some v) : (cs.drop off).take 1 = [v] := by
 obtain ⟨hl, e⟩ := List.getElem?_eq_some_iff.1 h
 rw [List.drop_eq_getElem_cons hl, e]; rfl
theorem setAt1 {cs : List V} {off : Nat} {v x : V} (h : cs[off]? = some v) : setAt cs off [x] = cs.set off x := by
 have hl := lt_of_get h
 unfold setAt
 rw [List.set_eq_take_append_cons_drop, if_pos hl]
 simp
theorem ldW_sound {mode : Use} {root : Root} {agg : Bool} {n : Nat} {cs : List V} {off : Nat} {k : V → Option (List V) → Prop} (hk : ldW mode root agg n cs off k) :
  off + n ≤ cs.length ∧ ∃ v, loadV mode root agg ((cs.drop off).take n) = some v ∧ k v (if mode.writes then some (setAt cs off (leftV mode ((cs.drop off).take n))) else none) := by
 unfold ldW at hk
 cases agg with
 | false =>
  obtain ⟨rfl, v, hv, hk⟩ := beq_inv hk
  refine ⟨lt_of_get hv, ?_⟩
  rw [take1 hv]
  cases mode with
  | copy => exact ⟨v, by simp [loadV, agg?, hk.1], hk.2⟩
  | take => exact ⟨v, by simp [loadV, agg?], by simpa [Use.writes, leftV, setAt1 hv] using hk⟩
  | share => exact ⟨v.share0, by simp [loadV, agg?], by simpa [Use.writes, leftV, setAt1 hv] using hk⟩
  | peek => exact ⟨.place root, by simp [loadV], hk⟩
 | true =>
  obtain ⟨hl, hk⟩ := hk
  refine ⟨hl, ?_⟩
  cases mode with
  | copy => exact ⟨_, by simp only [loadV, hk.1, Bool.false_eq_true, if_false, agg?, if_true], hk.2⟩
  | take => exact ⟨_, rfl, hk⟩
  | share => exact ⟨_, rfl, hk⟩
  | peek => exact hk.elim
theorem loadW_sound (h : Ag L st.σ) (hB : AgB B st.l) {agg : Bool} {n : Nat} {mode : Use} {a : V} {k : V → Bs → Ms → Prop} (hk : loadW agg n mode L B st.m a k) :
  ∃ v st', doLoad st agg n mode a = some (v, st') ∧ st'.σ = st.σ ∧ ∃ B', AgB B' st'.l ∧ k v B' st'.m := by
 unfold loadW at hk
 cases a with
 | ptr b off =>
  obtain ⟨cs, h1, hk⟩ := hk
  obtain ⟨h2, v, h3, hk⟩ := ldW_sound hk
  have e1 := getD_of (d := []) h1
  simp only [doLoad, e1]
  rw [if_pos ⟨lt_of_get h1, h2⟩, h3]
  refine ⟨v, _, rfl, ?_⟩
  cases hw : mode.writes with
  | true => rw [hw] at hk; exact ⟨rfl, B, hB, hk⟩
  | false => rw [hw] at hk; exact ⟨rfl, B, hB, hk⟩
 | loc j off =>
  have key : ∀ cs, fnd B j = some cs → mode ≠ .share → ldW mode (.loc j off) agg n cs off (fun v c => match c with | none => k v B st.m | some c => k v ((j, c) :: B) st.m) →
    ∃ v st', doLoad st agg n mode (.loc j off) = some (v, st') ∧ st'.σ = st.σ ∧ ∃ B', AgB B' st'.l ∧ k v B' st'.m := fun cs hj hm hk => by
   obtain ⟨h2, v, h3, hk⟩ := ldW_sound hk
   have e1 := hB j cs hj
   simp only [doLoad, e1]
   rw [if_pos ⟨h2, hm⟩, h3]
   refine ⟨v, _, rfl, ?_⟩
   cases hw : mode.writes with
   | true => rw [hw] at hk; exact ⟨rfl, _, hB.upd _ _, hk⟩
   | false => rw [hw] at hk; exact ⟨rfl, B, hB, hk⟩
  cases hj : fnd B j with
  | none => simp only [hj] at hk; cases mode <;> exact hk.elim
  | some cs =>
   simp only [hj] at hk
   cases mode with
   | share => exact hk.elim
   | _ => exact key cs hj (by simp) hk
 | ro cs off =>
  cases mode with
  | copy =>
   cases agg with
   | false =>
    obtain ⟨rfl, v, hv, hk⟩ := beq_inv hk
    exact ⟨v, st, by simp only [doLoad]; rw [if_pos ⟨trivial, Nat.succ_le_of_lt (lt_of_get hv)⟩, take1 hv]; rfl, rfl, B, hB, hk⟩
   | true => exact ⟨_, st, by simp only [doLoad]; rw [if_pos ⟨trivial, hk.1⟩]; rfl, rfl, B, hB, hk.2⟩
  | _ => exact hk.elim
 | el r z i o =>
  cases mode with
  | copy =>
   have h1 := lookW_sound h hB hk
   simp only [doLoad]
   cases hl : look st r with
   | slice own sz xs =>
    rw [hl] at h1
    cases own with
    | false => exact h1.elim
    | true =>
     obtain ⟨rfl, cs, hc, h1⟩ := beq_inv h1
     have e := getD_of (d := []) hc
     simp only [e]
     cases agg with
     | false =>
      obtain ⟨rfl, v, hv, hk⟩ := beq_inv h1
      exact ⟨v, st, by simp only [if_true]; rw [if_pos ⟨trivial, lt_of_get hc, Nat.succ_le_of_lt (lt_of_get hv)⟩, take1 hv]; rfl, rfl, B, hB, hk⟩
     | true => exact ⟨_, st, by simp only [if_true]; rw [if_pos ⟨trivial, lt_of_get hc, h1.1⟩]; rfl, rfl, B, hB, h1.2⟩
   | _ => rw [hl] at h1; exact h1.elim
  | _ => exact hk.elim
 | _ => exact hk.elim
theorem storeW_sound (h : Ag L st.σ) (hB : AgB B st.l) {n : Nat} {cells : List V} {a : V} {k : Ts → Bs → Ms → Prop} (hk : storeW n cells L B st.m a k) :
  ∃ st', doStore st n cells a = some st' ∧ ∃ L' B', Ag L' st'.σ ∧ AgB B' st'.l ∧ k L' B' st'.m := by
 unfold storeW at hk
 cases a with
 | ptr b off =>
  obtain ⟨old, h1, ⟨h2, h3, h4, h5⟩, hk⟩ := hk
  have e1 := getD_of (d := []) h1
  simp only [doStore, e1]
  rw [if_pos ⟨lt_of_get h1, h2, h3, h4, h5⟩]
  exact ⟨_, rfl, _, B, h.map killV, hB, mapK_iff.1 hk⟩
 | loc j off =>
  cases hj : fnd B j with
  | none => simp only [hj] at hk
  | some old =>
   simp only [hj] at hk
   obtain ⟨⟨h2, h3, h4⟩, hk⟩ := hk
   simp only [doStore, hB j old hj]
   rw [if_pos ⟨h2, h3, h4⟩]
   exact ⟨_, rfl, _, _, h.map killV, hB.upd _ _, mapK_iff.1 hk⟩
 | el r z i o =>
  obtain ⟨hc, hk⟩ := hk
  simp only [doStore]
  rw [if_pos hc]
  cases r with
  | mem b q =>
   obtain ⟨old, h1, v, h2, hk⟩ := hk
   have e1 := getD_of (d := []) h1
   have e2 := getD_of (d := V.undef) h2
   simp only [look, e1, e2]
   cases v with
   | slice own sz xs =>
    cases own with
    | false => exact hk.elim
    | true =>
     obtain ⟨rfl, cs, hcs, hl, hk⟩ := beq_inv hk
     have e3 := getD_of (d := []) hcs
     simp only [e3]
     rw [if_pos ⟨trivial, lt_of_get hcs, hl⟩]
     exact ⟨_, rfl, L, B, h, hB, hk⟩
   | _ => exact hk.elim
  | loc j q =>
   cases hj : fnd B j with
   | none => simp only [hj] at hk
   | some old =>
    simp only [hj] at hk
    obtain ⟨v, h2, hk⟩ := hk
    have e2 := getD_of (d := V.undef) h2
    simp only [look, hB j old hj, e2]
    cases v with
    | slice own sz xs =>
     cases own with
     | false => exact hk.elim
     | true =>
      obtain ⟨rfl, cs, hcs, hl, hk⟩ := beq_inv hk
      have e3 := getD_of (d := []) hcs
      simp only [e3]
      rw [if_pos ⟨trivial, lt_of_get hcs, hl⟩]
      exact ⟨_, rfl, L, _, h, hB.upd _ _, hk⟩
    | _ => exact hk.elim
  | tmp s =>
   cases hj : fnd L s with
   | none => simp only [hj] at hk
   | some v =>
    simp only [hj] at hk
    simp only [look, h s v hj]
    cases v with
    | slice own sz xs =>
     cases own with
     | false => exact hk.elim
     | true =>
      obtain ⟨rfl, cs, hcs, hl, hk⟩ := beq_inv hk
      have e3 := getD_of (d := []) hcs
      simp only [e3]
      rw [if_pos ⟨trivial, lt_of_get hcs, hl⟩]
      exact ⟨_, rfl, _, B, h.upd _ _, hB, hk⟩
    | _ => exact hk.elim
 | _ => exact hk.elim
theorem fillW_sound : ∀ {ps : List (Nat × Nat × Opd)} {L : Ts} {st : St} (_ : Ag L st.σ) {cells : List V} {k : List V → Ts → Prop} (_ : fillW L cells ps k), ∃ cs σ', fillParts st cells ps = some (cs, { st with σ := σ' }) ∧ ∃ L', Ag L' σ' ∧ k cs L'
 | [], L, st, h, cells, k, hk => ⟨cells, st.σ, rfl, L, h, hk⟩
 | (off, n, x) :: r, L, st, h, cells, k, hk => by
  unfold fillW at hk
  obtain ⟨v, σ1, e1, L1, h1, hc, hk1⟩ := rd_sound h hk
  obtain ⟨cs, σ2, e2, L2, h2, hk2⟩ := fillW_sound (st := { st with σ := σ1 }) h1 hk1
  exact ⟨cs, σ2, by simp only [fillParts, e1, Option.bind_some]; rw [if_pos hc]; exact e2, L2, h2, hk2⟩
theorem fillEW_sound {sz : Nat} : ∀ {ps : List (Nat × Opd)} {L : Ts} {st : St} (_ : Ag L st.σ) {xs : List (List V)} {k : List (List V) → Ts → Prop} (_ : fillEW L sz xs ps k), ∃ ys σ', fillElems st sz xs ps = some (ys, { st with σ := σ' }) ∧ ∃ L', Ag L' σ' ∧ k ys L'
 | [], L, st, h, xs, k, hk => ⟨xs, st.σ, rfl, L, h, hk⟩
 | (i, x) :: r, L, st, h, xs, k, hk => by
  unfold fillEW at hk
  obtain ⟨v, σ1, e1, L1, h1, hc, hk1⟩ := rd_sound h hk
  obtain ⟨cs, σ2, e2, L2, h2, hk2⟩ := fillEW_sound (st := { st with σ := σ1 }) h1 hk1
  exact ⟨cs, σ2, by simp only [fillElems, e1, Option.bind_some]; rw [if_pos hc]; exact e2, L2, h2, hk2⟩
theorem bndW_sound (h : Ag L st.σ) {d : Nat} {o : Option Opd} {k : Nat → Prop} (hk : bndW L d o k) : ∃ n, getBound st d o = some n ∧ k n := by
 unfold bndW at hk
 cases o with
 | none => exact ⟨d, rfl, hk⟩
 | some x =>
  obtain ⟨v, e, hk⟩ := rdC_sound h hk
  cases v with
  | int kd i => exact ⟨_, by simp [getBound, e, hk.1], hk.2⟩
  | _ => exact hk.elim
theorem tell_inv {b : Bool} {k : V → Prop} (h : tell b k) : k (.bool b) := h b rfl
theorem binW_sound {op : BinOp} {x y : V} {k : V → Prop} (hk : binW op x y k) : ∃ v, doBin op x y = some v ∧ k v := by
 unfold binW at hk
 split at hk
 ·rename_i a n b p
  cases op with
  | shl => exact ⟨_, by simp only [doBin, intShift]; rw [if_neg (by omega)], hk.2⟩
  | shr => exact ⟨_, by simp only [doBin, intShift]; rw [if_neg (by omega)], hk.2⟩
  | quo => obtain ⟨e, h0, hk⟩ := bif_inv hk; exact ⟨_, by simp only [doBin, intBin, of_decide_eq_true e, if_true, if_neg h0], hk⟩
  | rem => obtain ⟨e, h0, hk⟩ := bif_inv hk; exact ⟨_, by simp only [doBin, intBin, of_decide_eq_true e, if_true, if_neg h0], hk⟩
  | eql => obtain ⟨e, hk⟩ := bif_inv hk; exact ⟨_, by simp only [doBin, intBin, of_decide_eq_true e, if_true]; rfl, tell_inv hk⟩
  | neq =>
   obtain ⟨e, hk⟩ := bif_inv hk
   refine ⟨_, by simp only [doBin, intBin, of_decide_eq_true e, if_true]; rfl, ?_⟩
   have h1 := tell_inv hk
   have e2 : decide (n ≠ p) = (n != p) := by simp [bne, decide_not]; rfl
   rwa [e2] at h1
  | lss => obtain ⟨e, hk⟩ := bif_inv hk; exact ⟨_, by simp only [doBin, intBin, of_decide_eq_true e, if_true], tell_inv hk⟩
  | leq => obtain ⟨e, hk⟩ := bif_inv hk; exact ⟨_, by simp only [doBin, intBin, of_decide_eq_true e, if_true], tell_inv hk⟩
  | gtr => obtain ⟨e, hk⟩ := bif_inv hk; exact ⟨_, by simp only [doBin, intBin, of_decide_eq_true e, if_true], tell_inv hk⟩
  | geq => obtain ⟨e, hk⟩ := bif_inv hk; exact ⟨_, by simp only [doBin, intBin, of_decide_eq_true e, if_true], tell_inv hk⟩
  | _ => obtain ⟨e, hk⟩ := bif_inv hk; exact ⟨_, by simp only [doBin, intBin, of_decide_eq_true e, if_true], hk⟩
 ·rename_i s t
  cases op with
  | add => exact ⟨_, by simp only [doBin, strBin]; rw [if_pos hk.1], hk.2⟩
  | eql =>
   refine ⟨_, rfl, ?_⟩
   have h1 := tell_inv hk
   rwa [show decide (s = t) = (s == t) from by rw [Bool.eq_iff_iff]; simp] at h1
  | neq =>
   refine ⟨_, rfl, ?_⟩
   have h1 := tell_inv hk
   rwa [show decide (s ≠ t) = !(s == t) from by rw [Bool.eq_iff_iff]; simp] at h1
  | _ => exact hk
 ·exact hk.elim
theorem eqW_sound {neg : Bool} {kind : EqK} {x y : V} {k : V → Prop} (hk : eqW neg kind x y k) : ∃ b, eqV kind x y = some b ∧ k (.bool (if neg then !b else b)) := by
 unfold eqW at hk
 cases kind with
 | bool =>
  simp only at hk
  split at hk
  ·exact ⟨_, rfl, tell_inv hk⟩
  ·exact hk.elim
 | plain ks =>
  obtain ⟨b, e, hk⟩ := hk
  exact ⟨b, e, tell_inv hk⟩
 | ptr => simp only at hk; split at hk; exact ⟨_, by assumption, hk⟩; exact hk.elim
 | slice => simp only at hk; split at hk; exact ⟨_, by assumption, hk⟩; exact hk.elim
 | func => simp only at hk; split at hk; exact ⟨_, by assumption, hk⟩; exact hk.elim
 | iface => simp only at hk; split at hk; exact ⟨_, by assumption, hk⟩; exact hk.elim
theorem minMaxW_sound {mx : Bool} {v : V} {vs : List V} {k : V → Prop} (hk : minMaxW mx v vs k) : ∃ r, minMaxL mx v vs = some r ∧ k r := by
 unfold minMaxW at hk
 split at hk
 ·cases mx with
  | false => exact ⟨_, by simp only [minMaxL, minMax2, Option.bind_some, Bool.false_eq_true, if_false, Int.min_def]; congr 2; split <;> split <;> omega, hk⟩
  | true => exact ⟨_, by simp only [minMaxL, minMax2, Option.bind_some, if_true, Int.max_def]; congr 2; split <;> split <;> omega, hk⟩
 ·split at hk
  ·exact ⟨_, by assumption, hk⟩
  ·exact hk.elim
theorem putMap {L : Ts} {k : Ts → Prop} {f : V → V} {σ : Nat → V} (h : Ag L σ) (hk : mapK f L k) : ∃ L', Ag L' (fun i => f (σ i)) ∧ k L' := ⟨_, h.map f, mapK_iff.1 hk⟩
theorem wpOp_sound {cf : CF} (h : Ag L st.σ) (hB : AgB B st.l) {op : AOp} {k : V → Ts → Bs → Ms → Prop} (hk : wpOp cf op L B st.m k) :
  ∃ v st', evalOp cf st op = some (v, st') ∧ (op.isCall = true → st'.l = st.l) ∧ ∃ L' B', Ag L' st'.σ ∧ AgB B' st'.l ∧ k v L' B' st'.m := by
 cases op with
 | mv x =>
  dsimp only [wpOp] at hk
  obtain ⟨v, σ', e, L', h1, hk⟩ := rd_sound h hk
  exact ⟨v, _, e, (fun hh => by cases hh), L', B, h1, hB, hk⟩
 | mvK s =>
  dsimp only [wpOp] at hk
  split at hk
  ·rename_i o z xs hv
   have e := h s _ hv
   exact ⟨_, { st with σ := upd st.σ s (.slice false z xs) }, by simp only [evalOp, e], (fun hh => by cases hh), _, B, h.upd s _, hB, hk⟩
  ·rename_i hv
   have e := h s _ hv
   exact ⟨_, st, by simp only [evalOp, e], (fun hh => by cases hh), L, B, h, hB, hk⟩
  ·exact hk.elim
 | pick c a b =>
  dsimp only [wpOp] at hk
  obtain ⟨v, e, hk⟩ := rdC_sound h hk
  cases v with
  | bool t =>
   obtain ⟨w, e2, hk⟩ := rdC_sound h hk
   exact ⟨w, st, by simp only [evalOp, e, Option.bind_some]; cases t <;> simp_all, (fun hh => by cases hh), L, B, h, hB, hk⟩
  | _ => exact hk.elim
 | allocL j zero =>
  dsimp only [wpOp] at hk
  obtain ⟨hz, hk⟩ := bif_inv hk
  obtain ⟨L', h1, hk⟩ := putMap h hk
  exact ⟨.loc j 0, { st with l := upd st.l j zero, σ := killL j st.σ }, by simp only [evalOp]; rw [if_pos hz], (fun hh => by cases hh), L', _, h1, hB.upd _ _, hk⟩
 | allocM zero =>
  dsimp only [wpOp] at hk
  obtain ⟨hz, hk⟩ := bif_inv hk
  rw [Bool.and_eq_true] at hz
  exact ⟨.ptr st.m.length 0, { st with m := st.m ++ [zero] }, by simp only [evalOp]; rw [if_pos ⟨hz.1, Nat.eq_of_beq_eq_true hz.2⟩], (fun hh => by cases hh), L, B, h, hB, hk⟩
 | boxL j x =>
  dsimp only [wpOp] at hk
  obtain ⟨v, σ', e, L1, h1, ho, hk⟩ := rd_sound h hk
  obtain ⟨L', h2, hk⟩ := putMap h1 hk
  exact ⟨.loc j 0, { st with l := upd st.l j v.cells, σ := killL j σ' }, by simp only [evalOp, e, Option.bind_some]; rw [if_pos ho], (fun hh => by cases hh), L', _, h2, hB.upd _ _, hk⟩
 | boxM x =>
  dsimp only [wpOp] at hk
  obtain ⟨v, σ', e, L1, h1, ho, hk⟩ := rd_sound h hk
  exact ⟨.ptr st.m.length 0, { st with σ := σ', m := st.m ++ [v.cells] }, by simp only [evalOp, e, Option.bind_some]; rw [if_pos ho], (fun hh => by cases hh), L1, B, h1, hB, hk⟩
 | build zero parts =>
  dsimp only [wpOp] at hk
  obtain ⟨cs, σ', e, L', h1, hk⟩ := fillW_sound h hk
  exact ⟨.agg cs, { st with σ := σ' }, by simp only [evalOp, e, Option.bind_some], (fun hh => by cases hh), L', B, h1, hB, hk⟩
 | buildSlice sz zero len parts =>
  dsimp only [wpOp] at hk
  obtain ⟨hz, hk⟩ := bif_inv hk
  rw [Bool.and_eq_true] at hz
  obtain ⟨cs, σ', e, L', h1, hk⟩ := fillEW_sound h hk
  exact ⟨.slice true sz cs, { st with σ := σ' }, by simp only [evalOp]; rw [if_pos ⟨Nat.eq_of_beq_eq_true hz.1, hz.2⟩, e]; rfl, (fun hh => by cases hh), L', B, h1, hB, hk⟩
 | load agg n p mode =>
  dsimp only [wpOp] at hk
  obtain ⟨a, e, hk⟩ := rdC_sound h hk
  obtain ⟨v, st', e2, e3, B', h1, hk⟩ := loadW_sound h hB hk
  exact ⟨v, st', by simp only [evalOp, e, Option.bind_some, e2], (fun hh => by cases hh), L, B', by rw [e3]; exact h, h1, hk⟩
 | store n p x =>
  dsimp only [wpOp] at hk
  obtain ⟨v, σ', e, L1, h1, hk⟩ := rd_sound h hk
  obtain ⟨a, e1, ho, hk⟩ := rdC_sound (st := { st with σ := σ' }) h1 hk
  obtain ⟨st', e2, L', B', h2, h3, hk⟩ := storeW_sound (st := { st with σ := σ' }) h1 hB hk
  exact ⟨_, st', by simp only [evalOp, e, Option.bind_some, e1]; rw [if_pos ho, e2]; rfl, (fun hh => by cases hh), L', B', h2, h3, hk⟩
 | nilCheck x =>
  dsimp only [wpOp] at hk
  obtain ⟨a, e, hk⟩ := rdC_sound h hk
  cases a <;> first | exact hk.elim | exact ⟨_, st, by simp only [evalOp, e, Option.bind_some], (fun hh => by cases hh), L, B, h, hB, hk⟩
 | bin op x y =>
  dsimp only [wpOp] at hk
  obtain ⟨a, e, hk⟩ := rdC_sound h hk
  obtain ⟨b, e1, hk⟩ := rdC_sound h hk
  obtain ⟨v, e2, hk⟩ := binW_sound hk
  exact ⟨v, st, by simp only [evalOp, e, e1, e2, Option.bind_some], (fun hh => by cases hh), L, B, h, hB, hk⟩
 | eq neg kind x y =>
  dsimp only [wpOp] at hk
  obtain ⟨a, e, hk⟩ := rdC_sound h hk
  obtain ⟨b, e1, hk⟩ := rdC_sound h hk
  obtain ⟨v, e2, hk⟩ := eqW_sound hk
  exact ⟨_, st, by simp only [evalOp, e, e1, e2, Option.bind_some], (fun hh => by cases hh), L, B, h, hB, hk⟩
 | un op x =>
  dsimp only [wpOp] at hk
  obtain ⟨a, e, hk⟩ := rdC_sound h hk
  cases hd : doUn op a with
  | none => simp only [hd] at hk
  | some v => simp only [hd] at hk; exact ⟨v, st, by simp only [evalOp, e, hd, Option.bind_some], (fun hh => by cases hh), L, B, h, hB, hk⟩
 | conv kd x =>
  dsimp only [wpOp] at hk
  obtain ⟨a, e, hk⟩ := rdC_sound h hk
  cases a <;> first | exact hk.elim | exact ⟨_, st, by simp only [evalOp, e, Option.bind_some], (fun hh => by cases hh), L, B, h, hB, hk⟩
 | strStr x =>
  dsimp only [wpOp] at hk
  obtain ⟨a, e, hk⟩ := rdC_sound h hk
  cases a <;> first | exact hk.elim | exact ⟨_, st, by simp only [evalOp, e, Option.bind_some], (fun hh => by cases hh), L, B, h, hB, hk⟩
 | strBytes x =>
  dsimp only [wpOp] at hk
  obtain ⟨a, e, hk⟩ := rdC_sound h hk
  cases a <;> first | exact hk.elim | exact ⟨_, st, by simp only [evalOp, e, Option.bind_some], (fun hh => by cases hh), L, B, h, hB, hk⟩
 | bytesStr x =>
  dsimp only [wpOp] at hk
  obtain ⟨a, e, hk⟩ := rdC_sound h hk
  obtain ⟨xs, e1, s, e2, hk⟩ := elemsW_sound h hB hk
  exact ⟨_, st, by simp only [evalOp, e, e1, e2, Option.bind_some], (fun hh => by cases hh), L, B, h, hB, hk⟩
 | intStr x => exact hk.elim
 | lend f z x lo => exact hk.elim
 | convB x => exact hk.elim
 | makeSlice sz zero l c =>
  dsimp only [wpOp] at hk
  obtain ⟨a, e, hk⟩ := rdC_sound h hk
  obtain ⟨b, e1, hk⟩ := rdC_sound h hk
  cases a <;> try exact hk.elim
  cases b <;> try exact hk.elim
  obtain ⟨hc, hk⟩ := hk
  obtain ⟨hz, hk⟩ := bif_inv hk
  rw [Bool.and_eq_true] at hz
  exact ⟨_, st, by simp only [evalOp, e, e1, Option.bind_some]; rw [if_pos ⟨hc.1, hc.2.1, hc.2.2, Nat.eq_of_beq_eq_true hz.1, hz.2⟩], (fun hh => by cases hh), L, B, h, hB, hk⟩
 | sliceS x lo hi =>
  dsimp only [wpOp] at hk
  obtain ⟨a, e, hk⟩ := rdC_sound h hk
  cases a <;> try exact hk.elim
  obtain ⟨q, e1, hk⟩ := bndW_sound h hk
  obtain ⟨l, e2, hc, hk⟩ := bndW_sound h hk
  exact ⟨_, st, by simp only [evalOp, e, e1, e2, Option.bind_some]; rw [if_pos hc], (fun hh => by cases hh), L, B, h, hB, hk⟩
 | sliceV sz x lo hi =>
  dsimp only [wpOp] at hk
  obtain ⟨v, σ', e, L1, h1, hk⟩ := rd_sound h hk
  cases v <;> try exact hk.elim
  ·obtain ⟨q, e1, hk⟩ := bndW_sound (st := { st with σ := σ' }) h1 hk
   obtain ⟨l, e2, hc, hk⟩ := bndW_sound (st := { st with σ := σ' }) h1 hk
   exact ⟨.nils, { st with σ := σ' }, by simp only [evalOp, e, e1, e2, Option.bind_some]; rw [if_pos hc], (fun hh => by cases hh), L1, B, h1, hB, hk⟩
  ·obtain ⟨hz, hk⟩ := beq_inv hk
   obtain ⟨q, e1, hk⟩ := bndW_sound (st := { st with σ := σ' }) h1 hk
   obtain ⟨l, e2, hc, hk⟩ := bndW_sound (st := { st with σ := σ' }) h1 hk
   exact ⟨_, { st with σ := σ' }, by simp only [evalOp, e, e1, e2, Option.bind_some]; rw [if_pos ⟨hc.1, hc.2, hz⟩], (fun hh => by cases hh), L1, B, h1, hB, hk⟩
 | fieldAddr off x =>
  dsimp only [wpOp] at hk
  obtain ⟨a, e, hk⟩ := rdC_sound h hk
  cases a <;> first | exact hk.elim | exact ⟨_, st, by simp only [evalOp, e, Option.bind_some], (fun hh => by cases hh), L, B, h, hB, hk⟩
 | field agg n off x =>
  dsimp only [wpOp] at hk
  obtain ⟨a, e, hk⟩ := rdC_sound h hk
  cases a <;> try exact hk.elim
  rename_i cs
  cases agg with
  | false =>
   obtain ⟨rfl, hk⟩ := beq_inv hk
   cases hv : cs[off]? with
   | none => simp only [hv] at hk; exact hk.elim
   | some v =>
    simp only [hv] at hk
    exact ⟨v, st, by simp only [evalOp, e, Option.bind_some]; rw [if_pos (Nat.succ_le_of_lt (lt_of_get hv)), take1 hv]; rfl, (fun hh => by cases hh), L, B, h, hB, hk⟩
  | true => exact ⟨_, st, by simp only [evalOp, e, Option.bind_some]; rw [if_pos hk.1]; rfl, (fun hh => by cases hh), L, B, h, hB, hk.2⟩
 | indexArr len sz x i =>
  dsimp only [wpOp] at hk
  obtain ⟨a, e, hk⟩ := rdC_sound h hk
  obtain ⟨b, e1, hk⟩ := rdC_sound h hk
  cases b <;> try exact hk.elim
  obtain ⟨hc, hk⟩ := hk
  cases a <;> first | exact hk.elim | exact ⟨_, st, by simp only [evalOp, e, e1, Option.bind_some]; rw [if_pos hc], (fun hh => by cases hh), L, B, h, hB, hk⟩
 | indexSl sz x i =>
  dsimp only [wpOp] at hk
  obtain ⟨a, e, hk⟩ := rdC_sound h hk
  obtain ⟨b, e1, hk⟩ := rdC_sound h hk
  cases b <;> try exact hk.elim
  cases a with
  | place r =>
   have h1 := lookW_sound h hB hk
   cases hl : look st r with
   | slice own z xs =>
    rw [hl] at h1
    cases own with
    | false =>
     obtain ⟨hz, h0, cs, hcs, h1⟩ := beq_inv h1
     have e2 := getD_of (d := []) hcs
     exact ⟨_, st, by simp only [evalOp, e, e1, Option.bind_some, hl]; rw [if_pos ⟨h0, by have := lt_of_get hcs; omega, hz⟩, e2], (fun hh => by cases hh), L, B, h, hB, h1⟩
    | true =>
     obtain ⟨hz, h0, h1⟩ := beq_inv h1
     exact ⟨_, st, by simp only [evalOp, e, e1, Option.bind_some, hl]; rw [if_pos ⟨h0.1, h0.2, hz⟩], (fun hh => by cases hh), L, B, h, hB, h1⟩
   | _ => rw [hl] at h1; exact h1.elim
  | slice own z xs =>
   cases own with
   | false =>
    obtain ⟨hz, h0, cs, hcs, h1⟩ := beq_inv hk
    have e2 := getD_of (d := []) hcs
    exact ⟨_, st, by simp only [evalOp, e, e1, Option.bind_some]; rw [if_pos ⟨h0, by have := lt_of_get hcs; omega, hz⟩, e2], (fun hh => by cases hh), L, B, h, hB, h1⟩
   | true => exact hk.elim
  | _ => exact hk.elim
 | indexAgg agg len sz x i =>
  dsimp only [wpOp] at hk
  obtain ⟨a, e, hk⟩ := rdC_sound h hk
  obtain ⟨b, e1, hk⟩ := rdC_sound h hk
  cases a <;> try exact hk.elim
  cases b <;> try exact hk.elim
  obtain ⟨hc, hk⟩ := hk
  cases agg with
  | false =>
   obtain ⟨rfl, v, hv, hk⟩ := beq_inv hk
   exact ⟨v, st, by simp only [evalOp, e, e1, Option.bind_some]; rw [if_pos hc, take1 hv]; rfl, (fun hh => by cases hh), L, B, h, hB, hk⟩
  | true => exact ⟨_, st, by simp only [evalOp, e, e1, Option.bind_some]; rw [if_pos hc]; rfl, (fun hh => by cases hh), L, B, h, hB, hk⟩
 | indexStr x i =>
  dsimp only [wpOp] at hk
  obtain ⟨a, e, hk⟩ := rdC_sound h hk
  obtain ⟨b, e1, hk⟩ := rdC_sound h hk
  cases a <;> try exact hk.elim
  cases b <;> try exact hk.elim
  exact ⟨_, st, by simp only [evalOp, e, e1, Option.bind_some]; rw [if_pos hk.1], (fun hh => by cases hh), L, B, h, hB, hk.2⟩
 | extract x i =>
  dsimp only [wpOp] at hk
  obtain ⟨v, σ', e, L1, h1, hk⟩ := rd_sound h hk
  cases v <;> try exact hk.elim
  rename_i vs
  cases hv : vs[i]? with
  | none => simp only [hv] at hk
  | some v =>
   simp only [hv] at hk
   exact ⟨v, { st with σ := σ' }, by simp only [evalOp, e, Option.bind_some]; rw [if_pos (lt_of_get hv), getD_of hv], (fun hh => by cases hh), L1, B, h1, hB, hk⟩
 | callF f args =>
  dsimp only [wpOp] at hk
  obtain ⟨vs, σ', e, L1, h1, ha, r, m', hr, hk⟩ := rds_sound h hk
  obtain ⟨L', h2, hk⟩ := putMap h1 hk
  exact ⟨r, { st with σ := killM σ', m := m' }, by simp only [evalOp, e, Option.bind_some]; rw [if_pos ha, hr]; rfl, fun _ => rfl, L', B, h2, hB, hk⟩
 | callV f args =>
  dsimp only [wpOp] at hk
  obtain ⟨fv, e0, hk⟩ := rdC_sound h hk
  cases fv <;> try exact hk.elim
  obtain ⟨vs, σ', e, L1, h1, ha, r, m', hr, hk⟩ := rds_sound h hk
  obtain ⟨L', h2, hk⟩ := putMap h1 hk
  exact ⟨r, { st with σ := killM σ', m := m' }, by simp only [evalOp, e0, e, Option.bind_some]; rw [if_pos ha, hr]; rfl, fun _ => rfl, L', B, h2, hB, hk⟩
 | lenStr x =>
  dsimp only [wpOp] at hk
  obtain ⟨a, e, hk⟩ := rdC_sound h hk
  cases a <;> first | exact hk.elim | exact ⟨_, st, by simp only [evalOp, e, Option.bind_some], (fun hh => by cases hh), L, B, h, hB, hk⟩
 | lenSl x =>
  dsimp only [wpOp] at hk
  obtain ⟨a, e, hk⟩ := rdC_sound h hk
  obtain ⟨xs, e1, hk⟩ := elemsW_sound h hB hk
  exact ⟨_, st, by simp only [evalOp, e, e1, Option.bind_some], (fun hh => by cases hh), L, B, h, hB, hk⟩
 | lenC n => exact ⟨_, st, rfl, (fun hh => by cases hh), L, B, h, hB, hk⟩
 | append sz x y =>
  dsimp only [wpOp] at hk
  obtain ⟨p, σ1, e1, L1, h1, hk⟩ := rd_sound h hk
  obtain ⟨q, σ2, e2, L2, h2, hk⟩ := rd_sound (st := { st with σ := σ1 }) h1 hk
  obtain ⟨ys, e3, hk⟩ := elemsZW_sound (st := { st with σ := σ2 }) h2 hB hk
  have app : ∀ {xs z kk}, appW sz ys xs z kk → (xs.length + ys.length ≤ most ∧ z = sz) ∧ kk (.slice true sz (xs ++ ys)) := fun {xs z kk} ha => by
   obtain ⟨hz, hc, ha⟩ := beq_inv ha
   exact ⟨⟨hc, hz⟩, ha⟩
  have app0 : ∀ {kk : V → Prop}, app0W sz ys kk → ∃ v, (if ys.length ≤ most ∧ 0 < ys.length then some (V.slice true sz ys, ({ st with σ := σ2 } : St)) else if ys.length = 0 then some (.nils, { st with σ := σ2 }) else none) = some (v, { st with σ := σ2 }) ∧ kk v := fun {kk} ha => by
   obtain ⟨hm, hp, hn⟩ := ha
   by_cases h0 : 0 < ys.length
   ·exact ⟨_, by rw [if_pos ⟨hm, h0⟩], hp h0⟩
   ·exact ⟨_, by rw [if_neg (fun hh => h0 hh.2), if_pos (by omega)], hn (List.length_eq_zero_iff.1 (by omega))⟩
  have fin : ∀ v st', evalOp cf st (.append sz x y) = some (v, st') → ∀ L' B', Ag L' st'.σ → AgB B' st'.l → k v L' B' st'.m → ∃ v st', evalOp cf st (.append sz x y) = some (v, st') ∧ ((AOp.append sz x y).isCall = true → st'.l = st.l) ∧ ∃ L' B', Ag L' st'.σ ∧ AgB B' st'.l ∧ k v L' B' st'.m :=
   fun v st' e L' B' a b c => ⟨v, st', e, (fun hh => by cases hh), L', B', a, b, c⟩
  cases p with
  | nils =>
   obtain ⟨v, e, hk⟩ := app0 hk
   exact fin v { st with σ := σ2 } (by simp only [evalOp, e1, e2, e3, Option.bind_some]; exact e) L2 B h2 hB hk
  | slice o z xs =>
   cases o with
   | false => exact hk.elim
   | true =>
    obtain ⟨hc, hk⟩ := app hk
    exact fin (.slice true sz (xs ++ ys)) { st with σ := σ2 } (by simp only [evalOp, e1, e2, e3, Option.bind_some]; rw [if_pos hc]) L2 B h2 hB hk
  | place r =>
   cases r with
   | tmp s =>
    simp only at hk
    cases hs : fnd L2 s with
    | none => simp only [hs] at hk
    | some w =>
     have hl : look { st with σ := σ2 } (.tmp s) = w := h2 s w hs
     cases w with
     | slice o z xs =>
      cases o with
      | false => simp only [hs] at hk
      | true =>
       simp only [hs] at hk
       obtain ⟨hc, hk⟩ := app hk
       exact fin (.slice true sz (xs ++ ys)) { st with σ := upd σ2 s .undef } (by simp only [evalOp, e1, e2, e3, Option.bind_some, hl]; rw [if_pos hc]) _ B (h2.upd s .undef) hB hk
     | nils =>
      simp only [hs] at hk
      obtain ⟨v, e, hk⟩ := app0 hk
      exact fin v { st with σ := σ2 } (by simp only [evalOp, e1, e2, e3, Option.bind_some, hl]; exact e) L2 B h2 hB hk
     | _ => simp only [hs] at hk
   | mem b o =>
    obtain ⟨cs, hcs, w, hw, hk⟩ := hk
    have hl : look { st with σ := σ2 } (.mem b o) = w := by show (st.m.getD b []).getD o .undef = w; rw [getD_of hcs, getD_of hw]
    have hcd := getD_of (d := []) hcs
    cases w with
    | slice own z xs =>
     cases own with
     | false => exact hk.elim
     | true =>
      obtain ⟨hc, hk⟩ := app hk
      exact fin (.slice true sz (xs ++ ys)) { st with σ := σ2, m := st.m.set b (cs.set o .undef) } (by simp only [evalOp, e1, e2, e3, Option.bind_some, hl, hcd]; rw [if_pos hc]) L2 B h2 hB hk
    | nils =>
     obtain ⟨v, e, hk⟩ := app0 hk
     exact fin v { st with σ := σ2 } (by simp only [evalOp, e1, e2, e3, Option.bind_some, hl]; exact e) L2 B h2 hB hk
    | _ => exact hk.elim
   | loc j o =>
    simp only at hk
    cases hj : fnd B j with
    | none => simp only [hj] at hk
    | some cs =>
     simp only [hj] at hk
     obtain ⟨w, hw, hk⟩ := hk
     have hbj := hB j cs hj
     have hl : look { st with σ := σ2 } (.loc j o) = w := by show (st.l j).getD o .undef = w; rw [hbj, getD_of hw]
     cases w with
     | slice own z xs =>
      cases own with
      | false => exact hk.elim
      | true =>
       obtain ⟨hc, hk⟩ := app hk
       exact fin (.slice true sz (xs ++ ys)) { st with σ := σ2, l := upd st.l j (cs.set o .undef) } (by simp only [evalOp, e1, e2, e3, Option.bind_some, hl, hbj]; rw [if_pos hc]) L2 _ h2 (hB.upd _ _) hk
     | nils =>
      obtain ⟨v, e, hk⟩ := app0 hk
      exact fin v { st with σ := σ2 } (by simp only [evalOp, e1, e2, e3, Option.bind_some, hl]; exact e) L2 B h2 hB hk
     | _ => exact hk.elim
  | _ => exact hk.elim
 | minMax mx x ys =>
  dsimp only [wpOp] at hk
  obtain ⟨a, e, hk⟩ := rdC_sound h hk
  obtain ⟨vs, e1, hk⟩ := rdCs_sound h hk
  obtain ⟨r, hm, hk⟩ := minMaxW_sound hk
  exact ⟨r, st, by simp only [evalOp, e, e1, hm, Option.bind_some], (fun hh => by cases hh), L, B, h, hB, hk⟩
 | mkFunc f captured =>
  dsimp only [wpOp] at hk
  obtain ⟨vs, e1, hc, hk⟩ := rdCs_sound h hk
  exact ⟨_, st, by simp only [evalOp, e1, Option.bind_some]; rw [if_pos hc], (fun hh => by cases hh), L, B, h, hB, hk⟩
end
end Go.Proofs.YtdlijnfdkeimlaaDoor.Am

namespace Go.Proofs.YtdlijnfdkeimlaaDoor.Am
section
variable {cf : CF} {L : Ts} {B : Bs} {st : St}
theorem putW_sound (h : Ag L st.σ) {o : AOper} {v : V} {k : Ts → Prop} (hk : putW o v L k) : ∃ σ', putOp o (v, st) = some { st with σ := σ' } ∧ ∃ L', Ag L' σ' ∧ k L' := by
 unfold putW at hk
 unfold putOp
 cases hd : o.dst with
 | none =>
  simp only [hd] at hk
  cases hkt : o.kt with
  | false =>
   rw [hkt] at hk
   exact ⟨st.σ, rfl, L, h, hk⟩
  | true =>
   rw [hkt] at hk
   simp only [cond_true] at hk
   cases hs : selfPlace none v with
   | true => rw [hs] at hk; exact hk.elim
   | false =>
    rw [hs] at hk
    exact ⟨st.σ, by simp [St.put], L, h, hk⟩
 | some d =>
  simp only [hd] at hk
  cases hkt : o.kt with
  | false =>
   rw [hkt] at hk
   exact ⟨upd st.σ d v, by simp [St.put], _, h.upd d v, hk⟩
  | true =>
   rw [hkt] at hk
   simp only [cond_true] at hk
   cases hs : selfPlace (some d) v with
   | true => rw [hs] at hk; exact hk.elim
   | false =>
    rw [hs] at hk
    exact ⟨upd (killT d st.σ) d v, by simp [St.put], _, Ag.upd (h.map (killTV d)) d v, mapK_iff.1 hk⟩
theorem putW_skip (h : Ag L st.σ) {o : AOper} {k : Ts → Prop} (hk : putW o (.tuple []) L k) : ∃ σ', st.put o.kt o.dst (.tuple []) = { st with σ := σ' } ∧ ∃ L', Ag L' σ' ∧ k L' := by
 obtain ⟨σ', e, L', h1, h2⟩ := putW_sound h hk
 refine ⟨σ', ?_, L', h1, h2⟩
 unfold putOp at e
 cases hkt : o.kt with
 | false => rw [hkt] at e; simpa using e
 | true =>
  rw [hkt] at e
  simp only [if_true, selfPlace, Bool.false_eq_true, if_false, Option.some.injEq] at e
  exact e
theorem wpOps_sound : ∀ {os : List AOper} {L : Ts} {B : Bs} {st : St} {k : Ts → Bs → Ms → Prop} (_ : Ag L st.σ) (_ : AgB B st.l) (_ : wpOps cf os L B st.m k),
  ∃ st', runOps cf os st = some st' ∧ ∃ L' B', Ag L' st'.σ ∧ AgB B' st'.l ∧ k L' B' st'.m
 | [], L, B, st, k, h, hB, hk => ⟨st, rfl, L, B, h, hB, hk⟩
 | o :: os, L, B, st, k, h, hB, hk => by
  have doit : (wpOp cf o.op L B st.m fun v L1 B1 m1 => putW o v L1 fun L2 => wpOps cf os L2 B1 m1 k) → ∃ st1, (evalOp cf st o.op).bind (putOp o) = some st1 ∧ ∃ st', runOps cf os st1 = some st' ∧ ∃ L' B', Ag L' st'.σ ∧ AgB B' st'.l ∧ k L' B' st'.m := fun hk => by
   obtain ⟨v, st1, e, _, L1, B1, h1, hB1, hk⟩ := wpOp_sound h hB hk
   obtain ⟨σ', e2, L2, h2, hk⟩ := putW_sound h1 hk
   obtain ⟨st', e3, r⟩ := wpOps_sound (st := { st1 with σ := σ' }) h2 hB1 hk
   exact ⟨_, by rw [e]; exact e2, st', e3, r⟩
  unfold wpOps at hk
  cases hg : o.guard with
  | none =>
   rw [hg] at hk
   obtain ⟨st1, e, st', e2, r⟩ := doit hk
   exact ⟨st', by simp only [runOps, stepOp, hg, e, Option.bind_some, e2], r⟩
  | some q =>
   obtain ⟨g, want⟩ := q
   rw [hg] at hk
   simp only at hk
   cases hf : fnd L g with
   | none => simp only [hf] at hk
   | some v =>
    have hv := h g v hf
    cases v with
    | bool b =>
     simp only [hf] at hk
     by_cases hbw : b = want
     ·subst hbw
      simp only [beq_self_eq_true, cond_true] at hk
      obtain ⟨st1, e, st', e2, r⟩ := doit hk
      exact ⟨st', by simp only [runOps, stepOp, hg, hv, if_true, e, Option.bind_some, e2], r⟩
     ·have : (b == want) = false := by simpa using hbw
      rw [this] at hk
      simp only [cond_false] at hk
      obtain ⟨σ', e2, L2, h2, hk⟩ := putW_skip h hk
      obtain ⟨st', e3, r⟩ := wpOps_sound (st := { st with σ := σ' }) h2 hB hk
      exact ⟨st', by simp only [runOps, stepOp, hg, hv]; rw [if_neg hbw, e2]; exact e3, r⟩
    | tuple vs => cases vs with
     | nil =>
      simp only [hf] at hk
      obtain ⟨σ', e2, L2, h2, hk⟩ := putW_skip h hk
      obtain ⟨st', e3, r⟩ := wpOps_sound (st := { st with σ := σ' }) h2 hB hk
      exact ⟨st', by simp only [runOps, stepOp, hg, hv]; rw [e2]; exact e3, r⟩
     | cons => simp only [hf] at hk
    | _ => simp only [hf] at hk
theorem rootsW_sound (h : Ag L st.σ) {lean : Bool} : ∀ {r : List Nat}, rootsW lean L r = true → (r.all fun s => rootOk lean (st.σ s)) = true
 | [], _ => rfl
 | s :: r, hr => by
  unfold rootsW at hr
  cases hf : fnd L s with
  | none => simp only [hf] at hr; cases hr
  | some v =>
   simp only [hf, Bool.and_eq_true] at hr
   rw [List.all_cons, Bool.and_eq_true, h s v hf]
   exact ⟨hr.1, rootsW_sound h hr.2⟩
theorem coolW_sound (h : Ag L st.σ) : ∀ {r : List Nat}, coolW L r = true → (r.all fun s => notLoc (st.σ s)) = true
 | [], _ => rfl
 | s :: r, hr => by
  unfold coolW at hr
  cases hf : fnd L s with
  | none => simp only [hf] at hr; cases hr
  | some v =>
   simp only [hf, Bool.and_eq_true] at hr
   rw [List.all_cons, Bool.and_eq_true, h s v hf]
   exact ⟨hr.1, coolW_sound h hr.2⟩
theorem markW_sound (h : Ag L st.σ) {o : AOper} {st' : St} {k : Prop} (hl : o.op.isCall = true → st'.l = st.l) (hk : markW o L st.m st'.m k) : markOk o st st' = true ∧ k := by
 unfold markW at hk
 unfold markOk
 have ptr : ∀ mk, (match o.op.ptr? with
   | none => k
   | some p => rdC L p fun v => match v with
    | .loc i _ => bif mk == Mark.loc i then k else False
    | .ptr _ _ => bif mk == Mark.mem then k else False
    | .ro _ _ => bif mk == Mark.free then k else False
    | _ => False) → (match o.op.ptr? with
   | none => true
   | some p => match getC st p with
    | some (.loc i _) => mk == .loc i
    | some (.ptr _ _) => mk == .mem
    | some (.ro _ _) => mk == .free
    | _ => false) = true ∧ k := fun mk hk => by
  cases hp : o.op.ptr? with
  | none => rw [hp] at hk; exact ⟨rfl, hk⟩
  | some p =>
   rw [hp] at hk
   obtain ⟨v, e, hk⟩ := rdC_sound h hk
   simp only [e]
   cases v <;> first | exact hk.elim | exact bif_inv hk
 cases hm : o.mark with
 | none => rw [hm] at hk; exact ⟨rfl, hk⟩
 | cool =>
  rw [hm] at hk
  simp only at hk ⊢
  cases hp : o.op.ptr? with
  | some p => rw [hp] at hk; exact hk.elim
  | none =>
   rw [hp] at hk
   obtain ⟨h1, h2⟩ := bif_inv hk
   exact ⟨coolW_sound h h1, h2⟩
 | quiet =>
  rw [hm] at hk
  obtain ⟨hc, hk⟩ := bif_inv hk
  have hp : st'.m = st.m ∧ st'.l = st.l := ⟨hk.1, hl hc⟩
  exact ⟨by simp only [hp, and_self, decide_true], hk.2⟩
 | loc j => rw [hm] at hk; exact ptr _ hk
 | mem => rw [hm] at hk; exact ptr _ hk
 | free => rw [hm] at hk; exact ptr _ hk
theorem doD_sound (h : Ag L st.σ) (hB : AgB B st.l) {o : AOper} {k : Ts → Bs → Ms → Prop} (hk : doD cf o L B st.m k) : ∃ st', stepU cf o st = some st' ∧ ∃ L' B', Ag L' st'.σ ∧ AgB B' st'.l ∧ k L' B' st'.m := by
 obtain ⟨hr, hk⟩ := bif_inv hk
 obtain ⟨v, st1, e, hl, L1, B1, h1, hB1, hk⟩ := wpOp_sound h hB hk
 obtain ⟨hro, hk⟩ := bif_inv hk
 obtain ⟨hm, hk⟩ := markW_sound h hl hk
 obtain ⟨σ', e2, L2, h2, hk⟩ := putW_sound h1 hk
 refine ⟨{ st1 with σ := σ' }, ?_, L2, B1, h2, hB1, hk⟩
 unfold stepU
 rw [if_pos (rootsW_sound h hr), e]
 simp only [Option.bind_some, putD, hro, hm, Bool.and_self, if_true]
 exact e2
theorem wpD_sound : ∀ {os : List AOper} {L : Ts} {B : Bs} {st : St} {k : Ts → Bs → Ms → Prop} (_ : Ag L st.σ) (_ : AgB B st.l) (_ : wpD cf os L B st.m k),
  ∃ st', runD cf os st = some st' ∧ ∃ L' B', Ag L' st'.σ ∧ AgB B' st'.l ∧ k L' B' st'.m
 | [], L, B, st, k, h, hB, hk => ⟨st, rfl, L, B, h, hB, hk⟩
 | o :: os, L, B, st, k, h, hB, hk => by
  have doit : (doD cf o L B st.m fun L2 B1 m1 => wpD cf os L2 B1 m1 k) → ∃ st1, stepU cf o st = some st1 ∧ ∃ st', runD cf os st1 = some st' ∧ ∃ L' B', Ag L' st'.σ ∧ AgB B' st'.l ∧ k L' B' st'.m := fun hk => by
   obtain ⟨st1, e, L1, B1, h1, hB1, hk⟩ := doD_sound h hB hk
   obtain ⟨st', e3, r⟩ := wpD_sound h1 hB1 hk
   exact ⟨_, e, st', e3, r⟩
  unfold wpD at hk
  cases hg : o.guard with
  | none =>
   rw [hg] at hk
   obtain ⟨st1, e, st', e2, r⟩ := doit hk
   exact ⟨st', by simp only [runD, stepD, hg, e, Option.bind_some, e2], r⟩
  | some q =>
   obtain ⟨g, want⟩ := q
   rw [hg] at hk
   simp only at hk
   cases hf : fnd L g with
   | none => simp only [hf] at hk
   | some v =>
    have hv := h g v hf
    cases v with
    | bool b =>
     simp only [hf] at hk
     by_cases hbw : b = want
     ·subst hbw
      simp only [beq_self_eq_true, cond_true] at hk
      obtain ⟨st1, e, st', e2, r⟩ := doit hk
      exact ⟨st', by simp only [runD, stepD, hg, hv, if_true, e, Option.bind_some, e2], r⟩
     ·have : (b == want) = false := by simpa using hbw
      rw [this] at hk
      simp only [cond_false] at hk
      obtain ⟨σ', e2, L2, h2, hk⟩ := putW_skip h hk
      obtain ⟨st', e3, r⟩ := wpD_sound (st := { st with σ := σ' }) h2 hB hk
      exact ⟨st', by simp only [runD, stepD, hg, hv]; rw [if_neg hbw, e2]; exact e3, r⟩
    | tuple vs => cases vs with
     | nil =>
      simp only [hf] at hk
      obtain ⟨σ', e2, L2, h2, hk⟩ := putW_skip h hk
      obtain ⟨st', e3, r⟩ := wpD_sound (st := { st with σ := σ' }) h2 hB hk
      exact ⟨st', by simp only [runD, stepD, hg, hv]; rw [e2]; exact e3, r⟩
     | cons => simp only [hf] at hk
    | _ => simp only [hf] at hk
theorem pruneB_sound {l : Nat → List V} (h : AgB B l) : ∀ {r : List Nat} {k : Bs → Prop}, pruneK B r k → ∃ B', AgB B' l ∧ k B'
 | [], k, hk => ⟨[], fun s v hv => (nomatch hv), hk⟩
 | s :: r, k, hk => by
  unfold pruneK at hk
  cases hs : fnd B s with
  | none => rw [hs] at hk; exact pruneB_sound h hk
  | some v =>
   rw [hs] at hk
   obtain ⟨L', h1, h3⟩ := pruneB_sound h (k := fun r' => k ((s, v) :: r')) hk
   refine ⟨_, fun t x hx => ?_, h3⟩
   rw [fnd_cons] at hx
   split at hx
   ·rename_i e; subst e; cases hx; exact h _ _ hs
   ·exact h1 t x hx
theorem resW_sound : ∀ {rs : List ARes} {L : Ts} {B : Bs} {st : St} {k : List V → Ms → Prop} (_ : Ag L st.σ) (_ : AgB B st.l) (_ : resW rs L B st.m k), ∃ vs st', getRes st rs = some (vs, st') ∧ k vs st'.m
 | [], L, B, st, k, h, hB, hk => ⟨[], st, rfl, hk⟩
 | .tmp s :: r, L, B, st, k, h, hB, hk => by
  unfold resW at hk
  cases hs : fnd L s with
  | none => simp only [hs] at hk
  | some v =>
   simp only [hs] at hk
   obtain ⟨vs, st', e, hk⟩ := resW_sound (st := { st with σ := upd st.σ s .undef }) (h.upd s .undef) hB hk
   exact ⟨v :: vs, st', by simp only [getRes, e, Option.bind_some, h s v hs], hk⟩
 | .cell s agg n :: r, L, B, st, k, h, hB, hk => by
  unfold resW at hk
  cases hs : fnd L s with
  | none => simp only [hs] at hk
  | some a =>
   simp only [hs] at hk
   obtain ⟨v, st1, e, e2, B1, hB1, hk⟩ := loadW_sound h hB hk
   obtain ⟨vs, st', e3, hk⟩ := resW_sound (st := st1) (L := L) (by rw [e2]; exact h) hB1 hk
   exact ⟨v :: vs, st', by simp only [getRes, h s a hs, e, Option.bind_some, e3], hk⟩
end
end Go.Proofs.YtdlijnfdkeimlaaDoor.Am

namespace Go.Proofs.YtdlijnfdkeimlaaDoor.Am
def tableOf (l : List (Nat × AFunc)) (x : CF) : Table := ⟨fun f => l.lookup f, x⟩
def allOK (P : Program) [Lay P] : List (Nat × AFunc) → Prop
 | [] => True
 | p :: l => FuncOK P p.1 p.2 ∧ allOK P l
theorem tableOf_ok {P : Program} [Lay P] {l : List (Nat × AFunc)} {x : CF} (h : allOK P l) (hx : Good P x) : TableOK P (tableOf l x) where
 code f af hf := by
  have key : ∀ l : List (Nat × AFunc), allOK P l → l.lookup f = some af → FuncOK P f af := by
   intro l
   induction l with
   | nil => intro _ hl; cases hl
   | cons p l ih =>
    intro h hl
    obtain ⟨g, b⟩ := p
    rw [List.lookup_cons] at hl
    cases hb : f == g with
    | true =>
     rw [hb] at hl
     have := beq_iff_eq.1 hb
     subst this
     cases hl
     exact h.1
    | false => rw [hb] at hl; exact ih h.2 hl
  exact key l h hf
 ext := hx
theorem wrap64 {n : Int} (h : -9223372036854775808 ≤ n) (h2 : n ≤ 9223372036854775807) : IntKind.wrap .i64 n = n := by
 simp [IntKind.wrap, IntKind.signed, IntKind.bits]
 omega
end Go.Proofs.YtdlijnfdkeimlaaDoor.Am

namespace Go.Proofs.YtdlijnfdkeimlaaDoor.Am.Esc
open Go
def digs (i : Int) : List (List V) := (Lib.decDigits i.toNat).map fun b => [.int .u8 (b.toNat : Int)]
def repX : CF := fun f args m => match f, args with
  | 105, [.slice false 1 [[.int .i32 r]], .int .i64 n] => if 0 ≤ n ∧ n ≤ 3 then some (.slice true 1 (List.replicate n.toNat [.int .i32 r]), m) else none
  | 129, [.slice true 1 xs, .int .u64 i, .int .i64 10] => if (0 ≤ i ∧ i < 18446744073709551616) ∧ xs.length + 20 ≤ most then some (.slice true 1 (xs ++ digs i), m) else none
  | 129, [.nils, .int .u64 i, .int .i64 10] => if 0 ≤ i ∧ i < 18446744073709551616 then some (.slice true 1 (digs i), m) else none
  | _, _ => none
def sbX : CF := fun f args m => match f, args with
  | 9, [] => some (.bool true, m)
  | _, _ => repX f args m
end Go.Proofs.YtdlijnfdkeimlaaDoor.Am.Esc

namespace Go.Proofs.YtdlijnfdkeimlaaDoor.Am.Esc
def tab1 : List (List V) := [[.int .u8 240], [.int .u8 240], [.int .u8 240], [.int .u8 240], [.int .u8 240], [.int .u8 240], [.int .u8 240], [.int .u8 240], [.int .u8 240], [.int .u8 240], [.int .u8 240], [.int .u8 240], [.int .u8 240], [.int .u8 240], [.int .u8 240], [.int .u8 240], [.int .u8 240], [.int .u8 240], [.int .u8 240], [.int .u8 240], [.int .u8 240], [.int .u8 240], [.int .u8 240], [.int .u8 240], [.int .u8 240], [.int .u8 240], [.int .u8 240], [.int .u8 240], [.int .u8 240], [.int .u8 240], [.int .u8 240], [.int .u8 240], [.int .u8 240], [.int .u8 240], [.int .u8 240], [.int .u8 240], [.int .u8 240], [.int .u8 240], [.int .u8 240], [.int .u8 240], [.int .u8 240], [.int .u8 240], [.int .u8 240], [.int .u8 240], [.int .u8 240], [.int .u8 240], [.int .u8 240], [.int .u8 240], [.int .u8 240], [.int .u8 240], [.int .u8 240], [.int .u8 240], [.int .u8 240], [.int .u8 240], [.int .u8 240], [.int .u8 240], [.int .u8 240], [.int .u8 240], [.int .u8 240], [.int .u8 240], [.int .u8 240], [.int .u8 240], [.int .u8 240], [.int .u8 240], [.int .u8 240], [.int .u8 240], [.int .u8 240], [.int .u8 240], [.int .u8 240], [.int .u8 240], [.int .u8 240], [.int .u8 240], [.int .u8 240], [.int .u8 240], [.int .u8 240], [.int .u8 240], [.int .u8 240], [.int .u8 240], [.int .u8 240], [.int .u8 240], [.int .u8 240], [.int .u8 240], [.int .u8 240], [.int .u8 240], [.int .u8 240], [.int .u8 240], [.int .u8 240], [.int .u8 240], [.int .u8 240], [.int .u8 240], [.int .u8 240], [.int .u8 240], [.int .u8 240], [.int .u8 240], [.int .u8 240], [.int .u8 240], [.int .u8 240], [.int .u8 240], [.int .u8 240], [.int .u8 240], [.int .u8 240], [.int .u8 240], [.int .u8 240], [.int .u8 240], [.int .u8 240], [.int .u8 240], [.int .u8 240], [.int .u8 240], [.int .u8 240], [.int .u8 240], [.int .u8 240], [.int .u8 240], [.int .u8 240], [.int .u8 240], [.int .u8 240], [.int .u8 240], [.int .u8 240], [.int .u8 240], [.int .u8 240], [.int .u8 240], [.int .u8 240], [.int .u8 240], [.int .u8 240], [.int .u8 240], [.int .u8 240], [.int .u8 240], [.int .u8 240], [.int .u8 240], [.int .u8 241], [.int .u8 241], [.int .u8 241], [.int .u8 241], [.int .u8 241], [.int .u8 241], [.int .u8 241], [.int .u8 241], [.int .u8 241], [.int .u8 241], [.int .u8 241], [.int .u8 241], [.int .u8 241], [.int .u8 241], [.int .u8 241], [.int .u8 241], [.int .u8 241], [.int .u8 241], [.int .u8 241], [.int .u8 241], [.int .u8 241], [.int .u8 241], [.int .u8 241], [.int .u8 241], [.int .u8 241], [.int .u8 241], [.int .u8 241], [.int .u8 241], [.int .u8 241], [.int .u8 241], [.int .u8 241], [.int .u8 241], [.int .u8 241], [.int .u8 241], [.int .u8 241], [.int .u8 241], [.int .u8 241], [.int .u8 241], [.int .u8 241], [.int .u8 241], [.int .u8 241], [.int .u8 241], [.int .u8 241], [.int .u8 241], [.int .u8 241], [.int .u8 241], [.int .u8 241], [.int .u8 241], [.int .u8 241], [.int .u8 241], [.int .u8 241], [.int .u8 241], [.int .u8 241], [.int .u8 241], [.int .u8 241], [.int .u8 241], [.int .u8 241], [.int .u8 241], [.int .u8 241], [.int .u8 241], [.int .u8 241], [.int .u8 241], [.int .u8 241], [.int .u8 241], [.int .u8 241], [.int .u8 241], [.int .u8 2], [.int .u8 2], [.int .u8 2], [.int .u8 2], [.int .u8 2], [.int .u8 2], [.int .u8 2], [.int .u8 2], [.int .u8 2], [.int .u8 2], [.int .u8 2], [.int .u8 2], [.int .u8 2], [.int .u8 2], [.int .u8 2], [.int .u8 2], [.int .u8 2], [.int .u8 2], [.int .u8 2], [.int .u8 2], [.int .u8 2], [.int .u8 2], [.int .u8 2], [.int .u8 2], [.int .u8 2], [.int .u8 2], [.int .u8 2], [.int .u8 2], [.int .u8 2], [.int .u8 2], [.int .u8 19], [.int .u8 3], [.int .u8 3], [.int .u8 3], [.int .u8 3], [.int .u8 3], [.int .u8 3], [.int .u8 3], [.int .u8 3], [.int .u8 3], [.int .u8 3], [.int .u8 3], [.int .u8 3], [.int .u8 35], [.int .u8 3], [.int .u8 3], [.int .u8 52], [.int .u8 4], [.int .u8 4], [.int .u8 4], [.int .u8 68], [.int .u8 241], [.int .u8 241], [.int .u8 241], [.int .u8 241], [.int .u8 241], [.int .u8 241], [.int .u8 241], [.int .u8 241], [.int .u8 241], [.int .u8 241], [.int .u8 241]]
def tab2 : List (List V) := [[.int .u8 128, .int .u8 191], [.int .u8 160, .int .u8 191], [.int .u8 128, .int .u8 159], [.int .u8 144, .int .u8 191], [.int .u8 128, .int .u8 143], [.int .u8 0, .int .u8 0], [.int .u8 0, .int .u8 0], [.int .u8 0, .int .u8 0], [.int .u8 0, .int .u8 0], [.int .u8 0, .int .u8 0], [.int .u8 0, .int .u8 0], [.int .u8 0, .int .u8 0], [.int .u8 0, .int .u8 0], [.int .u8 0, .int .u8 0], [.int .u8 0, .int .u8 0], [.int .u8 0, .int .u8 0]]
instance : Lay Go.Proofs.Tryd.prog := ⟨[(0, 1, tab1), (1, 2, tab2)], [(3, "internal/strconv.uint64pow10", .u64, Lib.pow10Tab)]⟩
end Go.Proofs.YtdlijnfdkeimlaaDoor.Am.Esc

set_option linter.all false
namespace Go.Proofs.YtdlijnfdkeimlaaDoor.Am
def forceV {α : Type} (v : V) (k : V → α) : α :=
 match v with
 | .undef => k .undef
 | .bool b => k (.bool b)
 | .int kd n => k (.int kd n)
 | .str s => k (.str s)
 | .nilp => k .nilp
 | .ptr b o => k (.ptr b o)
 | .loc j o => k (.loc j o)
 | .ro cs o => k (.ro cs o)
 | .el r z i j => k (.el r z i j)
 | .place r => k (.place r)
 | .nils => k .nils
 | .slice o z xs => k (.slice o z xs)
 | .agg cs => k (.agg cs)
 | .tuple vs => k (.tuple vs)
 | .func f cs => k (.func f cs)
 | .nilf => k .nilf
 | .nili => k .nili
theorem forceV_eq {α : Type} (v : V) (k : V → α) : forceV v k = k v := by cases v <;> rfl
def forceVs {α : Type} : List V → (List V → α) → α
 | [], k => k []
 | v :: r, k => forceV v fun v' => forceVs r fun r' => k (v' :: r')
theorem forceVs_eq {α : Type} : ∀ (l : List V) (k : List V → α), forceVs l k = k l
 | [], _ => rfl
 | v :: r, k => by simp only [forceVs, forceV_eq, forceVs_eq r]
def forceM {α : Type} : List (List V) → (List (List V) → α) → α
 | [], k => k []
 | v :: r, k => forceVs v fun v' => forceM r fun r' => k (v' :: r')
theorem forceM_eq {α : Type} : ∀ (l : List (List V)) (k : List (List V) → α), forceM l k = k l
 | [], _ => rfl
 | v :: r, k => by simp only [forceM, forceVs_eq, forceM_eq r]
def lk : List Nat → List V → Nat → V
 | j :: js, v :: vs, i => if i = j then v else lk js vs i
 | _, _, _ => .undef
theorem lk_keep (σ : Nat → V) : ∀ (live : List Nat) (i : Nat), lk live (live.map σ) i = keep live σ i
 | [], i => by simp [lk, keep]
 | j :: js, i => by
  have := lk_keep σ js i
  simp only [List.map_cons, lk]
  by_cases h : i = j
  ·subst h; simp [keep]
  ·rw [if_neg h, this]
   simp [keep, h]
def lkL (n : Nat) (ls : List (List V)) (l : Nat → List V) : Nat → List V := fun j => if j < n then ls.getD j [] else l j
theorem lkL_eq (n : Nat) (l : Nat → List V) : lkL n ((List.range n).map l) l = l := by
 funext j
 unfold lkL
 split
 ·rename_i h
  simp [List.getD_eq_getElem?_getD, h]
 ·rfl
def normS {α : Type} (nl : Nat) (live : List Nat) (st : St) (k : St → α) : α :=
 forceVs (live.map st.σ) fun vs => forceM ((List.range nl).map st.l) fun ls => forceM st.m fun m => k ⟨lk live vs, lkL nl ls st.l, m⟩
theorem normS_eq {α : Type} (nl : Nat) (live : List Nat) (st : St) (k : St → α) : normS nl live st k = k { st with σ := keep live st.σ } := by
 unfold normS
 rw [forceVs_eq, forceM_eq, forceM_eq, lkL_eq]
 congr 1
 have : lk live (live.map st.σ) = keep live st.σ := funext fun i => lk_keep st.σ live i
 rw [this]
mutual
def V.beq : V → V → Bool
 | .undef, .undef | .nilp, .nilp | .nils, .nils | .nilf, .nilf | .nili, .nili => true
 | .bool a, .bool b => a == b
 | .int k n, .int k' n' => decide (k = k') && decide (n = n')
 | .str s, .str t => decide (s = t)
 | .ptr a b, .ptr c d | .loc a b, .loc c d => decide (a = c) && decide (b = d)
 | .ro cs o, .ro cs' o' => V.beqL cs cs' && decide (o = o')
 | .el r z i k, .el r' z' i' k' => decide (r = r') && decide (z = z') && decide (i = i') && decide (k = k')
 | .place r, .place r' => decide (r = r')
 | .slice o z xs, .slice o' z' xs' => decide (o = o') && decide (z = z') && V.beqM xs xs'
 | .agg a, .agg b | .tuple a, .tuple b => V.beqL a b
 | .func f cs, .func f' cs' => decide (f = f') && V.beqL cs cs'
 | _, _ => false
def V.beqL : List V → List V → Bool
 | [], [] => true
 | a :: l, b :: m => V.beq a b && V.beqL l m
 | _, _ => false
def V.beqM : List (List V) → List (List V) → Bool
 | [], [] => true
 | a :: l, b :: m => V.beqL a b && V.beqM l m
 | _, _ => false
end
mutual
theorem V.beq_eq : ∀ {a b : V}, V.beq a b = true → a = b := by
 intro a b h
 cases a <;> cases b <;> simp only [V.beq, Bool.and_eq_true, decide_eq_true_eq, beq_iff_eq, Bool.false_eq_true] at h
 all_goals first
  | rfl
  | (subst h; rfl)
  | (obtain ⟨h1, h2⟩ := h; subst h1 h2; rfl)
  | (obtain ⟨⟨⟨h1, h2⟩, h3⟩, h4⟩ := h; subst h1 h2 h3 h4; rfl)
  | (obtain ⟨h1, h2⟩ := h; have := V.beqL_eq h1; subst this h2; rfl)
  | (obtain ⟨⟨h1, h2⟩, h3⟩ := h; have := V.beqM_eq h3; subst h1 h2 this; rfl)
  | (have := V.beqL_eq h; subst this; rfl)
  | (obtain ⟨h1, h2⟩ := h; have := V.beqL_eq h2; subst h1 this; rfl)
theorem V.beqL_eq : ∀ {a b : List V}, V.beqL a b = true → a = b
 | [], [], _ => rfl
 | x :: l, y :: m, h => by
  simp only [V.beqL, Bool.and_eq_true] at h
  rw [V.beq_eq h.1, V.beqL_eq h.2]
 | [], _ :: _, h => by cases h
 | _ :: _, [], h => by cases h
theorem V.beqM_eq : ∀ {a b : List (List V)}, V.beqM a b = true → a = b
 | [], [], _ => rfl
 | x :: l, y :: m, h => by
  simp only [V.beqM, Bool.and_eq_true] at h
  rw [V.beqL_eq h.1, V.beqM_eq h.2]
 | [], _ :: _, h => by cases h
 | _ :: _, [], h => by cases h
end
def callOp : AOp → Bool
 | .callF _ _ | .callV _ _ => true
 | _ => false
def markE (o : AOper) (st st' : St) : Bool :=
 match o.mark with
 | .none => true
 | .cool => match o.op.ptr? with
  | none => (slots o.op.opds).all fun s => notLoc (st.σ s)
  | some _ => false
 | .quiet => callOp o.op && V.beqM st'.m st.m
 | mk => match o.op.ptr? with
  | none => true
  | some p => match getC st p with
   | some (.loc i _) => mk == .loc i
   | some (.ptr _ _) => mk == .mem
   | some (.ro _ _) => mk == .free
   | _ => false
def putE (o : AOper) (st : St) (p : V × St) : Option St := if resOk o p.1 && markE o st p.2 then putOp o p else none
def stepUE (cf : CF) (o : AOper) (st : St) : Option St :=
 if (slots o.op.opds).all fun s => rootOk o.lean (st.σ s) then (evalOp cf st o.op).bind (putE o st) else none
def stepDE (cf : CF) (o : AOper) (st : St) : Option St :=
 match o.guard with
 | none => stepUE cf o st
 | some (g, want) => match st.σ g with
  | .bool b => if b = want then stepUE cf o st else some (st.put o.kt o.dst (.tuple []))
  | .tuple [] => some (st.put o.kt o.dst (.tuple []))
  | _ => none
def runDE (cf : CF) : List AOper → St → Option St
 | [], st => some st
 | o :: os, st => (stepDE cf o st).bind (runDE cf os)
theorem getOs_l {st : St} : ∀ {xs : List Opd} {p : List V × St}, getOs st xs = some p → p.2.l = st.l
 | [], p, h => by
  simp only [getOs, Option.some.injEq] at h; subst h; rfl
 | x :: xs, p, h => by
  simp only [getOs, Option.bind_eq_some_iff, Option.some.injEq] at h
  obtain ⟨q, hq, r, hr, rfl⟩ := h
  have h1 := getOs_l hr
  simp only
  rw [h1]
  unfold getO at hq
  split at hq
  ·cases hq; rfl
  ·split at hq
   ·cases hq
   ·cases hq; rfl
  ·cases hq; rfl
  ·cases hq; rfl
  ·cases hq; rfl
  ·split at hq
   ·cases hq
   ·cases hq; rfl
theorem call_l {cf : CF} {st : St} {op : AOp} {v : V} {st' : St} (hc : callOp op = true) (h : evalOp cf st op = some (v, st')) : st'.l = st.l := by
 cases op with
 | callF f args =>
  simp only [evalOp, Option.bind_eq_some_iff] at h
  obtain ⟨p, hp, h⟩ := h
  split at h
  ·simp only [Option.bind_eq_some_iff, Option.some.injEq, Prod.mk.injEq] at h
   obtain ⟨r, _, _, rfl⟩ := h
   exact getOs_l hp
  ·cases h
 | callV f args =>
  simp only [evalOp, Option.bind_eq_some_iff] at h
  obtain ⟨fv, _, h⟩ := h
  cases fv with
  | func g cap =>
   simp only [Option.bind_eq_some_iff] at h
   obtain ⟨p, hp, h⟩ := h
   split at h
   ·simp only [Option.bind_eq_some_iff, Option.some.injEq, Prod.mk.injEq] at h
    obtain ⟨r, _, _, rfl⟩ := h
    exact getOs_l hp
   ·cases h
  | _ => cases h
 | _ => cases hc
theorem stepUE_ok {cf : CF} {o : AOper} {st st' : St} (h : stepUE cf o st = some st') : stepU cf o st = some st' := by
 unfold stepUE at h
 unfold stepU
 split at h
 ·rename_i hr
  rw [if_pos hr]
  simp only [Option.bind_eq_some_iff] at h ⊢
  obtain ⟨p, hp, h⟩ := h
  refine ⟨p, hp, ?_⟩
  unfold putE at h
  unfold putD
  split at h
  ·rename_i hm
   simp only [Bool.and_eq_true] at hm
   have : markOk o st p.2 = true := by
    have h2 := hm.2
    unfold markE at h2
    unfold markOk
    cases hmk : o.mark with
    | quiet =>
     rw [hmk] at h2
     simp only [Bool.and_eq_true] at h2
     simp only
     exact @decide_eq_true _ (_) ⟨V.beqM_eq h2.2, call_l h2.1 hp⟩
    | none => rfl
    | _ => rw [hmk] at h2; exact h2
   rw [if_pos (by rw [hm.1, this]; rfl)]
   exact h
  ·cases h
 ·cases h
theorem stepDE_ok {cf : CF} {o : AOper} {st st' : St} (h : stepDE cf o st = some st') : stepD cf o st = some st' := by
 unfold stepDE at h
 unfold stepD
 cases hg : o.guard with
 | none => rw [hg] at h; exact stepUE_ok h
 | some gw =>
  obtain ⟨g, want⟩ := gw
  rw [hg] at h
  simp only at h ⊢
  cases hs : st.σ g with
  | bool b =>
   rw [hs] at h
   simp only at h ⊢
   split at h
   ·rename_i hc; rw [if_pos hc]; exact stepUE_ok h
   ·rename_i hc; rw [if_neg hc]; exact h
  | tuple vs =>
   rw [hs] at h
   cases vs with
   | nil => exact h
   | cons _ _ => cases h
  | _ => rw [hs] at h; cases h
theorem runDE_ok {cf : CF} : ∀ {os : List AOper} {st st' : St}, runDE cf os st = some st' → runD cf os st = some st'
 | [], _, _, h => h
 | _ :: _, _, _, h => bind_mono (fun _ h => stepDE_ok h) (fun _ _ h => runDE_ok h) h
def execE (cf : CF) (nl n : Nat) : ACode → St → Option (Ex × St)
 | .skip, st => some (.normal, st)
 | .region false ops, st => (runOps cf ops st).bind fun st => some (.normal, st)
 | .region true ops, st => (runDE cf ops st).bind fun st => some (.normal, st)
 | .seq a b, st => (execE cf nl n a st).bind fun r => match r.1 with
  | .normal => execE cf nl n b r.2
  | e => some (e, r.2)
 | .cond c t e, st => (getC st c).bind fun v => match v with
  | .bool true => execE cf nl n t st
  | .bool false => execE cf nl n e st
  | _ => none
 | .block id b, st => (execE cf nl n b st).bind fun r => match r.1 with
  | .exit i => if i = id then some (.normal, r.2) else some (.exit i, r.2)
  | e => some (e, r.2)
 | .loop live b, st => rounds (fun st => normS nl live st fun st => execE cf nl n b st) n st
 | .exit id, st => some (.exit id, st)
 | .ret, st => some (.ret, st)
theorem execE_ok {cf : CF} {nl n : Nat} : ∀ {c : ACode} {st : St} {x : Ex × St}, execE cf nl n c st = some x → exec cf c st = some x := by
 intro c
 induction c with
 | skip => intro st x he; exact he
 | region d ops =>
  intro st x he
  cases d with
  | true => simp only [execE] at he; simp only [exec]; exact bind_mono (fun _ h => runDE_ok h) (fun _ _ h => h) he
  | false => exact he
 | seq a b iha ihb =>
  intro st x he
  simp only [execE] at he
  simp only [exec]
  refine bind_mono (fun _ => iha) (fun q y hq => ?_) he
  obtain ⟨e, st1⟩ := q
  cases e with
  | normal => exact ihb hq
  | _ => exact hq
 | cond c t e iht ihe =>
  intro st x he
  simp only [execE] at he
  simp only [exec]
  refine bind_mono (fun _ h => h) (fun v y hq => ?_) he
  cases v with
  | bool b =>
   cases b with
   | true => exact iht hq
   | false => exact ihe hq
  | _ => cases hq
 | block i b ih =>
  intro st x he
  simp only [execE] at he
  simp only [exec]
  exact bind_mono (fun _ => ih) (fun _ _ h => h) he
 | loop live b ih =>
  intro st x he
  simp only [execE] at he
  simp only [exec]
  refine loopRes_iff.2 ⟨n, rounds_fmono (fun st x h => ?_) he⟩
  rw [normS_eq] at h
  exact ih h
 | exit i => intro st x he; exact he
 | ret => intro st x he; exact he
def runE (cf : CF) (n : Nat) (f : AFunc) (args : List V) (m : List (List V)) : Option (V × List (List V)) :=
 if args.length = f.np then
  forceVs args fun args => forceM m fun m => (execE cf f.nl n f.body ⟨fun i => args.getD i .undef, fun _ => [], m⟩).bind fun r => match r.1 with
   | .exit _ => none
   | _ => (result r.2 f.results).bind fun q =>
    if m.length ≤ q.2.m.length then forceV q.1 fun v => forceM q.2.m fun m' => some (v, if v.top2 ≤ m.length then m'.take m.length else m') else none
 else none
theorem runE_ok {cf : CF} {n : Nat} {f : AFunc} {args : List V} {m : List (List V)} {x : V × List (List V)} (h : runE cf n f args m = some x) : runF cf f args m = some x := by
 unfold runE at h
 unfold runF
 split at h
 ·rename_i hc
  rw [if_pos hc]
  rw [forceVs_eq, forceM_eq] at h
  refine bind_mono (fun _ => execE_ok) (fun q y hq => ?_) h
  obtain ⟨e, st1⟩ := q
  simp only [forceV_eq, forceM_eq] at hq
  exact hq
 ·cases h
def evF (T : Table) (n : Nat) : Nat → CF
 | 0 => fun _ _ _ => none
 | k + 1 => fun f args m => match T.code f with
  | some fn => runE (evF T n k) n fn args m
  | none => T.ext f args m
theorem evF_ret {T : Table} {n : Nat} : ∀ {k f : Nat} {args : List V} {m : List (List V)} {r : V} {m' : List (List V)}, evF T n k f args m = some (r, m') → Ret T f args m r m'
 | 0, f, args, m, r, m', h => by cases h
 | k + 1, f, args, m, r, m', h => by
  unfold evF at h
  split at h
  ·rename_i fn hf
   exact .mk (evF T n k) f fn args m r m' hf (runE_ok h) fun f a m r m' hh => evF_ret hh
  ·rename_i hf
   exact .ext f args m r m' hf h
def saysTrue : Option (V × List (List V)) → Bool
 | some (.bool true, []) => true
 | _ => false
theorem evF_true {T : Table} {n k f : Nat} (h : saysTrue (evF T n k f [] []) = true) : Ret T f [] [] (.bool true) [] := by
 refine evF_ret (n := n) (k := k) ?_
 revert h
 cases evF T n k f [] [] with
 | none => intro h; cases h
 | some x =>
  obtain ⟨v, m⟩ := x
  intro h
  unfold saysTrue at h
  split at h
  ·rename_i e; exact e
  ·cases h
theorem CallOK.anyMem {P : Program} [Lay P] {f : Nat} {b : Bool} (hcall : CallOK P f [] [] (.bool b) []) (m : List (List V)) : CallOK P f [] m (.bool b) m := by
 intro g w fr vs hsz hok hL h
 have hvs : vs = #[] := Array.eq_empty_of_size_eq_zero hsz
 subst hvs
 have h : SR g w 0 fr (fun _ => false) ⟨fun _ => .undef, fun _ => [], m⟩ #[] [] := h
 obtain ⟨fr', hfr'⟩ : ∃ fr' : Nat → Nat, fr' = fun c => cntM g w c m + fr c := ⟨_, rfl⟩
 have hT : ∀ c, total g w 0 fr' ⟨fun _ => .undef, fun _ => [], []⟩ #[] [] c = total g w 0 fr ⟨fun _ => .undef, fun _ => [], m⟩ #[] [] c := fun c => by
  subst hfr'
  have e3 : cntM g w c [] = 0 := rfl
  unfold total
  simp only [e3]
  omega
 have hS : SR g w 0 fr' (fun _ => false) ⟨fun _ => .undef, fun _ => [], []⟩ #[] [] :=
  ⟨fun s => trivial, fun s _ => rfl, fun s d hd => (by cases hd), fun p hp => (by cases hp), fun p hp => (by cases hp), h.lvs, fun j hj => absurd rfl hj, fun b hb => absurd hb (Nat.not_lt_zero _), fun c => by rw [hT]; exact h.one c, fun c hc => by rw [hT]; exact h.out c hc⟩
 refine (hcall g w fr' #[] rfl rfl hL hS).mono fun e w' => ?_
 rintro ⟨v, g2, rfl, hS2, hE, hml, hnr, hnl⟩
 obtain ⟨g3, hg3⟩ : ∃ g3 : G, g3 = { g2 with mb := g.mb } := ⟨_, rfl⟩
 have hfrm : ∀ c, 0 < cntM g w c m ∨ 0 < fr c → Same w w' c := fun c hc => hE.frame c (by subst hfr'; simp only; omega)
 have hmem : ∀ b, b < m.length → ∀ c, 0 < memOf g w c m b → Same w w' c := fun b hb c hc => hfrm c (.inl (by
  have := le_sumTo (f := fun i => memOf g w c m i) hb
  unfold cntM; omega))
 have hmbs : ∀ b, b < m.length → Same w w' (g.mb b) := fun b hb => hmem b hb _ (by unfold memOf; rw [if_pos rfl]; omega)
 have hcM : ∀ c, cntM g3 w' c m = cntM g w c m := fun c => by
  subst hg3
  refine sumTo_congr fun b hb => ?_
  unfold memOf
  rw [(hmbs b hb).cellsOf]
 have hpers : ∀ c, g.pers c → g3.pers c ∧ Same w w' c := fun c hc => by
  subst hg3
  exact hE.pers c hc
 have hR : R3 g2 w' 0 (tsAt #[]) (.bool b) v := hS2.pend (.bool b, v) (.head _)
 have hv : v = .bool b := by cases hR; rfl
 subst hv
 have hT2 : ∀ c, total g3 w' 0 fr ⟨fun _ => .undef, fun _ => [], m⟩ #[] [(.bool b, .bool b)] c = total g2 w' 0 fr' ⟨fun _ => .undef, fun _ => [], []⟩ #[] [(.bool b, .bool b)] c := fun c => by
  have e3 : cntM g2 w' c [] = 0 := rfl
  have e2 : cntB g3 w' c 0 (fun _ => []) = 0 := rfl
  have e2' : cntB g2 w' c 0 (fun _ => []) = 0 := rfl
  have e4 : persOf g3 c = persOf g2 c := by subst hg3; rfl
  unfold total
  simp only [e2, e2', e3, e4, hcM]
  subst hfr'
  simp only
  omega
 refine ⟨.bool b, g3, rfl, ?_, ⟨hE.os, hE.tape, hE.output, hE.size, hpers, fun c hc => hfrm c (.inr hc), fun b _ => by subst hg3; rfl⟩, Nat.le_refl _, hnr, hnl⟩
 refine ⟨fun s => trivial, fun s _ => rfl, fun s d hd => (by cases hd), fun p hp => ?_, fun p hp d hd => ?_, fun j => ?_, fun j hj => absurd rfl hj, fun b hb => ?_, fun c => by rw [hT2]; exact hS2.one c, fun c hc => by rw [hT2]; exact hS2.out c hc⟩
 ·simp only [List.mem_singleton] at hp
  subst hp
  exact RB.bool b
 ·simp only [List.mem_singleton] at hp
  subst hp
  cases hd
 ·have := hS2.lvs j
  subst hg3
  exact this
 ·have hgb : g3.mb b = g.mb b := by subst hg3; rfl
  rw [hgb]
  exact ⟨CBlk.mono (g := g) hpers (Nat.le_refl _) (fun b _ => by subst hg3; rfl) (hmbs b hb) (fun d (hd : 0 < cntL d (m.getD b []) (cellsOf w (g.mb b))) => hmem b hb d (by unfold memOf; omega)) (h.mem b hb).1, (h.mem b hb).2⟩
end Go.Proofs.YtdlijnfdkeimlaaDoor.Am

namespace Go.Proofs.YtdlijnfdkeimlaaDoor.Am.Esc
abbrev o_ (d : Nat) (x : AOp) : AOper := ⟨some d, none, false, x, .none⟩
def p78 : Plan := ⟨[], 0, [],
 []⟩
def a78 : AFunc := ⟨1, 17, 0, [.tmp 2],
 .seq (.region false [o_ 2 (.mv (.c (.bool false)))])
 (.seq (.region false [o_ 3 (.mv (.t 0)),
 o_ 4 (.bin .geq (.t 3) (.c (.int .i64 0))),
 o_ 5 (.mv (.t 4)),
 ⟨(some 6), (some (5, true)), false, .mv (.t 0), .none⟩,
 ⟨(some 7), (some (5, true)), false, .bin .leq (.t 6) (.c (.int .i64 256)), .none⟩,
 o_ 8 (.pick (.t 5) (.t 7) (.c (.bool false))),
 o_ 9 (.mv (.t 8)),
 ⟨(some 10), (some (9, false)), false, .mv (.t 0), .none⟩,
 ⟨(some 11), (some (9, false)), false, .bin .geq (.t 10) (.c (.int .i64 16777216)), .none⟩,
 ⟨(some 12), (some (9, false)), false, .mv (.t 11), .none⟩,
 ⟨(some 13), (some (12, true)), false, .mv (.t 0), .none⟩,
 ⟨(some 14), (some (12, true)), false, .bin .lss (.t 13) (.c (.int .i64 33554432)), .none⟩,
 ⟨(some 15), (some (9, false)), false, .pick (.t 12) (.t 14) (.c (.bool false)), .none⟩,
 o_ 16 (.pick (.t 9) (.c (.bool true)) (.t 15)),
 o_ 2 (.mv (.t 16))])
 (.ret))⟩
theorem c78 : cFunc Go.Proofs.Tryd.prog p78 78 = some a78 := by decide +kernel
def p37 : Plan := ⟨[], 1, [((0, 0), { box := some 0 })],
 []⟩
def a37 : AFunc := ⟨1, 17, 1, [.tmp 2],
 .seq (.region false [o_ 1 (.boxL 0 (.t 0)),
 o_ 2 (.mv (.c (.bool false)))])
 (.seq (.region false [o_ 3 (.fieldAddr 0 (.t 1)),
 o_ 4 (.load false 1 (.t 3) .copy),
 o_ 5 (.callF 78 [(.t 4)]),
 o_ 6 (.mv (.t 5)),
 ⟨(some 7), (some (6, true)), false, .fieldAddr 1 (.t 1), .none⟩,
 ⟨(some 8), (some (6, true)), false, .load false 1 (.t 7) .copy, .none⟩,
 ⟨(some 9), (some (6, true)), false, .callF 78 [(.t 8)], .none⟩,
 o_ 10 (.pick (.t 6) (.t 9) (.c (.bool false))),
 o_ 11 (.mv (.t 10)),
 ⟨(some 12), (some (11, true)), false, .fieldAddr 2 (.t 1), .none⟩,
 ⟨(some 13), (some (11, true)), false, .load false 1 (.t 12) .copy, .none⟩,
 ⟨(some 14), (some (11, true)), false, .bin .andNot (.t 13) (.c (.int .i64 31)), .none⟩,
 ⟨(some 15), (some (11, true)), false, .bin .eql (.t 14) (.c (.int .i64 0)), .none⟩,
 o_ 16 (.pick (.t 11) (.t 15) (.c (.bool false))),
 o_ 2 (.mv (.t 16))])
 (.ret))⟩
def v37 : List Nat := [0, 1, 2]
theorem c37 : cFunc Go.Proofs.Tryd.prog p37 37 = some a37 := by decide +kernel
def p38 : Plan := ⟨[], 2, [((0, 0), { box := some 0 }),
 ((0, 1), { box := some 1 })],
 []⟩
def a38 : AFunc := ⟨1, 8, 2, [.cell 2 true 3],
 .seq (.region false [o_ 1 (.boxL 0 (.t 0)),
 o_ 2 (.allocL 1 [(.int .i64 0), (.int .i64 0), (.int .i64 0)])])
 (.seq (.seq (.region false [o_ 3 (.load true 3 (.t 1) .copy),
 o_ 4 (.callF 37 [(.t 3)]),
 o_ 5 (.un .not (.t 4))])
 (.cond (.t 5)
 (.seq (.region false [o_ 6 (.build [(.int .i64 0), (.int .i64 0), (.int .i64 0)] []),
 ⟨none, none, false, .store 3 (.t 2) (.t 6), .none⟩])
 (.ret))
 (.skip)))
 (.seq (.region false [o_ 7 (.load true 3 (.t 1) .copy),
 ⟨none, none, false, .store 3 (.t 2) (.t 7), .none⟩])
 (.ret)))⟩
theorem c38 : cFunc Go.Proofs.Tryd.prog p38 38 = some a38 := by decide +kernel
def p76 : Plan := ⟨[], 0, [],
 []⟩
def a76 : AFunc := ⟨1, 14, 0, [.tmp 2],
 .seq (.region false [o_ 2 (.mv (.c (.int .i64 0)))])
 (.seq (.seq (.region false [o_ 3 (.mv (.t 0))])
 (.block 0 (.seq (.region false [o_ 5 (.bin .eql (.t 3) (.c (.int .i64 1))),
 o_ 4 (.mv (.t 5))])
 (.cond (.t 4)
 (.seq (.region false [o_ 2 (.mv (.c (.int .i64 1)))])
 (.ret))
 (.seq (.region false [o_ 7 (.bin .eql (.t 3) (.c (.int .i64 2))),
 o_ 6 (.mv (.t 7))])
 (.cond (.t 6)
 (.seq (.region false [o_ 2 (.mv (.c (.int .i64 2)))])
 (.ret))
 (.seq (.region false [o_ 9 (.bin .eql (.t 3) (.c (.int .i64 3))),
 o_ 8 (.mv (.t 9))])
 (.cond (.t 8)
 (.seq (.region false [o_ 2 (.mv (.c (.int .i64 4)))])
 (.ret))
 (.seq (.region false [o_ 11 (.bin .eql (.t 3) (.c (.int .i64 4))),
 o_ 10 (.mv (.t 11))])
 (.cond (.t 10)
 (.seq (.region false [o_ 2 (.mv (.c (.int .i64 8)))])
 (.ret))
 (.seq (.region false [o_ 13 (.bin .eql (.t 3) (.c (.int .i64 7))),
 o_ 12 (.mv (.t 13))])
 (.cond (.t 12)
 (.seq (.region false [o_ 2 (.mv (.c (.int .i64 16)))])
 (.ret))
 (.skip)))))))))))))
 (.seq (.region false [o_ 2 (.mv (.c (.int .i64 0)))])
 (.ret)))⟩
theorem c76 : cFunc Go.Proofs.Tryd.prog p76 76 = some a76 := by decide +kernel
def p77 : Plan := ⟨[], 0, [((4, 5), { uses := [(17, .take)] }),
 ((6, 4), { uses := [(24, .take)] }),
 ((7, 10), { uses := [(34, .take)] })],
 []⟩
def a77 : AFunc := ⟨3, 35, 0, [.tmp 6],
 .seq (.region false [o_ 6 (.mv (.c .nils))])
 (.seq (.block 0 (.seq (.region false [o_ 8 (.mv (.t 0)),
 o_ 9 (.bin .eql (.t 8) (.c (.int .i64 0))),
 o_ 7 (.mv (.t 9))])
 (.cond (.t 7)
 (.seq (.region false [o_ 6 (.mv (.c .nils))])
 (.ret))
 (.seq (.region false [o_ 11 (.mv (.t 0)),
 o_ 12 (.bin .leq (.t 11) (.c (.int .i64 8))),
 o_ 10 (.mv (.t 12))])
 (.cond (.t 10)
 (.seq (.region false [o_ 13 (.mv (.t 1)),
 o_ 14 (.mv (.t 0)),
 o_ 15 (.bin .add (.t 13) (.t 14)),
 o_ 16 (.bin .sub (.t 15) (.c (.int .i64 1))),
 o_ 17 (.buildSlice 1 [(.int .i64 0)] 1 [(0, (.t 16))]),
 o_ 6 (.mv (.u 17 .take))])
 (.ret))
 (.seq (.region false [o_ 19 (.mv (.t 0)),
 o_ 20 (.bin .leq (.t 19) (.c (.int .i64 256))),
 o_ 18 (.mv (.t 20))])
 (.cond (.t 18)
 (.seq (.region false [o_ 21 (.mv (.t 2)),
 o_ 22 (.mv (.t 0)),
 o_ 23 (.bin .sub (.t 22) (.c (.int .i64 1))),
 o_ 24 (.buildSlice 1 [(.int .i64 0)] 3 [(0, (.t 21)), (1, (.c (.int .i64 5))), (2, (.t 23))]),
 o_ 6 (.mv (.u 24 .take))])
 (.ret))
 (.skip))))))))
 (.seq (.region false [o_ 25 (.mv (.t 2)),
 o_ 26 (.mv (.t 0)),
 o_ 27 (.bin .shr (.t 26) (.c (.int .u64 16))),
 o_ 28 (.bin .and (.t 27) (.c (.int .i64 255))),
 o_ 29 (.mv (.t 0)),
 o_ 30 (.bin .shr (.t 29) (.c (.int .u64 8))),
 o_ 31 (.bin .and (.t 30) (.c (.int .i64 255))),
 o_ 32 (.mv (.t 0)),
 o_ 33 (.bin .and (.t 32) (.c (.int .i64 255))),
 o_ 34 (.buildSlice 1 [(.int .i64 0)] 5 [(0, (.t 25)), (1, (.c (.int .i64 2))), (2, (.t 28)), (3, (.t 31)), (4, (.t 33))]),
 o_ 6 (.mv (.u 34 .take))])
 (.ret)))⟩
theorem c77 : cFunc Go.Proofs.Tryd.prog p77 77 = some a77 := by decide +kernel
def p36 : Plan := ⟨[9], 1, [((6, 1), { mark := (.loc 0) }),
 ((0, 0), { box := some 0 }),
 ((2, 1), { uses := [(8, .take)] }),
 ((3, 1), { uses := [(9, .peek)] }),
 ((5, 0), { uses := [(9, .peek)] }),
 ((7, 0), { uses := [(3, .take)] }),
 ((7, 3), { uses := [(21, .take), (23, .take)] }),
 ((7, 4), { uses := [(24, .take)] }),
 ((9, 0), { uses := [(3, .take)] }),
 ((9, 4), { uses := [(26, .take), (29, .take)] }),
 ((9, 5), { uses := [(30, .take)] }),
 ((10, 0), { uses := [(3, .take)] }),
 ((10, 4), { uses := [(31, .take), (34, .take)] }),
 ((10, 5), { uses := [(35, .take)] })],
 [[1, 3, 9, 10, 11]]⟩
def a36 : AFunc := ⟨1, 36, 1, [.tmp 2],
 .seq (.region false [o_ 1 (.boxL 0 (.t 0)),
 o_ 2 (.mv (.c .nils))])
 (.seq (.region false [o_ 6 (.load true 3 (.t 1) .copy),
 o_ 7 (.callF 38 [(.t 6)]),
 ⟨none, none, false, .store 3 (.t 1) (.t 7), .none⟩])
 (.seq (.region false [o_ 8 (.buildSlice 1 [(.int .i64 0)] 1 [(0, (.c (.int .i64 0)))]),
 o_ 3 (.mv (.u 8 .take))])
 (.seq (.seq (.region false [⟨(some 9), none, true, .buildSlice 1 [(.int .i64 0)] 5 [(0, (.c (.int .i64 1))), (1, (.c (.int .i64 2))), (2, (.c (.int .i64 3))), (3, (.c (.int .i64 4))), (4, (.c (.int .i64 7)))], .none⟩,
 o_ 10 (.lenSl (.u 9 .peek)),
 o_ 11 (.mv (.c (.int .i64 0)))])
 (.block 0 (.loop [1, 3, 9, 10, 11] (.seq (.region false [o_ 12 (.bin .lss (.t 11) (.t 10))])
 (.seq (.cond (.t 12)
 (.skip)
 (.exit 0))
 (.seq (.block 1 (.seq (.region false [o_ 13 (.indexSl 1 (.u 9 .peek) (.t 11)),
 o_ 14 (.load false 1 (.t 13) .copy),
 o_ 5 (.mv (.t 14))])
 (.seq (.region true [o_ 15 (.fieldAddr 2 (.t 1)),
 ⟨(some 16), none, false, .load false 1 (.t 15) .copy, (.loc 0)⟩,
 o_ 17 (.mv (.t 5)),
 o_ 18 (.callF 76 [(.t 17)]),
 o_ 19 (.bin .and (.t 16) (.t 18)),
 o_ 20 (.bin .neq (.t 19) (.c (.int .i64 0)))])
 (.cond (.t 20)
 (.region false [o_ 21 (.mv (.u 3 .take)),
 o_ 22 (.mv (.t 5)),
 o_ 23 (.buildSlice 1 [(.int .i64 0)] 1 [(0, (.t 22))]),
 o_ 24 (.append 1 (.u 21 .take) (.u 23 .take)),
 o_ 3 (.mv (.u 24 .take))])
 (.skip)))))
 (.region false [o_ 25 (.bin .add (.t 11) (.c (.int .i64 1))),
 o_ 11 (.mv (.t 25))])))))))
 (.seq (.region false [o_ 26 (.mv (.u 3 .take)),
 o_ 27 (.fieldAddr 0 (.t 1)),
 o_ 28 (.load false 1 (.t 27) .copy),
 o_ 29 (.callF 77 [(.t 28), (.c (.int .i64 30)), (.c (.int .i64 38))]),
 o_ 30 (.append 1 (.u 26 .take) (.u 29 .take)),
 o_ 3 (.mv (.u 30 .take))])
 (.seq (.region false [o_ 31 (.mv (.u 3 .take)),
 o_ 32 (.fieldAddr 1 (.t 1)),
 o_ 33 (.load false 1 (.t 32) .copy),
 o_ 34 (.callF 77 [(.t 33), (.c (.int .i64 40)), (.c (.int .i64 48))]),
 o_ 35 (.append 1 (.u 31 .take) (.u 34 .take)),
 o_ 2 (.mv (.u 35 .take))])
 (.ret))))))⟩
theorem c36 : cFunc Go.Proofs.Tryd.prog p36 36 = some a36 := by decide +kernel
def p104 : Plan := ⟨[], 0, [((3, 0), { uses := [(0, .take)] }),
 ((3, 2), { uses := [(12, .take), (13, .take)] }),
 ((3, 3), { uses := [(14, .take)] }),
 ((5, 0), { uses := [(0, .take)] }),
 ((5, 3), { uses := [(17, .take)] }),
 ((5, 4), { uses := [(20, .take)] })],
 []⟩
def a104 : AFunc := ⟨3, 21, 0, [.tmp 6],
 .seq (.region false [o_ 6 (.mv (.c .nils))])
 (.seq (.region false [o_ 8 (.mv (.t 1)),
 o_ 9 (.conv .u64 (.t 8)),
 o_ 7 (.mv (.t 9))])
 (.seq (.seq (.region false [o_ 10 (.mv (.t 1)),
 o_ 11 (.bin .lss (.t 10) (.c (.int .i64 0)))])
 (.cond (.t 11)
 (.seq (.region false [o_ 12 (.mv (.u 0 .take)),
 o_ 13 (.buildSlice 1 [(.int .u8 0)] 1 [(0, (.c (.int .u8 45)))]),
 o_ 14 (.append 1 (.u 12 .take) (.u 13 .take)),
 o_ 0 (.mv (.u 14 .take))])
 (.region false [o_ 15 (.mv (.t 7)),
 o_ 16 (.un .neg (.t 15)),
 o_ 7 (.mv (.t 16))]))
 (.skip)))
 (.seq (.region false [o_ 17 (.mv (.u 0 .take)),
 o_ 18 (.mv (.t 7)),
 o_ 19 (.mv (.t 2)),
 o_ 20 (.callF 129 [(.u 17 .take), (.t 18), (.t 19)]),
 o_ 6 (.mv (.u 20 .take))])
 (.ret))))⟩
theorem c104 : cFunc Go.Proofs.Tryd.prog p104 104 = some a104 := by decide +kernel
def p79 : Plan := ⟨[], 0, [((1, 0), { uses := [(0, .take)] }),
 ((1, 3), { uses := [(7, .take)] }),
 ((1, 4), { uses := [(10, .take)] })],
 []⟩
def a79 : AFunc := ⟨3, 11, 0, [.tmp 6],
 .seq (.region false [o_ 6 (.mv (.c .nils))])
 (.seq (.region false [o_ 7 (.mv (.u 0 .take)),
 o_ 8 (.mv (.t 1)),
 o_ 9 (.mv (.t 2)),
 o_ 10 (.callF 104 [(.u 7 .take), (.t 8), (.t 9)]),
 o_ 6 (.mv (.u 10 .take))])
 (.ret))⟩
theorem c79 : cFunc Go.Proofs.Tryd.prog p79 79 = some a79 := by decide +kernel
def p39 : Plan := ⟨[], 0, [((1, 1), { uses := [(10, .take)] }),
 ((3, 0), { uses := [(7, .take)] }),
 ((3, 3), { uses := [(13, .take), (15, .take)] }),
 ((3, 4), { uses := [(16, .take)] }),
 ((8, 0), { uses := [(7, .take)] }),
 ((8, 2), { uses := [(30, .take), (31, .take)] }),
 ((8, 3), { uses := [(32, .take)] }),
 ((10, 0), { uses := [(7, .take)] }),
 ((10, 3), { uses := [(35, .take)] }),
 ((10, 4), { uses := [(38, .take)] }),
 ((12, 0), { uses := [(7, .take)] }),
 ((12, 3), { uses := [(40, .take), (42, .take)] }),
 ((12, 4), { uses := [(43, .take)] })],
 [[2, 7, 21, 22, 23]]⟩
def a39 : AFunc := ⟨3, 44, 0, [.tmp 6],
 .seq (.region false [o_ 6 (.mv (.c .nils))])
 (.seq (.region false [o_ 10 (.buildSlice 1 [(.int .u8 0)] 2 [(0, (.c (.int .u8 27))), (1, (.c (.int .u8 91)))]),
 o_ 7 (.mv (.u 10 .take))])
 (.seq (.seq (.region false [o_ 11 (.mv (.t 0)),
 o_ 12 (.bin .neq (.t 11) (.c (.int .u8 0)))])
 (.cond (.t 12)
 (.region false [o_ 13 (.mv (.u 7 .take)),
 o_ 14 (.mv (.t 0)),
 o_ 15 (.buildSlice 1 [(.int .u8 0)] 1 [(0, (.t 14))]),
 o_ 16 (.append 1 (.u 13 .take) (.u 15 .take)),
 o_ 7 (.mv (.u 16 .take))])
 (.skip)))
 (.seq (.seq (.region false [o_ 17 (.mv (.t 1)),
 o_ 18 (.mv (.t 1)),
 o_ 19 (.lenSl (.t 18)),
 o_ 20 (.minMax false (.t 19) [(.c (.int .i64 16))]),
 o_ 21 (.sliceV 1 (.t 17) none (some (.t 20))),
 o_ 22 (.lenSl (.t 21)),
 o_ 23 (.mv (.c (.int .i64 0)))])
 (.block 0 (.loop [2, 7, 21, 22, 23] (.seq (.region false [o_ 24 (.bin .lss (.t 23) (.t 22))])
 (.seq (.cond (.t 24)
 (.skip)
 (.exit 0))
 (.seq (.block 1 (.seq (.region false [o_ 25 (.mv (.t 23)),
 o_ 26 (.indexSl 1 (.t 21) (.t 23)),
 o_ 27 (.load false 1 (.t 26) .copy),
 o_ 8 (.mv (.t 25)),
 o_ 9 (.mv (.t 27))])
 (.seq (.seq (.region false [o_ 28 (.mv (.t 8)),
 o_ 29 (.bin .gtr (.t 28) (.c (.int .i64 0)))])
 (.cond (.t 29)
 (.region false [o_ 30 (.mv (.u 7 .take)),
 o_ 31 (.buildSlice 1 [(.int .u8 0)] 1 [(0, (.c (.int .u8 59)))]),
 o_ 32 (.append 1 (.u 30 .take) (.u 31 .take)),
 o_ 7 (.mv (.u 32 .take))])
 (.skip)))
 (.seq (.region false [o_ 33 (.mv (.t 9)),
 o_ 34 (.bin .geq (.t 33) (.c (.int .i64 0)))])
 (.cond (.t 34)
 (.region false [o_ 35 (.mv (.u 7 .take)),
 o_ 36 (.mv (.t 9)),
 o_ 37 (.minMax false (.t 36) [(.c (.int .i64 9999))]),
 o_ 38 (.callF 79 [(.u 35 .take), (.t 37), (.c (.int .i64 10))]),
 o_ 7 (.mv (.u 38 .take))])
 (.skip))))))
 (.region false [o_ 39 (.bin .add (.t 23) (.c (.int .i64 1))),
 o_ 23 (.mv (.t 39))])))))))
 (.seq (.region false [o_ 40 (.mv (.u 7 .take)),
 o_ 41 (.mv (.t 2)),
 o_ 42 (.buildSlice 1 [(.int .u8 0)] 1 [(0, (.t 41))]),
 o_ 43 (.append 1 (.u 40 .take) (.u 42 .take)),
 o_ 6 (.mv (.u 43 .take))])
 (.ret)))))⟩
theorem c39 : cFunc Go.Proofs.Tryd.prog p39 39 = some a39 := by decide +kernel
def p10 : Plan := ⟨[], 2, [((1, 2), { mark := (.loc 1) }),
 ((1, 0), { mark := (.loc 0) }),
 ((0, 0), { box := some 0 }),
 ((0, 1), { box := some 1 }),
 ((3, 2), { uses := [(11, .share)] }),
 ((3, 3), { uses := [(12, .take)] })],
 []⟩
def a10 : AFunc := ⟨2, 13, 2, [.tmp 4],
 .seq (.region false [o_ 2 (.boxL 0 (.t 0)),
 o_ 3 (.boxL 1 (.t 1)),
 o_ 4 (.mv (.c .nils))])
 (.seq (.seq (.region true [⟨(some 5), none, false, .load true 3 (.t 2) .copy, (.loc 0)⟩,
 o_ 6 (.callF 38 [(.t 5)]),
 ⟨(some 7), none, false, .load true 3 (.t 3) .copy, (.loc 1)⟩,
 o_ 8 (.callF 38 [(.t 7)]),
 o_ 9 (.eq false (.plain [.int, .int, .int]) (.t 6) (.t 8))])
 (.cond (.t 9)
 (.seq (.region false [o_ 4 (.mv (.c .nils))])
 (.ret))
 (.skip)))
 (.seq (.region false [o_ 10 (.load true 3 (.t 3) .copy),
 o_ 11 (.callF 36 [(.t 10)]),
 o_ 12 (.callF 39 [(.c (.int .u8 0)), (.u 11 .share), (.c (.int .u8 109))]),
 o_ 4 (.mv (.u 12 .take))])
 (.ret)))⟩
theorem c10 : cFunc Go.Proofs.Tryd.prog p10 10 = some a10 := by decide +kernel
def p11 : Plan := ⟨[], 0, [],
 [[0, 1, 5]]⟩
def a11 : AFunc := ⟨2, 26, 0, [.tmp 4],
 .seq (.region false [o_ 4 (.mv (.c (.bool false)))])
 (.seq (.seq (.region false [o_ 6 (.mv (.t 0)),
 o_ 7 (.lenSl (.t 6)),
 o_ 8 (.mv (.t 1)),
 o_ 9 (.lenSl (.t 8)),
 o_ 10 (.bin .neq (.t 7) (.t 9))])
 (.cond (.t 10)
 (.seq (.region false [o_ 4 (.mv (.c (.bool false)))])
 (.ret))
 (.skip)))
 (.seq (.seq (.region false [o_ 5 (.mv (.c (.int .i64 0)))])
 (.block 0 (.loop [0, 1, 5] (.seq (.seq (.region false [o_ 11 (.mv (.t 5)),
 o_ 12 (.mv (.t 0)),
 o_ 13 (.lenSl (.t 12)),
 o_ 14 (.bin .lss (.t 11) (.t 13))])
 (.cond (.t 14)
 (.skip)
 (.exit 0)))
 (.seq (.block 1 (.seq (.region true [o_ 17 (.mv (.t 0)),
 o_ 18 (.mv (.t 5)),
 o_ 19 (.indexSl 1 (.t 17) (.t 18)),
 o_ 20 (.load false 1 (.t 19) .copy),
 o_ 21 (.mv (.t 1)),
 o_ 22 (.mv (.t 5)),
 o_ 23 (.indexSl 1 (.t 21) (.t 22)),
 o_ 24 (.load false 1 (.t 23) .copy),
 o_ 25 (.bin .neq (.t 20) (.t 24))])
 (.cond (.t 25)
 (.seq (.region false [o_ 4 (.mv (.c (.bool false)))])
 (.ret))
 (.skip))))
 (.region false [o_ 15 (.mv (.t 5)),
 o_ 16 (.bin .add (.t 15) (.c (.int .i64 1))),
 o_ 5 (.mv (.t 16))]))))))
 (.seq (.region false [o_ 4 (.mv (.c (.bool true)))])
 (.ret))))⟩
theorem c11 : cFunc Go.Proofs.Tryd.prog p11 11 = some a11 := by decide +kernel
def p89 : Plan := ⟨[], 0, [],
 []⟩
def a89 : AFunc := ⟨1, 17, 0, [.tmp 2],
 .seq (.region false [o_ 2 (.mv (.c (.bool false)))])
 (.seq (.region false [o_ 3 (.mv (.t 0)),
 o_ 4 (.bin .geq (.t 3) (.c (.int .i64 0))),
 o_ 5 (.mv (.t 4)),
 ⟨(some 6), (some (5, true)), false, .mv (.t 0), .none⟩,
 ⟨(some 7), (some (5, true)), false, .bin .leq (.t 6) (.c (.int .i64 256)), .none⟩,
 o_ 8 (.pick (.t 5) (.t 7) (.c (.bool false))),
 o_ 9 (.mv (.t 8)),
 ⟨(some 10), (some (9, false)), false, .mv (.t 0), .none⟩,
 ⟨(some 11), (some (9, false)), false, .bin .geq (.t 10) (.c (.int .i64 16777216)), .none⟩,
 ⟨(some 12), (some (9, false)), false, .mv (.t 11), .none⟩,
 ⟨(some 13), (some (12, true)), false, .mv (.t 0), .none⟩,
 ⟨(some 14), (some (12, true)), false, .bin .lss (.t 13) (.c (.int .i64 33554432)), .none⟩,
 ⟨(some 15), (some (9, false)), false, .pick (.t 12) (.t 14) (.c (.bool false)), .none⟩,
 o_ 16 (.pick (.t 9) (.c (.bool true)) (.t 15)),
 o_ 2 (.mv (.t 16))])
 (.ret))⟩
theorem c89 : cFunc Go.Proofs.Tryd.prog p89 89 = some a89 := by decide +kernel
def p43 : Plan := ⟨[], 1, [((0, 0), { box := some 0 })],
 []⟩
def a43 : AFunc := ⟨1, 21, 1, [.tmp 2],
 .seq (.region false [o_ 1 (.boxL 0 (.t 0)),
 o_ 2 (.mv (.c (.bool false)))])
 (.seq (.region false [o_ 3 (.fieldAddr 0 (.t 1)),
 o_ 4 (.load false 1 (.t 3) .copy),
 o_ 5 (.callF 89 [(.t 4)]),
 o_ 6 (.mv (.t 5)),
 ⟨(some 7), (some (6, true)), false, .fieldAddr 1 (.t 1), .none⟩,
 ⟨(some 8), (some (6, true)), false, .load false 1 (.t 7) .copy, .none⟩,
 ⟨(some 9), (some (6, true)), false, .callF 89 [(.t 8)], .none⟩,
 o_ 10 (.pick (.t 6) (.t 9) (.c (.bool false))),
 o_ 11 (.mv (.t 10)),
 ⟨(some 12), (some (11, true)), false, .fieldAddr 2 (.t 1), .none⟩,
 ⟨(some 13), (some (11, true)), false, .load false 1 (.t 12) .copy, .none⟩,
 ⟨(some 14), (some (11, true)), false, .bin .geq (.t 13) (.c (.int .i64 0)), .none⟩,
 o_ 15 (.pick (.t 11) (.t 14) (.c (.bool false))),
 o_ 16 (.mv (.t 15)),
 ⟨(some 17), (some (16, true)), false, .fieldAddr 2 (.t 1), .none⟩,
 ⟨(some 18), (some (16, true)), false, .load false 1 (.t 17) .copy, .none⟩,
 ⟨(some 19), (some (16, true)), false, .bin .lss (.t 18) (.c (.int .i64 32)), .none⟩,
 o_ 20 (.pick (.t 16) (.t 19) (.c (.bool false))),
 o_ 2 (.mv (.t 20))])
 (.ret))⟩
theorem c43 : cFunc Go.Proofs.Tryd.prog p43 43 = some a43 := by decide +kernel
def p14 : Plan := ⟨[], 2, [((0, 0), { box := some 0 }),
 ((0, 1), { box := some 1 })],
 []⟩
def a14 : AFunc := ⟨1, 7, 2, [.cell 2 true 3],
 .seq (.region false [o_ 1 (.boxL 0 (.t 0)),
 o_ 2 (.allocL 1 [(.int .i64 0), (.int .i64 0), (.int .i64 0)])])
 (.seq (.seq (.region false [o_ 3 (.load true 3 (.t 1) .copy),
 o_ 4 (.callF 43 [(.t 3)])])
 (.cond (.t 4)
 (.seq (.region false [o_ 5 (.load true 3 (.t 1) .copy),
 ⟨none, none, false, .store 3 (.t 2) (.t 5), .none⟩])
 (.ret))
 (.skip)))
 (.seq (.region false [o_ 6 (.build [(.int .i64 0), (.int .i64 0), (.int .i64 0)] []),
 ⟨none, none, false, .store 3 (.t 2) (.t 6), .none⟩])
 (.ret)))⟩
theorem c14 : cFunc Go.Proofs.Tryd.prog p14 14 = some a14 := by decide +kernel
def p30 : Plan := ⟨[21], 0, [((9, 4), { uses := [(21, .peek)] })],
 [[0, 3, 4]]⟩
def a30 : AFunc := ⟨1, 31, 0, [.tmp 2],
 .seq (.region false [o_ 2 (.mv (.c (.str [])))])
 (.seq (.seq (.region false [o_ 6 (.mv (.t 0)),
 o_ 7 (.bin .eql (.t 6) (.c (.int .i64 0)))])
 (.cond (.t 7)
 (.seq (.region false [o_ 2 (.mv (.c (.str [48])))])
 (.ret))
 (.skip)))
 (.seq (.region false [o_ 8 (.mv (.t 0)),
 o_ 9 (.bin .lss (.t 8) (.c (.int .i64 0))),
 o_ 3 (.mv (.t 9))])
 (.seq (.region false [o_ 4 (.mv (.c (.str [])))])
 (.seq (.block 0 (.loop [0, 3, 4] (.seq (.seq (.region false [o_ 10 (.mv (.t 0)),
 o_ 11 (.bin .neq (.t 10) (.c (.int .i64 0)))])
 (.cond (.t 11)
 (.skip)
 (.exit 0)))
 (.block 1 (.seq (.region false [o_ 12 (.mv (.t 0)),
 o_ 13 (.bin .rem (.t 12) (.c (.int .i64 10))),
 o_ 5 (.mv (.t 13))])
 (.seq (.seq (.region false [o_ 14 (.mv (.t 5)),
 o_ 15 (.bin .lss (.t 14) (.c (.int .i64 0)))])
 (.cond (.t 15)
 (.region false [o_ 16 (.mv (.t 5)),
 o_ 17 (.un .neg (.t 16)),
 o_ 5 (.mv (.t 17))])
 (.skip)))
 (.seq (.region false [o_ 18 (.mv (.t 5)),
 o_ 19 (.bin .add (.c (.int .i64 48)) (.t 18)),
 o_ 20 (.conv .u8 (.t 19)),
 ⟨(some 21), none, true, .buildSlice 1 [(.int .u8 0)] 1 [(0, (.t 20))], .none⟩,
 o_ 22 (.bytesStr (.u 21 .peek)),
 o_ 23 (.mv (.t 4)),
 o_ 24 (.bin .add (.t 22) (.t 23)),
 o_ 4 (.mv (.t 24))])
 (.region false [o_ 25 (.mv (.t 0)),
 o_ 26 (.bin .quo (.t 25) (.c (.int .i64 10))),
 o_ 0 (.mv (.t 26))]))))))))
 (.seq (.seq (.region false [o_ 27 (.mv (.t 3))])
 (.cond (.t 27)
 (.seq (.region false [o_ 28 (.mv (.t 4)),
 o_ 29 (.bin .add (.c (.str [45])) (.t 28)),
 o_ 2 (.mv (.t 29))])
 (.ret))
 (.skip)))
 (.seq (.region false [o_ 30 (.mv (.t 4)),
 o_ 2 (.mv (.t 30))])
 (.ret)))))))⟩
theorem c30 : cFunc Go.Proofs.Tryd.prog p30 30 = some a30 := by decide +kernel
def p80 : Plan := ⟨[], 0, [],
 []⟩
def a80 : AFunc := ⟨3, 16, 0, [.tmp 6],
 .seq (.region false [o_ 6 (.mv (.c (.int .i64 0)))])
 (.seq (.seq (.region false [o_ 7 (.mv (.t 0)),
 o_ 8 (.mv (.t 1)),
 o_ 9 (.bin .lss (.t 7) (.t 8))])
 (.cond (.t 9)
 (.seq (.region false [o_ 10 (.mv (.t 1)),
 o_ 6 (.mv (.t 10))])
 (.ret))
 (.skip)))
 (.seq (.seq (.region false [o_ 11 (.mv (.t 0)),
 o_ 12 (.mv (.t 2)),
 o_ 13 (.bin .gtr (.t 11) (.t 12))])
 (.cond (.t 13)
 (.seq (.region false [o_ 14 (.mv (.t 2)),
 o_ 6 (.mv (.t 14))])
 (.ret))
 (.skip)))
 (.seq (.region false [o_ 15 (.mv (.t 0)),
 o_ 6 (.mv (.t 15))])
 (.ret))))⟩
theorem c80 : cFunc Go.Proofs.Tryd.prog p80 80 = some a80 := by decide +kernel
def p40 : Plan := ⟨[13], 0, [((3, 3), { uses := [(13, .peek)] }),
 ((11, 4), { uses := [(44, .take), (46, .take)] }),
 ((11, 5), { uses := [(47, .take)] })],
 [[1, 2, 7, 8]]⟩
def a40 : AFunc := ⟨3, 48, 0, [.tmp 6],
 .seq (.region false [o_ 6 (.mv (.c .nils))])
 (.seq (.region false [o_ 7 (.mv (.c (.str [27, 91])))])
 (.seq (.seq (.region false [o_ 9 (.mv (.t 0)),
 o_ 10 (.bin .neq (.t 9) (.c (.int .u8 0)))])
 (.cond (.t 10)
 (.region false [o_ 11 (.mv (.t 7)),
 o_ 12 (.mv (.t 0)),
 ⟨(some 13), none, true, .buildSlice 1 [(.int .u8 0)] 1 [(0, (.t 12))], .none⟩,
 o_ 14 (.bytesStr (.u 13 .peek)),
 o_ 15 (.bin .add (.t 11) (.t 14)),
 o_ 7 (.mv (.t 15))])
 (.skip)))
 (.seq (.seq (.region false [o_ 8 (.mv (.c (.int .i64 0)))])
 (.block 0 (.loop [1, 2, 7, 8] (.seq (.seq (.region false [o_ 16 (.mv (.t 8)),
 o_ 17 (.mv (.t 1)),
 o_ 18 (.lenSl (.t 17)),
 o_ 19 (.bin .lss (.t 16) (.t 18)),
 o_ 20 (.mv (.t 19)),
 ⟨(some 21), (some (20, true)), false, .mv (.t 8), .none⟩,
 ⟨(some 22), (some (20, true)), false, .bin .lss (.t 21) (.c (.int .i64 16)), .none⟩,
 o_ 23 (.pick (.t 20) (.t 22) (.c (.bool false)))])
 (.cond (.t 23)
 (.skip)
 (.exit 0)))
 (.seq (.block 1 (.seq (.seq (.region false [o_ 26 (.mv (.t 8)),
 o_ 27 (.bin .gtr (.t 26) (.c (.int .i64 0)))])
 (.cond (.t 27)
 (.region false [o_ 28 (.mv (.t 7)),
 o_ 29 (.bin .add (.t 28) (.c (.str [59]))),
 o_ 7 (.mv (.t 29))])
 (.skip)))
 (.seq (.region false [o_ 30 (.mv (.t 1)),
 o_ 31 (.mv (.t 8)),
 o_ 32 (.indexSl 1 (.t 30) (.t 31)),
 o_ 33 (.load false 1 (.t 32) .copy),
 o_ 34 (.bin .geq (.t 33) (.c (.int .i64 0)))])
 (.cond (.t 34)
 (.region false [o_ 35 (.mv (.t 7)),
 o_ 36 (.mv (.t 1)),
 o_ 37 (.mv (.t 8)),
 o_ 38 (.indexSl 1 (.t 36) (.t 37)),
 o_ 39 (.load false 1 (.t 38) .copy),
 o_ 40 (.callF 80 [(.t 39), (.c (.int .i64 0)), (.c (.int .i64 9999))]),
 o_ 41 (.callF 30 [(.t 40)]),
 o_ 42 (.bin .add (.t 35) (.t 41)),
 o_ 7 (.mv (.t 42))])
 (.skip)))))
 (.region false [o_ 24 (.mv (.t 8)),
 o_ 25 (.bin .add (.t 24) (.c (.int .i64 1))),
 o_ 8 (.mv (.t 25))]))))))
 (.seq (.region false [o_ 43 (.mv (.t 7)),
 o_ 44 (.strBytes (.t 43)),
 o_ 45 (.mv (.t 2)),
 o_ 46 (.buildSlice 1 [(.int .u8 0)] 1 [(0, (.t 45))]),
 o_ 47 (.append 1 (.u 44 .take) (.u 46 .take)),
 o_ 6 (.mv (.u 47 .take))])
 (.ret)))))⟩
theorem c40 : cFunc Go.Proofs.Tryd.prog p40 40 = some a40 := by decide +kernel
def p81 : Plan := ⟨[], 0, [((1, 2), { uses := [(2, .share)] }),
 ((1, 3), { uses := [(3, .share)] })],
 []⟩
def a81 : AFunc := ⟨0, 4, 0, [.tmp 0, .tmp 1],
 .seq (.region false [o_ 0 (.mv (.c .nils)),
 o_ 1 (.mv (.c .nils))])
 (.seq (.region false [o_ 2 (.buildSlice 1 [(.int .i64 0)] 5 [(0, (.c (.int .i64 1))), (1, (.c (.int .i64 2))), (2, (.c (.int .i64 3))), (3, (.c (.int .i64 4))), (4, (.c (.int .i64 7)))]),
 o_ 3 (.buildSlice 1 [(.int .i64 0)] 5 [(0, (.c (.int .i64 1))), (1, (.c (.int .i64 2))), (2, (.c (.int .i64 4))), (3, (.c (.int .i64 8))), (4, (.c (.int .i64 16)))]),
 o_ 0 (.mv (.u 2 .share)),
 o_ 1 (.mv (.u 3 .share))])
 (.ret))⟩
theorem c81 : cFunc Go.Proofs.Tryd.prog p81 81 = some a81 := by decide +kernel
def p82 : Plan := ⟨[], 0, [],
 []⟩
def a82 : AFunc := ⟨2, 10, 0, [.tmp 4],
 .seq (.region false [o_ 4 (.mv (.c (.bool false)))])
 (.seq (.region false [o_ 5 (.mv (.t 0)),
 o_ 6 (.mv (.t 1)),
 o_ 7 (.bin .quo (.t 5) (.t 6)),
 o_ 8 (.bin .rem (.t 7) (.c (.int .i64 2))),
 o_ 9 (.bin .eql (.t 8) (.c (.int .i64 1))),
 o_ 4 (.mv (.t 9))])
 (.ret))⟩
theorem c82 : cFunc Go.Proofs.Tryd.prog p82 82 = some a82 := by decide +kernel
def p83 : Plan := ⟨[], 0, [((4, 5), { uses := [(13, .take)] }),
 ((6, 5), { uses := [(20, .take)] }),
 ((8, 10), { uses := [(32, .take)] })],
 []⟩
def a83 : AFunc := ⟨2, 33, 0, [.tmp 4],
 .seq (.region false [o_ 4 (.mv (.c .nils))])
 (.seq (.seq (.region false [o_ 5 (.mv (.t 0)),
 o_ 6 (.bin .eql (.t 5) (.c (.int .i64 0)))])
 (.cond (.t 6)
 (.seq (.region false [o_ 4 (.mv (.c .nils))])
 (.ret))
 (.skip)))
 (.seq (.seq (.region false [o_ 7 (.mv (.t 0)),
 o_ 8 (.bin .leq (.t 7) (.c (.int .i64 8)))])
 (.cond (.t 8)
 (.seq (.region false [o_ 9 (.mv (.t 1)),
 o_ 10 (.mv (.t 0)),
 o_ 11 (.bin .add (.t 9) (.t 10)),
 o_ 12 (.bin .sub (.t 11) (.c (.int .i64 1))),
 o_ 13 (.buildSlice 1 [(.int .i64 0)] 1 [(0, (.t 12))]),
 o_ 4 (.mv (.u 13 .take))])
 (.ret))
 (.skip)))
 (.seq (.seq (.region false [o_ 14 (.mv (.t 0)),
 o_ 15 (.bin .leq (.t 14) (.c (.int .i64 256)))])
 (.cond (.t 15)
 (.seq (.region false [o_ 16 (.mv (.t 1)),
 o_ 17 (.bin .add (.t 16) (.c (.int .i64 8))),
 o_ 18 (.mv (.t 0)),
 o_ 19 (.bin .sub (.t 18) (.c (.int .i64 1))),
 o_ 20 (.buildSlice 1 [(.int .i64 0)] 3 [(0, (.t 17)), (1, (.c (.int .i64 5))), (2, (.t 19))]),
 o_ 4 (.mv (.u 20 .take))])
 (.ret))
 (.skip)))
 (.seq (.region false [o_ 21 (.mv (.t 0)),
 o_ 22 (.bin .sub (.t 21) (.c (.int .i64 16777216))),
 o_ 0 (.mv (.t 22))])
 (.seq (.region false [o_ 23 (.mv (.t 1)),
 o_ 24 (.bin .add (.t 23) (.c (.int .i64 8))),
 o_ 25 (.mv (.t 0)),
 o_ 26 (.bin .quo (.t 25) (.c (.int .i64 65536))),
 o_ 27 (.mv (.t 0)),
 o_ 28 (.bin .quo (.t 27) (.c (.int .i64 256))),
 o_ 29 (.bin .rem (.t 28) (.c (.int .i64 256))),
 o_ 30 (.mv (.t 0)),
 o_ 31 (.bin .rem (.t 30) (.c (.int .i64 256))),
 o_ 32 (.buildSlice 1 [(.int .i64 0)] 5 [(0, (.t 24)), (1, (.c (.int .i64 2))), (2, (.t 26)), (3, (.t 29)), (4, (.t 31))]),
 o_ 4 (.mv (.u 32 .take))])
 (.ret))))))⟩
theorem c83 : cFunc Go.Proofs.Tryd.prog p83 83 = some a83 := by decide +kernel
def p41 : Plan := ⟨[], 1, [((0, 0), { box := some 0 }),
 ((2, 1), { uses := [(13, .take)] }),
 ((3, 4), { uses := [(16, .share)] }),
 ((3, 5), { uses := [(17, .share)] }),
 ((8, 0), { uses := [(3, .take)] }),
 ((8, 6), { uses := [(31, .take), (36, .take)] }),
 ((8, 7), { uses := [(37, .take)] }),
 ((9, 3), { uses := [(40, .share)] }),
 ((13, 0), { uses := [(3, .take)] }),
 ((13, 6), { uses := [(47, .take), (52, .take)] }),
 ((13, 7), { uses := [(53, .take)] }),
 ((14, 3), { uses := [(56, .share)] }),
 ((18, 0), { uses := [(3, .take)] }),
 ((18, 6), { uses := [(63, .take), (68, .take)] }),
 ((18, 7), { uses := [(69, .take)] }),
 ((19, 0), { uses := [(3, .take)] }),
 ((19, 1), { uses := [(70, .take)] })],
 [[1, 3, 4, 5, 6], [1, 3, 7, 8], [3, 9, 10]]⟩
def a41 : AFunc := ⟨1, 71, 1, [.tmp 2],
 .seq (.region false [o_ 1 (.boxL 0 (.t 0)),
 o_ 2 (.mv (.c .nils))])
 (.seq (.region false [o_ 11 (.load true 3 (.t 1) .copy),
 o_ 12 (.callF 14 [(.t 11)]),
 ⟨none, none, false, .store 3 (.t 1) (.t 12), .none⟩])
 (.seq (.region false [o_ 13 (.buildSlice 1 [(.int .i64 0)] 1 [(0, (.c (.int .i64 0)))]),
 o_ 3 (.mv (.u 13 .take))])
 (.seq (.region false [o_ 15 (.callF 81 []),
 o_ 14 (.mv (.t 15)),
 o_ 16 (.extract (.t 14) 0),
 o_ 17 (.extract (.t 14) 1),
 o_ 4 (.mv (.u 16 .share)),
 o_ 5 (.mv (.u 17 .share))])
 (.seq (.seq (.region false [o_ 6 (.mv (.c (.int .i64 0)))])
 (.block 0 (.loop [1, 3, 4, 5, 6] (.seq (.seq (.region false [o_ 18 (.mv (.t 6)),
 o_ 19 (.mv (.t 4)),
 o_ 20 (.lenSl (.t 19)),
 o_ 21 (.bin .lss (.t 18) (.t 20))])
 (.cond (.t 21)
 (.skip)
 (.exit 0)))
 (.seq (.block 1 (.seq (.region true [o_ 24 (.fieldAddr 2 (.t 1)),
 o_ 25 (.load false 1 (.t 24) .copy),
 o_ 26 (.mv (.t 5)),
 o_ 27 (.mv (.t 6)),
 o_ 28 (.indexSl 1 (.t 26) (.t 27)),
 o_ 29 (.load false 1 (.t 28) .copy),
 o_ 30 (.callF 82 [(.t 25), (.t 29)])])
 (.cond (.t 30)
 (.region false [o_ 31 (.mv (.u 3 .take)),
 o_ 32 (.mv (.t 4)),
 o_ 33 (.mv (.t 6)),
 o_ 34 (.indexSl 1 (.t 32) (.t 33)),
 o_ 35 (.load false 1 (.t 34) .copy),
 o_ 36 (.buildSlice 1 [(.int .i64 0)] 1 [(0, (.t 35))]),
 o_ 37 (.append 1 (.u 31 .take) (.u 36 .take)),
 o_ 3 (.mv (.u 37 .take))])
 (.skip))))
 (.region false [o_ 22 (.mv (.t 6)),
 o_ 23 (.bin .add (.t 22) (.c (.int .i64 1))),
 o_ 6 (.mv (.t 23))]))))))
 (.seq (.region false [o_ 38 (.fieldAddr 0 (.t 1)),
 o_ 39 (.load false 1 (.t 38) .copy),
 o_ 40 (.callF 83 [(.t 39), (.c (.int .i64 30))]),
 o_ 7 (.mv (.u 40 .share))])
 (.seq (.seq (.region false [o_ 8 (.mv (.c (.int .i64 0)))])
 (.block 2 (.loop [1, 3, 7, 8] (.seq (.seq (.region false [o_ 41 (.mv (.t 8)),
 o_ 42 (.mv (.t 7)),
 o_ 43 (.lenSl (.t 42)),
 o_ 44 (.bin .lss (.t 41) (.t 43))])
 (.cond (.t 44)
 (.skip)
 (.exit 2)))
 (.seq (.block 3 (.region false [o_ 47 (.mv (.u 3 .take)),
 o_ 48 (.mv (.t 7)),
 o_ 49 (.mv (.t 8)),
 o_ 50 (.indexSl 1 (.t 48) (.t 49)),
 o_ 51 (.load false 1 (.t 50) .copy),
 o_ 52 (.buildSlice 1 [(.int .i64 0)] 1 [(0, (.t 51))]),
 o_ 53 (.append 1 (.u 47 .take) (.u 52 .take)),
 o_ 3 (.mv (.u 53 .take))]))
 (.region false [o_ 45 (.mv (.t 8)),
 o_ 46 (.bin .add (.t 45) (.c (.int .i64 1))),
 o_ 8 (.mv (.t 46))]))))))
 (.seq (.region false [o_ 54 (.fieldAddr 1 (.t 1)),
 o_ 55 (.load false 1 (.t 54) .copy),
 o_ 56 (.callF 83 [(.t 55), (.c (.int .i64 40))]),
 o_ 9 (.mv (.u 56 .share))])
 (.seq (.seq (.region false [o_ 10 (.mv (.c (.int .i64 0)))])
 (.block 4 (.loop [3, 9, 10] (.seq (.seq (.region false [o_ 57 (.mv (.t 10)),
 o_ 58 (.mv (.t 9)),
 o_ 59 (.lenSl (.t 58)),
 o_ 60 (.bin .lss (.t 57) (.t 59))])
 (.cond (.t 60)
 (.skip)
 (.exit 4)))
 (.seq (.block 5 (.region false [o_ 63 (.mv (.u 3 .take)),
 o_ 64 (.mv (.t 9)),
 o_ 65 (.mv (.t 10)),
 o_ 66 (.indexSl 1 (.t 64) (.t 65)),
 o_ 67 (.load false 1 (.t 66) .copy),
 o_ 68 (.buildSlice 1 [(.int .i64 0)] 1 [(0, (.t 67))]),
 o_ 69 (.append 1 (.u 63 .take) (.u 68 .take)),
 o_ 3 (.mv (.u 69 .take))]))
 (.region false [o_ 61 (.mv (.t 10)),
 o_ 62 (.bin .add (.t 61) (.c (.int .i64 1))),
 o_ 10 (.mv (.t 62))]))))))
 (.seq (.region false [o_ 70 (.mv (.u 3 .take)),
 o_ 2 (.mv (.u 70 .take))])
 (.ret))))))))))⟩
theorem c41 : cFunc Go.Proofs.Tryd.prog p41 41 = some a41 := by decide +kernel
def p12 : Plan := ⟨[], 2, [((1, 2), { mark := (.loc 1) }),
 ((1, 0), { mark := (.loc 0) }),
 ((0, 0), { box := some 0 }),
 ((0, 1), { box := some 1 }),
 ((3, 2), { uses := [(11, .share)] }),
 ((3, 3), { uses := [(12, .take)] })],
 []⟩
def a12 : AFunc := ⟨2, 13, 2, [.tmp 4],
 .seq (.region false [o_ 2 (.boxL 0 (.t 0)),
 o_ 3 (.boxL 1 (.t 1)),
 o_ 4 (.mv (.c .nils))])
 (.seq (.seq (.region true [⟨(some 5), none, false, .load true 3 (.t 2) .copy, (.loc 0)⟩,
 o_ 6 (.callF 14 [(.t 5)]),
 ⟨(some 7), none, false, .load true 3 (.t 3) .copy, (.loc 1)⟩,
 o_ 8 (.callF 14 [(.t 7)]),
 o_ 9 (.eq false (.plain [.int, .int, .int]) (.t 6) (.t 8))])
 (.cond (.t 9)
 (.seq (.region false [o_ 4 (.mv (.c .nils))])
 (.ret))
 (.skip)))
 (.seq (.region false [o_ 10 (.load true 3 (.t 3) .copy),
 o_ 11 (.callF 41 [(.t 10)]),
 o_ 12 (.callF 40 [(.c (.int .u8 0)), (.u 11 .share), (.c (.int .u8 109))]),
 o_ 4 (.mv (.u 12 .take))])
 (.ret)))⟩
theorem c12 : cFunc Go.Proofs.Tryd.prog p12 12 = some a12 := by decide +kernel
def p88 : Plan := ⟨[], 1, [((1, 10), { uses := [(11, .take)], mark := .mem }),
 ((1, 6), { uses := [(9, .share)], mark := .free }),
 ((1, 5), { mark := (.loc 0) }),
 ((1, 4), { mode := .take, mark := .mem }),
 ((0, 0), { box := some 0 }),
 ((1, 7), { uses := [(8, .take), (10, .take)] })],
 []⟩
def a88 : AFunc := ⟨2, 14, 1, [],
 .seq (.region false [o_ 3 (.boxL 0 (.t 1))])
 (.region true [o_ 4 (.mv (.t 0)),
 o_ 5 (.mv (.t 0)),
 o_ 6 (.nilCheck (.t 5)),
 o_ 7 (.fieldAddr 13 (.t 6)),
 ⟨(some 8), none, false, .load false 1 (.t 7) .take, .mem⟩,
 ⟨(some 9), none, false, .load true 7 (.t 3) .copy, (.loc 0)⟩,
 ⟨(some 10), none, false, .buildSlice 7 [(.int .i64 0), (.int .i32 0), (.int .u8 0), (.int .u8 0), (.str []), .nils, (.str [])] 1 [(0, (.u 9 .share))], .free⟩,
 o_ 11 (.append 7 (.u 8 .take) (.u 10 .take)),
 o_ 12 (.nilCheck (.t 4)),
 o_ 13 (.fieldAddr 13 (.t 12)),
 ⟨none, none, false, .store 1 (.t 13) (.u 11 .take), .mem⟩])⟩
theorem c88 : cFunc Go.Proofs.Tryd.prog p88 88 = some a88 := by decide +kernel
def p84 : Plan := ⟨[], 0, [((3, 3), { uses := [(14, .share)] })],
 [[0, 6, 7, 8]]⟩
def a84 : AFunc := ⟨2, 17, 0, [],
 .seq (.region false [o_ 6 (.mv (.t 1)),
 o_ 7 (.lenSl (.t 6)),
 o_ 8 (.mv (.c (.int .i64 0)))])
 (.block 0 (.loop [0, 6, 7, 8] (.seq (.region false [o_ 9 (.bin .lss (.t 8) (.t 7))])
 (.seq (.cond (.t 9)
 (.skip)
 (.exit 0))
 (.seq (.block 1 (.seq (.region false [o_ 10 (.indexSl 1 (.t 6) (.t 8)),
 o_ 11 (.load false 1 (.t 10) .copy),
 o_ 5 (.mv (.t 11))])
 (.region false [o_ 12 (.mv (.t 0)),
 o_ 13 (.mv (.t 5)),
 o_ 14 (.build [(.int .i64 0), (.int .i32 0), (.int .u8 0), (.int .u8 0), (.str []), .nils, (.str [])] [(0, 1, (.c (.int .i64 1))), (1, 1, (.t 13))]),
 o_ 15 (.callF 88 [(.t 12), (.u 14 .share)])])))
 (.region false [o_ 16 (.bin .add (.t 8) (.c (.int .i64 1))),
 o_ 8 (.mv (.t 16))]))))))⟩
theorem c84 : cFunc Go.Proofs.Tryd.prog p84 84 = some a84 := by decide +kernel
def p85 : Plan := ⟨[], 0, [((1, 6), { uses := [(4, .share)] }),
 ((1, 7), { uses := [(10, .share)] }),
 ((3, 1), { uses := [(14, .take)] })],
 []⟩
def a85 : AFunc := ⟨1, 15, 0, [.tmp 2],
 .seq (.region false [o_ 2 (.mv (.c .nils))])
 (.seq (.region false [o_ 4 (.buildSlice 1 [(.int .i32 0)] 1 [(0, (.c (.int .i32 65533)))]),
 o_ 5 (.mv (.t 0)),
 o_ 6 (.nilCheck (.t 5)),
 o_ 7 (.fieldAddr 0 (.t 6)),
 o_ 8 (.load false 1 (.t 7) .copy),
 o_ 9 (.lenSl (.t 8)),
 o_ 10 (.callF 105 [(.u 4 .share), (.t 9)]),
 o_ 3 (.mv (.u 10 .share))])
 (.seq (.region false [o_ 11 (.mv (.t 0)),
 o_ 12 (.nilCheck (.t 11)),
 o_ 13 (.fieldAddr 0 (.t 12)),
 ⟨none, none, false, .store 1 (.t 13) (.c .nils), .none⟩])
 (.seq (.region false [o_ 14 (.mv (.t 3)),
 o_ 2 (.mv (.u 14 .take))])
 (.ret))))⟩
theorem c85 : cFunc Go.Proofs.Tryd.prog p85 85 = some a85 := by decide +kernel
def p86 : Plan := ⟨[], 0, [],
 []⟩
def a86 : AFunc := ⟨1, 12, 0, [.tmp 2],
 .seq (.region false [o_ 2 (.mv (.c .nilf))])
 (.seq (.seq (.region false [o_ 3 (.mv (.t 0))])
 (.block 0 (.seq (.region false [o_ 5 (.bin .eql (.t 3) (.c (.int .i64 1))),
 o_ 4 (.mv (.t 5))])
 (.cond (.t 4)
 (.seq (.region false [o_ 2 (.mv (.c (.func 106 [])))])
 (.ret))
 (.seq (.region false [o_ 7 (.bin .eql (.t 3) (.c (.int .i64 2))),
 o_ 6 (.mv (.t 7))])
 (.cond (.t 6)
 (.seq (.region false [o_ 2 (.mv (.c (.func 107 [])))])
 (.ret))
 (.seq (.region false [o_ 9 (.bin .eql (.t 3) (.c (.int .i64 3))),
 o_ 8 (.mv (.t 9))])
 (.cond (.t 8)
 (.seq (.region false [o_ 2 (.mv (.c (.func 108 [])))])
 (.ret))
 (.seq (.region false [o_ 11 (.bin .eql (.t 3) (.c (.int .i64 4))),
 o_ 10 (.mv (.t 11))])
 (.cond (.t 10)
 (.seq (.region false [o_ 2 (.mv (.c (.func 109 [])))])
 (.ret))
 (.skip)))))))))))
 (.seq (.region false [o_ 2 (.mv (.c (.func 110 [])))])
 (.ret)))⟩
theorem c86 : cFunc Go.Proofs.Tryd.prog p86 86 = some a86 := by decide +kernel
def p87 : Plan := ⟨[], 0, [((1, 6), { uses := [(17, .take)] })],
 []⟩
def a87 : AFunc := ⟨2, 24, 0, [],
 .seq (.region false [o_ 4 (.mv (.t 0)),
 o_ 5 (.mv (.t 0)),
 o_ 6 (.mv (.t 0)),
 o_ 7 (.mv (.t 1)),
 o_ 8 (.nilCheck (.t 4)),
 o_ 9 (.fieldAddr 1 (.t 8)),
 ⟨none, none, false, .store 1 (.t 9) (.t 7), .none⟩,
 o_ 10 (.nilCheck (.t 5)),
 o_ 11 (.fieldAddr 2 (.t 10)),
 ⟨none, none, false, .store 1 (.t 11) (.c (.bool false)), .none⟩,
 o_ 12 (.nilCheck (.t 6)),
 o_ 13 (.fieldAddr 3 (.t 12)),
 ⟨none, none, false, .store 1 (.t 13) (.c (.bool true)), .none⟩])
 (.region false [o_ 14 (.mv (.t 0)),
 o_ 15 (.mv (.t 0)),
 o_ 16 (.mv (.t 0)),
 o_ 17 (.build [(.int .i64 0), (.int .i32 0), (.int .u8 0), (.int .u8 0), (.str []), .nils, (.str [])] []),
 o_ 18 (.nilCheck (.t 14)),
 o_ 19 (.fieldAddr 4 (.t 18)),
 ⟨none, none, false, .store 7 (.t 19) (.u 17 .take), .none⟩,
 o_ 20 (.nilCheck (.t 15)),
 o_ 21 (.fieldAddr 11 (.t 20)),
 ⟨none, none, false, .store 1 (.t 21) (.c (.int .i64 0)), .none⟩,
 o_ 22 (.nilCheck (.t 16)),
 o_ 23 (.fieldAddr 12 (.t 22)),
 ⟨none, none, false, .store 1 (.t 23) (.c .nils), .none⟩])⟩
theorem c87 : cFunc Go.Proofs.Tryd.prog p87 87 = some a87 := by decide +kernel
def p131 : Plan := ⟨[], 0, [],
 []⟩
def a131 : AFunc := ⟨2, 26, 0, [],
 .seq (.seq (.region false [o_ 4 (.mv (.t 0)),
 o_ 5 (.nilCheck (.t 4)),
 o_ 6 (.fieldAddr 4 (.t 5)),
 o_ 7 (.fieldAddr 4 (.t 6)),
 o_ 8 (.load false 1 (.t 7) .copy),
 o_ 9 (.lenStr (.t 8)),
 o_ 10 (.bin .eql (.t 9) (.c (.int .i64 2)))])
 (.cond (.t 10)
 (.seq (.region false [o_ 11 (.mv (.t 0)),
 o_ 12 (.nilCheck (.t 11)),
 o_ 13 (.fieldAddr 2 (.t 12)),
 ⟨none, none, false, .store 1 (.t 13) (.c (.bool true)), .none⟩])
 (.ret))
 (.skip)))
 (.region false [o_ 14 (.mv (.t 0)),
 o_ 15 (.nilCheck (.t 14)),
 o_ 16 (.fieldAddr 4 (.t 15)),
 o_ 17 (.fieldAddr 4 (.t 16)),
 o_ 18 (.load false 1 (.t 17) .copy),
 o_ 19 (.mv (.t 1)),
 o_ 20 (.conv .i32 (.t 19)),
 o_ 21 (.intStr (.t 20)),
 o_ 22 (.bin .add (.t 18) (.t 21)),
 o_ 23 (.nilCheck (.t 14)),
 o_ 24 (.fieldAddr 4 (.t 23)),
 o_ 25 (.fieldAddr 4 (.t 24)),
 ⟨none, none, false, .store 1 (.t 25) (.t 22), .none⟩])⟩
theorem c131 : cFunc Go.Proofs.Tryd.prog p131 131 = some a131 := by decide +kernel
def p152 : Plan := ⟨[], 0, [],
 [[0, 1, 7, 8]]⟩
def a152 : AFunc := ⟨2, 19, 0, [.tmp 4],
 .seq (.region false [o_ 4 (.mv (.c (.int .i64 0)))])
 (.seq (.seq (.region false [o_ 6 (.mv (.t 0)),
 o_ 7 (.lenSl (.t 6)),
 o_ 8 (.mv (.c (.int .i64 0)))])
 (.block 0 (.loop [0, 1, 7, 8] (.seq (.region false [o_ 9 (.bin .lss (.t 8) (.t 7))])
 (.seq (.cond (.t 9)
 (.skip)
 (.exit 0))
 (.seq (.block 1 (.seq (.region false [o_ 10 (.mv (.t 8)),
 o_ 5 (.mv (.t 10))])
 (.seq (.region false [o_ 11 (.mv (.t 1)),
 o_ 12 (.mv (.t 0)),
 o_ 13 (.mv (.t 5)),
 o_ 14 (.indexSl 1 (.t 12) (.t 13)),
 o_ 15 (.load false 1 (.t 14) .copy),
 o_ 16 (.bin .eql (.t 11) (.t 15))])
 (.cond (.t 16)
 (.seq (.region false [o_ 17 (.mv (.t 5)),
 o_ 4 (.mv (.t 17))])
 (.ret))
 (.skip)))))
 (.region false [o_ 18 (.bin .add (.t 8) (.c (.int .i64 1))),
 o_ 8 (.mv (.t 18))])))))))
 (.seq (.region false [o_ 4 (.mv (.c (.int .i64 (-1))))])
 (.ret)))⟩
theorem c152 : cFunc Go.Proofs.Tryd.prog p152 152 = some a152 := by decide +kernel
def p132 : Plan := ⟨[], 0, [((1, 2), { uses := [(5, .share)] })],
 []⟩
def a132 : AFunc := ⟨2, 9, 0, [.tmp 4],
 .seq (.region false [o_ 4 (.mv (.c (.bool false)))])
 (.seq (.region false [o_ 5 (.mv (.t 0)),
 o_ 6 (.mv (.t 1)),
 o_ 7 (.callF 152 [(.u 5 .share), (.t 6)]),
 o_ 8 (.bin .geq (.t 7) (.c (.int .i64 0))),
 o_ 4 (.mv (.t 8))])
 (.ret))⟩
theorem c132 : cFunc Go.Proofs.Tryd.prog p132 132 = some a132 := by decide +kernel
def p106 : Plan := ⟨[], 0, [((4, 8), { uses := [(31, .take)] }),
 ((4, 10), { uses := [(32, .share)] }),
 ((8, 8), { uses := [(60, .share)] })],
 []⟩
def a106 : AFunc := ⟨2, 65, 0, [],
 .seq (.block 0 (.seq (.region false [o_ 5 (.mv (.t 1)),
 o_ 6 (.bin .lss (.t 5) (.c (.int .u8 48))),
 o_ 4 (.mv (.t 6))])
 (.cond (.t 4)
 (.seq (.region false [o_ 7 (.mv (.t 0)),
 o_ 8 (.mv (.t 1)),
 o_ 9 (.callF 131 [(.t 7), (.t 8)])])
 (.ret))
 (.seq (.region false [o_ 11 (.mv (.t 1)),
 o_ 12 (.bin .eql (.t 11) (.c (.int .u8 91))),
 o_ 13 (.mv (.t 12)),
 ⟨(some 14), (some (13, true)), false, .mv (.t 0), .none⟩,
 ⟨(some 15), (some (13, true)), false, .nilCheck (.t 14), .none⟩,
 ⟨(some 16), (some (13, true)), false, .fieldAddr 4 (.t 15), .none⟩,
 ⟨(some 17), (some (13, true)), false, .fieldAddr 4 (.t 16), .none⟩,
 ⟨(some 18), (some (13, true)), false, .load false 1 (.t 17) .copy, .none⟩,
 ⟨(some 19), (some (13, true)), false, .bin .eql (.t 18) (.c (.str [])), .none⟩,
 o_ 20 (.pick (.t 13) (.t 19) (.c (.bool false))),
 o_ 10 (.mv (.t 20))])
 (.cond (.t 10)
 (.seq (.region false [o_ 21 (.mv (.t 0)),
 o_ 22 (.callF 87 [(.t 21), (.c (.int .i64 2))])])
 (.ret))
 (.seq (.region false [o_ 24 (.mv (.t 0)),
 o_ 25 (.nilCheck (.t 24)),
 o_ 26 (.fieldAddr 4 (.t 25)),
 o_ 27 (.fieldAddr 4 (.t 26)),
 o_ 28 (.load false 1 (.t 27) .copy),
 o_ 29 (.bin .eql (.t 28) (.c (.str []))),
 o_ 30 (.mv (.t 29)),
 ⟨(some 31), (some (30, true)), false, .buildSlice 1 [(.int .u8 0)] 5 [(0, (.c (.int .u8 93))), (1, (.c (.int .u8 80))), (2, (.c (.int .u8 88))), (3, (.c (.int .u8 94))), (4, (.c (.int .u8 95)))], .none⟩,
 ⟨(some 32), (some (30, true)), false, .convB (.u 31 .take), .none⟩,
 ⟨(some 33), (some (30, true)), false, .mv (.t 1), .none⟩,
 ⟨(some 34), (some (30, true)), false, .callF 132 [(.u 32 .share), (.t 33)], .none⟩,
 o_ 35 (.pick (.t 30) (.t 34) (.c (.bool false))),
 o_ 23 (.mv (.t 35))])
 (.cond (.t 23)
 (.seq (.region false [o_ 36 (.mv (.t 0)),
 o_ 37 (.callF 87 [(.t 36), (.c (.int .i64 3))])])
 (.seq (.region false [o_ 38 (.mv (.t 0)),
 o_ 39 (.mv (.t 1)),
 o_ 40 (.nilCheck (.t 38)),
 o_ 41 (.fieldAddr 4 (.t 40)),
 o_ 42 (.fieldAddr 2 (.t 41)),
 ⟨none, none, false, .store 1 (.t 42) (.t 39), .none⟩])
 (.ret)))
 (.seq (.region false [o_ 44 (.mv (.t 1)),
 o_ 45 (.bin .lss (.t 44) (.c (.int .u8 127))),
 o_ 46 (.mv (.t 45)),
 ⟨(some 47), (some (46, true)), false, .mv (.t 0), .none⟩,
 ⟨(some 48), (some (46, true)), false, .nilCheck (.t 47), .none⟩,
 ⟨(some 49), (some (46, true)), false, .fieldAddr 2 (.t 48), .none⟩,
 ⟨(some 50), (some (46, true)), false, .load false 1 (.t 49) .copy, .none⟩,
 ⟨(some 51), (some (46, true)), false, .un .not (.t 50), .none⟩,
 o_ 52 (.pick (.t 46) (.t 51) (.c (.bool false))),
 o_ 43 (.mv (.t 52))])
 (.cond (.t 43)
 (.region false [o_ 53 (.mv (.t 0)),
 o_ 54 (.mv (.t 0)),
 o_ 55 (.nilCheck (.t 54)),
 o_ 56 (.fieldAddr 4 (.t 55)),
 o_ 57 (.fieldAddr 4 (.t 56)),
 o_ 58 (.load false 1 (.t 57) .copy),
 o_ 59 (.mv (.t 1)),
 o_ 60 (.build [(.int .i64 0), (.int .i32 0), (.int .u8 0), (.int .u8 0), (.str []), .nils, (.str [])] [(0, 1, (.c (.int .i64 3))), (4, 1, (.t 58)), (2, 1, (.t 59))]),
 o_ 61 (.callF 88 [(.t 53), (.u 60 .share)])])
 (.skip))))))))))
 (.region false [o_ 62 (.mv (.t 0)),
 o_ 63 (.nilCheck (.t 62)),
 o_ 64 (.fieldAddr 1 (.t 63)),
 ⟨none, none, false, .store 1 (.t 64) (.c (.int .i64 0)), .none⟩])⟩
theorem c106 : cFunc Go.Proofs.Tryd.prog p106 106 = some a106 := by decide +kernel
def p133 : Plan := ⟨[], 0, [((3, 4), { mode := .take }),
 ((3, 5), { uses := [(25, .share)] })],
 []⟩
def a133 : AFunc := ⟨2, 27, 0, [],
 .seq (.region false [o_ 4 (.mv (.t 0)),
 o_ 5 (.nilCheck (.t 4)),
 o_ 6 (.fieldAddr 1 (.t 5)),
 ⟨none, none, false, .store 1 (.t 6) (.c (.int .i64 0)), .none⟩])
 (.seq (.region false [o_ 7 (.mv (.t 0)),
 o_ 8 (.nilCheck (.t 7)),
 o_ 9 (.fieldAddr 2 (.t 8)),
 o_ 10 (.load false 1 (.t 9) .copy),
 o_ 11 (.un .not (.t 10))])
 (.cond (.t 11)
 (.seq (.region false [o_ 12 (.mv (.t 0)),
 o_ 13 (.mv (.t 0)),
 o_ 14 (.mv (.t 1)),
 o_ 15 (.nilCheck (.t 12)),
 o_ 16 (.fieldAddr 4 (.t 15)),
 o_ 17 (.fieldAddr 0 (.t 16)),
 ⟨none, none, false, .store 1 (.t 17) (.c (.int .i64 4)), .none⟩,
 o_ 18 (.nilCheck (.t 13)),
 o_ 19 (.fieldAddr 4 (.t 18)),
 o_ 20 (.fieldAddr 2 (.t 19)),
 ⟨none, none, false, .store 1 (.t 20) (.t 14), .none⟩])
 (.region false [o_ 21 (.mv (.t 0)),
 o_ 22 (.mv (.t 0)),
 o_ 23 (.nilCheck (.t 22)),
 o_ 24 (.fieldAddr 4 (.t 23)),
 o_ 25 (.load true 7 (.t 24) .take),
 o_ 26 (.callF 88 [(.t 21), (.u 25 .share)])]))
 (.skip)))⟩
theorem c133 : cFunc Go.Proofs.Tryd.prog p133 133 = some a133 := by decide +kernel
def p134 : Plan := ⟨[], 0, [((2, 5), { uses := [(14, .take)] }),
 ((6, 5), { mode := .take }),
 ((6, 7), { uses := [(37, .take), (38, .take)] }),
 ((6, 11), { uses := [(39, .take)] }),
 ((8, 4), { mode := .peek }),
 ((8, 11), { mark := .mem })],
 []⟩
def a134 : AFunc := ⟨2, 71, 0, [],
 .seq (.seq (.region false [o_ 5 (.mv (.t 0)),
 o_ 6 (.nilCheck (.t 5)),
 o_ 7 (.fieldAddr 11 (.t 6)),
 o_ 8 (.load false 1 (.t 7) .copy),
 o_ 9 (.bin .eql (.t 8) (.c (.int .i64 0)))])
 (.cond (.t 9)
 (.seq (.region false [o_ 10 (.mv (.t 0)),
 o_ 11 (.nilCheck (.t 10)),
 o_ 12 (.fieldAddr 11 (.t 11)),
 ⟨none, none, false, .store 1 (.t 12) (.c (.int .i64 1)), .none⟩])
 (.region false [o_ 13 (.mv (.t 0)),
 o_ 14 (.buildSlice 1 [(.int .i64 0)] 1 [(0, (.c (.int .i64 (-1))))]),
 o_ 15 (.nilCheck (.t 13)),
 o_ 16 (.fieldAddr 4 (.t 15)),
 o_ 17 (.fieldAddr 5 (.t 16)),
 ⟨none, none, false, .store 1 (.t 17) (.u 14 .take), .none⟩]))
 (.skip)))
 (.seq (.seq (.region false [o_ 18 (.mv (.t 1)),
 o_ 19 (.bin .eql (.t 18) (.c (.int .u8 59)))])
 (.cond (.t 19)
 (.seq (.region false [o_ 20 (.mv (.t 0)),
 o_ 21 (.nilCheck (.t 20)),
 o_ 22 (.fieldAddr 11 (.t 21)),
 o_ 23 (.load false 1 (.t 22) .copy),
 o_ 24 (.bin .add (.t 23) (.c (.int .i64 1))),
 o_ 25 (.nilCheck (.t 20)),
 o_ 26 (.fieldAddr 11 (.t 25)),
 ⟨none, none, false, .store 1 (.t 26) (.t 24), .none⟩])
 (.seq (.seq (.region false [o_ 27 (.mv (.t 0)),
 o_ 28 (.nilCheck (.t 27)),
 o_ 29 (.fieldAddr 11 (.t 28)),
 o_ 30 (.load false 1 (.t 29) .copy),
 o_ 31 (.bin .leq (.t 30) (.c (.int .i64 16)))])
 (.cond (.t 31)
 (.region false [o_ 32 (.mv (.t 0)),
 o_ 33 (.mv (.t 0)),
 o_ 34 (.nilCheck (.t 33)),
 o_ 35 (.fieldAddr 4 (.t 34)),
 o_ 36 (.fieldAddr 5 (.t 35)),
 o_ 37 (.load false 1 (.t 36) .take),
 o_ 38 (.buildSlice 1 [(.int .i64 0)] 1 [(0, (.c (.int .i64 (-1))))]),
 o_ 39 (.append 1 (.u 37 .take) (.u 38 .take)),
 o_ 40 (.nilCheck (.t 32)),
 o_ 41 (.fieldAddr 4 (.t 40)),
 o_ 42 (.fieldAddr 5 (.t 41)),
 ⟨none, none, false, .store 1 (.t 42) (.u 39 .take), .none⟩])
 (.skip)))
 (.ret)))
 (.skip)))
 (.seq (.region false [o_ 43 (.mv (.t 0)),
 o_ 44 (.nilCheck (.t 43)),
 o_ 45 (.fieldAddr 11 (.t 44)),
 o_ 46 (.load false 1 (.t 45) .copy),
 o_ 47 (.bin .leq (.t 46) (.c (.int .i64 16)))])
 (.cond (.t 47)
 (.seq (.region true [o_ 48 (.mv (.t 0)),
 o_ 49 (.nilCheck (.t 48)),
 o_ 50 (.fieldAddr 4 (.t 49)),
 o_ 51 (.fieldAddr 5 (.t 50)),
 o_ 52 (.load false 1 (.t 51) .peek),
 o_ 53 (.mv (.t 0)),
 o_ 54 (.nilCheck (.t 53)),
 o_ 55 (.fieldAddr 11 (.t 54)),
 o_ 56 (.load false 1 (.t 55) .copy),
 o_ 57 (.bin .sub (.t 56) (.c (.int .i64 1))),
 o_ 58 (.indexSl 1 (.t 52) (.t 57)),
 ⟨(some 4), none, false, .mv (.t 58), .mem⟩])
 (.region false [o_ 59 (.mv (.t 4)),
 o_ 60 (.mv (.t 4)),
 o_ 61 (.nilCheck (.t 60)),
 o_ 62 (.load false 1 (.t 61) .copy),
 o_ 63 (.minMax true (.t 62) [(.c (.int .i64 0))]),
 o_ 64 (.bin .mul (.t 63) (.c (.int .i64 10))),
 o_ 65 (.mv (.t 1)),
 o_ 66 (.bin .sub (.t 65) (.c (.int .u8 48))),
 o_ 67 (.conv .i64 (.t 66)),
 o_ 68 (.bin .add (.t 64) (.t 67)),
 o_ 69 (.minMax false (.t 68) [(.c (.int .i64 9999))]),
 o_ 70 (.nilCheck (.t 59)),
 ⟨none, none, false, .store 1 (.t 70) (.t 69), .none⟩]))
 (.skip))))⟩
theorem c134 : cFunc Go.Proofs.Tryd.prog p134 134 = some a134 := by decide +kernel
def p107 : Plan := ⟨[], 0, [],
 []⟩
def a107 : AFunc := ⟨2, 62, 0, [],
 .seq (.region false [o_ 5 (.mv (.t 0)),
 o_ 6 (.nilCheck (.t 5)),
 o_ 7 (.fieldAddr 3 (.t 6)),
 o_ 8 (.load false 1 (.t 7) .copy),
 o_ 4 (.mv (.t 8))])
 (.seq (.region false [o_ 9 (.mv (.t 0)),
 o_ 10 (.nilCheck (.t 9)),
 o_ 11 (.fieldAddr 3 (.t 10)),
 ⟨none, none, false, .store 1 (.t 11) (.c (.bool false)), .none⟩])
 (.block 0 (.seq (.region false [o_ 16 (.mv (.t 1)),
 o_ 17 (.bin .geq (.t 16) (.c (.int .u8 128))),
 o_ 15 (.mv (.t 17))])
 (.cond (.t 15)
 (.region false [o_ 18 (.mv (.t 0)),
 o_ 19 (.nilCheck (.t 18)),
 o_ 20 (.fieldAddr 1 (.t 19)),
 ⟨none, none, false, .store 1 (.t 20) (.c (.int .i64 0)), .none⟩])
 (.seq (.region false [o_ 22 (.mv (.t 1)),
 o_ 23 (.bin .lss (.t 22) (.c (.int .u8 48))),
 o_ 21 (.mv (.t 23))])
 (.cond (.t 21)
 (.region false [o_ 24 (.mv (.t 0)),
 o_ 25 (.mv (.t 1)),
 o_ 26 (.callF 131 [(.t 24), (.t 25)])])
 (.seq (.region false [o_ 28 (.mv (.t 1)),
 o_ 29 (.bin .geq (.t 28) (.c (.int .u8 64))),
 o_ 27 (.mv (.t 29))])
 (.cond (.t 27)
 (.region false [o_ 30 (.mv (.t 0)),
 o_ 31 (.mv (.t 1)),
 o_ 32 (.callF 133 [(.t 30), (.t 31)])])
 (.seq (.region false [o_ 34 (.mv (.t 1)),
 o_ 35 (.bin .geq (.t 34) (.c (.int .u8 60))),
 o_ 36 (.mv (.t 35)),
 ⟨(some 37), (some (36, true)), false, .mv (.t 4), .none⟩,
 o_ 38 (.pick (.t 36) (.t 37) (.c (.bool false))),
 o_ 33 (.mv (.t 38))])
 (.cond (.t 33)
 (.region false [o_ 39 (.mv (.t 0)),
 o_ 40 (.mv (.t 1)),
 o_ 41 (.nilCheck (.t 39)),
 o_ 42 (.fieldAddr 4 (.t 41)),
 o_ 43 (.fieldAddr 3 (.t 42)),
 ⟨none, none, false, .store 1 (.t 43) (.t 40), .none⟩])
 (.seq (.region false [o_ 45 (.mv (.t 1)),
 o_ 46 (.bin .eql (.t 45) (.c (.int .u8 58))),
 o_ 47 (.mv (.t 46)),
 ⟨(some 48), (some (47, false)), false, .mv (.t 1), .none⟩,
 ⟨(some 49), (some (47, false)), false, .bin .geq (.t 48) (.c (.int .u8 60)), .none⟩,
 o_ 50 (.pick (.t 47) (.c (.bool true)) (.t 49)),
 o_ 51 (.mv (.t 50)),
 ⟨(some 52), (some (51, false)), false, .mv (.t 0), .none⟩,
 ⟨(some 53), (some (51, false)), false, .nilCheck (.t 52), .none⟩,
 ⟨(some 54), (some (51, false)), false, .fieldAddr 4 (.t 53), .none⟩,
 ⟨(some 55), (some (51, false)), false, .fieldAddr 4 (.t 54), .none⟩,
 ⟨(some 56), (some (51, false)), false, .load false 1 (.t 55) .copy, .none⟩,
 ⟨(some 57), (some (51, false)), false, .bin .neq (.t 56) (.c (.str [])), .none⟩,
 o_ 58 (.pick (.t 51) (.c (.bool true)) (.t 57)),
 o_ 44 (.mv (.t 58))])
 (.cond (.t 44)
 (.region false [o_ 59 (.mv (.t 0)),
 o_ 60 (.nilCheck (.t 59)),
 o_ 61 (.fieldAddr 2 (.t 60)),
 ⟨none, none, false, .store 1 (.t 61) (.c (.bool true)), .none⟩])
 (.region false [o_ 12 (.mv (.t 0)),
 o_ 13 (.mv (.t 1)),
 o_ 14 (.callF 134 [(.t 12), (.t 13)])])))))))))))))⟩
theorem c107 : cFunc Go.Proofs.Tryd.prog p107 107 = some a107 := by decide +kernel
def p135 : Plan := ⟨[], 0, [((1, 9), { mode := .peek }),
 ((1, 12), { uses := [(16, .share)] })],
 []⟩
def a135 : AFunc := ⟨1, 18, 0, [],
 .seq (.region false [o_ 2 (.mv (.t 0)),
 o_ 3 (.nilCheck (.t 2)),
 o_ 4 (.fieldAddr 1 (.t 3)),
 ⟨none, none, false, .store 1 (.t 4) (.c (.int .i64 0)), .none⟩])
 (.region true [o_ 5 (.mv (.t 0)),
 o_ 6 (.mv (.t 0)),
 o_ 7 (.nilCheck (.t 6)),
 o_ 8 (.fieldAddr 4 (.t 7)),
 o_ 9 (.fieldAddr 2 (.t 8)),
 o_ 10 (.load false 1 (.t 9) .copy),
 o_ 11 (.mv (.t 0)),
 o_ 12 (.nilCheck (.t 11)),
 o_ 13 (.fieldAddr 12 (.t 12)),
 o_ 14 (.load false 1 (.t 13) .peek),
 o_ 15 (.bytesStr (.t 14)),
 o_ 16 (.build [(.int .i64 0), (.int .i32 0), (.int .u8 0), (.int .u8 0), (.str []), .nils, (.str [])] [(0, 1, (.c (.int .i64 5))), (2, 1, (.t 10)), (6, 1, (.t 15))]),
 o_ 17 (.callF 88 [(.t 5), (.u 16 .share)])])⟩
theorem c135 : cFunc Go.Proofs.Tryd.prog p135 135 = some a135 := by decide +kernel
def p108 : Plan := ⟨[], 0, [((6, 6), { mode := .peek }),
 ((7, 4), { mode := .take }),
 ((7, 7), { uses := [(40, .take), (42, .take)] }),
 ((7, 10), { uses := [(43, .take)] })],
 []⟩
def a108 : AFunc := ⟨2, 46, 0, [],
 .block 0 (.seq (.region false [o_ 5 (.mv (.t 1)),
 o_ 6 (.bin .eql (.t 5) (.c (.int .u8 7))),
 o_ 4 (.mv (.t 6))])
 (.cond (.t 4)
 (.region false [o_ 7 (.mv (.t 0)),
 o_ 8 (.callF 135 [(.t 7)])])
 (.seq (.region false [o_ 10 (.mv (.t 1)),
 o_ 11 (.bin .eql (.t 10) (.c (.int .u8 27))),
 o_ 9 (.mv (.t 11))])
 (.cond (.t 9)
 (.region false [o_ 12 (.mv (.t 0)),
 o_ 13 (.nilCheck (.t 12)),
 o_ 14 (.fieldAddr 1 (.t 13)),
 ⟨none, none, false, .store 1 (.t 14) (.c (.int .i64 4)), .none⟩])
 (.seq (.region false [o_ 16 (.mv (.t 1)),
 o_ 17 (.bin .eql (.t 16) (.c (.int .u8 24))),
 o_ 18 (.mv (.t 17)),
 ⟨(some 19), (some (18, false)), false, .mv (.t 1), .none⟩,
 ⟨(some 20), (some (18, false)), false, .bin .eql (.t 19) (.c (.int .u8 26)), .none⟩,
 o_ 21 (.pick (.t 18) (.c (.bool true)) (.t 20)),
 o_ 15 (.mv (.t 21))])
 (.cond (.t 15)
 (.region false [o_ 22 (.mv (.t 0)),
 o_ 23 (.nilCheck (.t 22)),
 o_ 24 (.fieldAddr 1 (.t 23)),
 ⟨none, none, false, .store 1 (.t 24) (.c (.int .i64 0)), .none⟩])
 (.seq (.region false [o_ 26 (.mv (.t 1)),
 o_ 27 (.bin .geq (.t 26) (.c (.int .u8 32))),
 o_ 28 (.mv (.t 27)),
 ⟨(some 29), (some (28, true)), false, .mv (.t 0), .none⟩,
 ⟨(some 30), (some (28, true)), false, .nilCheck (.t 29), .none⟩,
 ⟨(some 31), (some (28, true)), false, .fieldAddr 12 (.t 30), .none⟩,
 ⟨(some 32), (some (28, true)), false, .load false 1 (.t 31) .peek, .none⟩,
 ⟨(some 33), (some (28, true)), false, .lenSl (.t 32), .none⟩,
 ⟨(some 34), (some (28, true)), false, .bin .lss (.t 33) (.c (.int .i64 256)), .none⟩,
 o_ 35 (.pick (.t 28) (.t 34) (.c (.bool false))),
 o_ 25 (.mv (.t 35))])
 (.cond (.t 25)
 (.region false [o_ 36 (.mv (.t 0)),
 o_ 37 (.mv (.t 0)),
 o_ 38 (.nilCheck (.t 37)),
 o_ 39 (.fieldAddr 12 (.t 38)),
 o_ 40 (.load false 1 (.t 39) .take),
 o_ 41 (.mv (.t 1)),
 o_ 42 (.buildSlice 1 [(.int .u8 0)] 1 [(0, (.t 41))]),
 o_ 43 (.append 1 (.u 40 .take) (.u 42 .take)),
 o_ 44 (.nilCheck (.t 36)),
 o_ 45 (.fieldAddr 12 (.t 44)),
 ⟨none, none, false, .store 1 (.t 45) (.u 43 .take), .none⟩])
 (.skip)))))))))⟩
theorem c108 : cFunc Go.Proofs.Tryd.prog p108 108 = some a108 := by decide +kernel
def p111 : Plan := ⟨[], 1, [((10, 4), { box := some 0 })],
 []⟩
def a111 : AFunc := ⟨1, 122, 1, [.tmp 2, .tmp 3],
 .seq (.region false [o_ 2 (.mv (.c (.int .i32 0))),
 o_ 3 (.mv (.c (.int .i64 0)))])
 (.seq (.region false [o_ 13 (.mv (.t 0)),
 o_ 14 (.lenSl (.t 13)),
 o_ 4 (.mv (.t 14))])
 (.seq (.seq (.region false [o_ 15 (.mv (.t 4)),
 o_ 16 (.bin .lss (.t 15) (.c (.int .i64 1)))])
 (.cond (.t 16)
 (.seq (.region false [o_ 2 (.mv (.c (.int .i32 65533))),
 o_ 3 (.mv (.c (.int .i64 0)))])
 (.ret))
 (.skip)))
 (.seq (.region false [o_ 17 (.mv (.t 0)),
 o_ 18 (.indexSl 1 (.t 17) (.c (.int .i64 0))),
 o_ 19 (.load false 1 (.t 18) .copy),
 o_ 5 (.mv (.t 19))])
 (.seq (.region false [o_ 20 (.mv (.t 5)),
 o_ 21 (.indexSl 1 (.c (.slice false 1 tab1)) (.t 20)),
 o_ 22 (.load false 1 (.t 21) .copy),
 o_ 6 (.mv (.t 22))])
 (.seq (.seq (.region false [o_ 23 (.mv (.t 6)),
 o_ 24 (.bin .geq (.t 23) (.c (.int .u8 240)))])
 (.cond (.t 24)
 (.seq (.region false [o_ 25 (.mv (.t 6)),
 o_ 26 (.conv .i32 (.t 25)),
 o_ 27 (.bin .shl (.t 26) (.c (.int .u64 31))),
 o_ 28 (.bin .shr (.t 27) (.c (.int .u64 31))),
 o_ 7 (.mv (.t 28))])
 (.seq (.region false [o_ 29 (.mv (.t 0)),
 o_ 30 (.indexSl 1 (.t 29) (.c (.int .i64 0))),
 o_ 31 (.load false 1 (.t 30) .copy),
 o_ 32 (.conv .i32 (.t 31)),
 o_ 33 (.mv (.t 7)),
 o_ 34 (.bin .andNot (.t 32) (.t 33)),
 o_ 35 (.mv (.t 7)),
 o_ 36 (.bin .and (.c (.int .i32 65533)) (.t 35)),
 o_ 37 (.bin .or (.t 34) (.t 36)),
 o_ 2 (.mv (.t 37)),
 o_ 3 (.mv (.c (.int .i64 1)))])
 (.ret)))
 (.skip)))
 (.seq (.region false [o_ 38 (.mv (.t 6)),
 o_ 39 (.bin .and (.t 38) (.c (.int .u8 7))),
 o_ 40 (.conv .i64 (.t 39)),
 o_ 8 (.mv (.t 40))])
 (.seq (.region false [o_ 41 (.mv (.t 6)),
 o_ 42 (.bin .shr (.t 41) (.c (.int .u64 4))),
 o_ 43 (.indexSl 2 (.c (.slice false 2 tab2)) (.t 42)),
 o_ 44 (.load true 2 (.t 43) .copy),
 o_ 9 (.allocL 0 [(.int .u8 0), (.int .u8 0)]),
 ⟨none, none, false, .store 2 (.t 9) (.t 44), .none⟩])
 (.seq (.seq (.region false [o_ 45 (.mv (.t 4)),
 o_ 46 (.mv (.t 8)),
 o_ 47 (.bin .lss (.t 45) (.t 46))])
 (.cond (.t 47)
 (.seq (.region false [o_ 2 (.mv (.c (.int .i32 65533))),
 o_ 3 (.mv (.c (.int .i64 1)))])
 (.ret))
 (.skip)))
 (.seq (.region false [o_ 48 (.mv (.t 0)),
 o_ 49 (.indexSl 1 (.t 48) (.c (.int .i64 1))),
 o_ 50 (.load false 1 (.t 49) .copy),
 o_ 10 (.mv (.t 50))])
 (.seq (.seq (.region false [o_ 51 (.mv (.t 10)),
 o_ 52 (.fieldAddr 0 (.t 9)),
 o_ 53 (.load false 1 (.t 52) .copy),
 o_ 54 (.bin .lss (.t 51) (.t 53)),
 o_ 55 (.mv (.t 54)),
 ⟨(some 56), (some (55, false)), false, .fieldAddr 1 (.t 9), .none⟩,
 ⟨(some 57), (some (55, false)), false, .load false 1 (.t 56) .copy, .none⟩,
 ⟨(some 58), (some (55, false)), false, .mv (.t 10), .none⟩,
 ⟨(some 59), (some (55, false)), false, .bin .lss (.t 57) (.t 58), .none⟩,
 o_ 60 (.pick (.t 55) (.c (.bool true)) (.t 59))])
 (.cond (.t 60)
 (.seq (.region false [o_ 2 (.mv (.c (.int .i32 65533))),
 o_ 3 (.mv (.c (.int .i64 1)))])
 (.ret))
 (.skip)))
 (.seq (.seq (.region false [o_ 61 (.mv (.t 8)),
 o_ 62 (.bin .leq (.t 61) (.c (.int .i64 2)))])
 (.cond (.t 62)
 (.seq (.region false [o_ 63 (.mv (.t 5)),
 o_ 64 (.bin .and (.t 63) (.c (.int .u8 31))),
 o_ 65 (.conv .i32 (.t 64)),
 o_ 66 (.bin .shl (.t 65) (.c (.int .u64 6))),
 o_ 67 (.mv (.t 10)),
 o_ 68 (.bin .and (.t 67) (.c (.int .u8 63))),
 o_ 69 (.conv .i32 (.t 68)),
 o_ 70 (.bin .or (.t 66) (.t 69)),
 o_ 2 (.mv (.t 70)),
 o_ 3 (.mv (.c (.int .i64 2)))])
 (.ret))
 (.skip)))
 (.seq (.region false [o_ 71 (.mv (.t 0)),
 o_ 72 (.indexSl 1 (.t 71) (.c (.int .i64 2))),
 o_ 73 (.load false 1 (.t 72) .copy),
 o_ 11 (.mv (.t 73))])
 (.seq (.seq (.region false [o_ 74 (.mv (.t 11)),
 o_ 75 (.bin .lss (.t 74) (.c (.int .u8 128))),
 o_ 76 (.mv (.t 75)),
 ⟨(some 77), (some (76, false)), false, .mv (.t 11), .none⟩,
 ⟨(some 78), (some (76, false)), false, .bin .lss (.c (.int .u8 191)) (.t 77), .none⟩,
 o_ 79 (.pick (.t 76) (.c (.bool true)) (.t 78))])
 (.cond (.t 79)
 (.seq (.region false [o_ 2 (.mv (.c (.int .i32 65533))),
 o_ 3 (.mv (.c (.int .i64 1)))])
 (.ret))
 (.skip)))
 (.seq (.seq (.region false [o_ 80 (.mv (.t 8)),
 o_ 81 (.bin .leq (.t 80) (.c (.int .i64 3)))])
 (.cond (.t 81)
 (.seq (.region false [o_ 82 (.mv (.t 5)),
 o_ 83 (.bin .and (.t 82) (.c (.int .u8 15))),
 o_ 84 (.conv .i32 (.t 83)),
 o_ 85 (.bin .shl (.t 84) (.c (.int .u64 12))),
 o_ 86 (.mv (.t 10)),
 o_ 87 (.bin .and (.t 86) (.c (.int .u8 63))),
 o_ 88 (.conv .i32 (.t 87)),
 o_ 89 (.bin .shl (.t 88) (.c (.int .u64 6))),
 o_ 90 (.bin .or (.t 85) (.t 89)),
 o_ 91 (.mv (.t 11)),
 o_ 92 (.bin .and (.t 91) (.c (.int .u8 63))),
 o_ 93 (.conv .i32 (.t 92)),
 o_ 94 (.bin .or (.t 90) (.t 93)),
 o_ 2 (.mv (.t 94)),
 o_ 3 (.mv (.c (.int .i64 3)))])
 (.ret))
 (.skip)))
 (.seq (.region false [o_ 95 (.mv (.t 0)),
 o_ 96 (.indexSl 1 (.t 95) (.c (.int .i64 3))),
 o_ 97 (.load false 1 (.t 96) .copy),
 o_ 12 (.mv (.t 97))])
 (.seq (.seq (.region false [o_ 98 (.mv (.t 12)),
 o_ 99 (.bin .lss (.t 98) (.c (.int .u8 128))),
 o_ 100 (.mv (.t 99)),
 ⟨(some 101), (some (100, false)), false, .mv (.t 12), .none⟩,
 ⟨(some 102), (some (100, false)), false, .bin .lss (.c (.int .u8 191)) (.t 101), .none⟩,
 o_ 103 (.pick (.t 100) (.c (.bool true)) (.t 102))])
 (.cond (.t 103)
 (.seq (.region false [o_ 2 (.mv (.c (.int .i32 65533))),
 o_ 3 (.mv (.c (.int .i64 1)))])
 (.ret))
 (.skip)))
 (.seq (.region false [o_ 104 (.mv (.t 5)),
 o_ 105 (.bin .and (.t 104) (.c (.int .u8 7))),
 o_ 106 (.conv .i32 (.t 105)),
 o_ 107 (.bin .shl (.t 106) (.c (.int .u64 18))),
 o_ 108 (.mv (.t 10)),
 o_ 109 (.bin .and (.t 108) (.c (.int .u8 63))),
 o_ 110 (.conv .i32 (.t 109)),
 o_ 111 (.bin .shl (.t 110) (.c (.int .u64 12))),
 o_ 112 (.bin .or (.t 107) (.t 111)),
 o_ 113 (.mv (.t 11)),
 o_ 114 (.bin .and (.t 113) (.c (.int .u8 63))),
 o_ 115 (.conv .i32 (.t 114)),
 o_ 116 (.bin .shl (.t 115) (.c (.int .u64 6))),
 o_ 117 (.bin .or (.t 112) (.t 116)),
 o_ 118 (.mv (.t 12)),
 o_ 119 (.bin .and (.t 118) (.c (.int .u8 63))),
 o_ 120 (.conv .i32 (.t 119)),
 o_ 121 (.bin .or (.t 117) (.t 120)),
 o_ 2 (.mv (.t 121)),
 o_ 3 (.mv (.c (.int .i64 4)))])
 (.ret))))))))))))))))))⟩
theorem c111 : cFunc Go.Proofs.Tryd.prog p111 111 = some a111 := by decide +kernel
def p91 : Plan := ⟨[], 0, [((7, 1), { uses := [(18, .share)] })],
 [[0, 6, 7, 8]]⟩
def a91 : AFunc := ⟨1, 22, 0, [.tmp 2, .tmp 3],
 .seq (.region false [o_ 2 (.mv (.c (.int .i32 0))),
 o_ 3 (.mv (.c (.int .i64 0)))])
 (.seq (.seq (.region false [o_ 6 (.mv (.t 0)),
 o_ 7 (.lenSl (.t 6)),
 o_ 8 (.mv (.c (.int .i64 0)))])
 (.block 0 (.loop [0, 6, 7, 8] (.seq (.region false [o_ 9 (.bin .lss (.t 8) (.t 7))])
 (.seq (.cond (.t 9)
 (.skip)
 (.exit 0))
 (.seq (.block 1 (.seq (.region false [o_ 10 (.indexSl 1 (.t 6) (.t 8)),
 o_ 11 (.load false 1 (.t 10) .copy),
 o_ 5 (.mv (.t 11))])
 (.seq (.seq (.region false [o_ 12 (.mv (.t 5)),
 o_ 13 (.bin .lss (.t 12) (.c (.int .u8 128)))])
 (.cond (.t 13)
 (.seq (.region false [o_ 14 (.mv (.t 5)),
 o_ 15 (.conv .i32 (.t 14)),
 o_ 2 (.mv (.t 15)),
 o_ 3 (.mv (.c (.int .i64 1)))])
 (.ret))
 (.skip)))
 (.exit 0))))
 (.region false [o_ 16 (.bin .add (.t 8) (.c (.int .i64 1))),
 o_ 8 (.mv (.t 16))])))))))
 (.seq (.region false [o_ 18 (.mv (.t 0)),
 o_ 19 (.callF 111 [(.u 18 .share)]),
 o_ 17 (.mv (.t 19)),
 o_ 20 (.extract (.t 17) 0),
 o_ 21 (.extract (.t 17) 1),
 o_ 2 (.mv (.t 20)),
 o_ 3 (.mv (.t 21))])
 (.ret)))⟩
theorem c91 : cFunc Go.Proofs.Tryd.prog p91 91 = some a91 := by decide +kernel
def p153 : Plan := ⟨[], 0, [((3, 2), { uses := [(5, .take), (6, .take)] }),
 ((3, 3), { uses := [(7, .take)] })],
 []⟩
def a153 : AFunc := ⟨1, 8, 0, [.tmp 2],
 .seq (.region false [o_ 2 (.mv (.c .nils))])
 (.seq (.seq (.region false [o_ 3 (.mv (.t 0)),
 o_ 4 (.eq false .slice (.t 3) (.c .nils))])
 (.cond (.t 4)
 (.seq (.region false [o_ 2 (.mv (.c .nils))])
 (.ret))
 (.skip)))
 (.seq (.region false [o_ 5 (.buildSlice 1 [(.int .u8 0)] 0 []),
 o_ 6 (.mv (.t 0)),
 o_ 7 (.append 1 (.u 5 .take) (.u 6 .take)),
 o_ 2 (.mv (.u 7 .take))])
 (.ret)))⟩
theorem c153 : cFunc Go.Proofs.Tryd.prog p153 153 = some a153 := by decide +kernel
def p154 : Plan := ⟨[], 1, [((7, 4), { box := some 0 })],
 []⟩
def a154 : AFunc := ⟨1, 56, 1, [.tmp 2],
 .seq (.region false [o_ 2 (.mv (.c (.bool false)))])
 (.seq (.region false [o_ 6 (.mv (.t 0)),
 o_ 7 (.lenSl (.t 6)),
 o_ 3 (.mv (.t 7))])
 (.seq (.seq (.region false [o_ 8 (.mv (.t 3)),
 o_ 9 (.bin .eql (.t 8) (.c (.int .i64 0)))])
 (.cond (.t 9)
 (.seq (.region false [o_ 2 (.mv (.c (.bool false)))])
 (.ret))
 (.skip)))
 (.seq (.region false [o_ 10 (.mv (.t 0)),
 o_ 11 (.indexSl 1 (.t 10) (.c (.int .i64 0))),
 o_ 12 (.load false 1 (.t 11) .copy),
 o_ 13 (.indexSl 1 (.c (.slice false 1 tab1)) (.t 12)),
 o_ 14 (.load false 1 (.t 13) .copy),
 o_ 4 (.mv (.t 14))])
 (.seq (.seq (.region false [o_ 15 (.mv (.t 3)),
 o_ 16 (.mv (.t 4)),
 o_ 17 (.bin .and (.t 16) (.c (.int .u8 7))),
 o_ 18 (.conv .i64 (.t 17)),
 o_ 19 (.bin .geq (.t 15) (.t 18))])
 (.cond (.t 19)
 (.seq (.region false [o_ 2 (.mv (.c (.bool true)))])
 (.ret))
 (.skip)))
 (.seq (.region false [o_ 20 (.mv (.t 4)),
 o_ 21 (.bin .shr (.t 20) (.c (.int .u64 4))),
 o_ 22 (.indexSl 2 (.c (.slice false 2 tab2)) (.t 21)),
 o_ 23 (.load true 2 (.t 22) .copy),
 o_ 5 (.allocL 0 [(.int .u8 0), (.int .u8 0)]),
 ⟨none, none, false, .store 2 (.t 5) (.t 23), .none⟩])
 (.seq (.seq (.region true [o_ 24 (.mv (.t 3)),
 o_ 25 (.bin .gtr (.t 24) (.c (.int .i64 1))),
 o_ 26 (.mv (.t 25)),
 ⟨(some 27), (some (26, true)), false, .mv (.t 0), .none⟩,
 ⟨(some 28), (some (26, true)), false, .indexSl 1 (.t 27) (.c (.int .i64 1)), .none⟩,
 ⟨(some 29), (some (26, true)), false, .load false 1 (.t 28) .copy, .none⟩,
 ⟨(some 30), (some (26, true)), false, .fieldAddr 0 (.t 5), .none⟩,
 ⟨(some 31), (some (26, true)), false, .load false 1 (.t 30) .copy, .none⟩,
 ⟨(some 32), (some (26, true)), false, .bin .lss (.t 29) (.t 31), .none⟩,
 ⟨(some 33), (some (26, true)), false, .mv (.t 32), .none⟩,
 ⟨(some 34), (some (33, false)), false, .fieldAddr 1 (.t 5), .none⟩,
 ⟨(some 35), (some (33, false)), false, .load false 1 (.t 34) .copy, .none⟩,
 ⟨(some 36), (some (33, false)), false, .mv (.t 0), .none⟩,
 ⟨(some 37), (some (33, false)), false, .indexSl 1 (.t 36) (.c (.int .i64 1)), .none⟩,
 ⟨(some 38), (some (33, false)), false, .load false 1 (.t 37) .copy, .none⟩,
 ⟨(some 39), (some (33, false)), false, .bin .lss (.t 35) (.t 38), .none⟩,
 ⟨(some 40), (some (26, true)), false, .pick (.t 33) (.c (.bool true)) (.t 39), .none⟩,
 o_ 41 (.pick (.t 26) (.t 40) (.c (.bool false)))])
 (.cond (.t 41)
 (.seq (.region false [o_ 2 (.mv (.c (.bool true)))])
 (.ret))
 (.seq (.region false [o_ 42 (.mv (.t 3)),
 o_ 43 (.bin .gtr (.t 42) (.c (.int .i64 2))),
 o_ 44 (.mv (.t 43)),
 ⟨(some 45), (some (44, true)), false, .mv (.t 0), .none⟩,
 ⟨(some 46), (some (44, true)), false, .indexSl 1 (.t 45) (.c (.int .i64 2)), .none⟩,
 ⟨(some 47), (some (44, true)), false, .load false 1 (.t 46) .copy, .none⟩,
 ⟨(some 48), (some (44, true)), false, .bin .lss (.t 47) (.c (.int .u8 128)), .none⟩,
 ⟨(some 49), (some (44, true)), false, .mv (.t 48), .none⟩,
 ⟨(some 50), (some (49, false)), false, .mv (.t 0), .none⟩,
 ⟨(some 51), (some (49, false)), false, .indexSl 1 (.t 50) (.c (.int .i64 2)), .none⟩,
 ⟨(some 52), (some (49, false)), false, .load false 1 (.t 51) .copy, .none⟩,
 ⟨(some 53), (some (49, false)), false, .bin .lss (.c (.int .u8 191)) (.t 52), .none⟩,
 ⟨(some 54), (some (44, true)), false, .pick (.t 49) (.c (.bool true)) (.t 53), .none⟩,
 o_ 55 (.pick (.t 44) (.t 54) (.c (.bool false)))])
 (.cond (.t 55)
 (.seq (.region false [o_ 2 (.mv (.c (.bool true)))])
 (.ret))
 (.skip)))))
 (.seq (.region false [o_ 2 (.mv (.c (.bool false)))])
 (.ret))))))))⟩
theorem c154 : cFunc Go.Proofs.Tryd.prog p154 154 = some a154 := by decide +kernel
def p136 : Plan := ⟨[], 0, [((2, 4), { uses := [(12, .share)] }),
 ((2, 6), { uses := [(13, .take), (14, .take)] }),
 ((2, 7), { uses := [(15, .share)] }),
 ((3, 1), { uses := [(16, .share)] }),
 ((4, 1), { uses := [(19, .share)] }),
 ((5, 0), { uses := [(5, .take)] }),
 ((5, 3), { uses := [(23, .take), (25, .take)] }),
 ((5, 4), { uses := [(26, .take)] }),
 ((6, 3), { uses := [(29, .share)] }),
 ((7, 2), { uses := [(31, .share)] }),
 ((7, 5), { uses := [(32, .share)] }),
 ((8, 0), { uses := [(5, .take)] }),
 ((8, 1), { uses := [(35, .take)] })],
 [[0, 5, 6]]⟩
def a136 : AFunc := ⟨2, 36, 0, [.tmp 4],
 .seq (.region false [o_ 4 (.mv (.c .nils))])
 (.seq (.region false [o_ 5 (.mv (.c .nils))])
 (.seq (.region false [o_ 9 (.mv (.t 0)),
 o_ 10 (.nilCheck (.t 9)),
 o_ 11 (.fieldAddr 0 (.t 10)),
 o_ 12 (.load false 1 (.t 11) .copy),
 o_ 13 (.callF 153 [(.u 12 .share)]),
 o_ 14 (.mv (.t 1)),
 o_ 15 (.append 1 (.u 13 .take) (.u 14 .take)),
 o_ 6 (.mv (.u 15 .share))])
 (.seq (.block 0 (.loop [0, 5, 6] (.seq (.seq (.region false [o_ 16 (.mv (.t 6)),
 o_ 17 (.callF 154 [(.u 16 .share)])])
 (.cond (.t 17)
 (.skip)
 (.exit 0)))
 (.block 1 (.seq (.region false [o_ 19 (.mv (.t 6)),
 o_ 20 (.callF 91 [(.u 19 .share)]),
 o_ 18 (.mv (.t 20)),
 o_ 21 (.extract (.t 18) 0),
 o_ 22 (.extract (.t 18) 1),
 o_ 7 (.mv (.t 21)),
 o_ 8 (.mv (.t 22))])
 (.seq (.region false [o_ 23 (.mv (.u 5 .take)),
 o_ 24 (.mv (.t 7)),
 o_ 25 (.buildSlice 1 [(.int .i32 0)] 1 [(0, (.t 24))]),
 o_ 26 (.append 1 (.u 23 .take) (.u 25 .take)),
 o_ 5 (.mv (.u 26 .take))])
 (.region false [o_ 27 (.mv (.t 6)),
 o_ 28 (.mv (.t 8)),
 o_ 29 (.sliceV 1 (.t 27) (some (.t 28)) none),
 o_ 6 (.mv (.u 29 .share))])))))))
 (.seq (.region false [o_ 30 (.mv (.t 0)),
 o_ 31 (.mv (.t 6)),
 o_ 32 (.callF 153 [(.u 31 .share)]),
 o_ 33 (.nilCheck (.t 30)),
 o_ 34 (.fieldAddr 0 (.t 33)),
 ⟨none, none, false, .store 1 (.t 34) (.u 32 .share), .none⟩])
 (.seq (.region false [o_ 35 (.mv (.u 5 .take)),
 o_ 4 (.mv (.u 35 .take))])
 (.ret))))))⟩
theorem c136 : cFunc Go.Proofs.Tryd.prog p136 136 = some a136 := by decide +kernel
def p110 : Plan := ⟨[], 0, [((0, 6), { uses := [(9, .share)] }),
 ((0, 7), { uses := [(10, .share)] })],
 []⟩
def a110 : AFunc := ⟨2, 12, 0, [],
 .region false [o_ 4 (.mv (.t 0)),
 o_ 5 (.mv (.t 0)),
 o_ 6 (.nilCheck (.t 5)),
 o_ 7 (.fieldAddr 0 (.t 6)),
 o_ 8 (.mv (.t 1)),
 o_ 9 (.buildSlice 1 [(.int .u8 0)] 1 [(0, (.t 8))]),
 o_ 10 (.callF 136 [(.t 7), (.u 9 .share)]),
 o_ 11 (.callF 84 [(.t 4), (.u 10 .share)])]⟩
theorem c110 : cFunc Go.Proofs.Tryd.prog p110 110 = some a110 := by decide +kernel
def p42 : Plan := ⟨[], 0, [((1, 5), { uses := [(14, .share)] }),
 ((9, 3), { uses := [(57, .share)] })],
 []⟩
def a42 : AFunc := ⟨2, 70, 0, [],
 .seq (.seq (.region false [o_ 4 (.mv (.t 1)),
 o_ 5 (.bin .lss (.t 4) (.c (.int .u8 32))),
 o_ 6 (.mv (.t 5)),
 ⟨(some 7), (some (6, false)), false, .mv (.t 1), .none⟩,
 ⟨(some 8), (some (6, false)), false, .bin .eql (.t 7) (.c (.int .u8 127)), .none⟩,
 o_ 9 (.pick (.t 6) (.c (.bool true)) (.t 8))])
 (.cond (.t 9)
 (.region false [o_ 10 (.mv (.t 0)),
 o_ 11 (.mv (.t 0)),
 o_ 12 (.nilCheck (.t 11)),
 o_ 13 (.fieldAddr 0 (.t 12)),
 o_ 14 (.callF 85 [(.t 13)]),
 o_ 15 (.callF 84 [(.t 10), (.u 14 .share)])])
 (.skip)))
 (.block 0 (.seq (.region false [o_ 17 (.mv (.t 0)),
 o_ 18 (.nilCheck (.t 17)),
 o_ 19 (.fieldAddr 1 (.t 18)),
 o_ 20 (.load false 1 (.t 19) .copy),
 o_ 21 (.bin .eql (.t 20) (.c (.int .i64 3))),
 o_ 22 (.mv (.t 21)),
 ⟨(some 23), (some (22, false)), false, .mv (.t 0), .none⟩,
 ⟨(some 24), (some (22, false)), false, .nilCheck (.t 23), .none⟩,
 ⟨(some 25), (some (22, false)), false, .fieldAddr 1 (.t 24), .none⟩,
 ⟨(some 26), (some (22, false)), false, .load false 1 (.t 25) .copy, .none⟩,
 ⟨(some 27), (some (22, false)), false, .bin .eql (.t 26) (.c (.int .i64 4)), .none⟩,
 o_ 28 (.pick (.t 22) (.c (.bool true)) (.t 27)),
 o_ 16 (.mv (.t 28))])
 (.cond (.t 16)
 (.region false [o_ 29 (.mv (.t 0)),
 o_ 30 (.nilCheck (.t 29)),
 o_ 31 (.fieldAddr 1 (.t 30)),
 o_ 32 (.load false 1 (.t 31) .copy),
 o_ 33 (.callF 86 [(.t 32)]),
 o_ 34 (.mv (.t 0)),
 o_ 35 (.mv (.t 1)),
 o_ 36 (.callV (.t 33) [(.t 34), (.t 35)])])
 (.seq (.region false [o_ 38 (.mv (.t 1)),
 o_ 39 (.bin .eql (.t 38) (.c (.int .u8 24))),
 o_ 40 (.mv (.t 39)),
 ⟨(some 41), (some (40, false)), false, .mv (.t 1), .none⟩,
 ⟨(some 42), (some (40, false)), false, .bin .eql (.t 41) (.c (.int .u8 26)), .none⟩,
 o_ 43 (.pick (.t 40) (.c (.bool true)) (.t 42)),
 o_ 37 (.mv (.t 43))])
 (.cond (.t 37)
 (.region false [o_ 44 (.mv (.t 0)),
 o_ 45 (.nilCheck (.t 44)),
 o_ 46 (.fieldAddr 1 (.t 45)),
 ⟨none, none, false, .store 1 (.t 46) (.c (.int .i64 0)), .none⟩])
 (.seq (.region false [o_ 48 (.mv (.t 1)),
 o_ 49 (.bin .eql (.t 48) (.c (.int .u8 27))),
 o_ 47 (.mv (.t 49))])
 (.cond (.t 47)
 (.region false [o_ 50 (.mv (.t 0)),
 o_ 51 (.callF 87 [(.t 50), (.c (.int .i64 1))])])
 (.seq (.region false [o_ 53 (.mv (.t 1)),
 o_ 54 (.bin .lss (.t 53) (.c (.int .u8 32))),
 o_ 52 (.mv (.t 54))])
 (.cond (.t 52)
 (.region false [o_ 55 (.mv (.t 0)),
 o_ 56 (.mv (.t 1)),
 o_ 57 (.build [(.int .i64 0), (.int .i32 0), (.int .u8 0), (.int .u8 0), (.str []), .nils, (.str [])] [(0, 1, (.c (.int .i64 2))), (2, 1, (.t 56))]),
 o_ 58 (.callF 88 [(.t 55), (.u 57 .share)])])
 (.seq (.region false [o_ 60 (.mv (.t 1)),
 o_ 61 (.bin .neq (.t 60) (.c (.int .u8 127))),
 o_ 59 (.mv (.t 61))])
 (.cond (.t 59)
 (.region false [o_ 62 (.mv (.t 0)),
 o_ 63 (.nilCheck (.t 62)),
 o_ 64 (.fieldAddr 1 (.t 63)),
 o_ 65 (.load false 1 (.t 64) .copy),
 o_ 66 (.callF 86 [(.t 65)]),
 o_ 67 (.mv (.t 0)),
 o_ 68 (.mv (.t 1)),
 o_ 69 (.callV (.t 66) [(.t 67), (.t 68)])])
 (.skip))))))))))))⟩
theorem c42 : cFunc Go.Proofs.Tryd.prog p42 42 = some a42 := by decide +kernel
def p109 : Plan := ⟨[], 0, [],
 []⟩
def a109 : AFunc := ⟨2, 13, 0, [],
 .seq (.seq (.region false [o_ 4 (.mv (.t 1)),
 o_ 5 (.bin .eql (.t 4) (.c (.int .u8 92)))])
 (.cond (.t 5)
 (.seq (.region false [o_ 6 (.mv (.t 0)),
 o_ 7 (.callF 135 [(.t 6)])])
 (.ret))
 (.skip)))
 (.seq (.region false [o_ 8 (.mv (.t 0)),
 o_ 9 (.callF 87 [(.t 8), (.c (.int .i64 1))])])
 (.region false [o_ 10 (.mv (.t 0)),
 o_ 11 (.mv (.t 1)),
 o_ 12 (.callF 42 [(.t 10), (.t 11)])]))⟩
theorem c109 : cFunc Go.Proofs.Tryd.prog p109 109 = some a109 := by decide +kernel
def p13 : Plan := ⟨[], 0, [((7, 3), { mode := .take }),
 ((7, 4), { uses := [(24, .share)] }),
 ((9, 1), { uses := [(28, .take)] })],
 [[0, 11, 12, 13]]⟩
def a13 : AFunc := ⟨2, 29, 0, [.tmp 4],
 .seq (.region false [o_ 4 (.mv (.c .nils))])
 (.seq (.region false [o_ 8 (.mv (.t 0)),
 o_ 9 (.nilCheck (.t 8)),
 o_ 10 (.fieldAddr 13 (.t 9)),
 ⟨none, none, false, .store 1 (.t 10) (.c .nils), .none⟩])
 (.seq (.seq (.region false [o_ 11 (.mv (.t 1)),
 o_ 12 (.lenSl (.t 11)),
 o_ 13 (.mv (.c (.int .i64 0)))])
 (.block 0 (.loop [0, 11, 12, 13] (.seq (.region false [o_ 14 (.bin .lss (.t 13) (.t 12))])
 (.seq (.cond (.t 14)
 (.skip)
 (.exit 0))
 (.seq (.block 1 (.seq (.region false [o_ 15 (.indexSl 1 (.t 11) (.t 13)),
 o_ 16 (.load false 1 (.t 15) .copy),
 o_ 6 (.mv (.t 16))])
 (.region false [o_ 17 (.mv (.t 0)),
 o_ 18 (.mv (.t 6)),
 o_ 19 (.callF 42 [(.t 17), (.t 18)])])))
 (.region false [o_ 20 (.bin .add (.t 13) (.c (.int .i64 1))),
 o_ 13 (.mv (.t 20))])))))))
 (.seq (.region false [o_ 21 (.mv (.t 0)),
 o_ 22 (.nilCheck (.t 21)),
 o_ 23 (.fieldAddr 13 (.t 22)),
 o_ 24 (.load false 1 (.t 23) .take),
 o_ 7 (.mv (.u 24 .share))])
 (.seq (.region false [o_ 25 (.mv (.t 0)),
 o_ 26 (.nilCheck (.t 25)),
 o_ 27 (.fieldAddr 13 (.t 26)),
 ⟨none, none, false, .store 1 (.t 27) (.c .nils), .none⟩])
 (.seq (.region false [o_ 28 (.mv (.t 7)),
 o_ 4 (.mv (.u 28 .take))])
 (.ret))))))⟩
theorem c13 : cFunc Go.Proofs.Tryd.prog p13 13 = some a13 := by decide +kernel
def p90 : Plan := ⟨[], 0, [],
 []⟩
def a90 : AFunc := ⟨1, 8, 0, [.tmp 2],
 .seq (.region false [o_ 2 (.mv (.c (.int .i64 0)))])
 (.seq (.seq (.region false [o_ 3 (.mv (.t 0))])
 (.block 0 (.seq (.region false [o_ 5 (.bin .eql (.t 3) (.c (.int .i64 2))),
 o_ 4 (.mv (.t 5))])
 (.cond (.t 4)
 (.seq (.region false [o_ 2 (.mv (.c (.int .i64 1)))])
 (.ret))
 (.seq (.region false [o_ 7 (.bin .eql (.t 3) (.c (.int .i64 5))),
 o_ 6 (.mv (.t 7))])
 (.cond (.t 6)
 (.seq (.region false [o_ 2 (.mv (.c (.int .i64 2)))])
 (.ret))
 (.skip)))))))
 (.seq (.region false [o_ 2 (.mv (.c (.int .i64 0)))])
 (.ret)))⟩
theorem c90 : cFunc Go.Proofs.Tryd.prog p90 90 = some a90 := by decide +kernel
def p44 : Plan := ⟨[], 0, [],
 [[0, 5, 6, 31, 32, 33]]⟩
def a44 : AFunc := ⟨2, 62, 0, [.tmp 4],
 .seq (.region false [o_ 4 (.mv (.c (.int .i64 0)))])
 (.seq (.region false [o_ 5 (.mv (.c (.int .i64 0)))])
 (.seq (.seq (.region false [o_ 9 (.mv (.t 1)),
 o_ 10 (.lenSl (.t 9)),
 o_ 11 (.bin .gtr (.t 10) (.c (.int .i64 0)))])
 (.cond (.t 11)
 (.region false [o_ 12 (.build [(.int .i64 0), (.int .i64 0), (.int .i64 0)] [(0, 1, (.c (.int .i64 0))), (1, 1, (.c (.int .i64 3))), (2, 1, (.c (.int .i64 1)))]),
 o_ 13 (.mv (.t 1)),
 o_ 14 (.indexSl 1 (.t 13) (.c (.int .i64 0))),
 o_ 15 (.load false 1 (.t 14) .copy),
 o_ 16 (.callF 90 [(.t 15)]),
 o_ 17 (.indexAgg false 3 1 (.t 12) (.t 16)),
 o_ 5 (.mv (.t 17))])
 (.skip)))
 (.seq (.seq (.region false [o_ 18 (.mv (.t 5)),
 o_ 19 (.bin .eql (.t 18) (.c (.int .i64 0))),
 o_ 20 (.mv (.t 19)),
 ⟨(some 21), (some (20, false)), false, .mv (.t 1), .none⟩,
 ⟨(some 22), (some (20, false)), false, .lenSl (.t 21), .none⟩,
 ⟨(some 23), (some (20, false)), false, .mv (.t 5), .none⟩,
 ⟨(some 24), (some (20, false)), false, .bin .leq (.t 22) (.t 23), .none⟩,
 o_ 25 (.pick (.t 20) (.c (.bool true)) (.t 24))])
 (.cond (.t 25)
 (.seq (.region false [o_ 26 (.mv (.t 1)),
 o_ 27 (.lenSl (.t 26)),
 o_ 4 (.mv (.t 27))])
 (.ret))
 (.skip)))
 (.seq (.region false [o_ 6 (.mv (.c (.int .i64 0)))])
 (.seq (.seq (.region false [o_ 28 (.mv (.t 1)),
 o_ 29 (.mv (.t 5)),
 o_ 30 (.bin .add (.t 29) (.c (.int .i64 1))),
 o_ 31 (.sliceV 1 (.t 28) (some (.c (.int .i64 1))) (some (.t 30))),
 o_ 32 (.lenSl (.t 31)),
 o_ 33 (.mv (.c (.int .i64 0)))])
 (.block 0 (.loop [0, 5, 6, 31, 32, 33] (.seq (.region false [o_ 34 (.bin .lss (.t 33) (.t 32))])
 (.seq (.cond (.t 34)
 (.skip)
 (.exit 0))
 (.seq (.block 1 (.seq (.region false [o_ 35 (.indexSl 1 (.t 31) (.t 33)),
 o_ 36 (.load false 1 (.t 35) .copy),
 o_ 8 (.mv (.t 36))])
 (.seq (.seq (.region false [o_ 37 (.mv (.t 8)),
 o_ 38 (.bin .lss (.t 37) (.c (.int .i64 0))),
 o_ 39 (.mv (.t 38)),
 ⟨(some 40), (some (39, false)), false, .mv (.t 8), .none⟩,
 ⟨(some 41), (some (39, false)), false, .bin .gtr (.t 40) (.c (.int .i64 255)), .none⟩,
 o_ 42 (.pick (.t 39) (.c (.bool true)) (.t 41))])
 (.cond (.t 42)
 (.seq (.region false [o_ 43 (.mv (.t 5)),
 o_ 44 (.bin .add (.t 43) (.c (.int .i64 1))),
 o_ 4 (.mv (.t 44))])
 (.ret))
 (.skip)))
 (.region false [o_ 45 (.mv (.t 6)),
 o_ 46 (.bin .shl (.t 45) (.c (.int .u64 8))),
 o_ 47 (.mv (.t 8)),
 o_ 48 (.bin .or (.t 46) (.t 47)),
 o_ 6 (.mv (.t 48))]))))
 (.region false [o_ 49 (.bin .add (.t 33) (.c (.int .i64 1))),
 o_ 33 (.mv (.t 49))])))))))
 (.seq (.seq (.region false [o_ 50 (.mv (.t 0)),
 o_ 51 (.mv (.t 6)),
 o_ 52 (.bin .add (.t 51) (.c (.int .i64 1))),
 o_ 53 (.nilCheck (.t 50)),
 ⟨none, none, false, .store 1 (.t 53) (.t 52), .none⟩])
 (.seq (.region false [o_ 54 (.mv (.t 5)),
 o_ 55 (.bin .eql (.t 54) (.c (.int .i64 3)))])
 (.cond (.t 55)
 (.region false [o_ 56 (.mv (.t 0)),
 o_ 57 (.mv (.t 6)),
 o_ 58 (.bin .or (.t 57) (.c (.int .i64 16777216))),
 o_ 59 (.nilCheck (.t 56)),
 ⟨none, none, false, .store 1 (.t 59) (.t 58), .none⟩])
 (.skip))))
 (.seq (.region false [o_ 60 (.mv (.t 5)),
 o_ 61 (.bin .add (.t 60) (.c (.int .i64 1))),
 o_ 4 (.mv (.t 61))])
 (.ret))))))))⟩
theorem c44 : cFunc Go.Proofs.Tryd.prog p44 44 = some a44 := by decide +kernel
def p45 : Plan := ⟨[], 2, [((1, 6), { mark := (.loc 0) }),
 ((1, 1), { mark := (.loc 0) }),
 ((7, 7), { mark := (.loc 0) }),
 ((7, 1), { mark := (.loc 0) }),
 ((0, 0), { box := some 0 }),
 ((0, 1), { box := some 1 })],
 []⟩
def a45 : AFunc := ⟨2, 89, 2, [.cell 4 true 3],
 .seq (.region false [o_ 2 (.boxL 0 (.t 0)),
 o_ 4 (.allocL 1 [(.int .i64 0), (.int .i64 0), (.int .i64 0)])])
 (.seq (.block 0 (.seq (.region false [o_ 12 (.mv (.t 1)),
 o_ 13 (.bin .leq (.t 12) (.c (.int .i64 0))),
 o_ 14 (.mv (.t 13)),
 ⟨(some 15), (some (14, true)), false, .mv (.t 1), .none⟩,
 ⟨(some 16), (some (14, true)), false, .bin .geq (.t 15) (.c (.int .i64 (-1))), .none⟩,
 o_ 17 (.pick (.t 14) (.t 16) (.c (.bool false))),
 o_ 11 (.mv (.t 17))])
 (.cond (.t 11)
 (.seq (.region false [o_ 18 (.build [(.int .i64 0), (.int .i64 0), (.int .i64 0)] []),
 ⟨none, none, false, .store 3 (.t 4) (.t 18), .none⟩])
 (.ret))
 (.seq (.region false [o_ 20 (.mv (.t 1)),
 o_ 21 (.bin .eql (.t 20) (.c (.int .i64 22))),
 o_ 19 (.mv (.t 21))])
 (.cond (.t 19)
 (.region false [o_ 22 (.fieldAddr 2 (.t 2)),
 o_ 23 (.load false 1 (.t 22) .copy),
 o_ 24 (.bin .andNot (.t 23) (.c (.int .i64 3))),
 o_ 25 (.fieldAddr 2 (.t 2)),
 ⟨none, none, false, .store 1 (.t 25) (.t 24), .none⟩])
 (.seq (.region false [o_ 27 (.mv (.t 1)),
 o_ 28 (.bin .geq (.t 27) (.c (.int .i64 23))),
 o_ 29 (.mv (.t 28)),
 ⟨(some 30), (some (29, true)), false, .mv (.t 1), .none⟩,
 ⟨(some 31), (some (29, true)), false, .bin .leq (.t 30) (.c (.int .i64 27)), .none⟩,
 o_ 32 (.pick (.t 29) (.t 31) (.c (.bool false))),
 o_ 26 (.mv (.t 32))])
 (.cond (.t 26)
 (.region true [o_ 33 (.fieldAddr 2 (.t 2)),
 ⟨(some 34), none, false, .load false 1 (.t 33) .copy, (.loc 0)⟩,
 o_ 35 (.mv (.t 1)),
 o_ 36 (.bin .sub (.t 35) (.c (.int .i64 20))),
 o_ 37 (.callF 76 [(.t 36)]),
 o_ 38 (.bin .andNot (.t 34) (.t 37)),
 o_ 39 (.fieldAddr 2 (.t 2)),
 ⟨none, none, false, .store 1 (.t 39) (.t 38), (.loc 0)⟩])
 (.seq (.region false [o_ 41 (.mv (.t 1)),
 o_ 42 (.bin .geq (.t 41) (.c (.int .i64 30))),
 o_ 43 (.mv (.t 42)),
 ⟨(some 44), (some (43, true)), false, .mv (.t 1), .none⟩,
 ⟨(some 45), (some (43, true)), false, .bin .leq (.t 44) (.c (.int .i64 37)), .none⟩,
 o_ 46 (.pick (.t 43) (.t 45) (.c (.bool false))),
 o_ 40 (.mv (.t 46))])
 (.cond (.t 40)
 (.region false [o_ 47 (.mv (.t 1)),
 o_ 48 (.bin .sub (.t 47) (.c (.int .i64 29))),
 o_ 49 (.fieldAddr 0 (.t 2)),
 ⟨none, none, false, .store 1 (.t 49) (.t 48), .none⟩])
 (.seq (.region false [o_ 51 (.mv (.t 1)),
 o_ 52 (.bin .geq (.t 51) (.c (.int .i64 90))),
 o_ 53 (.mv (.t 52)),
 ⟨(some 54), (some (53, true)), false, .mv (.t 1), .none⟩,
 ⟨(some 55), (some (53, true)), false, .bin .leq (.t 54) (.c (.int .i64 97)), .none⟩,
 o_ 56 (.pick (.t 53) (.t 55) (.c (.bool false))),
 o_ 50 (.mv (.t 56))])
 (.cond (.t 50)
 (.region false [o_ 57 (.mv (.t 1)),
 o_ 58 (.bin .sub (.t 57) (.c (.int .i64 81))),
 o_ 59 (.fieldAddr 0 (.t 2)),
 ⟨none, none, false, .store 1 (.t 59) (.t 58), .none⟩])
 (.seq (.region false [o_ 61 (.mv (.t 1)),
 o_ 62 (.bin .eql (.t 61) (.c (.int .i64 39))),
 o_ 60 (.mv (.t 62))])
 (.cond (.t 60)
 (.region false [o_ 63 (.fieldAddr 0 (.t 2)),
 ⟨none, none, false, .store 1 (.t 63) (.c (.int .i64 0)), .none⟩])
 (.seq (.region false [o_ 65 (.mv (.t 1)),
 o_ 66 (.bin .geq (.t 65) (.c (.int .i64 40))),
 o_ 67 (.mv (.t 66)),
 ⟨(some 68), (some (67, true)), false, .mv (.t 1), .none⟩,
 ⟨(some 69), (some (67, true)), false, .bin .leq (.t 68) (.c (.int .i64 47)), .none⟩,
 o_ 70 (.pick (.t 67) (.t 69) (.c (.bool false))),
 o_ 64 (.mv (.t 70))])
 (.cond (.t 64)
 (.region false [o_ 71 (.mv (.t 1)),
 o_ 72 (.bin .sub (.t 71) (.c (.int .i64 39))),
 o_ 73 (.fieldAddr 1 (.t 2)),
 ⟨none, none, false, .store 1 (.t 73) (.t 72), .none⟩])
 (.seq (.region false [o_ 75 (.mv (.t 1)),
 o_ 76 (.bin .geq (.t 75) (.c (.int .i64 100))),
 o_ 77 (.mv (.t 76)),
 ⟨(some 78), (some (77, true)), false, .mv (.t 1), .none⟩,
 ⟨(some 79), (some (77, true)), false, .bin .leq (.t 78) (.c (.int .i64 107)), .none⟩,
 o_ 80 (.pick (.t 77) (.t 79) (.c (.bool false))),
 o_ 74 (.mv (.t 80))])
 (.cond (.t 74)
 (.region false [o_ 81 (.mv (.t 1)),
 o_ 82 (.bin .sub (.t 81) (.c (.int .i64 91))),
 o_ 83 (.fieldAddr 1 (.t 2)),
 ⟨none, none, false, .store 1 (.t 83) (.t 82), .none⟩])
 (.seq (.region false [o_ 85 (.mv (.t 1)),
 o_ 86 (.bin .eql (.t 85) (.c (.int .i64 49))),
 o_ 84 (.mv (.t 86))])
 (.cond (.t 84)
 (.region false [o_ 87 (.fieldAddr 1 (.t 2)),
 ⟨none, none, false, .store 1 (.t 87) (.c (.int .i64 0)), .none⟩])
 (.region true [o_ 5 (.fieldAddr 2 (.t 2)),
 ⟨(some 6), none, false, .load false 1 (.t 5) .copy, (.loc 0)⟩,
 o_ 7 (.mv (.t 1)),
 o_ 8 (.callF 76 [(.t 7)]),
 o_ 9 (.bin .or (.t 6) (.t 8)),
 o_ 10 (.fieldAddr 2 (.t 2)),
 ⟨none, none, false, .store 1 (.t 10) (.t 9), (.loc 0)⟩]))))))))))))))))))))
 (.seq (.region false [o_ 88 (.load true 3 (.t 2) .copy),
 ⟨none, none, false, .store 3 (.t 4) (.t 88), .none⟩])
 (.ret)))⟩
theorem c45 : cFunc Go.Proofs.Tryd.prog p45 45 = some a45 := by decide +kernel
def p15 : Plan := ⟨[], 1, [((0, 1), { box := some 0 }),
 ((4, 5), { uses := [(17, .share)] }),
 ((11, 6), { uses := [(39, .share)] }),
 ((13, 6), { uses := [(50, .share)] })],
 [[1, 2, 4, 5]]⟩
def a15 : AFunc := ⟨2, 54, 1, [.cell 4 true 3],
 .seq (.region false [o_ 2 (.boxM (.t 0)),
 o_ 4 (.allocL 0 [(.int .i64 0), (.int .i64 0), (.int .i64 0)])])
 (.seq (.region false [o_ 7 (.load true 3 (.t 2) .copy),
 o_ 8 (.callF 38 [(.t 7)]),
 ⟨none, none, false, .store 3 (.t 2) (.t 8), .none⟩])
 (.seq (.seq (.region false [o_ 9 (.mv (.t 1)),
 o_ 10 (.lenSl (.t 9)),
 o_ 11 (.bin .eql (.t 10) (.c (.int .i64 0)))])
 (.cond (.t 11)
 (.seq (.region false [o_ 12 (.build [(.int .i64 0), (.int .i64 0), (.int .i64 0)] []),
 ⟨none, none, false, .store 3 (.t 4) (.t 12), .none⟩])
 (.ret))
 (.skip)))
 (.seq (.region false [o_ 13 (.mv (.t 1)),
 o_ 14 (.mv (.t 1)),
 o_ 15 (.lenSl (.t 14)),
 o_ 16 (.minMax false (.t 15) [(.c (.int .i64 16))]),
 o_ 17 (.sliceV 1 (.t 13) none (some (.t 16))),
 o_ 1 (.mv (.u 17 .share))])
 (.seq (.seq (.region false [o_ 5 (.mv (.c (.int .i64 0)))])
 (.block 0 (.loop [1, 2, 4, 5] (.seq (.seq (.region false [o_ 18 (.mv (.t 5)),
 o_ 19 (.mv (.t 1)),
 o_ 20 (.lenSl (.t 19)),
 o_ 21 (.bin .lss (.t 18) (.t 20))])
 (.cond (.t 21)
 (.skip)
 (.exit 0)))
 (.seq (.block 1 (.seq (.region false [o_ 24 (.mv (.t 1)),
 o_ 25 (.mv (.t 5)),
 o_ 26 (.indexSl 1 (.t 24) (.t 25)),
 o_ 27 (.load false 1 (.t 26) .copy),
 o_ 6 (.mv (.t 27))])
 (.block 2 (.seq (.region false [o_ 32 (.mv (.t 6)),
 o_ 33 (.bin .eql (.t 32) (.c (.int .i64 38))),
 o_ 31 (.mv (.t 33))])
 (.cond (.t 31)
 (.region false [o_ 34 (.mv (.t 5)),
 o_ 35 (.fieldAddr 0 (.t 2)),
 o_ 36 (.mv (.t 1)),
 o_ 37 (.mv (.t 5)),
 o_ 38 (.bin .add (.t 37) (.c (.int .i64 1))),
 o_ 39 (.sliceV 1 (.t 36) (some (.t 38)) none),
 o_ 40 (.callF 44 [(.t 35), (.u 39 .share)]),
 o_ 41 (.bin .add (.t 34) (.t 40)),
 o_ 5 (.mv (.t 41))])
 (.seq (.region false [o_ 43 (.mv (.t 6)),
 o_ 44 (.bin .eql (.t 43) (.c (.int .i64 48))),
 o_ 42 (.mv (.t 44))])
 (.cond (.t 42)
 (.region false [o_ 45 (.mv (.t 5)),
 o_ 46 (.fieldAddr 1 (.t 2)),
 o_ 47 (.mv (.t 1)),
 o_ 48 (.mv (.t 5)),
 o_ 49 (.bin .add (.t 48) (.c (.int .i64 1))),
 o_ 50 (.sliceV 1 (.t 47) (some (.t 49)) none),
 o_ 51 (.callF 44 [(.t 46), (.u 50 .share)]),
 o_ 52 (.bin .add (.t 45) (.t 51)),
 o_ 5 (.mv (.t 52))])
 (.region false [o_ 28 (.load true 3 (.t 2) .copy),
 o_ 29 (.mv (.t 6)),
 o_ 30 (.callF 45 [(.t 28), (.t 29)]),
 ⟨none, none, false, .store 3 (.t 2) (.t 30), .none⟩]))))))))
 (.region false [o_ 22 (.mv (.t 5)),
 o_ 23 (.bin .add (.t 22) (.c (.int .i64 1))),
 o_ 5 (.mv (.t 23))]))))))
 (.seq (.region false [o_ 53 (.load true 3 (.t 2) .copy),
 ⟨none, none, false, .store 3 (.t 4) (.t 53), .none⟩])
 (.ret))))))⟩
theorem c15 : cFunc Go.Proofs.Tryd.prog p15 15 = some a15 := by decide +kernel
def p3 : Plan := ⟨[], 4, [((16, 5), { mark := (.loc 1) }),
 ((16, 4), { mark := (.loc 2) }),
 ((16, 1), { mark := .free }),
 ((0, 0), { box := some 0 }),
 ((0, 1), { box := some 1 }),
 ((3, 3), { uses := [(15, .share)] }),
 ((4, 4), { uses := [(16, .share), (19, .share)] }),
 ((7, 1), { uses := [(22, .share)] }),
 ((7, 2), { uses := [(23, .share)] }),
 ((8, 2), { box := some 2 }),
 ((11, 2), { box := some 3 }),
 ((11, 3), { uses := [(31, .take)] }),
 ((14, 2), { mode := .take }),
 ((14, 3), { uses := [(42, .share)] })],
 [[3, 7, 8, 26, 27, 28]]⟩
def a3 : AFunc := ⟨2, 54, 4, [.tmp 4],
 .seq (.region false [o_ 2 (.boxL 0 (.t 0)),
 o_ 3 (.boxL 1 (.t 1)),
 o_ 4 (.mv (.c (.bool false)))])
 (.seq (.seq (.region false [o_ 11 (.callF 9 []),
 o_ 12 (.un .not (.t 11))])
 (.cond (.t 12)
 (.seq (.region false [o_ 4 (.mv (.c (.bool false)))])
 (.ret))
 (.skip)))
 (.seq (.region false [o_ 13 (.load true 3 (.t 2) .copy),
 o_ 14 (.load true 3 (.t 3) .copy),
 o_ 15 (.callF 10 [(.t 13), (.t 14)]),
 o_ 5 (.mv (.u 15 .share))])
 (.seq (.seq (.region false [o_ 16 (.mv (.t 5)),
 o_ 17 (.load true 3 (.t 2) .copy),
 o_ 18 (.load true 3 (.t 3) .copy),
 o_ 19 (.callF 12 [(.t 17), (.t 18)]),
 o_ 20 (.callF 11 [(.u 16 .share), (.u 19 .share)]),
 o_ 21 (.un .not (.t 20))])
 (.cond (.t 21)
 (.seq (.region false [o_ 4 (.mv (.c (.bool false)))])
 (.ret))
 (.skip)))
 (.seq (.region false [o_ 6 (.allocM [.nils, (.int .i64 0), (.bool false), (.bool false), (.int .i64 0), (.int .i32 0), (.int .u8 0), (.int .u8 0), (.str []), .nils, (.str []), (.int .i64 0), .nils, .nils])])
 (.seq (.region false [o_ 22 (.mv (.t 5)),
 o_ 23 (.callF 13 [(.t 6), (.u 22 .share)]),
 o_ 7 (.mv (.u 23 .share))])
 (.seq (.region false [o_ 24 (.load true 3 (.t 2) .copy),
 o_ 25 (.callF 14 [(.t 24)]),
 o_ 8 (.allocL 2 [(.int .i64 0), (.int .i64 0), (.int .i64 0)]),
 ⟨none, none, false, .store 3 (.t 8) (.t 25), .none⟩])
 (.seq (.seq (.region false [o_ 26 (.mv (.t 7)),
 o_ 27 (.lenSl (.t 26)),
 o_ 28 (.mv (.c (.int .i64 0)))])
 (.block 0 (.loop [3, 7, 8, 26, 27, 28] (.seq (.region false [o_ 29 (.bin .lss (.t 28) (.t 27))])
 (.seq (.cond (.t 29)
 (.skip)
 (.exit 0))
 (.seq (.block 1 (.seq (.region false [o_ 30 (.indexSl 7 (.t 26) (.t 28)),
 o_ 31 (.load true 7 (.t 30) .copy),
 o_ 10 (.allocL 3 [(.int .i64 0), (.int .i32 0), (.int .u8 0), (.int .u8 0), (.str []), .nils, (.str [])]),
 ⟨none, none, false, .store 7 (.t 10) (.u 31 .take), .none⟩])
 (.seq (.seq (.region false [o_ 32 (.fieldAddr 0 (.t 10)),
 o_ 33 (.load false 1 (.t 32) .copy),
 o_ 34 (.bin .neq (.t 33) (.c (.int .i64 4))),
 o_ 35 (.mv (.t 34)),
 ⟨(some 36), (some (35, false)), false, .fieldAddr 2 (.t 10), .none⟩,
 ⟨(some 37), (some (35, false)), false, .load false 1 (.t 36) .copy, .none⟩,
 ⟨(some 38), (some (35, false)), false, .bin .neq (.t 37) (.c (.int .u8 109)), .none⟩,
 o_ 39 (.pick (.t 35) (.c (.bool true)) (.t 38))])
 (.cond (.t 39)
 (.seq (.region false [o_ 4 (.mv (.c (.bool false)))])
 (.ret))
 (.skip)))
 (.region false [o_ 40 (.load true 3 (.t 8) .copy),
 o_ 41 (.fieldAddr 5 (.t 10)),
 o_ 42 (.load false 1 (.t 41) .take),
 o_ 43 (.callF 15 [(.t 40), (.u 42 .share)]),
 ⟨none, none, false, .store 3 (.t 8) (.t 43), .none⟩]))))
 (.region false [o_ 44 (.bin .add (.t 28) (.c (.int .i64 1))),
 o_ 28 (.mv (.t 44))])))))))
 (.seq (.region true [o_ 45 (.mv (.t 7)),
 ⟨(some 46), none, false, .lenSl (.t 45), .free⟩,
 o_ 47 (.bin .leq (.t 46) (.c (.int .i64 1))),
 o_ 48 (.mv (.t 47)),
 ⟨(some 49), (some (48, true)), false, .load true 3 (.t 8) .copy, (.loc 2)⟩,
 ⟨(some 50), (some (48, true)), false, .load true 3 (.t 3) .copy, (.loc 1)⟩,
 ⟨(some 51), (some (48, true)), false, .callF 14 [(.t 50)], .none⟩,
 ⟨(some 52), (some (48, true)), false, .eq false (.plain [.int, .int, .int]) (.t 49) (.t 51), .none⟩,
 o_ 53 (.pick (.t 48) (.t 52) (.c (.bool false))),
 o_ 4 (.mv (.t 53))])
 (.ret)))))))))⟩
def v3 : List Nat := [0, 1, 2, 3, 4, 5, 6, 7, 8, 10, 12, 21, 26, 27, 28, 29, 39]
def b3 : List Nat := [0, 1, 2, 3]
theorem c3 : cFunc Go.Proofs.Tryd.prog p3 3 = some a3 := by decide +kernel
def p35 : Plan := ⟨[], 0, [],
 [[0, 1, 5]]⟩
def a35 : AFunc := ⟨2, 26, 0, [.tmp 4],
 .seq (.region false [o_ 4 (.mv (.c (.bool false)))])
 (.seq (.seq (.region false [o_ 6 (.mv (.t 0)),
 o_ 7 (.lenSl (.t 6)),
 o_ 8 (.mv (.t 1)),
 o_ 9 (.lenSl (.t 8)),
 o_ 10 (.bin .neq (.t 7) (.t 9))])
 (.cond (.t 10)
 (.seq (.region false [o_ 4 (.mv (.c (.bool false)))])
 (.ret))
 (.skip)))
 (.seq (.seq (.region false [o_ 5 (.mv (.c (.int .i64 0)))])
 (.block 0 (.loop [0, 1, 5] (.seq (.seq (.region false [o_ 11 (.mv (.t 5)),
 o_ 12 (.mv (.t 0)),
 o_ 13 (.lenSl (.t 12)),
 o_ 14 (.bin .lss (.t 11) (.t 13))])
 (.cond (.t 14)
 (.skip)
 (.exit 0)))
 (.seq (.block 1 (.seq (.region true [o_ 17 (.mv (.t 0)),
 o_ 18 (.mv (.t 5)),
 o_ 19 (.indexSl 1 (.t 17) (.t 18)),
 o_ 20 (.load false 1 (.t 19) .copy),
 o_ 21 (.mv (.t 1)),
 o_ 22 (.mv (.t 5)),
 o_ 23 (.indexSl 1 (.t 21) (.t 22)),
 o_ 24 (.load false 1 (.t 23) .copy),
 o_ 25 (.bin .neq (.t 20) (.t 24))])
 (.cond (.t 25)
 (.seq (.region false [o_ 4 (.mv (.c (.bool false)))])
 (.ret))
 (.skip))))
 (.region false [o_ 15 (.mv (.t 5)),
 o_ 16 (.bin .add (.t 15) (.c (.int .i64 1))),
 o_ 5 (.mv (.t 16))]))))))
 (.seq (.region false [o_ 4 (.mv (.c (.bool true)))])
 (.ret))))⟩
theorem c35 : cFunc Go.Proofs.Tryd.prog p35 35 = some a35 := by decide +kernel
def p9 : Plan := ⟨[59], 6, [((1, 1), { box := some 0 }),
 ((2, 2), { uses := [(9, .share)] }),
 ((2, 3), { box := some 1 }),
 ((3, 2), { uses := [(12, .share)] }),
 ((3, 3), { box := some 2 }),
 ((4, 2), { uses := [(15, .share)] }),
 ((4, 3), { box := some 3 }),
 ((5, 2), { uses := [(18, .share)] }),
 ((5, 3), { box := some 4 }),
 ((6, 2), { uses := [(21, .share)] }),
 ((6, 3), { box := some 5 }),
 ((7, 27), { uses := [(48, .share), (49, .share)] }),
 ((7, 37), { uses := [(59, .peek)] })],
 []⟩
def a9 : AFunc := ⟨0, 63, 6, [.tmp 0],
 .seq (.region false [o_ 0 (.mv (.c (.bool false)))])
 (.seq (.region false [o_ 7 (.build [(.int .i64 0), (.int .i64 0), (.int .i64 0)] []),
 o_ 1 (.allocL 0 [(.int .i64 0), (.int .i64 0), (.int .i64 0)]),
 ⟨none, none, false, .store 3 (.t 1) (.t 7), .none⟩])
 (.seq (.region false [o_ 8 (.load true 3 (.t 1) .copy),
 o_ 9 (.buildSlice 1 [(.int .i64 0)] 2 [(0, (.c (.int .i64 1))), (1, (.c (.int .i64 31)))]),
 o_ 10 (.callF 15 [(.t 8), (.u 9 .share)]),
 o_ 2 (.allocL 1 [(.int .i64 0), (.int .i64 0), (.int .i64 0)]),
 ⟨none, none, false, .store 3 (.t 2) (.t 10), .none⟩])
 (.seq (.region false [o_ 11 (.load true 3 (.t 1) .copy),
 o_ 12 (.buildSlice 1 [(.int .i64 0)] 3 [(0, (.c (.int .i64 38))), (1, (.c (.int .i64 5))), (2, (.c (.int .i64 200)))]),
 o_ 13 (.callF 15 [(.t 11), (.u 12 .share)]),
 o_ 3 (.allocL 2 [(.int .i64 0), (.int .i64 0), (.int .i64 0)]),
 ⟨none, none, false, .store 3 (.t 3) (.t 13), .none⟩])
 (.seq (.region false [o_ 14 (.load true 3 (.t 1) .copy),
 o_ 15 (.buildSlice 1 [(.int .i64 0)] 5 [(0, (.c (.int .i64 38))), (1, (.c (.int .i64 2))), (2, (.c (.int .i64 1))), (3, (.c (.int .i64 2))), (4, (.c (.int .i64 3)))]),
 o_ 16 (.callF 15 [(.t 14), (.u 15 .share)]),
 o_ 4 (.allocL 3 [(.int .i64 0), (.int .i64 0), (.int .i64 0)]),
 ⟨none, none, false, .store 3 (.t 4) (.t 16), .none⟩])
 (.seq (.region false [o_ 17 (.load true 3 (.t 1) .copy),
 o_ 18 (.buildSlice 1 [(.int .i64 0)] 4 [(0, (.c (.int .i64 38))), (1, (.c (.int .i64 5))), (2, (.c (.int .i64 300))), (3, (.c (.int .i64 1)))]),
 o_ 19 (.callF 15 [(.t 17), (.u 18 .share)]),
 o_ 5 (.allocL 4 [(.int .i64 0), (.int .i64 0), (.int .i64 0)]),
 ⟨none, none, false, .store 3 (.t 5) (.t 19), .none⟩])
 (.seq (.region false [o_ 20 (.load true 3 (.t 1) .copy),
 o_ 21 (.buildSlice 1 [(.int .i64 0)] 3 [(0, (.c (.int .i64 38))), (1, (.c (.int .i64 7))), (2, (.c (.int .i64 1)))]),
 o_ 22 (.callF 15 [(.t 20), (.u 21 .share)]),
 o_ 6 (.allocL 5 [(.int .i64 0), (.int .i64 0), (.int .i64 0)]),
 ⟨none, none, false, .store 3 (.t 6) (.t 22), .none⟩])
 (.seq (.region false [o_ 23 (.load true 3 (.t 2) .copy),
 o_ 24 (.build [(.int .i64 0), (.int .i64 0), (.int .i64 0)] [(0, 1, (.c (.int .i64 2))), (2, 1, (.c (.int .i64 1)))]),
 o_ 25 (.eq false (.plain [.int, .int, .int]) (.t 23) (.t 24)),
 o_ 26 (.mv (.t 25)),
 ⟨(some 27), (some (26, true)), false, .fieldAddr 0 (.t 3), .none⟩,
 ⟨(some 28), (some (26, true)), false, .load false 1 (.t 27) .copy, .none⟩,
 ⟨(some 29), (some (26, true)), false, .bin .eql (.t 28) (.c (.int .i64 201)), .none⟩,
 o_ 30 (.pick (.t 26) (.t 29) (.c (.bool false))),
 o_ 31 (.mv (.t 30)),
 ⟨(some 32), (some (31, true)), false, .fieldAddr 0 (.t 4), .none⟩,
 ⟨(some 33), (some (31, true)), false, .load false 1 (.t 32) .copy, .none⟩,
 ⟨(some 34), (some (31, true)), false, .bin .eql (.t 33) (.c (.int .i64 16843267)), .none⟩,
 o_ 35 (.pick (.t 31) (.t 34) (.c (.bool false))),
 o_ 36 (.mv (.t 35)),
 ⟨(some 37), (some (36, true)), false, .load true 3 (.t 5) .copy, .none⟩,
 ⟨(some 38), (some (36, true)), false, .build [(.int .i64 0), (.int .i64 0), (.int .i64 0)] [(2, 1, (.c (.int .i64 1)))], .none⟩,
 ⟨(some 39), (some (36, true)), false, .eq false (.plain [.int, .int, .int]) (.t 37) (.t 38), .none⟩,
 o_ 40 (.pick (.t 36) (.t 39) (.c (.bool false))),
 o_ 41 (.mv (.t 40)),
 ⟨(some 42), (some (41, true)), false, .load true 3 (.t 6) .copy, .none⟩,
 ⟨(some 43), (some (41, true)), false, .load true 3 (.t 1) .copy, .none⟩,
 ⟨(some 44), (some (41, true)), false, .eq false (.plain [.int, .int, .int]) (.t 42) (.t 43), .none⟩,
 o_ 45 (.pick (.t 41) (.t 44) (.c (.bool false))),
 o_ 46 (.mv (.t 45)),
 ⟨(some 47), (some (46, true)), false, .build [(.int .i64 0), (.int .i64 0), (.int .i64 0)] [(1, 1, (.c (.int .i64 2))), (2, 1, (.c (.int .i64 1)))], .none⟩,
 ⟨(some 48), (some (46, true)), false, .callF 36 [(.t 47)], .none⟩,
 ⟨(some 49), (some (46, true)), false, .buildSlice 1 [(.int .i64 0)] 3 [(0, (.c (.int .i64 0))), (1, (.c (.int .i64 1))), (2, (.c (.int .i64 41)))], .none⟩,
 ⟨(some 50), (some (46, true)), false, .callF 35 [(.u 48 .share), (.u 49 .share)], .none⟩,
 o_ 51 (.pick (.t 46) (.t 50) (.c (.bool false))),
 o_ 52 (.mv (.t 51)),
 ⟨(some 53), (some (52, true)), false, .load true 3 (.t 2) .copy, .none⟩,
 ⟨(some 54), (some (52, true)), false, .callF 37 [(.t 53)], .none⟩,
 o_ 55 (.pick (.t 52) (.t 54) (.c (.bool false))),
 o_ 56 (.mv (.t 55)),
 ⟨(some 57), (some (56, true)), false, .load true 3 (.t 2) .copy, .none⟩,
 ⟨(some 58), (some (56, true)), false, .load true 3 (.t 2) .copy, .none⟩,
 ⟨(some 59), (some (56, true)), true, .callF 10 [(.t 57), (.t 58)], .none⟩,
 ⟨(some 60), (some (56, true)), false, .lenSl (.u 59 .peek), .none⟩,
 ⟨(some 61), (some (56, true)), false, .bin .eql (.t 60) (.c (.int .i64 0)), .none⟩,
 o_ 62 (.pick (.t 56) (.t 61) (.c (.bool false))),
 o_ 0 (.mv (.t 62))])
 (.ret))))))))⟩
def v9 : List Nat := [0, 1, 2, 3, 4, 5, 6]
theorem c9 : cFunc Go.Proofs.Tryd.prog p9 9 = some a9 := by decide +kernel
def codes : List (Nat × AFunc) := [(78, a78), (37, a37), (38, a38), (76, a76), (77, a77), (36, a36), (104, a104), (79, a79), (39, a39), (10, a10), (11, a11), (89, a89), (43, a43), (14, a14), (30, a30), (80, a80), (40, a40), (81, a81), (82, a82), (83, a83), (41, a41), (12, a12), (88, a88), (84, a84), (85, a85), (86, a86), (87, a87), (131, a131), (152, a152), (132, a132), (106, a106), (133, a133), (134, a134), (107, a107), (135, a135), (108, a108), (111, a111), (91, a91), (153, a153), (154, a154), (136, a136), (110, a110), (42, a42), (109, a109), (13, a13), (90, a90), (44, a44), (45, a45), (15, a15), (3, a3), (35, a35)]
def ET : Table := tableOf codes sbX
theorem codes_ok : allOK Go.Proofs.Tryd.prog codes := ⟨cFunc_ok c78, cFunc_ok c37, cFunc_ok c38, cFunc_ok c76, cFunc_ok c77, cFunc_ok c36, cFunc_ok c104, cFunc_ok c79, cFunc_ok c39, cFunc_ok c10, cFunc_ok c11, cFunc_ok c89, cFunc_ok c43, cFunc_ok c14, cFunc_ok c30, cFunc_ok c80, cFunc_ok c40, cFunc_ok c81, cFunc_ok c82, cFunc_ok c83, cFunc_ok c41, cFunc_ok c12, cFunc_ok c88, cFunc_ok c84, cFunc_ok c85, cFunc_ok c86, cFunc_ok c87, cFunc_ok c131, cFunc_ok c152, cFunc_ok c132, cFunc_ok c106, cFunc_ok c133, cFunc_ok c134, cFunc_ok c107, cFunc_ok c135, cFunc_ok c108, cFunc_ok c111, cFunc_ok c91, cFunc_ok c153, cFunc_ok c154, cFunc_ok c136, cFunc_ok c110, cFunc_ok c42, cFunc_ok c109, cFunc_ok c13, cFunc_ok c90, cFunc_ok c44, cFunc_ok c45, cFunc_ok c15, cFunc_ok c3, cFunc_ok c35, trivial⟩
def codes0 : List (Nat × AFunc) := (9, a9) :: codes
def ET0 : Table := tableOf codes0 repX
theorem codes0_ok : allOK Go.Proofs.Tryd.prog codes0 := ⟨cFunc_ok c9, codes_ok⟩
end Go.Proofs.YtdlijnfdkeimlaaDoor.Am.Esc

namespace Go.Proofs
open Go.Shelf
def Tryd.lays288_ren : Go.Shelf.Ren := ⟨fun | 288 => 129 | 283 => 146 | 284 => 147 | 285 => 148 | 286 => 149 | 129 => 128 | 317 => 160 | 318 => 161 | 319 => 162 | 320 => 163 | 337 => 166 | 338 => 167 | n => n, fun | 37 => 25 | 53 => 153 | 3 => 3 | 4 => 4 | 9 => 9 | 171 => 170 | 0 => 0 | 173 => 172 | 212 => 185 | 51 => 140 | 5 => 5 | 20 => 20 | 213 => 186 | 46 => 123 | 232 => 188 | 233 => 189 | n => n, fun | 17 => 3 | 18 => 4 | 19 => 5 | n => n⟩
theorem Tryd.lays288 : Go.Proofs.LaysM.n288 Tryd.prog Tryd.lays288_ren := {
  mixed := by kernel_rfl
  f129 := Tryd.func128.trans (congrArg some (by kernel_rfl))
  f283 := Tryd.func146.trans (congrArg some (by kernel_rfl))
  f284 := Tryd.func147.trans (congrArg some (by kernel_rfl))
  f285 := Tryd.func148.trans (congrArg some (by kernel_rfl))
  f286 := Tryd.func149.trans (congrArg some (by kernel_rfl))
  f288 := Tryd.func129.trans (congrArg some (by kernel_rfl))
  f317 := Tryd.func160.trans (congrArg some (by kernel_rfl))
  f318 := Tryd.func161.trans (congrArg some (by kernel_rfl))
  f319 := Tryd.func162.trans (congrArg some (by kernel_rfl))
  f320 := Tryd.func163.trans (congrArg some (by kernel_rfl))
  f337 := Tryd.func166.trans (congrArg some (by kernel_rfl))
  f338 := Tryd.func167.trans (congrArg some (by kernel_rfl))
  t0 := Tryd.underlying0
  a0 := Tryd.isAgg0
  z0 := Tryd.sizeOf0
  v0 := Tryd.zeroValue0
  t3 := Tryd.underlying3
  a3 := Tryd.isAgg3
  z3 := Tryd.sizeOf3
  v3 := Tryd.zeroValue3
  t4 := Tryd.underlying4
  a4 := Tryd.isAgg4
  z4 := Tryd.sizeOf4
  v4 := Tryd.zeroValue4
  t5 := Tryd.underlying5
  a5 := Tryd.isAgg5
  z5 := Tryd.sizeOf5
  v5 := Tryd.zeroValue5
  t9 := Tryd.underlying9
  a9 := Tryd.isAgg9
  z9 := Tryd.sizeOf9
  v9 := Tryd.zeroValue9
  t20 := Tryd.underlying20
  a20 := Tryd.isAgg20
  z20 := Tryd.sizeOf20
  v20 := Tryd.zeroValue20
  t37 := Tryd.underlying25
  a37 := Tryd.isAgg25
  z37 := Tryd.sizeOf25
  v37 := Tryd.zeroValue25
  t46 := Tryd.underlying123
  a46 := Tryd.isAgg123
  z46 := Tryd.sizeOf123
  v46 := Tryd.zeroValue123
  t51 := Tryd.underlying140
  a51 := Tryd.isAgg140
  z51 := Tryd.sizeOf140
  v51 := Tryd.zeroValue140
  t53 := Tryd.underlying153
  a53 := Tryd.isAgg153
  z53 := Tryd.sizeOf153
  v53 := Tryd.zeroValue153
  t171 := Tryd.underlying170
  a171 := Tryd.isAgg170
  z171 := Tryd.sizeOf170
  v171 := Tryd.zeroValue170
  t173 := Tryd.underlying172
  a173 := Tryd.isAgg172
  z173 := Tryd.sizeOf172
  v173 := Tryd.zeroValue172
  t212 := Tryd.underlying185
  a212 := Tryd.isAgg185
  z212 := Tryd.sizeOf185
  v212 := Tryd.zeroValue185
  t213 := Tryd.underlying186
  a213 := Tryd.isAgg186
  z213 := Tryd.sizeOf186
  t232 := Tryd.underlying188
  a232 := Tryd.isAgg188
  z232 := Tryd.sizeOf188
  v232 := Tryd.zeroValue188
  t233 := Tryd.underlying189
  a233 := Tryd.isAgg189
  z233 := Tryd.sizeOf189
  v233 := Tryd.zeroValue189
  g17 := by kernel_rfl
  g18 := by kernel_rfl
  g19 := by kernel_rfl
  i0 := by kernel_rfl
  i3 := by kernel_rfl
  i4 := by kernel_rfl
  i5 := by kernel_rfl
  i9 := by kernel_rfl
  i20 := by kernel_rfl
  i37 := by kernel_rfl
  i46 := by kernel_rfl
  i51 := by kernel_rfl
  i53 := by kernel_rfl
  i171 := by kernel_rfl
  i173 := by kernel_rfl
  i212 := by kernel_rfl
  i232 := by kernel_rfl
  i233 := by kernel_rfl
  m17 := by kernel_rfl
  m18 := by kernel_rfl
  m19 := by kernel_rfl }
end Go.Proofs

set_option linter.all false
namespace Go.Proofs.YtdlijnfdkeimlaaDoor.Am
section
variable {P : Program} {g : G} {w : World} {nl : Nat} {fr : Nat → Nat} {S : Nat → Bool} {st : St} {ts : Array Value} {ps : List (V × Value)}
def G.also (g : G) (b : Nat) : G := { g with pers := fun c => g.pers c ∨ c = b }
theorem G.also_ext (g : G) (b : Nat) : GExt g (g.also b) := ⟨fun _ h => .inl h, rfl, rfl, rfl⟩
theorem SR.alsoPers (h : SR g w nl fr S st ts ps) {b : Nat} (h0 : total g w nl fr st ts ps b = 0) (hb : b < w.heap.size) : SR (g.also b) w nl fr S st ts ps := by
 have hg := G.also_ext g b
 have hT : ∀ c, total (g.also b) w nl fr st ts ps c ≤ total g w nl fr st ts ps c + (if c = b then 1 else 0) := fun c => by
  have h1 : cntB (g.also b) w c nl st.l = cntB g w c nl st.l := sumTo_congr fun j _ => by unfold boxOf; rw [hg.lb]
  have h2 : cntM (g.also b) w c st.m = cntM g w c st.m := sumTo_congr fun b' _ => by unfold memOf; rw [hg.mb]
  have h3 : persOf (g.also b) c ≤ persOf g c + (if c = b then 1 else 0) := by
   unfold persOf
   by_cases hp : (g.also b).pers c
   ·rw [if_pos hp]
    rcases hp with hq | hq
    ·rw [if_pos hq]; omega
    ·rw [if_pos hq]; omega
   ·rw [if_neg hp]; omega
  unfold total
  rw [h1, h2]
  omega
 refine ⟨fun s => (h.temps s).gext hg, h.dead, h.peeks, fun p hp => (h.pend p hp).gext hg, h.ppeeks, fun j => by rw [hg.lv]; exact h.lvs j, fun j hj => ?_, fun b' hb' => ?_, fun c => ?_, fun c hc => ?_⟩
 ·rw [hg.lb]; exact ⟨(h.locs j hj).1, (h.locs j hj).2.gext hg⟩
 ·rw [hg.mb]; exact ⟨(h.mem b' hb').1.gext hg, (h.mem b' hb').2⟩
 ·have := hT c
  by_cases hc : c = b
  ·rw [if_pos hc] at this; subst hc; omega
  ·rw [if_neg hc] at this; have := h.one c; omega
 ·have := hT c
  rw [if_neg (by omega)] at this
  have := h.out c hc
  omega
theorem SR.also (h : SR g w nl fr S st ts ps) {y : V} {v : Value} (hy : R3 g w st.m.length (tsAt ts) y v) (ho : y.hasOwn = false) (hr : ∀ d, y.root? ≠ some (.tmp d)) : SR g w nl fr S st ts (ps ++ [(y, v)]) := by
 have hT : ∀ c, total g w nl fr st ts (ps ++ [(y, v)]) c = total g w nl fr st ts ps c := fun c => by
  have : cntP c (ps ++ [(y, v)]) = cntP c ps := by
   induction ps with
   | nil => rw [List.nil_append, cntP_cons, cnt2_zero ho]; simp
   | cons p ps ih => rw [List.cons_append, cntP_cons, cntP_cons, ih ⟨h.temps, h.dead, h.peeks, fun q hq => h.pend q (.tail _ hq), fun q hq => h.ppeeks q (.tail _ hq), h.lvs, h.locs, h.mem, fun c => Nat.le_trans (by unfold total; rw [cntP_cons]; omega) (h.one c), fun c hc => Nat.le_zero.1 (by have := h.out c hc; unfold total at this ⊢; rw [cntP_cons] at this; omega)⟩]
  unfold total
  rw [this]
 refine ⟨h.temps, h.dead, h.peeks, fun p hp => ?_, fun p hp d hd => ?_, h.lvs, h.locs, h.mem, fun c => by rw [hT]; exact h.one c, fun c hc => by rw [hT]; exact h.out c hc⟩
 ·rcases List.mem_append.1 hp with hp | hp
  ·exact h.pend p hp
  ·rw [List.mem_singleton.1 hp]; exact hy
 ·rcases List.mem_append.1 hp with hp | hp
  ·exact h.ppeeks p hp d hd
  ·rw [List.mem_singleton.1 hp] at hd; exact absurd hd (hr d)
end
end Go.Proofs.YtdlijnfdkeimlaaDoor.Am

set_option linter.all false
namespace Go.Proofs.YtdlijnfdkeimlaaDoor.Am
theorem good_none {P : Program} [Lay P] : Good P (fun _ _ _ => none) := fun _ _ _ _ _ h => by cases h
theorem append_call {P : Program} [Lay P] {g : G} {w : World} {fr : Nat → Nat} {t u e : TypeId} {inf : TypeInfo} {z : List V} (ht : P.underlying t = some (.slice e)) (hi : P.info? e = some inf) (hz : zeroOf P e = some z) (hzl : z.length = inf.size) (hb : inf.bytes ≤ 4096) (hpos : 0 < inf.size)
  (hu : (∃ e', P.underlying u = some (.slice e')) ∨ P.underlying u = some .string) (hL : Laid P g w) {m : List (List V)} {x y : V} {xs ys : List (List V)} {v0 v1 : Value} (hx : (x = .nils ∧ xs = [] ∧ 0 < ys.length) ∨ x = .slice true inf.size xs) (hm : xs.length + ys.length ≤ most)
  (h1 : y.hasOwn = false) (hye : ∀ st, elemsZ inf.size st y = some ys) (hok : ([x, y] : List V).all V.okArg = true) (hokr : okRet (.slice true inf.size (xs ++ ys)) = true)
  (h : SR g w 0 fr (fun _ => false) ⟨fun _ => .undef, fun _ => [], m⟩ #[] [(x, v0), (y, v1)]) :
  ∃ v w' g', (Builtin.append_ #[t, u] t #[v0, v1]).run P w = .ok v w' ∧ SR g' w' 0 fr (fun _ => false) ⟨fun _ => .undef, fun _ => [], m⟩ #[] [(.slice true inf.size (xs ++ ys), v)] ∧ Ext fr m.length g w g' w' := by
 have hS := SR.enter (args := [x, y]) (vs := #[v0, v1]) h rfl hok (fun _ => false) 0 0
 obtain ⟨oc, hoc⟩ : ∃ oc : Oper, oc = { dst := some 0, op := .call { callee := .builtin .append, args := #[.tmp 0, .tmp 1], argTypes := #[t, u] }, type := t, pos := "", after := #[], guard := none } := ⟨_, rfl⟩
 obtain ⟨a, ha⟩ : ∃ a : Act, a = ⟨#[v0, v1] ++ Array.replicate 0 undef, []⟩ := ⟨_, rfl⟩
 have hop := ok_append (P := P) (S := fun _ => false) (nl := 0) (oc := oc) (x := .tmp 0) (y := .tmp 1) (ox := .u 0 .take) (oy := .t 1) (by rw [hoc]) rfl rfl rfl ht hu hi hz hzl hb hpos ⟨rfl, fun h => by cases h⟩ rfl
 have hev : evalOp (fun _ _ _ => none) ⟨fun i => ([x, y] : List V).getD i .undef, fun _ => [], m⟩ (.append inf.size (.u 0 .take) (.t 1)) = some (.slice true inf.size (xs ++ ys), ⟨upd (fun i => ([x, y] : List V).getD i .undef) 0 .undef, fun _ => [], m⟩) := by
  have e0 : getO ⟨fun i => ([x, y] : List V).getD i .undef, fun _ => [], m⟩ (.u 0 .take) = some (x, ⟨upd (fun i => ([x, y] : List V).getD i .undef) 0 .undef, fun _ => [], m⟩) := rfl
  have e1 : getO ⟨upd (fun i => ([x, y] : List V).getD i .undef) 0 .undef, fun _ => [], m⟩ (.t 1) = some (y, ⟨upd (fun i => ([x, y] : List V).getD i .undef) 0 .undef, fun _ => [], m⟩) := by
   show (if y.hasOwn then none else some (y, _)) = _
   rw [h1]; rfl
  simp only [evalOp, e0, e1, Option.bind_some, hye]
  rcases hx with ⟨rfl, rfl, hy⟩ | rfl
  ·simp only [List.nil_append]
   rw [if_pos ⟨by simpa using hm, hy⟩]
  ·exact if_pos ⟨hm, rfl⟩
 have hwp := hop (fun _ _ _ => none) g w fr _ a _ _ ⟨good_none, hL⟩ (by rw [ha]; exact hS) hev (fun a' w' => ∃ v g', a' = a.put (some 0) v ∧ SR g' w' 0 fr (fun _ => false) ⟨fun _ => .undef, fun _ => [], m⟩ #[] [(.slice true inf.size (xs ++ ys), v)] ∧ Ext fr m.length g w g' w') (fun _ _ _ => False)
  (fun v g' w' h1 h2 h3 => ⟨v, { g' with lv := fun _ => False }, by rw [hoc], h1.leave hokr (.inl rfl), ⟨h2.os, h2.tape, h2.output, h2.size, h2.pers, h2.frame, h2.mb⟩⟩)
 have e : (execOp a.eval oc).run P w = ((Builtin.append_ #[t, u] t #[v0, v1]).run P w).andThen fun v w' => .ok (.value v) w' := by
  rw [hoc, ha]
  have em : Array.map (Act.eval ⟨#[v0, v1] ++ Array.replicate 0 undef, []⟩) #[Operand.tmp 0, Operand.tmp 1] = #[v0, v1] := by
   simp [Act.eval]
  simp only [execOp, resolve, Sem.run_bind, Sem.run_pure, Result.andThen_ok, invoke, builtin, em]
 unfold Oper.wp at hwp
 rw [e] at hwp
 cases hr : (Builtin.append_ #[t, u] t #[v0, v1]).run P w with
 | ok v w' =>
  rw [hr] at hwp
  obtain ⟨v', g', k1, k2, k3⟩ := hwp
  have : v = v' := by
   have := congrArg (fun q : Act => tsAt q.tmps 0) k1
   rw [hoc, ha] at this
   simpa [Act.put, tsAt] using this
  subst this
  exact ⟨v, w', g', rfl, k2, k3⟩
 | halt hh w' =>
  rw [hr] at hwp
  cases hh <;> exact False.elim hwp
end Go.Proofs.YtdlijnfdkeimlaaDoor.Am

namespace Go.Proofs.SbApp
open Go.Shelf Go.RowKit Go.Sort Go.Lib
set_option linter.all false
theorem wpList_append_run {P : Program} {Q : Exit → Act → World → Prop} {ops : Array Oper} {rest : List Oper} {o : Oper} {a : Act} {w w' : World} {v : Value} (hgd : o.guard = none) (s x : Operand) (t u : TypeId)
  (ho : o.op = .call { callee := .builtin .append, args := #[s, x], argTypes := #[t, u] }) (hr : (Builtin.append_ #[t, u] o.type #[a.eval s, a.eval x]).run P w = .ok v w')
  (h : wpList P ops Q rest (a.put o.dst v) w') : wpList P ops Q (o :: rest) a w :=
 wpList_plain hgd fun K hK => by
  refine Go.Proofs.YtdlijnfdkeimlaaDoor.Am.wp_value (v := v) (w' := w') ?_ (hK _ _ h)
  simp only [execOp, ho, resolve, Sem.run_bind, Sem.run_pure, Result.andThen_ok, invoke, builtin]
  have em : Array.map a.eval #[s, x] = #[a.eval s, a.eval x] := by simp
  rw [em, hr]; rfl
set_option maxHeartbeats 4000000 in
set_option maxRecDepth 100000 in
theorem appU (u : Nat) (hu : 100 ≤ u) (hu64 : u < 18446744073709551616) (sv : Value) (w : World) (htab : Lib.TabIs Tryd.prog w "internal/strconv.uint64pow10" .u64 Lib.pow10Tab) (R : Ending → World → Prop)
  (hap : ∀ W2, Below w.heap.size w W2 → (∀ j, j < Lib.nDigits u → W2.cell? ⟨w.heap.size, j, none⟩ = some (.int .u8 (((Lib.decDigits u).getD j 0).toNat : Int))) → ∃ v w', (Builtin.append_ #[25, 25] 25 #[sv, .slice (some ⟨w.heap.size, 0, none⟩) (Lib.nDigits u) 24]).run Tryd.prog W2 = .ok v w' ∧ R (.returned v) w') :
  Calls Tryd.prog 129 #[sv, .int .u64 u, .int .i64 10] w R := by
 have L := Tryd.lays288
 have hu1 : 1 ≤ u := by omega
 have hnd20 : Lib.nDigits u ≤ 20 := by have := Lib.numDigits_eq u hu1 hu64; split at this <;> omega
 have hsl : ∀ W, (Instr.sliceAt 170 (.pointer (some ⟨w.heap.size, 0, none⟩)) none (some (.int .i64 (Lib.nDigits u : Int))) none).run Tryd.prog W = .ok (.slice (some ⟨w.heap.size, 0, none⟩) (Lib.nDigits u) 24) W := fun W => by
  rw [run_sliceAt_array_h W 170 ⟨w.heap.size, 0, none⟩ (by kernel_rfl) .i64 (Lib.nDigits u : Int) (by omega) (by rw [show Tryd.prog.arrayLen 170 = 24 by kernel_rfl]; omega)]
  go_simp
 have hH0 := Lib.holds_zero0 w 170 (Lib.nDigits u) (by omega)
 have hfmt := Any.internal_strconv_formatBase10 { L with } w.heap.size 0 24 u (Array.replicate (Lib.nDigits u) 0) (w.alloc (.cells Lib.zeros24 170)) hH0 (by rw [Array.size_replicate]; exact Lib.lt_pow_nDigits u) hu64 (by rw [Array.size_replicate]; omega)
 rw [Array.size_replicate] at hfmt
 have HH0 := Lib.hid hH0
 have iu : (100 : Int) ≤ (u : Int) := by omega
 clear hH0
 go_enter Tryd.func129, Tryd.ntmps129
 go_wp2_with (first
  | (refine (Any.internal_strconv_numDigits { L with } u hu1 hu64 _ (Lib.tabIs_alloc htab _)).mono ?_; rintro e w' ⟨rfl, rfl⟩))
 refine hfmt.mono ?_
 rintro e w' ⟨rfl, k, v', dk, rfl, hF⟩
 obtain ⟨os, eo⟩ := Lib.fin_at w (.cells Lib.zeros24 170) dk k 0
 have hB : Below w.heap.size w ((putRow (fun (b : UInt8) => Value.int .u8 (b.toNat : Int)) (w.alloc (.cells Lib.zeros24 170)) w.heap.size 0 dk).drewN k) := by rw [eo]; exact Lib.below_grow _ w (Nat.le_refl _) k os
 have hc : ∀ j, j < Lib.nDigits u → ((putRow (fun (b : UInt8) => Value.int .u8 (b.toNat : Int)) (w.alloc (.cells Lib.zeros24 170)) w.heap.size 0 dk).drewN k).cell? ⟨w.heap.size, j, none⟩ = some (.int .u8 (((Lib.decDigits u).getD j 0).toNat : Int)) := by
  intro j hj
  have hjl : j < (Lib.decDigits u).length := by rw [Lib.decDigits_length]; exact hj
  rw [World.cell?_drewN]
  have := cell?_putRow (fun (b : UInt8) => Value.int .u8 (b.toNat : Int)) _ w.heap.size 0 _ dk HH0.out (by rw [hF.size, Array.size_replicate]) j (by rw [hF.size]; exact hj)
  rw [Nat.zero_add] at this
  rw [this, List.getD_eq_getElem?_getD, List.getElem?_eq_getElem hjl, Option.getD_some, Lib.row_is_numeral hF j hjl]
 generalize (putRow (fun (b : UInt8) => Value.int .u8 (b.toNat : Int)) (w.alloc (.cells Lib.zeros24 170)) w.heap.size 0 dk).drewN k = W2 at hB hc ⊢
 obtain ⟨v, w', hr, hR⟩ := hap W2 hB hc
 clear eo HH0 hfmt
 go_wp2_with (at_builtin; refine wpList_append_run rfl _ _ 25 25 rfl hr ?_)
 exact hR
set_option maxHeartbeats 4000000 in
set_option maxRecDepth 100000 in
theorem appU0 (u : Nat) (hu : u < 100) (sv : Value) (w : World) (R : Ending → World → Prop)
  (hap : ∃ v w', (Builtin.append_ #[25, 9] 25 #[sv, .string ⟨(Lib.decDigits u).toArray⟩]).run Tryd.prog w = .ok v w' ∧ R (.returned v) w') :
  Calls Tryd.prog 129 #[sv, .int .u64 u, .int .i64 10] w R := by
 have L := Tryd.lays288
 have iu : (u : Int) < 100 := by omega
 have hsm := Any.internal_strconv_small { L with } u hu
 obtain ⟨v, w', hr, hR⟩ := hap
 go_enter Tryd.func129, Tryd.ntmps129
 go_wp2_with (first
  | (refine (hsm _).mono ?_; rintro e w' ⟨rfl, rfl⟩)
  | (at_builtin; refine wpList_append_run rfl _ _ 25 9 rfl hr ?_))
 exact hR
end Go.Proofs.SbApp

namespace Go.Proofs.YtdlijnfdkeimlaaDoor.Am
inductive Fits (P : Program) : TypeId → List V → Prop
 | bool {t : TypeId} (b : Bool) (h : P.underlying t = some .bool) : Fits P t [.bool b]
 | int {t : TypeId} {k : IntKind} (n : Int) (h : P.underlying t = some (.int k)) (hn : (Lit.int k n).wf = true) : Fits P t [.int k n]
 | str {t : TypeId} (s : List UInt8) (h : P.underlying t = some .string) (hs : s.length ≤ maxLen) : Fits P t [.str s]
 | nils {t e : TypeId} (h : P.underlying t = some (.slice e)) : Fits P t [.nils]
 | slice {t e : TypeId} (xs : List (List V)) (h : P.underlying t = some (.slice e)) (hl : xs.length ≤ maxLen) (hx : ∀ i, i < xs.length → Fits P e (xs.getD i [])) : Fits P t [.slice false (P.cellsOf e) xs]
 | struct {t : TypeId} {fs : Array Field} (cs : List V) (h : P.underlying t = some (.struct fs)) (hl : cs.length = P.cellsOf t) (hf : ∀ f ∈ fs.toList, Fits P f.type ((cs.drop f.offset).take (P.cellsOf f.type))) : Fits P t cs
 | array {t e : TypeId} {n : Nat} (cs : List V) (h : P.underlying t = some (.array n e)) (hl : cs.length = P.cellsOf t) (hf : ∀ i, i < n → Fits P e ((cs.drop (i * P.cellsOf e)).take (P.cellsOf e))) : Fits P t cs
def tiles (P : Program) : Nat → List Field → Nat → Bool
 | n, [], m => n == m
 | n, f :: fs, m => f.offset == n && tiles P (n + P.cellsOf f.type) fs m
def supT (P : Program) : Nat → TypeId → Bool
 | 0, _ => false
 | d + 1, t => match P.underlying t with
  | some .bool | some (.int _) | some .string => P.cellsOf t == 1
  | some (.slice e) => P.cellsOf t == 1 && decide (0 < P.cellsOf e) && supT P d e
  | some (.struct fs) => tiles P 0 fs.toList (P.cellsOf t) && fs.toList.all fun f => supT P d f.type
  | some (.array n e) => P.cellsOf t == n * P.cellsOf e && supT P d e
  | _ => false
section
variable {P : Program} {H : Type} {enc : TypeId × Value → H} {W : World}
def blocksOf (W : World) : Nat → Prop := fun c => c < W.heap.size
theorem cell_block {a : Addr} {v : Value} (h : W.cell? a = some v) : a.block < W.heap.size ∧ a.spot = none := by
 unfold World.cell? at h
 cases hb : W.heap[a.block]? with
 | none => rw [hb] at h; cases h
 | some o =>
  rw [hb] at h
  refine ⟨(Array.getElem?_eq_some_iff.1 hb).1, ?_⟩
  cases o with
  | cells c _ _ =>
   simp only at h
   split at h
   ·cases h
   ·rename_i hs; simpa using hs
  | _ => cases h
def Reads (P : Program) (W : World) (t : TypeId) (cs : List Value) : Prop :=
 ∃ vs : List V, vs.length = cs.length ∧ Fits P t vs ∧ ∀ k, k < cs.length → RB (blocksOf W) W (vs.getD k .undef) (cs.getD k undef)
theorem trod_array {n : Nat} {e t : TypeId} {base fuel : Nat} {sp : Nat → Bool} {held : Bool} {cs : List Value} {x : DataW H × List MemPlace} (ht : P.underlying t = some (.array n e)) (h : DataW.trod enc P W base sp held fuel t cs = some x) :
  cs.length = P.cellsOf t ∧ ∃ m, ∀ i, i < n → ∃ y, DataW.trod enc P W base sp held m e ((cs.drop (i * P.cellsOf e)).take (P.cellsOf e)) = some y := by
 cases fuel with
 | zero => simp [DataW.trod] at h
 | succ m =>
  unfold DataW.trod at h
  rw [ht] at h
  split at h <;> simp_all
  obtain ⟨hl, xs, hp, hd⟩ := h
  refine ⟨m, fun i hi => ?_⟩
  have h1 := mapM_some_length hp
  have h2 := mapM_some_get hp i i (by simp [hi])
  simp only [List.length_range] at h1
  rw [List.getElem?_eq_getElem (by omega)] at h2
  exact ⟨_, _, h2⟩
def RBs (W : World) (vs : List V) (cs : List Value) : Prop := vs.length = cs.length ∧ ∀ k, k < cs.length → RB (blocksOf W) W (vs.getD k .undef) (cs.getD k undef)
theorem RBs.append {vs us : List V} {cs ds : List Value} (h : RBs W vs cs) (k : RBs W us ds) : RBs W (vs ++ us) (cs ++ ds) := by
 refine ⟨by simp [h.1, k.1], fun i hi => ?_⟩
 simp only [List.getD_eq_getElem?_getD]
 have h1 := h.1
 by_cases hlt : i < cs.length
 ·have := h.2 i hlt
  simp only [List.getD_eq_getElem?_getD] at this
  rw [List.getElem?_append_left (by omega), List.getElem?_append_left hlt]; exact this
 ·rw [List.length_append] at hi
  have := k.2 (i - cs.length) (by omega)
  simp only [List.getD_eq_getElem?_getD] at this
  rw [List.getElem?_append_right (by omega), List.getElem?_append_right (by omega), h1]; exact this
theorem reads_iff {t : TypeId} {cs : List Value} : Reads P W t cs ↔ ∃ vs, Fits P t vs ∧ RBs W vs cs :=
 ⟨fun ⟨vs, a, b, c⟩ => ⟨vs, b, a, c⟩, fun ⟨vs, b, a, c⟩ => ⟨vs, a, b, c⟩⟩
theorem fields_of {cs : List Value} : ∀ {fs : List Field} {n m : Nat}, tiles P n fs m = true → m ≤ cs.length → (∀ f ∈ fs, Reads P W f.type ((cs.drop f.offset).take (P.cellsOf f.type))) →
  n ≤ m ∧ ∃ vs, RBs W vs ((cs.drop n).take (m - n)) ∧ ∀ f ∈ fs, n ≤ f.offset ∧ Fits P f.type ((vs.drop (f.offset - n)).take (P.cellsOf f.type))
 | [], n, m, ht, hm, _ => by
  have : n = m := by simpa [tiles] using ht
  subst this
  exact ⟨Nat.le_refl _, [], ⟨by simp, fun k hk => absurd hk (by simp)⟩, fun f hf => by cases hf⟩
 | f :: fs, n, m, ht, hm, hr => by
  simp only [tiles, Bool.and_eq_true, beq_iff_eq] at ht
  obtain ⟨h0, ht⟩ := ht
  obtain ⟨hle, vs, hvs, hfs⟩ := fields_of ht hm fun g hg => hr g (.tail _ hg)
  obtain ⟨us, hfit, hus⟩ := reads_iff.1 (hr f (.head _))
  rw [h0] at hus
  have hul : us.length = P.cellsOf f.type := by rw [hus.1]; simp; omega
  have hsplit : (cs.drop n).take (m - n) = (cs.drop n).take (P.cellsOf f.type) ++ (cs.drop (n + P.cellsOf f.type)).take (m - (n + P.cellsOf f.type)) := by
   rw [← List.drop_drop, ← List.take_add]
   congr 1
   omega
  refine ⟨by omega, us ++ vs, by rw [hsplit]; exact hus.append hvs, fun g hg => ?_⟩
  cases hg with
  | head =>
   refine ⟨by omega, ?_⟩
   rw [h0, Nat.sub_self, List.drop_zero, List.take_append_of_le_length (by omega), List.take_of_length_le (by omega)]
   exact hfit
  | tail _ hg =>
   obtain ⟨h1, h2⟩ := hfs g hg
   refine ⟨by omega, ?_⟩
   rw [List.drop_append, List.drop_eq_nil_of_le (by omega), List.nil_append, hul]
   rw [show g.offset - n - P.cellsOf f.type = g.offset - (n + P.cellsOf f.type) from by omega]
   exact h2
theorem elems_of {cs : List Value} {e : TypeId} : ∀ {n : Nat}, n * P.cellsOf e ≤ cs.length → (∀ i, i < n → Reads P W e ((cs.drop (i * P.cellsOf e)).take (P.cellsOf e))) →
  ∃ vs, RBs W vs (cs.take (n * P.cellsOf e)) ∧ ∀ i, i < n → Fits P e ((vs.drop (i * P.cellsOf e)).take (P.cellsOf e))
 | 0, _, _ => ⟨[], ⟨by simp, fun k hk => absurd hk (by simp)⟩, fun i hi => absurd hi (by omega)⟩
 | n + 1, hn, hr => by
  have hs : (n + 1) * P.cellsOf e = n * P.cellsOf e + P.cellsOf e := Nat.succ_mul _ _
  obtain ⟨vs, hvs, hfs⟩ := elems_of (n := n) (by omega) fun i hi => hr i (by omega)
  obtain ⟨us, hfit, hus⟩ := reads_iff.1 (hr n (by omega))
  have hvl : vs.length = n * P.cellsOf e := by rw [hvs.1]; simp; omega
  have hul : us.length = P.cellsOf e := by rw [hus.1]; simp; omega
  refine ⟨vs ++ us, by rw [hs, List.take_add]; exact hvs.append hus, fun i hi => ?_⟩
  by_cases hin : i = n
  ·subst hin
   rw [List.drop_append, List.drop_eq_nil_of_le (by omega), List.nil_append, hvl, Nat.sub_self, List.drop_zero, List.take_of_length_le (by omega)]
   exact hfit
  ·have h1 := hfs i (by omega)
   have h2 : i * P.cellsOf e + P.cellsOf e ≤ n * P.cellsOf e := by rw [← Nat.succ_mul]; exact Nat.mul_le_mul_right _ (by omega)
   rw [List.drop_append_of_le_length (by omega), List.take_append_of_le_length (by simp; omega)]
   exact h1
theorem list_choose {α : Type} {n : Nat} {p : Nat → α → Prop} (h : ∀ i, i < n → ∃ x, p i x) : ∃ l : List α, l.length = n ∧ ∀ i x, l[i]? = some x → p i x := by
 induction n with
 | zero => exact ⟨[], rfl, fun i x hx => by simp at hx⟩
 | succ n ih =>
  obtain ⟨l, hl, hp⟩ := ih fun i hi => h i (by omega)
  obtain ⟨x, hx⟩ := h n (by omega)
  refine ⟨l ++ [x], by simp [hl], fun i y hy => ?_⟩
  by_cases hi : i < l.length
  ·rw [List.getElem?_append_left hi] at hy; exact hp i y hy
  ·rw [List.getElem?_append_right (by omega)] at hy
   have : i - l.length = 0 := by
    rcases Nat.eq_zero_or_pos (i - l.length) with h0 | h0
    ·exact h0
    ·rw [List.getElem?_eq_none (by simp; omega)] at hy; cases hy
   rw [this] at hy
   simp only [List.getElem?_cons_zero, Option.some.injEq] at hy
   subst hy
   have : i = n := by omega
   subst this; exact hx
theorem reads_of : ∀ {d : Nat} {t : TypeId}, supT P d t = true → ∀ {fuel : Nat} {held : Bool} {cs : List Value} {x : DataW H × List MemPlace}, DataW.trod enc P W 0 (fun _ => true) held fuel t cs = some x → Reads P W t cs := by
 intro d
 induction d with
 | zero => intro t h; cases h
 | succ d ih =>
  intro t h fuel held cs x hx
  simp only [supT] at h
  split at h
  ·rename_i ht
   obtain ⟨b, rfl, _⟩ := DataW.trod_bool ht hx
   exact ⟨[.bool b], rfl, .bool b ht, fun k hk => by
    have : k = 0 := by simpa using hk
    subst this; exact .bool b⟩
  ·rename_i kk ht
   obtain ⟨n, rfl, _, hwf⟩ := DataW.trod_int ht hx
   exact ⟨[.int kk n], rfl, .int n ht hwf, fun k hk => by
    have : k = 0 := by simpa using hk
    subst this; exact .int kk n⟩
  ·rename_i ht
   obtain ⟨s, rfl, _, hs⟩ := DataW.trod_string ht hx
   exact ⟨[.str s.data.toList], rfl, .str _ ht (by simpa using hs), fun k hk => by
    have : k = 0 := by simpa using hk
    subst this; exact .str s⟩
  ·rename_i e ht
   simp only [Bool.and_eq_true, beq_iff_eq, decide_eq_true_eq] at h
   obtain ⟨⟨_, hpos⟩, hsup⟩ := h
   rcases DataW.trod_slice ht hx with ⟨rfl, _⟩ | ⟨a, len, cap, elems, rest, n, _, rfl, _, _, hlc, hcap, hel, he, hre, _⟩
   ·exact ⟨[.nils], rfl, .nils ht, fun k hk => by
     have : k = 0 := by simpa using hk
     subst this; exact .nils⟩
   ·have hone : ∀ i, i < len → ∃ vs : List V, Fits P e vs ∧ vs.length = P.cellsOf e ∧ ∀ k, k < P.cellsOf e → ∃ v, W.cell? ((a.add (i * P.cellsOf e)).add k) = some v ∧ RB (blocksOf W) W (vs.getD k .undef) v := fun i hi => by
     have h1 := he i hi
     rw [List.getElem?_eq_getElem (by omega)] at h1
     simp only [Option.bind_eq_some_iff] at h1
     obtain ⟨cs', hc1, hc2⟩ := h1
     obtain ⟨_, hl, hc⟩ := World.cells?_some hc1
     obtain ⟨vs, hf, hr⟩ := reads_iff.1 (ih hsup hc2)
     refine ⟨vs, hf, by rw [hr.1, hl], fun k hk => ⟨cs'.getD k undef, ?_, hr.2 k (by omega)⟩⟩
     rw [hc k hk, List.getD_eq_getElem?_getD, List.getElem?_eq_getElem (by omega)]; rfl
    obtain ⟨xs, hxl, hxs⟩ := list_choose hone
    have hxs' : ∀ i, i < xs.length → Fits P e (xs.getD i []) ∧ (xs.getD i []).length = P.cellsOf e ∧ ∀ k, k < P.cellsOf e → ∃ v, W.cell? ((a.add (i * P.cellsOf e)).add k) = some v ∧ RB (blocksOf W) W ((xs.getD i []).getD k .undef) v := fun i hi => by
     rw [List.getD_eq_getElem?_getD, List.getElem?_eq_getElem hi]
     exact hxs i _ (List.getElem?_eq_getElem hi)
    have hblk : 0 < cap → a.block < W.heap.size ∧ a.spot = none := fun hc0 => by
     have h00 : (a.add (0 * P.cellsOf e)).add 0 = a := by simp [Addr.add]
     have hcell : ∃ v, W.cell? a = some v := by
      by_cases h0 : 0 < len
      ·obtain ⟨v, hv, _⟩ := (hxs' 0 (by omega)).2.2 0 hpos
       rw [h00] at hv
       exact ⟨v, hv⟩
      ·have h1 := (hre rfl).2 0 (by omega)
       have h2 := (hre rfl).1
       have hl0 : len = 0 := by omega
       subst hl0
       rw [List.getElem?_eq_getElem (by omega)] at h1
       simp only [Option.bind_eq_some_iff] at h1
       obtain ⟨cs', hc1, _⟩ := h1
       obtain ⟨_, hl, hc⟩ := World.cells?_some hc1
       have h3 := hc 0 hpos
       rw [Nat.add_zero, h00, List.getElem?_eq_getElem (by omega)] at h3
       exact ⟨_, h3⟩
     obtain ⟨v, hv⟩ := hcell
     exact cell_block hv
    refine ⟨[.slice false (P.cellsOf e) xs], rfl, .slice xs ht (by omega) (fun i hi => (hxs' i hi).1), fun k hk => ?_⟩
    have : k = 0 := by simpa using hk
    subst this
    simp only [List.getD_cons_zero]
    refine RB.slice_iff.2 ⟨a, cap, by rw [hxl], fun hc0 => (hblk hc0).2, fun hc0 => (hblk hc0).1, by omega, fun i hi => (hxs' i hi).2.1, fun i k hi hk => ?_⟩
    obtain ⟨v, hv, hr⟩ := (hxs' i hi).2.2 k hk
    refine ⟨v, ?_, hr⟩
    have hsp := (hblk (by omega)).2
    rw [addr_add hsp, addr_add rfl] at hv
    rw [← hv]
    simp [Nat.add_assoc]
  ·rename_i fs ht
   simp only [Bool.and_eq_true, List.all_eq_true] at h
   obtain ⟨htile, hall⟩ := h
   obtain ⟨xs, n, _, _, hl, hxl, hf⟩ := DataW.trod_struct ht hx
   obtain ⟨_, vs, hvs, hfs⟩ := fields_of (P := P) (W := W) (cs := cs) htile (by omega) fun f hfm => by
    obtain ⟨i, hi⟩ := List.getElem?_of_mem hfm
    have hi' : i < fs.size := by have := (List.getElem?_eq_some_iff.1 hi).1; simpa using this
    have h1 := hf i f (by simpa using hi)
    rw [List.getElem?_eq_getElem (by omega)] at h1
    exact ih (hall f hfm) h1
   rw [List.drop_zero, Nat.sub_zero, List.take_of_length_le (by omega)] at hvs
   exact reads_iff.2 ⟨vs, .struct vs ht (by rw [hvs.1, hl]) (fun f hfm => by simpa using (hfs f hfm).2), hvs⟩
  ·rename_i n e ht
   simp only [Bool.and_eq_true, beq_iff_eq] at h
   obtain ⟨hsz, hsup⟩ := h
   obtain ⟨hl, m, hm⟩ := trod_array ht hx
   obtain ⟨vs, hvs, hfs⟩ := elems_of (P := P) (W := W) (cs := cs) (e := e) (n := n) (by omega) fun i hi => by
    obtain ⟨y, hy⟩ := hm i hi
    exact ih hsup hy
   rw [List.take_of_length_le (by omega)] at hvs
   exact reads_iff.2 ⟨vs, .array vs ht (by rw [hvs.1, hl]) hfs, hvs⟩
  ·cases h
end
end Go.Proofs.YtdlijnfdkeimlaaDoor.Am
