/-
A part of the proof of a law: am ops h, am ops i, am ops j, am lend, am run, am code, am func, am pure, am narrow, am lend n, am order, am swap, am lean, am effect, am comm, am swap l, am dec, am swap n.
-/
import Derived.Test.YtakdnfneikbjjaaGreatDoorAmLayoutReadsRow1
import Derived.Laws.Append
import Derived.Scope
import Derived.Orders
namespace Go.Proofs.YtakdnfneikbjjaaGreatDoor.Am
section
variable {P : Program} {S : Nat → Bool} {nl : Nat} {oc : Oper}
theorem Ext.wrote {fr : Nat → Nat} {n0 : Nat} {g : G} {w w' : World} {c : Nat} (hW : Wrote w w' c) (hp : ¬ g.pers c) (hf : fr c = 0) : Ext fr n0 g w g w' :=
 ⟨hW.os, hW.tape, hW.output, by rw [hW.size]; exact Nat.le_refl _, fun d hd => ⟨hd, hW.same d fun e => hp (e ▸ hd)⟩, fun d hd => hW.same d fun e => by subst e; omega, fun _ _ => rfl⟩
theorem zd6 {st : St} {r : Root} {x : V} : (zck st r x).m.length = st.m.length := by
 cases r <;> simp [zck]
theorem zn7 [Lay P] {t : TypeId} {p x : Operand} {n : Nat} {o y : Opd} (hop : oc.op = .store t p x) (hn : za2 P t = some n) (ho : za7 S p o) (hy : za7 S x y) : OpOK P S nl oc (.store n o y) := by
 intro cf g w fr st a z st' _ h he K Q kk
 simp only [evalOp, yab] at he
 obtain ⟨q, hq, ad, had, he⟩ := he
 obtain ⟨g', hg, hs, hm, hl⟩ := h.getO hy hq
 obtain ⟨u, st1⟩ := q
 simp only at he hs hm hl had
 split at he
 ·rename_i hok
  simp only [yab, yaa, yac] at he
  obtain ⟨st2, hst, rfl, rfl⟩ := he
  obtain ⟨hv, _, hpk⟩ := hs.getC ho had
  obtain ⟨hz, hr, hcnt⟩ := R3.cells (hs.pend _ (.head _)) hok
  simp only at hz hr hcnt
  simp only [za2, yah] at hn
  obtain ⟨inf, hinf, rfl⟩ := hn
  have hone : ∀ v ∈ (a.eval x).cells.toList, v.oneCell' = true := fun v hv => by
   obtain ⟨k, hk, rfl⟩ := List.mem_iff_getElem.1 hv
   have hk' : k < u.cells.length := by simp at hk; omega
   have := (hr k hk').2.oneCell (hr k hk').1
   have hk2 : k < (a.eval x).cells.size := by simpa using hk
   rw [yaf, yaj hk2] at this
   simpa using this
  have run : ∀ c off w', a.eval p = .pointer (some ⟨c, off, none⟩) → u.cells.length = inf.size → (storeCells ⟨c, off, none⟩ (a.eval x).cells.toList 0).run P w = .ok () w' → (execOp a.eval oc).run P w = .ok .skip w' := fun c off w' e hlen hst => by
   have hsz : (a.eval x).cells.size = inf.size := by omega
   have : (storeVar t ⟨c, off, none⟩ (a.eval x)).run P w = .ok () w' := by
    simp only [storeVar, Sem.run_bind, sizeOf, typeInfo]
    simp [hinf, hsz, hst]
   simp only [execOp, hop, e, Instr.storeAt, Instr.sureAddr, Sem.run_bind, Sem.run_pure, Result.andThen_ok, this]
  cases ad with
  | ptr b off =>
   simp only [zbA] at hst
   split at hst
   ·rename_i hc
    obtain ⟨hb, hoff, hlen, hok0, htop⟩ := hc
    simp only [yaa] at hst
    subst hst
    obtain ⟨⟨arr, e, hB, hsz, hr0⟩, ht0⟩ := hs.mem b hb
    have hvl : (a.eval x).cells.toList.length = u.cells.length := by simp [hz]
    obtain ⟨w', hrun, hB', hW⟩ := zeN (P := P) (off := off) hB (a.eval x).cells.toList (by rw [hvl]; omega) hone
    obtain ⟨o1, o2, o3, o4, o5, o6, o7⟩ := hs.mb_only hb
    have h2 := hs.storeMem (off := off) hb (cells := u.cells) (varr := (a.eval x).cells) (by omega) hr (fun c => by rw [hcnt c]; exact Nat.le_refl _) htop hB' (by rw [zbC]; exact hsz) (fun k hk => by
     rw [zcH k (by rw [hvl]; omega), hvl, zaA, hB.cellsOf]) hW
    rw [hlen] at h2
    exact zij (run _ _ _ hv.2 (by omega) hrun) (kk undef g' w' (h2.add (x := .undef) trivial rfl (fun d hd => by cases hd)) ((Ext.gext hg w).trans (Ext.wrote hW o4 o5) (Nat.le_refl st.m.length)) (by simp [hm]))
   ·cases hst
  | loc j off =>
   simp only [zbA] at hst
   split at hst
   ·rename_i hc
    obtain ⟨hoff, hlen, hok0⟩ := hc
    simp only [yaa] at hst
    subst hst
    by_cases hj : st1.l j = []
    ·rw [hj] at hoff
     simp only [List.length_nil] at hoff
     have hu : u.cells = [] := List.length_eq_zero_iff.1 (by omega)
     have hxe : (a.eval x).cells.toList = [] := by
      have : (a.eval x).cells.size = 0 := by rw [hz, hu]; rfl
      have : (a.eval x).cells = #[] := Array.eq_empty_of_size_eq_zero this
      rw [this]
     have hst0 : ({ st1 with l := upd st1.l j (zaH (st1.l j) off u.cells), σ := killLoc st1.σ } : St) = { st1 with σ := killLoc st1.σ } := by
      have : upd st1.l j (zaH (st1.l j) off u.cells) = st1.l := by
       funext i; simp only [upd]; split
       ·rename_i e; subst e; rw [hj, hu]; simp [zaH]
       ·rfl
      rw [this]
     rw [hst0] at kk
     have hs0 : SR g' w nl fr S { st1 with σ := killLoc st1.σ } a.tmps [] := by
      have h3 := hs.drop
      have hT : ∀ c, zal g' w nl fr { st1 with σ := killLoc st1.σ } a.tmps [] c = zal g' w nl fr st1 a.tmps [] c := fun c => by
       have h3 : cntT c (killLoc st1.σ) a.tmps = cntT c st1.σ a.tmps := zdh fun s => zd0
       unfold zal; simp only [h3]
      exact ⟨fun s => (h3.temps s).killLoc, fun s hs' => by simp only [killLoc]; rw [h3.dead s hs']; rfl, fun s d hd => h3.peeks s d (zd4 hd).1, fun p hp => (by cases hp), fun p hp => (by cases hp), h3.lvs, h3.locs, h3.mem, fun c => by rw [hT]; exact h3.one c, fun c hc => by rw [hT]; exact h3.out c hc⟩
     exact zij (run _ off w hv (by omega) (by rw [hxe]; rfl)) (kk undef g' w (hs0.add (x := .undef) trivial rfl (fun d hd => by cases hd)) (Ext.gext hg w) (by simp [hm]))
    ·obtain ⟨hnl, arr, e, hB, hsz, hr0⟩ := hs.locs j hj
     have hvl : (a.eval x).cells.toList.length = u.cells.length := by simp [hz]
     obtain ⟨w', hrun, hB', hW⟩ := zeN (P := P) (off := off) hB (a.eval x).cells.toList (by rw [hvl]; omega) hone
     obtain ⟨o1, o2, o3, o4, o5, o6, o7⟩ := hs.lb_only hj
     have h2 := hs.storeLoc (off := off) hj (cells := u.cells) (varr := (a.eval x).cells) (by omega) hr (fun c => by rw [hcnt c]; exact Nat.le_refl _) hB' (by rw [zbC]; exact hsz) (fun k hk => by
      rw [zcH k (by rw [hvl]; omega), hvl, zaA, hB.cellsOf]) hW
     exact zij (run _ _ _ hv (by omega) hrun) (kk undef g' w' (h2.add (x := .undef) trivial rfl (fun d hd => by cases hd)) ((Ext.gext hg w).trans (Ext.wrote hW o4 o5) (Nat.le_refl st.m.length)) (by simp [hm]))
   ·cases hst
  | el r z0 i k =>
   simp only [zbA] at hst
   split at hst
   ·rename_i hc
    obtain ⟨hlen, hgood⟩ := hc
    cases hlk : look st1 r with
    | slice own sz xs =>
     rw [hlk] at hst
     cases own with
     | true =>
      simp only at hst
      split at hst
      ·rename_i hb
       obtain ⟨rfl, hi, hk⟩ := hb
       have hst2 : st2 = zck st1 r (.slice true z0 (xs.set i (zaH (xs.getD i []) k u.cells))) := by
        cases r <;> simp only [yaa] at hst <;> exact hst.symm
       subst hst2
       obtain ⟨ad, len, cap, hhead, e⟩ : ∃ ad len cap, R3 g' w st1.m.length (tsAt a.tmps) (.place r) (.slice (some ad) len cap) ∧ a.eval p = .pointer (some ⟨ad.block, ad.off + (i * z0 + k), none⟩) := by
        cases r with
        | mem b o' => obtain ⟨hb, ad, len, cap, hc, e⟩ := hv; exact ⟨ad, len, cap, ⟨hb, hc⟩, e⟩
        | loc b o' => obtain ⟨hb, ad, len, cap, hc, e⟩ := hv; exact ⟨ad, len, cap, ⟨hb, hc⟩, e⟩
        | tmp s => obtain ⟨ad, len, cap, hc, e⟩ := hv; exact ⟨ad, len, cap, hc, e⟩
       have hT := hs.drop.takeRoot hhead hlk
       have hown := hT.pend _ (.head _)
       rw [zd6] at hown
       obtain ⟨ad2, cap2, arr, e3, e2, hsp, hcap, hB, hroom, hzz, hE⟩ := R3.sliceT hown
       injection e2 with e2 e4 e5
       injection e2 with e2
       subst e2 e4 e5
       have hzi := hzz i hi
       have hvl : (a.eval x).cells.toList.length = u.cells.length := by simp [hz]
       have hpos : ad.off + (i * z0 + k) + u.cells.length ≤ arr.size := by
        have : (i + 1) * z0 ≤ cap * z0 := Nat.mul_le_mul_right _ (by omega)
        rw [Nat.add_mul] at this
        omega
       obtain ⟨w', hrun, hB', hW⟩ := zeN (P := P) (off := ad.off + (i * z0 + k)) hB (a.eval x).cells.toList (by rw [hvl]; exact hpos) hone
       obtain ⟨o1, o2, o3, o4, o5, o6⟩ := hT.own_only
       have hpp : ∀ c, g'.pers c → g'.pers c ∧ Same w w' c := fun c hc => ⟨hc, hW.same c fun e => o5 (e ▸ hc)⟩
       have hsetget : ∀ j, j < xs.length → (xs.set i (zaH (xs.getD i []) k u.cells)).getD j [] = if j = i then zaH (xs.getD i []) k u.cells else xs.getD j [] := fun j hj => by
        simp only [yad, List.getElem?_set]
        by_cases e : i = j
        ·subst e; simp [hi]
        ·simp [e, Ne.symm e]
       have hsl : (zaH (xs.getD i []) k u.cells).length = z0 := by rw [za8 (by omega), hzi]
       have hO : OwnS g'.pers w' z0 (xs.set i (zaH (xs.getD i []) k u.cells)) (.slice (some ad) xs.length cap) := by
        refine ⟨ad, cap, _, e3, by rw [List.length_set], hsp, by rw [List.length_set]; exact hcap, hB', by rw [zbC]; exact hroom, ?_, ?_⟩
        ·intro j hj
         rw [List.length_set] at hj
         rw [hsetget j hj]
         split
         ·exact hsl
         ·exact hzz j hj
        ·intro j m hj hm'
         rw [List.length_set] at hj
         have hpos2 : ad.off + (j * z0 + m) < arr.size := by
          have := zcr hj hm'
          have h5 : xs.length * z0 ≤ cap * z0 := Nat.mul_le_mul_right _ hcap
          omega
         refine ⟨(zdn arr (ad.off + (i * z0 + k)) (a.eval x).cells.toList).getD (ad.off + (j * z0 + m)) undef, ?_, ?_⟩
         ·rw [hB'.cell, yaf, yaj (by rw [zbC]; exact hpos2)]; rfl
         ·rw [zcH _ (by rw [hvl]; exact hpos), hvl, hsetget j hj]
          obtain ⟨v0, hv0, hR0⟩ := hE j m hj hm'
          have hav : arr.getD (ad.off + (j * z0 + m)) undef = v0 := by
           rw [hB.cell] at hv0
           simp [yaf, hv0]
          by_cases hji : j = i
          ·subst hji
           rw [if_pos rfl]
           rw [zbU (by omega)]
           by_cases hin : k ≤ m ∧ m < k + u.cells.length
           ·rw [if_pos hin, if_pos (by omega)]
            have hk' := hr (m - k) (by omega)
            have hgd : (u.cells.getD (m - k) .undef).good = true := yam.1 hgood _ (by simp [yad, yai (show m - k < u.cells.length by omega)])
            have := (hk'.2.rb hgd).mono hpp
            rw [zaA, show ad.off + (j * z0 + m) - (ad.off + (j * z0 + k)) = m - k from by omega]
            exact this
           ·rw [if_neg hin, if_neg (by omega), hav]
            exact hR0.mono hpp
          ·rw [if_neg hji, if_neg (by
            rintro ⟨b1, b2⟩
            have h3 := zgQ (i := j) (i' := i) (sz := z0) (k := m) (k' := j * z0 + m - i * z0) hm' (by omega) (by omega)
            exact hji h3.1), hav]
           exact hR0.mono hpp
       have h3 := hT.ownWrite hW rfl hO
       have hhead' : R3 g' w' st1.m.length (tsAt a.tmps) (.place r) (.slice (some ad) xs.length cap) := by
        cases r with
        | mem b o' =>
         obtain ⟨hb, hc⟩ := hhead
         refine ⟨hb, ?_⟩
         have hne : g'.mb b ≠ ad.block := fun e => by
          have h1 := za9 (f := fun i => zaU g' w ad.block (zck st1 (.mem b o') .undef).m i) (show b < (zck st1 (.mem b o') .undef).m.length by rw [zd6]; exact hb)
          have h2 : zaU g' w ad.block (zck st1 (.mem b o') .undef).m b = 0 := by unfold cntM at o4; omega
          unfold zaU at h2; rw [if_pos e] at h2; omega
         rw [(hW.same _ hne).cell]; exact hc
        | loc j o' =>
         obtain ⟨hlv, hc⟩ := hhead
         refine ⟨hlv, ?_⟩
         have hne : g'.lb j ≠ ad.block := fun e => by
          have hj := (hT.lvs j).1 hlv
          have h1 := za9 (f := fun i => zbb g' w ad.block (zck st1 (.loc j o') .undef).l i) (hT.locs j hj).1
          have h2 : zbb g' w ad.block (zck st1 (.loc j o') .undef).l j = 0 := by unfold cntB at o3; omega
          unfold zbb at h2; rw [if_pos ⟨hj, e⟩] at h2; omega
         rw [(hW.same _ hne).cell]; exact hc
        | tmp s => exact hhead
       have h4 := h3.putRoot hhead' hlk ⟨_, _, _, rfl⟩ (fun s e => by
        subst e
        rcases Nat.lt_or_ge s a.tmps.size with hl | hl
        ·exact hl
        ·have : st1.σ s = .undef := hs.dead s hl
         rw [show look st1 (.tmp s) = st1.σ s from rfl, this] at hlk
         cases hlk)
       exact zij (run _ _ _ e (by omega) hrun) (kk undef g' w' (h4.add (x := .undef) trivial rfl (fun d hd => by cases hd)) ((Ext.gext hg w).trans (Ext.wrote hW o5 o6) (Nat.le_refl st.m.length)) (by rw [zd6, hm]; exact Nat.le_refl _))
      ·cases hst
     | false => cases hst
    | _ => rw [hlk] at hst; cases hst
   ·cases hst
  | _ => simp [zbA] at hst
 ·cases he
end
end Go.Proofs.YtakdnfneikbjjaaGreatDoor.Am

namespace Go.Proofs.YtakdnfneikbjjaaGreatDoor.Am
section
variable {P : Program} {S : Nat → Bool} {nl : Nat} {oc : Oper}
theorem zdl.cells {p : Nat → Prop} {w : World} {ad : Addr} {sz : Nat} {xs : List (List V)} (h : zdl p w ad sz xs) :
    ∃ arr : Array Value, arr.size = xs.length * sz ∧ (∀ j, j < xs.length * sz → w.cell? ⟨ad.block, ad.off + j, none⟩ = some (arr.getD j undef)) ∧
      ∀ i k, i < xs.length → k < sz → RB p w ((xs.getD i []).getD k .undef) (arr.getD (i * sz + k) undef) := by
  classical
  have hj : ∀ j, j < xs.length * sz → ∃ v, w.cell? ⟨ad.block, ad.off + j, none⟩ = some v ∧ RB p w ((xs.getD (j / sz) []).getD (j % sz) .undef) v := fun j hj => by
    have hs : 0 < sz := by rcases Nat.eq_zero_or_pos sz with h | h; · subst h; simp at hj
                           · exact h
    have h1 : j / sz < xs.length := (Nat.div_lt_iff_lt_mul hs).2 hj
    obtain ⟨v, hv, hr⟩ := h.2 (j / sz) (j % sz) h1 (Nat.mod_lt _ hs)
    rw [Nat.mul_comm, Nat.div_add_mod] at hv
    exact ⟨v, hv, hr⟩
  obtain ⟨f, hf⟩ : ∃ f : Nat → Value, ∀ j, j < xs.length * sz → w.cell? ⟨ad.block, ad.off + j, none⟩ = some (f j) ∧ RB p w ((xs.getD (j / sz) []).getD (j % sz) .undef) (f j) :=
    ⟨fun j => if h : j < xs.length * sz then (hj j h).choose else undef, fun j h => by simp only [h, dif_pos]; exact (hj j h).choose_spec⟩
  refine ⟨((List.range (xs.length * sz)).map f).toArray, by simp, fun j hj => by rw [zcT hj]; exact (hf j hj).1, fun i k hi hk => ?_⟩
  have hlt := zcr hi hk
  rw [zcT hlt]
  have := (hf _ hlt).2
  have e1 : (i * sz + k) / sz = i := by rw [Nat.mul_comm, Nat.mul_add_div (by omega)]; simp [Nat.div_eq_of_lt hk]
  have e2 : (i * sz + k) % sz = k := by rw [Nat.mul_comm, Nat.mul_add_mod]; exact Nat.mod_eq_of_lt hk
  rwa [e1, e2] at this
theorem ze4 {P : Program} {W : World} {ad : Addr} {arr : Array Value} {n sz len cap : Nat} (hs : 0 < n → ad.spot = none) (ha : arr.size = n * sz) (h : ∀ j, j < n * sz → W.cell? ⟨ad.block, ad.off + j, none⟩ = some (arr.getD j undef)) :
    (Builtin.firstCells sz n (.slice (some ad) len cap)).run P W = .ok arr W := by
  have := run_firstCells_some (P := P) W sz n ad len cap arr.toList (by simpa using ha) (fun j v hj => by
    obtain ⟨hlt, e⟩ := List.getElem?_eq_some_iff.1 hj
    have hlt' : j < arr.size := by simpa using hlt
    have hn : 0 < n := Nat.pos_of_ne_zero fun e => by rw [ha, e] at hlt'; simp at hlt'
    rw [zch (hs hn), h j (by omega)]
    subst e
    simp [yaf, yaj hlt'])
  simpa using this
def zir (P : Program) (p : Nat → Prop) (w : World) (sz : Nat) (ys : List (List V)) (v : Value) : Prop :=
  (Builtin.lenOf v).run P w = .ok ys.length w ∧ (∀ W, (Builtin.lenOf v).run P W = .ok ys.length W) ∧ (∀ i, i < ys.length → (ys.getD i []).length = sz) ∧ ∃ news : Array Value, news.size = ys.length * sz ∧
      (∀ i k, i < ys.length → k < sz → RB p w ((ys.getD i []).getD k .undef) (news.getD (i * sz + k) undef)) ∧ ∀ W : World, W.heap = w.heap → (Builtin.firstCells sz ys.length v).run P W = .ok news W
theorem SR.appended {g : G} {w : World} {fr : Nat → Nat} {st : St} {a : Act} {ps : List (V × Value)} (h : SR g w nl fr S st a.tmps ps) {x : V} {v : Value} (hr : R3 g w st.m.length (tsAt a.tmps) x v) {sz : Nat} {ys : List (List V)}
    (he : zcX sz st x = some ys) : zir P g.pers w sz ys v := by
  have ofNils : v = Value.slice none 0 0 → ys = [] → zir P g.pers w sz ys v := fun e1 e2 => by
    subst e1 e2
    exact ⟨rfl, fun W => rfl, fun i hi => absurd hi (by simp), #[], by simp, fun i k hi => absurd hi (by simp), fun W _ => rfl⟩
  have ofSlice : ∀ {o}, R3 g w st.m.length (tsAt a.tmps) (.slice o sz ys) v → zir P g.pers w sz ys v := fun {o} hu => by
    obtain ⟨ad, cap, e, hs, hcap, hE⟩ := R3.slice hu
    subst e
    obtain ⟨arr, h1, h2, h3⟩ := hE.cells
    refine ⟨rfl, fun W => rfl, hE.1, arr, h1, h3, fun W hW => ze4 (fun hx => hs (by omega)) h1 (fun j hj => ?_)⟩
    have := h2 j hj
    simp only [World.cell?] at this ⊢
    rw [hW]; exact this
  cases x with
  | nils => simp only [zcX, yaa] at he; exact ofNils (R3.nils hr) he.symm
  | str s =>
    simp only [zcX] at he
    split at he
    · rename_i hsz
      subst hsz
      simp only [yaa] at he
      subst he
      obtain ⟨b, e, rfl⟩ := R3.str hr
      subst e
      have hl : (zcy b.data.toList).length = b.size := by rw [zbQ, zda]
      refine ⟨by rw [hl]; rfl, fun W => by rw [hl]; rfl, fun i hi => by rw [zbQ] at hi; rw [zcR _ _ hi]; rfl, b.data.map (fun x => .int .u8 x.toNat), by rw [hl]; simp, fun i k hi hk => ?_, fun W _ => ?_⟩
      · have : k = 0 := by omega
        subst this
        rw [zbQ] at hi
        rw [zcR _ _ hi]
        have hi2 : i < b.data.size := by simpa using hi
        have : (b.data.map (fun (x : UInt8) => Value.int .u8 x.toNat)).getD (i * 1 + 0) undef = .int .u8 ((b.data.toList.getD i 0).toNat) := by
          simp [yaf, yad, yaj hi2]
        rw [this]
        exact RB.int _ _
      · rw [hl]
        simp [Builtin.firstCells]
    · cases he
  | slice o z xs =>
    simp only [zcX] at he
    split at he
    · rename_i hz; subst hz
      simp only [yaa] at he
      subst he
      exact ofSlice hr
    · cases he
  | place r =>
    simp only [zcX] at he
    rcases h.look hr with hl | hl
    · cases hlk : Am.look st r with
      | nils => rw [hlk] at he hl; simp only [yaa] at he; exact ofNils (R3.nils hl) he.symm
      | slice o z xs =>
        rw [hlk] at he hl
        simp only at he
        split at he
        · rename_i hz; subst hz
          simp only [yaa] at he
          subst he
          exact ofSlice hl
        · cases he
      | _ => rw [hlk] at he; cases he
    · rw [hl] at he; cases he
  | _ => cases he
theorem zi1 (newLen : Nat) : ∀ (r c : Nat), Builtin.growBy newLen r c ≤ max c (newLen + (newLen + 768) / 4)
  | 0, c => by simp only [Builtin.growBy]; omega
  | r + 1, c => by
    simp only [Builtin.growBy]
    split
    · omega
    · have := zi1 newLen r (c + (c + 768) / 4); omega
theorem zlV {need old : Nat} (h : old < need) : Builtin.nextslicecap need old ≤ 2 * need + 512 := by
  unfold Builtin.nextslicecap
  split
  · omega
  · split
    · omega
    · have := zi1 need 4 old; omega
theorem zkv {t u e : TypeId} {ty : TypeId} {inf : TypeInfo} {z : Value} {w : World} (ht : P.underlying t = some (.slice e)) (hu : (∃ e', P.underlying u = some (.slice e')) ∨ P.underlying u = some .string) (hi : P.info? e = some inf) (hz : inf.zero = some z)
    {base : Option Addr} {len cap n : Nat} {x : Value} {olds news : Array Value} (hn : ∀ W, (Builtin.lenOf x).run P W = .ok n W) (ho : (Builtin.firstCells inf.size len (.slice base len cap)).run P w.drew = .ok olds w.drew) (hw : (Builtin.firstCells inf.size n x).run P w.drew = .ok news w.drew)
    (hg : cap < len + n) (hm : len + n ≤ most) (hb : inf.bytes ≤ 4096) :
    (Builtin.append_ #[t, u] ty #[.slice base len cap, x]).run P w =
      .ok (.slice (some ⟨w.heap.size, 0, none⟩) (len + n) (grownCap w (len + n) cap e)) (w.drew.alloc (.cells (olds ++ news ++ Builtin.zeroCells z.cells (grownCap w (len + n) cap e - (len + n))) e)) := by
  have h1 : ¬ (len + n ≤ cap) := by omega
  have hm' : len + n ≤ 4294967296 := hm
  have h3 : ¬ (281474976710656 < Builtin.nextslicecap (len + n) cap * inf.bytes) := by
    have h4 := zlV hg
    have h5 : Builtin.nextslicecap (len + n) cap * inf.bytes ≤ (2 * (len + n) + 512) * 4096 := Nat.mul_le_mul h4 hb
    omega
  have hn' := hn w
  have h2' : ¬ (9223372036854775807 < ((len : Int) + (n : Int))) := by omega
  rcases hu with ⟨e', hu⟩ | hu
  · simp [Builtin.append_, run_underlying ht, run_underlying hu, sizeOf, typeInfo, zeroValue, hi, hz, hn', h1, h2', h3, Question.forced, ho, hw, newRow, grownCap]
  · simp [Builtin.append_, run_underlying ht, run_underlying hu, sizeOf, typeInfo, zeroValue, hi, hz, hn', h1, h2', h3, Question.forced, ho, hw, newRow, grownCap]
theorem zkw {t u e : TypeId} {ty : TypeId} {inf : TypeInfo} {w w' : World} (ht : P.underlying t = some (.slice e)) (hu : (∃ e', P.underlying u = some (.slice e')) ∨ P.underlying u = some .string) (hi : P.info? e = some inf)
    {ad : Addr} {len cap n : Nat} {x : Value} {news : Array Value} (hn : ∀ W, (Builtin.lenOf x).run P W = .ok n W) (hw : (Builtin.firstCells inf.size n x).run P w = .ok news w)
    (hg : len + n ≤ cap) (hst : (storeCells (ad.add (len * inf.size)) news.toList).run P w = .ok () w') :
    (Builtin.append_ #[t, u] ty #[.slice (some ad) len cap, x]).run P w = .ok (.slice (some ad) (len + n) cap) w' := by
  have hn' := hn w
  rcases hu with ⟨e', hu⟩ | hu
  · simp [Builtin.append_, run_underlying ht, run_underlying hu, sizeOf, typeInfo, hi, hn', hg, hw, hst]
  · simp [Builtin.append_, run_underlying ht, run_underlying hu, sizeOf, typeInfo, hi, hn', hg, hw, hst]
theorem zhF {t u e : TypeId} {ty : TypeId} {inf : TypeInfo} {w : World} (ht : P.underlying t = some (.slice e)) (hu : (∃ e', P.underlying u = some (.slice e')) ∨ P.underlying u = some .string) (hi : P.info? e = some inf)
    {x : Value} {news : Array Value} (hn : ∀ W, (Builtin.lenOf x).run P W = .ok 0 W) (hw : (Builtin.firstCells inf.size 0 x).run P w = .ok news w) :
    (Builtin.append_ #[t, u] ty #[.slice none 0 0, x]).run P w = .ok (.slice none 0 0) w := by
  have hn' := hn w
  rcases hu with ⟨e', hu⟩ | hu
  · simp [Builtin.append_, run_underlying ht, run_underlying hu, sizeOf, typeInfo, hi, hn', hw]
  · simp [Builtin.append_, run_underlying ht, run_underlying hu, sizeOf, typeInfo, hi, hn', hw]
theorem zdb {xs ys : List (List V)} {i : Nat} (h : i < xs.length) : (xs ++ ys).getD i [] = xs.getD i [] := by
  simp [yad, yaq h]
theorem zdc {xs ys : List (List V)} {i : Nat} (h : xs.length ≤ i) : (xs ++ ys).getD i [] = ys.getD (i - xs.length) [] := by
  simp [yad, List.getElem?_append_right h]
theorem zcU {a b : Array Value} {i : Nat} (h : i < a.size) : (a ++ b).getD i undef = a.getD i undef := by
  simp [yaf, Array.getElem?_append_left h]
theorem zhG {a b : Array Value} {i : Nat} (h : a.size ≤ i) : (a ++ b).getD i undef = b.getD (i - a.size) undef := by
  simp [yaf, Array.getElem?_append_right h]
theorem zfM.append {p : Nat → Prop} {w : World} {sz : Nat} {xs ys : List (List V)} {olds news rest : Array Value} (h1 : ∀ i, i < xs.length → (xs.getD i []).length = sz) (h2 : ∀ i, i < ys.length → (ys.getD i []).length = sz)
    (ho : olds.size = xs.length * sz) (hn : news.size = ys.length * sz) (hR1 : ∀ i k, i < xs.length → k < sz → RB p w ((xs.getD i []).getD k .undef) (olds.getD (i * sz + k) undef))
    (hR2 : ∀ i k, i < ys.length → k < sz → RB p w ((ys.getD i []).getD k .undef) (news.getD (i * sz + k) undef)) : zfM p w sz (xs ++ ys) (olds ++ news ++ rest) := by
  refine ⟨fun i hi => ?_, fun i k hi hk => ?_⟩
  · by_cases h : i < xs.length
    · rw [zdb h]; exact h1 i h
    · rw [zdc (by omega)]; exact h2 _ (by simp at hi; omega)
  · simp only [yar] at hi
    by_cases h : i < xs.length
    · have hlt := zcr h hk
      refine ⟨by simp; omega, ?_⟩
      rw [zdb h, zcU (by simp; omega), zcU (by omega)]
      exact hR1 i k h hk
    · have hi' : i - xs.length < ys.length := by omega
      have hlt := zcr hi' hk
      have e : i * sz + k = xs.length * sz + ((i - xs.length) * sz + k) := by
        rw [← Nat.add_assoc, ← Nat.add_mul]; congr 2; omega
      refine ⟨by simp; omega, ?_⟩
      rw [zdc (by omega), e, zcU (by simp; omega), zhG (by omega), ho, Nat.add_sub_cancel_left]
      exact hR2 _ k hi' hk
theorem zi2 [Lay P] {t u e : TypeId} {x y : Operand} {inf : TypeInfo} {z : List V} {ox oy : Opd} {c : Call} (hop : oc.op = .call c) (hc : c.callee = .builtin .append) (ha : c.args.toList = [x, y]) (hat : c.argTypes = #[t, u])
    (ht : P.underlying t = some (.slice e)) (hu : (∃ e', P.underlying u = some (.slice e')) ∨ P.underlying u = some .string) (hinf : P.info? e = some inf) (hz : zdL P e = some z) (hzl : z.length = inf.size) (hb : inf.bytes ≤ 4096) (hpos : 0 < inf.size)
    (hx : za7 S x ox) (hy : za7 S y oy) : OpOK P S nl oc (.append inf.size ox oy) := by
  intro cf g w fr st a r0 st' _ h he K Q kk
  simp only [evalOp, yab] at he
  obtain ⟨p, hp, q, hq, ys, hys, he⟩ := he
  obtain ⟨px, st1⟩ := p
  obtain ⟨qy, st2⟩ := q
  simp only at hq hys he
  obtain ⟨g1, hg1, hs1, hm1, _⟩ := h.getO hx hp
  obtain ⟨g2, hg2, hs2, hm2, _⟩ := hs1.getO hy hq
  have hgg := hg1.trans hg2
  have hmm : st2.m.length = st.m.length := by rw [hm2, hm1]
  obtain ⟨_, hlen, hyz, news, hnews, hnR, hfc⟩ := hs2.appended (P := P) (hs2.pend _ (.head _)) hys
  have hs3 : SR g2 w nl fr S st2 a.tmps [(px, a.eval x)] := hs2.drop
  obtain ⟨iz, zv, hiz, hzv, hcz⟩ := zdN hz
  rw [hinf] at hiz
  injection hiz with hiz
  subst hiz
  have hzc : zv.cells.size = inf.size := by have := (zbB (p := g.pers) (w := w) hcz).1; simp at this; omega
  have ha' : c.args = #[x, y] := by rw [← Array.toArray_toList (xs := c.args), ha]
  have run : ∀ {v w'}, (Builtin.append_ #[t, u] oc.type #[a.eval x, a.eval y]).run P w = .ok v w' → (execOp a.eval oc).run P w = .ok (.value v) w' := fun hr => by
    simp only [execOp, hop, resolve, hc, ha', hat, Sem.run_bind, Sem.run_pure, Result.andThen_ok, invoke, builtin]
    simp [hr]
  have grow : ∀ {base : Option Addr} {len cap : Nat} {xs : List (List V)} {olds : Array Value} {S3 : St}, S3.m.length = st2.m.length → SR g2 w nl fr S S3 a.tmps [] → a.eval x = .slice base len cap → len = xs.length → (∀ i, i < xs.length → (xs.getD i []).length = inf.size) → olds.size = xs.length * inf.size →
      (∀ i k, i < xs.length → k < inf.size → RB g2.pers w ((xs.getD i []).getD k .undef) (olds.getD (i * inf.size + k) undef)) → (Builtin.firstCells inf.size len (.slice base len cap)).run P w.drew = .ok olds w.drew →
      cap < len + ys.length → len + ys.length ≤ most → r0 = .slice true inf.size (xs ++ ys) → st' = S3 → oc.wp P a w K Q := fun {base len cap xs olds S3} hl3 hS3 ex hl hxz hosz hoR hofc hcap hmost hr0 hst => by
    subst hr0 hst hl
    have hrun := zkv (P := P) (ty := oc.type) ht hu hinf hzv hlen hofc (hfc w.drew rfl) hcap hmost hb
    obtain ⟨nc, hnc⟩ : ∃ nc, nc = grownCap w (xs.length + ys.length) cap e := ⟨_, rfl⟩
    have hncge : xs.length + ys.length ≤ nc := by rw [hnc]; exact grownCap_ge _ _ _ _
    rw [← hnc] at hrun
    have hrow : zfM g2.pers w.drew inf.size (xs ++ ys) (olds ++ news ++ Builtin.zeroCells zv.cells (nc - (xs.length + ys.length))) :=
      zfM.append hxz hyz hosz hnews (fun i k hi hk => (hoR i k hi hk).mono fun c hc => ⟨hc, zgO w c⟩) (fun i k hi hk => (hnR i k hi hk).mono fun c hc => ⟨hc, zgO w c⟩)
    have hsz : nc * inf.size ≤ (olds ++ news ++ Builtin.zeroCells zv.cells (nc - (xs.length + ys.length))).size := by
      have e1 : (Builtin.zeroCells zv.cells (nc - (xs.length + ys.length))).size = (nc - (xs.length + ys.length)) * inf.size := by rw [size_zeroCells, hzc]
      simp only [Array.size_append, e1, hosz, hnews, ← Nat.add_mul]
      exact Nat.mul_le_mul_right _ (by omega)
    have h5 := hS3.drew.newRow (e := e) (cap := nc) (fz := (0, 0)) hrow (by simp; omega) hsz ⟨fun k _ => by simp, Nat.le_refl _⟩
    rw [yar] at h5
    refine za6 (run (by rw [ex]; exact hrun)) (kk _ g2 _ h5 ?_ (by rw [hl3, hmm]; exact Nat.le_refl _))
    exact ((Ext.gext hgg w).trans (Ext.drew g2 w) (Nat.le_refl st.m.length)).trans (hS3.drew.extAlloc _ _) (Nat.le_refl _)
  have onto : ∀ {zz : Nat} {xs : List (List V)} {S3 : St}, S3.m.length = st2.m.length → SR g2 w nl fr S S3 a.tmps [(.slice true zz xs, a.eval x)] → xs.length + ys.length ≤ most → zz = inf.size → r0 = .slice true inf.size (xs ++ ys) → st' = S3 → oc.wp P a w K Q := fun {zz xs S3} hl3 hS3 hmost hzz hr0 hst => by
    subst hzz
    have hown := hS3.pend _ (.head _)
    obtain ⟨ad, cap, arr, e3, ex, hsp, hcap, hB, hroom, hxz, hE⟩ := R3.sliceT hown
    simp only at ex
    obtain ⟨olds, hosz, hoc, hoR⟩ := zdl.cells (⟨hxz, hE⟩ : zdl g2.pers w ad inf.size xs)
    by_cases hfit : xs.length + ys.length ≤ cap
    · subst hr0 hst
      have hnl : news.toList.length = ys.length * inf.size := by simp [hnews]
      have hw0 : ad.off + xs.length * inf.size + news.toList.length ≤ arr.size := by
        rw [hnl]
        have : (xs.length + ys.length) * inf.size ≤ cap * inf.size := Nat.mul_le_mul_right _ hfit
        rw [Nat.add_mul] at this
        omega
      obtain ⟨w', hrun, hB', hW⟩ := zeN (P := P) (off := ad.off + xs.length * inf.size) hB news.toList hw0 (fun v hv => by
        obtain ⟨j, hj, rfl⟩ := List.mem_iff_getElem.1 hv
        have hj' : j < ys.length * inf.size := by omega
        have h1 : j / inf.size < ys.length := (Nat.div_lt_iff_lt_mul hpos).2 hj'
        have hR := hnR (j / inf.size) (j % inf.size) h1 (Nat.mod_lt _ hpos)
        rw [Nat.mul_comm, Nat.div_add_mod] at hR
        have hj2 : j < news.size := by simpa using hj
        have := R1.oneCell (n := 0) (g := g2) (zle hR.good) hR.r1
        rw [yaf, yaj hj2] at this
        simpa using this)
      have hradd : ad.add (xs.length * inf.size) = ⟨ad.block, ad.off + xs.length * inf.size, none⟩ := zch hsp _
      have hrun2 := zkw (P := P) (ty := oc.type) ht hu hinf hlen (hfc w rfl) hfit (by rw [hradd]; exact hrun)
      rw [ex] at hS3
      obtain ⟨o1, o2, o3, o4, o5, o6⟩ := hS3.own_only
      have hpp : ∀ c, g2.pers c → g2.pers c ∧ Same w w' c := fun c hc => ⟨hc, hW.same c fun e => o5 (e ▸ hc)⟩
      have hO : OwnS g2.pers w' inf.size (xs ++ ys) (.slice (some ad) (xs.length + ys.length) cap) := by
        refine ⟨ad, cap, _, e3, by rw [yar], hsp, by rw [yar]; exact hfit, hB', by rw [zbC]; exact hroom, fun i hi => ?_, fun i k hi hk => ?_⟩
        · rw [yar] at hi
          by_cases hlt : i < xs.length
          · rw [zdb hlt]; exact hxz i hlt
          · rw [zdc (by omega)]; exact hyz _ (by omega)
        · rw [yar] at hi
          have hpos2 : ad.off + (i * inf.size + k) < arr.size := by
            have := zcr hi hk
            have h5 : (xs.length + ys.length) * inf.size ≤ cap * inf.size := Nat.mul_le_mul_right _ hfit
            omega
          refine ⟨(zdn arr (ad.off + xs.length * inf.size) news.toList).getD (ad.off + (i * inf.size + k)) undef, ?_, ?_⟩
          · rw [hB'.cell, yaf, yaj (by rw [zbC]; exact hpos2)]; rfl
          · rw [zcH _ hw0, hnl, zaA]
            by_cases hlt : i < xs.length
            · have hlt2 := zcr hlt hk
              rw [if_neg (by omega), zdb hlt]
              obtain ⟨v0, hv0, hR0⟩ := hE i k hlt hk
              have : arr.getD (ad.off + (i * inf.size + k)) undef = v0 := by
                rw [hB.cell] at hv0
                simp [yaf, hv0]
              rw [this]
              exact hR0.mono hpp
            · have hi' : i - xs.length < ys.length := by omega
              have hlt2 := zcr hi' hk
              have e' : i * inf.size + k = xs.length * inf.size + ((i - xs.length) * inf.size + k) := by
                rw [← Nat.add_assoc, ← Nat.add_mul]; congr 2; omega
              rw [if_pos (by omega), zdc (by omega), show ad.off + (i * inf.size + k) - (ad.off + xs.length * inf.size) = (i - xs.length) * inf.size + k from by omega]
              exact (hnR _ k hi' hk).mono hpp
      have h3 := hS3.ownWrite hW rfl hO
      refine za6 (run (by rw [ex]; exact hrun2)) (kk _ g2 _ h3 ((Ext.gext hgg w).trans (Ext.wrote hW o5 o6) (Nat.le_refl st.m.length)) (by rw [hl3, hmm]; exact Nat.le_refl _))
    · refine grow hl3 hS3.drop ex rfl hxz hosz hoR (ze4 (fun _ => hsp) hosz (fun j hj => by have := hoc j hj; exact this)) (by omega) hmost hr0 hst
  have nil : SR g2 w nl fr S st2 a.tmps [] → a.eval x = .slice none 0 0 → (if ys.length ≤ most ∧ 0 < ys.length then some (V.slice true inf.size ys, st2) else if ys.length = 0 then some (V.nils, st2) else none) = some (r0, st') → oc.wp P a w K Q := fun hS ex hif => by
    split at hif
    · rename_i hc
      simp only [yaa, yac] at hif
      exact grow (base := none) (len := 0) (cap := 0) (xs := []) (olds := #[]) rfl hS ex rfl (fun i hi => absurd hi (by simp)) (by simp) (fun i k hi => absurd hi (by simp)) rfl (by omega) (by omega) hif.1.symm hif.2.symm
    · split at hif
      · rename_i h0
        simp only [yaa, yac] at hif
        obtain ⟨rfl, rfl⟩ := hif
        have hrun := zhF (P := P) (ty := oc.type) ht hu hinf (x := a.eval y) (by rw [← h0]; exact hlen) (by rw [← h0]; exact hfc w rfl)
        exact za6 (run (by rw [ex]; exact hrun)) (kk _ g2 w (hS.add (x := .nils) RB.nils rfl (fun d hd => by cases hd)) (Ext.gext hgg w) (by rw [hmm]; exact Nat.le_refl _))
      · cases hif
  cases px with
  | nils => exact nil hs3.drop (R3.nils (hs3.pend _ (.head _))) he
  | slice o zz xs =>
    cases o with
    | true =>
      simp only at he
      split at he
      · rename_i hcnd
        simp only [yaa, yac] at he
        exact onto rfl hs3 hcnd.1 hcnd.2 he.1.symm he.2.symm
      · cases he
    | false => cases he
  | place r =>
    simp only at he
    have hpl := hs3.pend _ (.head _)
    simp only at hpl
    rcases hs3.look hpl with hl | hl
    · cases hlk : look st2 r with
      | nils =>
        rw [hlk] at he hl
        exact nil hs3.drop (R3.nils hl) he
      | slice o zz xs =>
        cases o with
        | true =>
          rw [hlk] at he
          simp only at he
          split at he
          · rename_i hcnd
            have hT := hs3.drop.takeRoot hpl hlk
            have hst : r0 = .slice true inf.size (xs ++ ys) ∧ st' = zck st2 r .undef := by
              cases r <;> simp only [yaa, yac] at he <;> exact ⟨he.1.symm, he.2.symm⟩
            exact onto zd6 hT hcnd.1 hcnd.2 hst.1 hst.2
          · cases he
        | false => rw [hlk] at he; cases he
      | _ => rw [hlk] at he; cases he
    · rw [hl] at he; cases he
  | _ => cases he
end
end Go.Proofs.YtakdnfneikbjjaaGreatDoor.Am

namespace Go.Proofs.YtakdnfneikbjjaaGreatDoor.Am
section
variable {P : Program} {S : Nat → Bool} {nl : Nat} {oc : Oper}
theorem SR.getOs {w : World} {fr : Nat → Nat} {a : Act} : ∀ {xs : List Operand} {os : List Opd} {g : G} {st st' : St} {vs : List V} {ps : List (V × Value)}, SR g w nl fr S st a.tmps ps → zeq S xs os → Am.getOs st os = some (vs, st') →
  ∃ g', GExt g g' ∧ SR g' w nl fr S st' a.tmps (vs.zip (xs.map a.eval) ++ ps) ∧ st'.m = st.m ∧ vs.length = xs.length
 | [], [], g, st, st', vs, ps, h, _, hv => by
  simp only [Am.getOs, yaa, yac] at hv
  obtain ⟨rfl, rfl⟩ := hv
  exact ⟨g, .refl _, h, rfl, rfl⟩
 | x :: xs, o :: os, g, st, st', vs, ps, h, ho, hv => by
  simp only [Am.getOs, yab, yaa, yac] at hv
  obtain ⟨p, hp, q, hq, rfl, rfl⟩ := hv
  obtain ⟨g1, hg1, hs1, hm1, _⟩ := h.getO ho.1 hp
  obtain ⟨g2, hg2, hs2, hm2, hl2⟩ := SR.getOs hs1 ho.2 hq
  refine ⟨g2, hg1.trans hg2, hs2.sub (fun q hq => ?_) (fun c => ?_), hm2.trans hm1, by simp [hl2]⟩
  ·simp only [List.map_cons, List.zip_cons_cons, List.cons_append, List.mem_cons, yak] at hq ⊢
   rcases hq with hq | hq | hq
   ·exact .inr (.inl hq)
   ·exact .inl hq
   ·exact .inr (.inr hq)
  ·simp only [List.map_cons, List.zip_cons_cons, List.cons_append, zap, ze9]
   omega
 | [], _ :: _, _, _, _, _, _, _, ho, _ => ho.elim
 | _ :: _, [], _, _, _, _, _, _, ho, _ => ho.elim
theorem zdP {x : V} (h : x.okArg = true) {r : Root} (hr : x.root? = some r) : ∃ b o, r = .mem b o := by
 cases x with
 | place r' => cases r' <;> simp [V.okArg, V.ok0, V.root?] at h hr; subst hr; exact ⟨_, _, rfl⟩
 | el r' z i k => cases r' <;> simp [V.okArg, V.ok0, V.root?] at h hr; subst hr; exact ⟨_, _, rfl⟩
 | _ => simp [V.root?] at hr
theorem zmG {x : V} (h : x.okArg = true) (j o : Nat) : x ≠ .loc j o := by
 rintro rfl; simp [V.okArg, V.ok0] at h
theorem zgS {x : V} {r : Root} (h : (killMV x).root? = some r) : x.root? = some r ∧ ∀ b o, r ≠ .mem b o := by
 cases x with
 | place r' => cases r' <;> simp [killMV, V.root?] at h ⊢ <;> (subst h; exact ⟨rfl, by simp⟩)
 | el r' z i k => cases r' <;> simp [killMV, V.root?] at h ⊢ <;> (subst h; exact ⟨rfl, by simp⟩)
 | _ => simp [killMV, V.root?] at h
theorem R3.killM {g : G} {w : World} {n : Nat} {τ : Nat → Value} {x : V} {v : Value} (h : R3 g w n τ x v) : R3 g w n τ (killMV x) v := by
 cases x with
 | place r => cases r <;> first | exact h | trivial
 | el r z i k => cases r <;> first | exact h | trivial
 | _ => exact h
theorem SR.call [Lay P] {g : G} {w : World} {fr : Nat → Nat} {st : St} {ts : Array Value} {args : List V} {vs : Array Value} (h : SR g w nl fr S st ts (args.zip vs.toList)) (hlen : vs.size = args.length) (hok : args.all V.okArg = true) (hL : Laid P g w)
  {f : Nat} {r : V} {m' : List (List V)} (hcall : zc7 P f args st.m r m') {K : Value → World → Prop}
  (hK : ∀ v g' w', SR g' w' nl fr S { st with m := m', σ := killM st.σ } ts [(r, v)] → Ext fr st.m.length g w g' w' → st.m.length ≤ m'.length → K v w') :
  Calls P f vs w fun e w' => ∃ v, e = .returned v ∧ K v w' := by
 obtain ⟨gc, hgc⟩ : ∃ gc : G, gc = { g with lv := fun _ => False } := ⟨_, rfl⟩
 obtain ⟨fr', hfr'⟩ : ∃ fr' : Nat → Nat, fr' = fun c => cntT c st.σ ts + cntB g w c nl st.l + fr c := ⟨_, rfl⟩
 have hokm : ∀ p ∈ args.zip vs.toList, p.1.okArg = true := fun p hp => yam.1 hok _ (List.of_mem_zip hp).1
 have toGc : ∀ {x v}, (∀ j o, x ≠ .loc j o) → (∀ r, x.root? = some r → ∃ b o, r = .mem b o) → R3 g w st.m.length (tsAt ts) x v → R3 gc w st.m.length (tsAt #[]) x v := fun {x v} hx hr hxv => by
  subst hgc
  exact R3.mono (g := g) (τ := tsAt ts) (fun c hc => ⟨hc, Same.refl _ _⟩) (Nat.le_refl _) (fun _ _ => rfl) (fun _ _ => Same.refl _ _) (fun j o e => absurd e (hx j o)) (fun r e => by obtain ⟨b, o, rfl⟩ := hr r e; rfl) hxv
 have hT : ∀ c, zal gc w 0 fr' ⟨fun _ => .undef, fun _ => [], st.m⟩ #[] (args.zip vs.toList) c = zal g w nl fr st ts (args.zip vs.toList) c := fun c => by
  subst hgc hfr'
  have e1 : cntT c (fun _ => V.undef) #[] = 0 := rfl
  have e2 : cntB { g with lv := fun _ => False } w c 0 (fun _ => []) = 0 := rfl
  have e3 : cntM { g with lv := fun _ => False } w c st.m = cntM g w c st.m := rfl
  have e4 : za0 { g with lv := fun _ => False } c = za0 g c := rfl
  unfold zal
  simp only [e1, e2, e3, e4]
  omega
 have hS : SR gc w 0 fr' (fun _ => false) ⟨fun _ => .undef, fun _ => [], st.m⟩ #[] (args.zip vs.toList) := by
  refine ⟨fun s => trivial, fun s _ => rfl, fun s d hd => (by cases hd), fun p hp => ?_, fun p hp d hd => ?_, fun j => ?_, fun j hj => absurd rfl hj, fun b hb => ?_, fun c => by rw [hT]; exact h.one c, fun c hc => by rw [hT]; exact h.out c hc⟩
  ·exact toGc (zmG (hokm p hp)) (fun r hr => zdP (hokm p hp) hr) (h.pend p hp)
  ·obtain ⟨b, o, e⟩ := zdP (hokm p hp) hd; cases e
  ·subst hgc; simp
  ·subst hgc
   exact ⟨CBlk.mono (g := g) (fun c hc => ⟨hc, Same.refl _ _⟩) (Nat.le_refl _) (fun _ _ => rfl) (Same.refl _ _) (fun _ _ => Same.refl _ _) (h.mem b hb).1, (h.mem b hb).2⟩
 refine (hcall gc w fr' vs hlen hok (hL.same (by subst hgc; rfl)) hS).mono fun e w' => ?_
 rintro ⟨v, g2, rfl, hS2, hE, hml, hnr, hnl⟩
 refine ⟨v, rfl, ?_⟩
 obtain ⟨g3, hg3⟩ : ∃ g3 : G, g3 = { g2 with lb := g.lb, lv := g.lv } := ⟨_, rfl⟩
 have hpers : ∀ c, g.pers c → g3.pers c ∧ Same w w' c := fun c hc => by
  subst hg3
  have := hE.pers c (by subst hgc; exact hc)
  exact this
 have hfrm : ∀ c, 0 < cntT c st.σ ts ∨ 0 < cntB g w c nl st.l ∨ 0 < fr c → Same w w' c := fun c hc => hE.frame c (by subst hfr'; simp only; omega)
 have hmb : ∀ b, b < st.m.length → g3.mb b = g.mb b := fun b hb => by
  subst hg3
  have := hE.mb b hb
  subst hgc
  exact this
 have hbox : ∀ j, st.l j ≠ [] → ∀ c, 0 < zbb g w c st.l j → Same w w' c := fun j hj c hc => hfrm c (.inr (.inl (by
  have := za9 (f := fun i => zbb g w c st.l i) (h.locs j hj).1
  unfold cntB; omega)))
 have hlbs : ∀ j, st.l j ≠ [] → Same w w' (g.lb j) := fun j hj => hbox j hj _ (by unfold zbb; rw [if_pos ⟨hj, rfl⟩]; omega)
 have hcB : ∀ c, cntB g3 w' c nl st.l = cntB g w c nl st.l := fun c => by
  subst hg3
  refine zaq fun j _ => ?_
  unfold zbb
  by_cases hj : st.l j = []
  ·simp [hj, cntL, zaS]
  ·rw [(hlbs j hj).cellsOf]
 have hT2 : ∀ c, zal g3 w' nl fr { st with m := m', σ := killM st.σ } ts [(r, v)] c = zal g2 w' 0 fr' ⟨fun _ => .undef, fun _ => [], m'⟩ #[] [(r, v)] c := fun c => by
  have e1 : cntT c (fun _ => V.undef) #[] = 0 := rfl
  have e2 : cntB g2 w' c 0 (fun _ => []) = 0 := rfl
  have e3 : cntM g3 w' c m' = cntM g2 w' c m' := by subst hg3; rfl
  have e4 : za0 g3 c = za0 g2 c := by subst hg3; rfl
  have e5 : cntT c (killM st.σ) ts = cntT c st.σ ts := zdh fun s => zgH
  unfold zal
  simp only [e1, e2, e3, e4, e5, hcB]
  subst hfr'
  simp only
  omega
 refine hK v g3 w' ?_ ?_ hml
 ·refine ⟨fun s => ?_, fun s hs => (by simp only [killM]; rw [h.dead s hs]; rfl), fun s d hd => h.peeks s d (zgS hd).1, fun p hp => ?_, fun p hp d hd => ?_, fun j => (by subst hg3; exact h.lvs j), fun j hj => ?_, fun b hb => ?_, fun c => by rw [hT2]; exact hS2.one c, fun c hc => by rw [hT2]; exact hS2.out c hc⟩
  ·refine R3.mono (g := g) (w := w) (n := st.m.length) (τ := tsAt ts) hpers hml hmb (fun c hc => hfrm c (.inl ?_)) (fun j o _ => by subst hg3; rfl) (fun r hr => ?_) (h.temps s).killM
   ·have hc : 0 < cnt2 c (killMV (st.σ s)) (tsAt ts s) := hc
    rw [zgH] at hc
    by_cases hs : s < ts.size
    ·have := zcp (c := c) (σ := st.σ) hs; omega
    ·rw [h.dead s (by omega), zaT] at hc; omega
   ·obtain ⟨hr1, hr2⟩ := zgS hr
    cases r with
    | mem b o => exact absurd rfl (hr2 b o)
    | loc j o => exact fun hl => ⟨by subst hg3; rfl, by subst hg3; exact hl, (hlbs j ((h.lvs j).1 hl)).cell⟩
    | tmp s => rfl
  ·simp only [yao] at hp
   subst hp
   have hp2 := hS2.pend (r, v) (.head _)
   subst hg3
   exact R3.mono (g := g2) (τ := tsAt #[]) (fun c hc => ⟨hc, Same.refl _ _⟩) (Nat.le_refl _) (fun _ _ => rfl) (fun _ _ => Same.refl _ _) (fun j o e => absurd e (hnl j o)) (fun x e => absurd e (hnr x)) hp2
  ·simp only [yao] at hp
   subst hp
   exact absurd hd (hnr _)
  ·have hlb : g3.lb j = g.lb j := by subst hg3; rfl
   rw [hlb]
   exact ⟨(h.locs j hj).1, CBlk.mono (g := g) hpers hml hmb (hlbs j hj) (fun d (hd : 0 < cntL d (st.l j) (cellsOf w (g.lb j))) => hbox j hj d (by unfold zbb; omega)) (h.locs j hj).2⟩
  ·have := hS2.mem b hb
   subst hg3
   exact ⟨CBlk.mono (g := g2) (fun c hc => ⟨hc, Same.refl _ _⟩) (Nat.le_refl _) (fun _ _ => rfl) (Same.refl _ _) (fun _ _ => Same.refl _ _) this.1, this.2⟩
 ·exact ⟨hE.os, hE.tape, hE.output, hE.size, hpers, fun c hc => hfrm c (.inr (.inr hc)), hmb⟩
theorem zcs {w : World} {f : Nat} {fn : Func} (hf : P.funcs[f]? = some fn) (hb : fn.body.isSome = true) (hn : (fn.name == "runtime.NumGoroutine") = false) (args : Array Value) : (callFunc f args).run P w = .ok (.enter f args) w := by
 have hb' : fn.body.isNone = false := by cases h : fn.body <;> simp_all
 unfold callFunc
 rw [Sem.run_bind]
 rw [show (program).run P w = .ok P w from rfl]
 simp only [Result.andThen_ok, hf, hn, hb', yas, if_false, Sem.run_pure]
theorem zeO {a : Act} {w : World} {K : Act → World → Prop} {Q : Exit → Act → World → Prop} {f : Nat} {args : Array Value} (h : (execOp a.eval oc).run P w = .ok (.enter f args) w)
  (hc : Calls P f args w fun e w' => ∃ v, e = .returned v ∧ K (a.put oc.dst v) w') : oc.wp P a w K Q := by
 unfold Oper.wp
 rw [h, Oper.upon_enter]
 refine hc.mono fun e w' => ?_
 rintro ⟨v, rfl, hk⟩
 exact hk
theorem zn8 [Lay P] {c : Call} {f : Nat} {os : List Opd} (hop : oc.op = .call c) (hc : c.callee = .value (.func f)) (ho : zeq S c.args.toList os) : OpOK P S nl oc (.callF f os) := by
 intro cf g w fr st a y st' hgood h he K Q kk
 simp only [evalOp, yab] at he
 obtain ⟨p, hp, he⟩ := he
 obtain ⟨vals, st1⟩ := p
 obtain ⟨g1, hg1, hs1, hm1, hl1⟩ := h.getOs ho hp
 simp only at he
 split at he
 ·rename_i hok
  simp only [yab, yaa, yac] at he
  obtain ⟨q, hq, rfl, rfl⟩ := he
  obtain ⟨r, m'⟩ := q
  obtain ⟨⟨fn, hfn, hbody, hname⟩, hcall⟩ := hgood.good _ _ _ _ _ hq
  have hargs : (c.args.map a.eval).toList = c.args.toList.map a.eval := by simp
  have hrun : (execOp a.eval oc).run P w = .ok (.enter f (c.args.map a.eval)) w := by
   have := zcs (w := w) hfn hbody hname (c.args.map a.eval)
   simp [execOp, hop, resolve, hc, Act.eval, Deferred.ofValue, invoke]
   simpa [Act.eval] using this
  refine zeO hrun ?_
  have h2 : SR g1 w nl fr S st1 a.tmps (vals.zip (c.args.map a.eval).toList) := by rw [hargs]; simpa using hs1
  refine h2.call (by simp [hl1]) hok (hgood.laid.gext hg1) hcall fun v g' w' hS hE hl => ?_
  exact kk v g' w' hS (by
   have := (Ext.gext (fr := fr) (n0 := st.m.length) hg1 w).trans hE (by rw [hm1]; exact Nat.le_refl _)
   exact this) (by rw [hm1] at hl; exact hl)
 ·cases he
theorem SR.addList {g : G} {w : World} {fr : Nat → Nat} {st : St} {ts : Array Value} {ps : List (V × Value)} : ∀ {qs : List (V × Value)}, SR g w nl fr S st ts ps → (∀ q ∈ qs, R3 g w st.m.length (tsAt ts) q.1 q.2 ∧ q.1.hasOwn = false ∧ ∀ d, q.1.root? = some (.tmp d) → S d = true) → SR g w nl fr S st ts (qs ++ ps)
 | [], h, _ => h
 | q :: qs, h, hq => by
  have h1 := SR.addList h (fun q' hq' => hq q' (.tail _ hq'))
  obtain ⟨a, b, c⟩ := hq q (.head _)
  exact h1.add a b c
theorem zn9 [Lay P] {c : Call} {f : Operand} {of : Opd} {os : List Opd} (hop : oc.op = .call c) (hc : c.callee = .value f) (hf : za7 S f of) (ho : zeq S c.args.toList os) : OpOK P S nl oc (.callV of os) := by
 intro cf g w fr st a y st' hgood h he K Q kk
 simp only [evalOp, yab] at he
 obtain ⟨u, hu, he⟩ := he
 obtain ⟨hfu, _, _⟩ := h.getC hf hu
 cases u with
 | func gf cap =>
  simp only [yab] at he
  obtain ⟨p, hp, he⟩ := he
  obtain ⟨vals, st1⟩ := p
  obtain ⟨g1, hg1, hs1, hm1, hl1⟩ := h.getOs ho hp
  simp only at he
  split at he
  ·rename_i hok
   simp only [yab, yaa, yac] at he
   obtain ⟨q, hq, rfl, rfl⟩ := he
   obtain ⟨r, m'⟩ := q
   obtain ⟨⟨fn, hfn, hbody, hname⟩, hcall⟩ := hgood.good _ _ _ _ _ hq
   obtain ⟨vs, ev, hvs, hvk⟩ := R3.func hfu
   have hargs : (c.args.map a.eval).toList = c.args.toList.map a.eval := by simp
   have hrun : (execOp a.eval oc).run P w = .ok (.enter gf (c.args.map a.eval ++ vs)) w := by
    have := zcs (w := w) hfn hbody hname (c.args.map a.eval ++ vs)
    simp only [execOp, hop, resolve, hc, Sem.run_bind, ev, Deferred.ofValue, Sem.run_pure, Result.andThen_ok, invoke]
    simpa using this
   refine zeO hrun ?_
   have hsz : (c.args.map a.eval).size = vals.length := by simp [hl1]
   have h2 : SR g1 w nl fr S st1 a.tmps ((vals ++ cap).zip (c.args.map a.eval ++ vs).toList) := by
    have h3 : SR g1 w nl fr S st1 a.tmps (cap.zip vs.toList ++ (vals.zip (c.args.toList.map a.eval) ++ [])) := hs1.addList fun q hq => by
     obtain ⟨k, hk, e⟩ := List.mem_iff_getElem.1 hq
     have hk1 : k < cap.length := by simp at hk; omega
     have hk2 : k < vs.size := by simp at hk; omega
     obtain ⟨b, off, e1, hb, e2⟩ := hvk k hk1
     have e3 : cap[k] = .ptr b off := by rw [← e1]; simp [yad, yai hk1]
     have e4 : vs[k] = .pointer (some ⟨g.mb b, off, none⟩) := by rw [← e2]; simp [yaf, yaj hk2]
     have e5 : q = (.ptr b off, .pointer (some ⟨g.mb b, off, none⟩)) := by rw [← e]; simp [e3, e4]
     subst e5
     exact ⟨⟨by rw [hm1]; exact hb, by rw [hg1.mb]⟩, rfl, fun d hd => by cases hd⟩
    have hz : (vals ++ cap).zip (c.args.map a.eval ++ vs).toList = vals.zip (c.args.toList.map a.eval) ++ cap.zip vs.toList := by
     rw [Array.toList_append, List.zip_append (by simpa using hl1), hargs]
    rw [hz]
    refine h3.sub (fun q hq => ?_) (fun c => ?_)
    ·simp only [yak, List.append_nil] at hq ⊢; exact hq.symm
    ·simp only [ze9, List.append_nil]; omega
   refine h2.call (by simp [hl1, hvs]) (by rw [List.all_append, hok.1, hok.2]; rfl) (hgood.laid.gext hg1) hcall fun v g' w' hS hE hl => ?_
   exact kk v g' w' hS (by
    have := (Ext.gext (fr := fr) (n0 := st.m.length) hg1 w).trans hE (by rw [hm1]; exact Nat.le_refl _)
    exact this) (by rw [hm1] at hl; exact hl)
  ·cases he
 | _ => cases he
end
end Go.Proofs.YtakdnfneikbjjaaGreatDoor.Am

namespace Go.Proofs.YtakdnfneikbjjaaGreatDoor.Am
section
variable {P : Program} {S : Nat → Bool} {nl : Nat}
variable {g : G} {w : World} {fr : Nat → Nat} {st : St} {ts : Array Value} {ps : List (V × Value)}
theorem SR.total_kept (h : SR g w nl fr S st ts ps) {w' : World} (hk : ∀ c, 0 < zal g w nl fr st ts ps c → Same w w' c) (c : Nat) : zal g w' nl fr st ts ps c = zal g w nl fr st ts ps c := by
 have hB : cntB g w' c nl st.l = cntB g w c nl st.l := zaq fun j _ => by
  unfold zbb
  by_cases hj : st.l j = []
  ·simp [hj, cntL, zaS]
  ·rw [(hk _ (h.tot_lb hj)).cellsOf]
 have hM : cntM g w' c st.m = cntM g w c st.m := zaq fun b hb => by
  unfold zaU
  rw [(hk _ (h.tot_mb hb)).cellsOf]
 unfold zal; rw [hB, hM]
theorem SR.kept (h : SR g w nl fr S st ts ps) {w' : World} (hs : w.heap.size ≤ w'.heap.size) (hk : ∀ c, 0 < zal g w nl fr st ts ps c → Same w w' c) : SR g w' nl fr S st ts ps := by
 have hp : ∀ c, g.pers c → g.pers c ∧ Same w w' c := fun c hc => ⟨hc, hk c (h.tot_pers hc)⟩
 have hroot : ∀ {x v}, R3 g w st.m.length (tsAt ts) x v → ∀ r, x.root? = some r → zcg g w (tsAt ts) g w' (tsAt ts) r := fun {x v} hr r e => by
  cases r with
  | mem b o => obtain ⟨hb, y, hy⟩ := zgu hr e; exact (hk _ (h.tot_mb hb)).cell
  | loc j o => obtain ⟨hl, y, hy⟩ := zk8 hr e; exact fun _ => ⟨rfl, hl, (hk _ (h.tot_lb ((h.lvs j).1 hl))).cell⟩
  | tmp s => rfl
 have hT := h.total_kept hk
 refine ⟨fun s => ?_, h.dead, h.peeks, fun p hp' => ?_, h.ppeeks, h.lvs, fun j hj => ?_, fun b hb => ?_, fun c => ?_, fun c hc => ?_⟩
 ·exact (h.temps s).mono hp (Nat.le_refl _) (fun _ _ => rfl) (fun c hc => hk c (h.tot_temp hc)) (fun _ _ _ => rfl) (hroot (h.temps s))
 ·exact (h.pend p hp').mono hp (Nat.le_refl _) (fun _ _ => rfl) (fun c hc => hk c (h.tot_pend hp' hc)) (fun _ _ _ => rfl) (hroot (h.pend p hp'))
 ·exact ⟨(h.locs j hj).1, (h.locs j hj).2.mono hp (Nat.le_refl _) (fun _ _ => rfl) (hk _ (h.tot_lb hj))
   (fun d hd => hk d (h.tot_box hj (by unfold zbb; omega)))⟩
 ·exact ⟨(h.mem b hb).1.mono hp (Nat.le_refl _) (fun _ _ => rfl) (hk _ (h.tot_mb hb)) (fun d hd => hk d (h.tot_memOf hb (by unfold zaU; omega))), (h.mem b hb).2⟩
 ·rw [hT]; exact h.one c
 ·rw [hT]; exact h.out c (by omega)
theorem R3.bare {g g' : G} {w w' : World} {n n' : Nat} {τ τ' : Nat → Value} {x : V} {v : Value} (hb : x.bare = true) (h : R3 g w n τ x v) : R3 g' w' n' τ' x v := by
 cases x with
 | int k m => rw [R3.int h]; exact RB.int _ _
 | bool b => rw [R3.bool h]; exact RB.bool _
 | str s => obtain ⟨b, rfl, rfl⟩ := R3.str h; exact RB.str _
 | _ => cases hb
theorem zlf {x : V} (hb : x.bare = true) : x.hasOwn = false := by cases x <;> first | rfl | cases hb
theorem zgT {x : V} (hb : x.bare = true) {r : Root} (e : x.root? = some r) : False := by cases x <;> first | (cases e; done) | cases hb
theorem SR.lend [Lay P] (h : SR g w nl fr S st ts []) {ad : Addr} {xs : List (List V)} {sz cap : Nat} (hE : zdl g.pers w ad sz xs) (hsp : ad.spot = none) (hcap : xs.length ≤ cap) (hlt : ad.block < w.heap.size) (hL : Laid P g w)
  {f : Nat} {r : V} (hcall : zc7 P f [.slice false sz xs] [] r []) (hb : r.bare = true) {K : Value → World → Prop}
  (hK : ∀ v w', SR g w' nl fr S st ts [(r, v)] → Ext fr st.m.length g w g w' → K v w') :
  Calls P f #[.slice (some ad) xs.length cap] w fun e w' => ∃ v, e = .returned v ∧ K v w' := by
 classical
 obtain ⟨gc, hgc⟩ : ∃ gc : G, gc = { g with lv := fun _ => False, pers := fun c => g.pers c ∨ c = ad.block } := ⟨_, rfl⟩
 obtain ⟨fr', hfr'⟩ : ∃ fr' : Nat → Nat, fr' = fun c => if gc.pers c then 0 else zal g w nl fr st ts [] c := ⟨_, rfl⟩
 have hT : ∀ c, zal gc w 0 fr' ⟨fun _ => .undef, fun _ => [], []⟩ #[] ([V.slice false sz xs].zip [Value.slice (some ad) xs.length cap]) c = za0 gc c + fr' c := fun c => by
  have e1 : cntT c (fun _ => V.undef) #[] = 0 := rfl
  have e2 : cntB gc w c 0 (fun _ => []) = 0 := rfl
  have e3 : cntM gc w c [] = 0 := rfl
  have e4 : cntP c ([V.slice false sz xs].zip [Value.slice (some ad) xs.length cap]) = 0 := by
   show cntP c [(V.slice false sz xs, Value.slice (some ad) xs.length cap)] = 0
   rw [zap, zc9, zep rfl]
  unfold zal
  simp only [e1, e2, e3, e4]; omega
 have hmono : ∀ c, g.pers c → gc.pers c ∧ Same w w c := fun c hc => ⟨by subst hgc; exact .inl hc, Same.refl _ _⟩
 have had : gc.pers ad.block := by subst hgc; exact .inr rfl
 have hS : SR gc w 0 fr' (fun _ => false) ⟨fun _ => .undef, fun _ => [], []⟩ #[] ([V.slice false sz xs].zip (#[Value.slice (some ad) xs.length cap] : Array Value).toList) := by
  refine ⟨fun s => trivial, fun s _ => rfl, fun s d hd => (by cases hd), fun p hp => ?_, fun p hp d hd => ?_, fun j => ?_, fun j hj => absurd rfl hj, fun b hb => (by cases hb), fun c => ?_, fun c hc => ?_⟩
  ·have hp : p ∈ [(V.slice false sz xs, Value.slice (some ad) xs.length cap)] := hp
   cases hp with
   | head => exact RB.slice_iff.2 ⟨ad, cap, rfl, fun _ => hsp, fun _ => had, hcap, hE.mono hmono (Same.refl _ _)⟩
   | tail _ hp => cases hp
  ·have hp : p ∈ [(V.slice false sz xs, Value.slice (some ad) xs.length cap)] := hp
   cases hp with
   | head => cases hd
   | tail _ hp => cases hp
  ·subst hgc; simp
  ·rw [show (#[Value.slice (some ad) xs.length cap] : Array Value).toList = [Value.slice (some ad) xs.length cap] from rfl, hT]
   subst hfr'
   have := h.one c
   simp only [za0]
   split <;> omega
  ·rw [show (#[Value.slice (some ad) xs.length cap] : Array Value).toList = [Value.slice (some ad) xs.length cap] from rfl, hT]
   subst hfr'
   have h0 := h.out c hc
   have hn : ¬ gc.pers c := fun hp => by
    subst hgc
    rcases hp with hp | hp
    ·have := h.tot_pers hp; omega
    ·omega
   simp only [za0, if_neg hn, h0]
 refine (hcall gc w fr' #[Value.slice (some ad) xs.length cap] rfl rfl (hL.mono fun c hc => ⟨by subst hgc; exact .inl hc, Same.refl _ _⟩) hS).mono fun e w' => ?_
 rintro ⟨v, g2, rfl, hS2, hX, _, _, _⟩
 refine ⟨v, rfl, ?_⟩
 have hsame : ∀ c, 0 < zal g w nl fr st ts [] c → Same w w' c := fun c hc => by
  by_cases hp : gc.pers c
  ·exact (hX.pers c hp).2
  ·exact hX.frame c (by subst hfr'; simp only [if_neg hp]; exact hc)
 refine hK v w' ((h.kept hX.size hsame).add ((hS2.pend _ (.head _)).bare hb) (zlf hb) fun d hd => (zgT hb hd).elim) ⟨hX.os, hX.tape, hX.output, hX.size, fun c hc => ⟨hc, hsame c (h.tot_pers hc)⟩, fun c hc => hsame c (by unfold zal; omega), fun _ _ => rfl⟩
theorem SR.lendS {a : Act} (h : SR g w nl fr S st a.tmps ps) {x : V} {v : Value} (hr : R3 g w st.m.length (tsAt a.tmps) x v) {xs : List (List V)} {sz : Nat}
  (he : Am.lendS sz st x = some xs) (hx : xs ≠ []) : ∃ ad cap, v = .slice (some ad) xs.length cap ∧ (0 < cap → ad.spot = none) ∧ xs.length ≤ cap ∧ zdl g.pers w ad sz xs := by
 cases x with
 | nils => simp only [Am.lendS, zcX, yaa] at he; exact absurd he.symm hx
 | str s => cases he
 | slice o z ys =>
  simp only [Am.lendS, zcX] at he
  split at he
  ·rename_i hz
   simp only [yaa] at he
   subst he; subst hz
   exact R3.slice hr
  ·cases he
 | place r =>
  have hlook : ∃ u, R3 g w st.m.length (tsAt a.tmps) (Am.look st r) u ∧ u = v ∨ Am.look st r = .undef := by
   cases r with
   | mem b o =>
    obtain ⟨hb, hc⟩ := hr
    obtain ⟨⟨arr, e, hB, hs, hk⟩, _⟩ := h.mem b hb
    rw [hB.cell] at hc
    obtain ⟨ho, ev⟩ := yan.1 hc
    have hk' := hk o (by omega)
    refine ⟨v, .inl ⟨?_, rfl⟩⟩
    have : arr.getD o undef = v := by simp [yaf, hc]
    rw [this] at hk'
    exact hk'.2.r3 hk'.1
   | loc j o =>
    by_cases hj : st.l j = []
    ·exact ⟨v, .inr (by simp [Am.look, hj])⟩
    ·obtain ⟨_, arr, e, hB, hs, hk⟩ := h.locs j hj
     have hc : w.cell? ⟨g.lb j, o, none⟩ = some v := hr.2
     rw [hB.cell] at hc
     obtain ⟨ho, ev⟩ := yan.1 hc
     have hk' := hk o (by omega)
     refine ⟨v, .inl ⟨?_, rfl⟩⟩
     have : arr.getD o undef = v := by simp [yaf, hc]
     rw [this] at hk'
     exact hk'.2.r3 hk'.1
   | tmp s => exact ⟨v, .inl ⟨by have : tsAt a.tmps s = v := hr; rw [← this]; exact h.temps s, rfl⟩⟩
  obtain ⟨u, hlook⟩ := hlook
  simp only [Am.lendS, zcX] at he
  rcases hlook with ⟨hu, rfl⟩ | hl
  ·split at he
   ·simp only [yaa] at he; exact absurd he.symm hx
   ·rename_i o z ys hl
    split at he
    ·rename_i hz
     simp only [yaa] at he
     subst he; subst hz
     rw [hl] at hu
     exact R3.slice hu
    ·cases he
   ·cases he
  ·rw [hl] at he; cases he
 | _ => cases he
end
section
variable {P : Program} {S : Nat → Bool} {nl : Nat}
def zmH (P : Program) [Lay P] (S : Nat → Bool) (nl nt : Nat) (oc1 oc2 : Oper) (o1 o2 : AOper) : Prop :=
 ∀ (cf : CF) (g : G) (w : World) (fr : Nat → Nat) (st st1 st' : St) (a : Act), a.tmps.size = nt → GoodW P cf g w → SR g w nl fr S st a.tmps [] → zcY cf o1 st = some st1 → zcY cf o2 st1 = some st' →
  ∀ (K : Act → World → Prop) (Q : Exit → Act → World → Prop),
   (∀ a' g' w', SR g' w' nl fr S st' a'.tmps [] → a'.tmps.size = a.tmps.size → a'.defers = a.defers → Ext fr st.m.length g w g' w' → st.m.length ≤ st'.m.length → K a' w') →
   ∀ (K1 : Act → World → Prop), (∀ a1 w1, oc2.wp P a1 w1 K Q → K1 a1 w1) → oc1.wp P a w K1 Q
theorem zd7 {a : Act} {d : Option Tmp} {v : Value} : (a.put d v).tmps.size = a.tmps.size := by
 cases d <;> simp [Act.put]
theorem zeu {a : Act} {d : Option Tmp} {v : Value} : (a.put d v).defers = a.defers := by
 cases d <;> rfl
theorem SR.putAct0 {g : G} {w : World} {fr : Nat → Nat} {st : St} {a : Act} {x : V} {v : Value} (h : SR g w nl fr S st a.tmps [(x, v)]) (kt : Bool) (d : Option Nat) (hd : ∀ d', d = some d' → d' < a.tmps.size ∧ (kt = true ∨ S d' = false))
  (hx : ∀ d', d = some d' → x.root? ≠ some (.tmp d')) : SR g w nl fr S (st.put kt d x) (a.put d v).tmps [] := by
 cases d with
 | none => exact h.drop
 | some d => exact h.put kt d (hd d rfl).1 (hd d rfl).2 (fun p hp => by cases hp) (hx d rfl)
theorem zi3 {a : Act} {d : Nat} {v : Value} {s : Nat} (h : s ≠ d) : (a.put (some d) v).eval (.tmp s) = a.eval (.tmp s) := by
 simp [Act.put, Act.eval, yaf, Ne.symm h]
theorem zmI [Lay P] {nt : Nat} {oc1 oc2 : Oper} {t e : TypeId} {s d1 f n lo : Nat} {ol : Option Operand} {c : Call} {ox : Opd} {kt : Bool} (h1 : oc1.op = .slice t (.tmp s) ol none none) (ht : P.underlying t = some (.slice e)) (hn : za2 P e = some n)
  (hol : (ol = none ∧ lo = 0) ∨ ∃ k, ol = some (.const (.int k lo))) (hd1 : oc1.dst = some d1) (hd1n : d1 < nt) (hsd : s ≠ d1) (hk1 : kt = true ∨ S d1 = false)
  (h2 : oc2.op = .call c) (hc : c.callee = .value (.func f)) (ha : c.args = #[.tmp d1]) (hx : za7 S (.tmp s) ox) {o2 : AOper} (ho2 : o2.op = .lend f n ox lo) (hg2 : o2.guard = none)
  (hd2 : oc2.dst = o2.dst) (hlt2 : ∀ d, oc2.dst = some d → d < nt ∧ (o2.kt = true ∨ S d = false)) : zmH P S nl nt oc1 oc2 ⟨some d1, none, kt, .mv (.c .undef), .none⟩ o2 := by
 intro cf g w fr st st1 st' a hsz hgood h he1 he2 K Q kk K1 kk1
 have hst1 : st1 = st.put kt (some d1) .undef := by
  simp only [zcY, evalOp, getO, Option.bind_some, zdv, selfPlace] at he1
  cases kt with
  | true => simpa using he1.symm
  | false => simpa using he1.symm
 have hS1 : ∀ v, SR g w nl fr S st1 (a.put (some d1) v).tmps [] := fun v => by
  rw [hst1]
  exact (h.add (x := .undef) (v := v) trivial rfl (fun d hd => by cases hd)).putAct0 kt (some d1) (fun d' hd' => by injection hd' with hd'; subst hd'; exact ⟨by rw [hsz]; exact hd1n, hk1⟩) (fun d' _ e => by cases e)
 simp only [zcY, hg2, ho2, evalOp, yab] at he2
 obtain ⟨⟨x, st2⟩, ⟨u, hu, xs, hxs, he2⟩, hput⟩ := he2
 split at he2
 ·rename_i hcc
  simp only [yab] at he2
  obtain ⟨⟨r, m'⟩, hq, he2⟩ := he2
  split at he2
  ·rename_i hbm
   simp only [yae] at hbm
   simp only [yaa, yac] at he2
   obtain ⟨rfl, rfl⟩ := he2
   obtain ⟨hbr, hm'⟩ := hbm
   have hm' : m' = [] := List.isEmpty_iff.1 hm'
   subst hm'
   have hxne : xs ≠ [] := fun e => by rw [e] at hcc; simp at hcc
   obtain ⟨hu1, _, _⟩ := (hS1 undef).getC (x := .tmp s) hx hu
   rw [zi3 hsd] at hu1
   obtain ⟨ad, cap, ev, hsp, hcap, hE⟩ := (hS1 undef).lendS hu1 hxs hxne
   have hcp : 0 < cap := by omega
   have hspot := hsp hcp
   simp only [za2, yah] at hn
   obtain ⟨inf, hinf, rfl⟩ := hn
   have hlt : ad.block < w.heap.size := by
    obtain ⟨y, hy, _⟩ := hE.2 0 0 (by omega) hcc.2
    exact zii hy
   obtain ⟨ad', had⟩ : ∃ ad' : Addr, ad' = if cap = lo then ad else ⟨ad.block, ad.off + lo * inf.size, none⟩ := ⟨_, rfl⟩
   have had' : ad' = ⟨ad.block, ad.off + lo * inf.size, none⟩ := by rw [had, if_neg (by omega)]
   have hb1 : (none = (none : Option Operand) ∧ xs.length = xs.length) ∨ ∃ y k, (none : Option Operand) = some y ∧ a.eval y = .int k xs.length := .inl ⟨rfl, rfl⟩
   have hb2 : (ol = none ∧ lo = 0) ∨ ∃ y k, ol = some y ∧ a.eval y = .int k lo := by
    rcases hol with hol | ⟨k, hol⟩
    ·exact .inl hol
    ·exact .inr ⟨_, k, hol, rfl⟩
   have hrun := zcz (P := P) (a := a) true (len := xs.length) (cap := cap) w hb1 hb2 (by omega) hcap
   generalize hv : (Value.slice (some (if cap = lo then ad else ⟨ad.block, ad.off + lo * inf.size, none⟩)) (xs.length - lo) (cap - lo)) = v
   have hex : (execOp a.eval oc1).run P w = .ok (.value v) w := by
    rw [← hv]
    simp only [execOp, h1, Instr.sliceAt, Sem.run_bind, run_underlying ht, Result.andThen_ok, Instr.slice, ev]
    simp only [Option.map_none] at hrun ⊢
    simp only [hrun, Result.andThen_ok, sizeOf, typeInfo]
    simp only [Sem.run_bind]
    simp [hinf, show ¬ cap = lo by omega, zch hspot]
   refine za6 hex (kk1 _ _ ?_)
   rw [hd1]
   have hlen : (xs.drop lo).length = xs.length - lo := by simp
   have hE' : zdl g.pers w ad' inf.size (xs.drop lo) := by
    have := hE.cut (l := lo) (hb := xs.length) (by omega) (Nat.le_refl _) (ad' := ad') (by rw [had']) (.inl (by rw [had']))
    rwa [List.take_of_length_le (by simp)] at this
   obtain ⟨⟨fn, hfn, hbody, hname⟩, hcall⟩ := hgood.good _ _ _ _ _ hq
   have hargs : c.args.map (a.put (some d1) v).eval = #[v] := by
    rw [ha]
    simp [Act.put, Act.eval, yaf, hsz, hd1n]
   have hrun2 : (execOp (a.put (some d1) v).eval oc2).run P w = .ok (.enter f #[v]) w := by
    have := zcs (w := w) hfn hbody hname (c.args.map (a.put (some d1) v).eval)
    rw [← hargs]
    simp [execOp, h2, resolve, hc, Act.eval, Deferred.ofValue, invoke]
    simpa [Act.eval] using this
   refine zeO hrun2 ?_
   rw [← had, ← hlen] at hv
   rw [← hv]
   refine (hS1 v).lend hE' (by rw [had']) (by rw [hlen]; omega) (by rw [had']; exact hlt) hgood.laid hcall hbr fun v2 w2 hS2 hX => ?_
   rw [hd2]
   have hst : st' = st1.put o2.kt o2.dst r := by
    simp only [zdv] at hput
    split at hput
    ·rename_i hkt
     split at hput
     ·cases hput
     ·simp only [yaa] at hput; rw [hkt]; exact hput.symm
    ·rename_i hkt
     simp only [yaa] at hput; rw [show o2.kt = false from by simpa using hkt]; exact hput.symm
   have hS3 := hS2.putAct0 o2.kt o2.dst (fun d' hd' => by have := hlt2 d' (by rw [hd2]; exact hd'); rw [zd7, hsz]; exact this) (fun d' _ e => (zgT hbr e).elim)
   rw [hv]
   have hml : st1.m.length = st.m.length := by rw [hst1]; rfl
   refine kk _ g w2 (by rw [hst]; exact hS3) (by rw [zd7, zd7]) (by rw [zeu, zeu]) (by rw [← hml]; exact hX) ?_
   rw [hst, hst1]
   cases o2.dst <;> exact Nat.le_refl _
  ·cases he2
 ·cases he2
end
end Go.Proofs.YtakdnfneikbjjaaGreatDoor.Am

namespace Go.Proofs.YtakdnfneikbjjaaGreatDoor.Am
section
variable {P : Program} {S : Nat → Bool} {nl : Nat}
structure OperOK (P : Program) [Lay P] (S : Nat → Bool) (nl nt : Nat) (ops : Array Oper) (oc : Oper) (o : AOper) : Prop where
 dst : oc.dst = o.dst
 lt : ∀ d, oc.dst = some d → d < nt ∧ (o.kt = true ∨ S d = false)
 guard : (oc.guard = none ∧ o.guard = none) ∨ ∃ j want s, oc.guard = some (j, want) ∧ o.guard = some (s, want) ∧ (ops[j]?).bind (·.dst) = some s ∧ s < nt
 op : OpOK P S nl oc o.op
theorem zdy {a : Act} {d : Option Tmp} {v : Value} : (a.put d v).tmps.size = a.tmps.size := by
 cases d <;> simp [Act.put]
theorem ze5 {a : Act} {d : Option Tmp} {v : Value} : (a.put d v).defers = a.defers := by
 cases d <;> rfl
theorem SR.putAct {g : G} {w : World} {fr : Nat → Nat} {st : St} {a : Act} {x : V} {v : Value} (h : SR g w nl fr S st a.tmps [(x, v)]) (kt : Bool) (d : Option Nat) (hd : ∀ d', d = some d' → d' < a.tmps.size ∧ (kt = true ∨ S d' = false))
  (hx : ∀ d', d = some d' → x.root? ≠ some (.tmp d')) : SR g w nl fr S (st.put kt d x) (a.put d v).tmps [] := by
 cases d with
 | none => exact h.drop
 | some d => exact h.put kt d (hd d rfl).1 (hd d rfl).2 (fun p hp => by cases hp) (hx d rfl)
inductive seqOK (P : Program) [Lay P] (S : Nat → Bool) (nl nt : Nat) (ops : Array Oper) : List Nat → List AOper → Prop
 | nil : seqOK P S nl nt ops [] []
 | cons {i : Nat} {is : List Nat} {o : AOper} {os : List AOper} (h : ∃ oc, ops[i]? = some oc ∧ OperOK P S nl nt ops oc o) (t : seqOK P S nl nt ops is os) : seqOK P S nl nt ops (i :: is) (o :: os)
 | pair {i j : Nat} {is : List Nat} {o1 o2 : AOper} {os : List AOper} (h : ∃ oc1 oc2, ops[i]? = some oc1 ∧ ops[j]? = some oc2 ∧ oc1.guard = none ∧ oc2.guard = none ∧ zmH P S nl nt oc1 oc2 o1 o2) (t : seqOK P S nl nt ops is os) :
   seqOK P S nl nt ops (i :: j :: is) (o1 :: o2 :: os)
theorem zcZ [Lay P] {cf : CF} (hcf : Good P cf) {ops : Array Oper} {fr : Nat → Nat} {Q : Exit → Act → World → Prop} {n0 : Nat} {g0 : G} {w0 : World} (hL : Laid P g0 w0) : ∀ {is : List Nat} {os : List AOper} {g : G} {w : World} {st st' : St} {a : Act},
  seqOK P S nl a.tmps.size ops is os → SR g w nl fr S st a.tmps [] → Ext fr n0 g0 w0 g w → n0 ≤ st.m.length → zbG cf os st = some st' →
  (∀ a' g' w', SR g' w' nl fr S st' a'.tmps [] → a'.tmps.size = a.tmps.size → a'.defers = a.defers → Ext fr n0 g0 w0 g' w' → n0 ≤ st'.m.length → Q .normal a' w') → wpOps P ops Q is a w
 | _, _, g, w, st, st', a, .nil, h, hE, hn, hr, k => by
  simp only [zbG, yaa] at hr
  subst hr
  exact k a g w h rfl rfl hE hn
 | _, _, g, w, st, st', a, .pair (i := i) (j := j) (is := is) (o1 := o1) (o2 := o2) (os := os) hok hrest, h, hE, hn, hr, k => by
  obtain ⟨oc1, oc2, hoc1, hoc2, hg1, hg2, hop⟩ := hok
  simp only [zbG, yab] at hr
  obtain ⟨st1, h1, st2, h2, hr⟩ := hr
  simp only [wpOps, hoc1, Region.wanted, hg1, if_true]
  refine .inl (hop cf g w fr st st1 st2 a rfl ⟨hcf, hL.ext hE⟩ h h1 h2 (fun a1 w1 => wpOps P ops Q is a1 w1) Q (fun a1 g1 w1 hS hs hd hX hl => ?_) _ fun a1 w1 hh => ?_)
  ·exact zcZ hcf hL (by rw [hs]; exact hrest) hS (hE.trans hX hn) (Nat.le_trans hn hl) hr fun a' g' w' q1 q2 q3 => k a' g' w' q1 (q2.trans hs) (q3.trans hd)
  ·simp only [hoc2, hg2, if_true]
   exact .inl hh
 | _, _, g, w, st, st', a, .cons (i := i) (is := is) (o := o) (os := os) hok hrest, h, hE, hn, hr, k => by
  obtain ⟨oc, hoc, hop⟩ := hok
  simp only [zbG, yab] at hr
  obtain ⟨st2, hstep, hr⟩ := hr
  have doit : (evalOp cf st o.op).bind (zdv o) = some st2 → oc.wp P a w (wpOps P ops Q is) Q := fun hr' => by
   simp only [yab] at hr'
   obtain ⟨p, hp, hr'⟩ := hr'
   obtain ⟨x, st1⟩ := p
   refine hop.op cf g w fr st a x st1 ⟨hcf, hL.ext hE⟩ h hp _ Q fun v g1 w1 hS hE1 hl => ?_
   have hx : st2 = st1.put o.kt o.dst x ∧ ∀ d', o.dst = some d' → x.root? ≠ some (.tmp d') := by
    unfold zdv at hr'
    split at hr'
    ·rename_i hkt
     split at hr'
     ·cases hr'
     ·rename_i hsp
      simp only [yaa] at hr'
      refine ⟨by rw [hkt]; exact hr'.symm, fun d' hd' e => hsp ?_⟩
      cases x <;> simp [V.root?] at e
      ·subst e; simp [selfPlace, hd']
      ·subst e; simp [selfPlace, hd']
    ·rename_i hkt
     simp only [yaa] at hr'
     refine ⟨by rw [show o.kt = false from by simpa using hkt]; exact hr'.symm, fun d' hd' e => ?_⟩
     have h1 := hS.ppeeks _ (.head _) d' e
     rcases (hop.lt d' (by rw [hop.dst]; exact hd')).2 with h2 | h2
     ·exact hkt h2
     ·rw [h1] at h2; cases h2
   obtain ⟨hx1, hx2⟩ := hx
   have h2 := hS.putAct o.kt o.dst (fun d' hd' => hop.lt d' (by rw [hop.dst]; exact hd')) hx2
   rw [hop.dst]
   rw [hx1] at hr
   refine zcZ hcf hL (by rw [zdy]; exact hrest) h2 (hE.trans hE1 hn) ?_ hr fun a' g' w' h1 h2 h3 => k a' g' w' h1 (by rw [h2, zdy]) (by rw [h3, ze5])
   cases hd : o.dst <;> simp [St.put] <;> omega
  have skip : st.put o.kt o.dst (.tuple []) = st2 → wpOps P ops Q is (a.put oc.dst undef) w := fun hr' => by
   rw [hop.dst]
   have h2 := (h.add (x := .tuple []) (v := undef) ⟨#[], rfl, rfl, fun k hk => absurd hk (by simp)⟩ rfl (fun d hd => by cases hd)).putAct o.kt o.dst (fun d' hd' => hop.lt d' (by rw [hop.dst]; exact hd')) (fun d' _ e => by cases e)
   rw [← hr'] at hr
   refine zcZ hcf hL (by rw [zdy]; exact hrest) h2 hE ?_ hr fun a' g' w' h1 h2 h3 => k a' g' w' h1 (by rw [h2, zdy]) (by rw [h3, ze5])
   cases hd : o.dst <;> simp [St.put] <;> omega
  simp only [wpOps, hoc]
  unfold zcY at hstep
  rcases hop.guard with ⟨hg1, hg2⟩ | ⟨j, want, s, hg1, hg2, hj, hs⟩
  ·rw [hg2] at hstep
   simp only at hstep
   simp only [Region.wanted, hg1, if_true]
   exact .inl (doit hstep)
  ·rw [hg2] at hstep
   simp only at hstep
   have hy : ∀ b, st.σ s = .bool b → yielded ops a.tmps j = some b := fun b hb => by
    have h1 := h.temps s
    rw [hb] at h1
    have h2 := R3.bool h1
    simp only [yielded, hj, Option.bind_some]
    have h3 : a.tmps[s]? = some (.bool b) := by
     rw [yaj hs]
     unfold tsAt at h2
     rw [yaf, yaj hs] at h2
     simpa using h2
    rw [h3]
   cases hb : st.σ s with
   | bool b =>
    rw [hb] at hstep
    simp only at hstep
    simp only [Region.wanted, hg1, hy b hb]
    by_cases e : b = want
    ·rw [if_pos e] at hstep
     subst e
     simp only [beq_self_eq_true, if_true]
     exact .inl (doit hstep)
    ·rw [if_neg e] at hstep
     have : (some b == some want) = false := by simp [e]
     simp only [this, yas, if_false]
     simp only [yaa] at hstep
     exact skip hstep
   | tuple vs => cases vs with
    | nil =>
     rw [hb] at hstep
     simp only [yaa] at hstep
     have hyn : yielded ops a.tmps j = none := by
      have h1 := h.temps s
      rw [hb] at h1
      obtain ⟨arr, h2, h2s, _⟩ := R3.tuple h1
      have h3 : a.tmps[s]? = some (.tuple arr) := by
       rw [yaj hs]
       unfold tsAt at h2
       rw [yaf, yaj hs] at h2
       simpa using h2
      simp only [yielded, hj, Option.bind_some, h3]
     simp only [Region.wanted, hg1, hyn]
     have : ((none : Option Bool) == some want) = false := rfl
     simp only [this, yas, if_false]
     exact skip hstep
    | cons => rw [hb] at hstep; cases hstep
   | _ => rw [hb] at hstep; cases hstep
end
end Go.Proofs.YtakdnfneikbjjaaGreatDoor.Am

namespace Go.Proofs.YtakdnfneikbjjaaGreatDoor.Am
section
variable {P : Program} {S : Nat → Bool} {nl nt : Nat}
def zlg (P : Program) [Lay P] (S : Nat → Bool) (nl nt : Nat) (ops : Array Oper) : Bool → List AOper → Prop
  | false, os => seqOK P S nl nt ops (List.range ops.size) os
  | true, os => ∀ t, ∃ os', seqOK P S nl nt ops (Region.schedule (P.follows .mixedOrders) ops t) os' ∧ ∀ cf st st', runD cf os st = some st' → zbG cf os' st = some st'
def zei (P : Program) [Lay P] (S : Nat → Bool) (nl nt : Nat) : Code → ACode → Prop
  | .skip, .skip => True
  | .label _, .skip => True
  | .region _ ops draw, .region d os => draw = d ∧ zlg P S nl nt ops d os
  | .seq a b, .seq a' b' => zei P S nl nt a a' ∧ zei P S nl nt b b'
  | .cond c t e, .cond o t' e' => za7 S c o ∧ zei P S nl nt t t' ∧ zei P S nl nt e e'
  | .block i b, .block j b' => i = j ∧ zei P S nl nt b b'
  | .loop b, .loop _ b' => zei P S nl nt b b'
  | .exit i, .exit j => i = j
  | .ret, .ret => True
  | .scope b, x => zei P S nl nt b x
  | .rangeFunc _ _ _ _, .cond (.c .undef) .skip .skip => True
  | _, _ => False
def exOf : Ex → Exit
  | .normal => .normal
  | .exit i => .exit i
  | .ret => .ret
theorem zgU {round : St → Option (Ex × St)} : ∀ {k : Nat} {st : St} {r : Ex × St}, zce round k st = some r → zce round (k + 1) st = some r
  | 0, _, _, h => by cases h
  | k + 1, st, r, h => by
    simp only [zce, yab] at h
    obtain ⟨q, hq, h⟩ := h
    have : zce round (k + 1 + 1) st = (round st).bind fun r => match r.1 with
      | .normal => zce round (k + 1) r.2
      | e => some (e, r.2) := rfl
    rw [this, hq]
    simp only [Option.bind_some]
    obtain ⟨e, st1⟩ := q
    cases e with
    | normal => exact zgU h
    | exit i => exact h
    | ret => exact h
theorem zi4 {round : St → Option (Ex × St)} {k m : Nat} (hm : k ≤ m) {st : St} {r : Ex × St} (h : zce round k st = some r) : zce round m st = some r := by
  induction m with
  | zero => have : k = 0 := by omega
            subst this; exact h
  | succ m ih =>
    by_cases e : k = m + 1
    · subst e; exact h
    · exact zgU (ih (by omega))
theorem zcl {round : St → Option (Ex × St)} {st : St} {r : Ex × St} : zgE round st = some r ↔ ∃ k, zce round k st = some r := by
  unfold zgE
  constructor
  · intro h
    split at h
    · rename_i hx
      have := hx.choose_spec.choose_spec
      simp only [yaa] at h
      rw [← h]
      exact ⟨_, this⟩
    · cases h
  · rintro ⟨k, h⟩
    have hx : ∃ k r, zce round k st = some r := ⟨k, r, h⟩
    rw [dif_pos hx]
    have h1 := hx.choose_spec.choose_spec
    have h2 := zi4 (Nat.le_max_left hx.choose k) h1
    have h3 := zi4 (Nat.le_max_right hx.choose k) h
    rw [h2] at h3
    exact h3
theorem zi5 {round : St → Option (Ex × St)} (st : St) : zgE round st = (round st).bind fun r => match r.1 with
    | .normal => zgE round r.2
    | e => some (e, r.2) := by
  apply Option.ext
  intro r
  rw [zcl]
  constructor
  · rintro ⟨k, h⟩
    cases k with
    | zero => cases h
    | succ k =>
      simp only [zce, yab] at h ⊢
      obtain ⟨q, hq, h⟩ := h
      refine ⟨q, hq, ?_⟩
      obtain ⟨e, st1⟩ := q
      cases e with
      | normal => exact zcl.2 ⟨k, h⟩
      | exit i => exact h
      | ret => exact h
  · intro h
    simp only [yab] at h
    obtain ⟨q, hq, h⟩ := h
    obtain ⟨e, st1⟩ := q
    cases e with
    | normal =>
      obtain ⟨k, hk⟩ := zcl.1 h
      exact ⟨k + 1, by simp only [zce, hq, Option.bind_some]; exact hk⟩
    | exit i => exact ⟨1, by simp only [zce, hq, Option.bind_some]; exact h⟩
    | ret => exact ⟨1, by simp only [zce, hq, Option.bind_some]; exact h⟩
theorem zmJ {p : Nat → Prop} (h : ∃ k, p k) : ∃ k, p k ∧ ∀ j, p j → k ≤ j := by
  obtain ⟨k, hk⟩ := h
  induction k using Nat.strongRecOn with
  | _ k ih =>
    by_cases hx : ∃ j, j < k ∧ p j
    · obtain ⟨j, hj, hp⟩ := hx; exact ih j hj hp
    · exact ⟨k, hk, fun j hj => by
        rcases Nat.lt_or_ge j k with h | h
        · exact absurd ⟨j, h, hj⟩ hx
        · exact h⟩
theorem SR.keep {g : G} {w : World} {fr : Nat → Nat} {st : St} {ts : Array Value} (h : SR g w nl fr S st ts []) (live : List Nat) : SR g w nl fr S { st with σ := keep live st.σ } ts [] := by
  have hc : ∀ c, cntT c (Am.keep live st.σ) ts ≤ cntT c st.σ ts := fun c => zlM fun s _ => by
    simp only [Am.keep]; split
    · exact Nat.le_refl _
    · rw [zaT]; exact Nat.zero_le _
  have hT : ∀ c, zal g w nl fr { st with σ := Am.keep live st.σ } ts [] c ≤ zal g w nl fr st ts [] c := fun c => by
    have := hc c; unfold zal; simp only; omega
  refine ⟨fun s => ?_, fun s hs => ?_, fun s d hd => ?_, fun p hp => (by cases hp), fun p hp => (by cases hp), h.lvs, h.locs, h.mem, fun c => Nat.le_trans (hT c) (h.one c), fun c hc' => ?_⟩
  · simp only [Am.keep]; split
    · exact h.temps s
    · trivial
  · simp only [Am.keep]; split
    · exact h.dead s hs
    · rfl
  · simp only [Am.keep] at hd; split at hd
    · exact h.peeks s d hd
    · cases hd
  · have := hT c; rw [h.out c hc'] at this; omega
theorem zlW [Lay P] {cf : CF} (hcf : Good P cf) {fr : Nat → Nat} {n0 : Nat} {g0 : G} {w0 : World} (hL : Laid P g0 w0) : ∀ {c : Code} {ac : ACode} {g : G} {w : World} {st st' : St} {a : Act} {e : Ex} {Q : Exit → Act → World → Prop},
    zei P S nl a.tmps.size c ac → SR g w nl fr S st a.tmps [] → Ext fr n0 g0 w0 g w → n0 ≤ st.m.length → exec cf ac st = some (e, st') →
    (∀ a' g' w', SR g' w' nl fr S st' a'.tmps [] → a'.tmps.size = a.tmps.size → a'.defers = a.defers → Ext fr n0 g0 w0 g' w' → n0 ≤ st'.m.length → Q (exOf e) a' w') → c.wp P Q a w := by
  intro c
  induction c with
  | skip =>
    intro ac g w st st' a e Q hok h hE hn hx k
    cases ac <;> try exact hok.elim
    simp only [exec, yaa, yac] at hx
    obtain ⟨rfl, rfl⟩ := hx
    exact wp_skip (k a g w h rfl rfl hE hn)
  | label l =>
    intro ac g w st st' a e Q hok h hE hn hx k
    cases ac <;> try exact hok.elim
    simp only [exec, yaa, yac] at hx
    obtain ⟨rfl, rfl⟩ := hx
    exact wp_label (k a g w h rfl rfl hE hn)
  | region id ops draw =>
    intro ac g w st st' a e Q hok h hE hn hx k
    cases ac with
    | region d os =>
      obtain ⟨rfl, hreg⟩ := hok
      cases draw with
      | false =>
        simp only [exec, yab, yaa, yac] at hx
        obtain ⟨st1, hr, rfl, rfl⟩ := hx
        exact wp_region (zcZ hcf hL hreg h hE hn hr k)
      | true =>
        simp only [exec, yab, yaa, yac] at hx
        obtain ⟨st1, hr, rfl, rfl⟩ := hx
        refine wp_region_draw fun t => ?_
        obtain ⟨os', hseq, hrun⟩ := hreg t
        exact zcZ hcf hL hseq h.drew (hE.trans (Ext.drew (n0 := n0) g w) (Nat.le_refl _)) hn (hrun cf st st1 hr) k
    | _ => exact hok.elim
  | seq x y ihx ihy =>
    intro ac g w st st' a e Q hok h hE hn hx k
    cases ac with
    | seq x' y' =>
      simp only [exec, yab] at hx
      obtain ⟨q, hq, hx⟩ := hx
      obtain ⟨e1, st1⟩ := q
      refine wp_seq (ihx hok.1 h hE hn hq fun a' g' w' h1 h2 h3 h4 h5 => ?_)
      cases e1 with
      | normal =>
        simp only at hx
        exact ihy (by rw [h2]; exact hok.2) h1 h4 h5 hx fun a'' g'' w'' k1 k2 k3 => k a'' g'' w'' k1 (by rw [k2, h2]) (by rw [k3, h3])
      | exit i =>
        simp only [yaa, yac] at hx
        obtain ⟨rfl, rfl⟩ := hx
        exact k a' g' w' h1 h2 h3 h4 h5
      | ret =>
        simp only [yaa, yac] at hx
        obtain ⟨rfl, rfl⟩ := hx
        exact k a' g' w' h1 h2 h3 h4 h5
    | _ => exact hok.elim
  | cond c t f iht ihf =>
    intro ac g w st st' a e Q hok h hE hn hx k
    cases ac with
    | cond o t' f' =>
      simp only [exec, yab] at hx
      obtain ⟨v, hv, hx⟩ := hx
      obtain ⟨hR, _, _⟩ := h.getC hok.1 hv
      cases v with
      | bool b =>
        have hb := R3.bool hR
        cases b with
        | true => exact wp_cond_true hb (iht hok.2.1 h hE hn hx k)
        | false => exact wp_cond_false hb (ihf hok.2.2 h hE hn hx k)
      | _ => cases hx
    | _ => exact hok.elim
  | block id b ih =>
    intro ac g w st st' a e Q hok h hE hn hx k
    cases ac with
    | block j b' =>
      obtain ⟨rfl, hok⟩ := hok
      simp only [exec, yab] at hx
      obtain ⟨q, hq, hx⟩ := hx
      obtain ⟨e1, st1⟩ := q
      refine wp_block (ih hok h hE hn hq fun a' g' w' h1 h2 h3 h4 h5 => ?_)
      cases e1 with
      | normal =>
        simp only [yaa, yac] at hx
        obtain ⟨rfl, rfl⟩ := hx
        exact k a' g' w' h1 h2 h3 h4 h5
      | exit i =>
        simp only at hx
        simp only [exOf, Exit.inBlock]
        split at hx
        · rename_i hi
          simp only [yaa, yac] at hx
          obtain ⟨rfl, rfl⟩ := hx
          rw [if_pos hi]
          exact k a' g' w' h1 h2 h3 h4 h5
        · rename_i hi
          simp only [yaa, yac] at hx
          obtain ⟨rfl, rfl⟩ := hx
          rw [if_neg hi]
          exact k a' g' w' h1 h2 h3 h4 h5
      | ret =>
        simp only [yaa, yac] at hx
        obtain ⟨rfl, rfl⟩ := hx
        exact k a' g' w' h1 h2 h3 h4 h5
    | _ => exact hok.elim
  | loop b ih =>
    intro ac g w st st' a e Q hok h hE hn hx k
    cases ac with
    | loop live b' =>
      simp only [exec] at hx
      rw [zcl] at hx
      classical
      obtain ⟨J, hJ⟩ : ∃ J : Nat → Act → World → Prop, J = fun k a1 w1 => ∃ st1 g1, zce (fun st => exec cf b' { st with σ := keep live st.σ }) k st1 = some (e, st') ∧ SR g1 w1 nl fr S st1 a1.tmps [] ∧ a1.tmps.size = a.tmps.size ∧ a1.defers = a.defers ∧ Ext fr n0 g0 w0 g1 w1 ∧ n0 ≤ st1.m.length := ⟨_, rfl⟩
      refine wp_loop (fun a1 w1 => ∃ k, J k a1 w1) (fun a1 w1 => if h : ∃ k, J k a1 w1 then (zmJ h).choose else 0) ?_ ?_
      · obtain ⟨k0, hk0⟩ := hx
        exact ⟨k0, by rw [hJ]; exact ⟨st, g, hk0, h, rfl, rfl, hE, hn⟩⟩
      · intro a1 w1 hI
        have hspec := (zmJ hI).choose_spec.1
        obtain ⟨m, hm⟩ : ∃ m, m = (zmJ hI).choose := ⟨_, rfl⟩
        rw [← hm] at hspec
        have hspec' := hspec
        rw [hJ] at hspec'
        obtain ⟨st1, g1, hr, hS, hsz, hdf, hE1, hn1⟩ := hspec'
        cases m with
        | zero => cases hr
        | succ m =>
          simp only [zce, yab] at hr
          obtain ⟨q, hq, hr⟩ := hr
          obtain ⟨e1, st2⟩ := q
          refine ih (by rw [hsz]; exact hok) (hS.keep live) hE1 hn1 hq fun a' g' w' h1 h2 h3 h4 h5 => ?_
          cases e1 with
          | normal =>
            simp only at hr
            have hJ' : J m a' w' := by rw [hJ]; exact ⟨st2, g', hr, h1, h2.trans hsz, h3.trans hdf, h4, h5⟩
            refine ⟨⟨m, hJ'⟩, ?_⟩
            simp only [dif_pos hI, dif_pos (show ∃ k, J k a' w' from ⟨m, hJ'⟩)]
            have := (zmJ (show ∃ k, J k a' w' from ⟨m, hJ'⟩)).choose_spec.2 m hJ'
            omega
          | exit i =>
            simp only [yaa, yac] at hr
            obtain ⟨rfl, rfl⟩ := hr
            exact k a' g' w' h1 (h2.trans hsz) (h3.trans hdf) h4 h5
          | ret =>
            simp only [yaa, yac] at hr
            obtain ⟨rfl, rfl⟩ := hr
            exact k a' g' w' h1 (h2.trans hsz) (h3.trans hdf) h4 h5
    | _ => exact hok.elim
  | exit i =>
    intro ac g w st st' a e Q hok h hE hn hx k
    cases ac <;> try exact hok.elim
    have : _ = _ := hok
    simp only [exec, yaa, yac] at hx
    obtain ⟨rfl, rfl⟩ := hx
    refine wp_exit ?_
    rw [this]
    exact k a g w h rfl rfl hE hn
  | ret =>
    intro ac g w st st' a e Q hok h hE hn hx k
    cases ac <;> try exact hok.elim
    simp only [exec, yaa, yac] at hx
    obtain ⟨rfl, rfl⟩ := hx
    exact wp_ret (k a g w h rfl rfl hE hn)
  | scope b ih =>
    intro ac g w st st' a e Q hok h hE hn hx k
    have hok' : zei P S nl a.tmps.size b ac := by cases ac <;> exact hok
    refine wp_scope_straight (ih hok' h hE hn hx fun a' g' w' h1 h2 h3 h4 h5 => ?_)
    have := k a' g' w' h1 h2 h3 h4 h5
    cases e <;> exact this
  | rangeFunc f ps zs9 b _ _ =>
    intro ac g w st st' a e Q hok h hE hn hx k
    have hac : ac = .cond (.c .undef) .skip .skip := by
      unfold zei at hok
      split at hok <;> first | rfl | exact hok.elim | contradiction
    subst hac
    simp only [exec, getC, Option.bind_some] at hx
    cases hx
  | goto l => intro ac g w st st' a e Q hok; cases ac <;> exact hok.elim
  | refuse w => intro ac g w st st' a e Q hok; cases ac <;> exact hok.elim
end
end Go.Proofs.YtakdnfneikbjjaaGreatDoor.Am

namespace Go.Proofs.YtakdnfneikbjjaaGreatDoor.Am
section
variable {P : Program}
def zpO (P : Program) : ResultVar → ARes → Prop
 | .tmp t, .tmp s => t = s
 | .cell t ty, .cell s agg n => t = s ∧ zfm P ty = some (agg, n)
 | _, _ => False
def zlh (P : Program) : List ResultVar → List ARes → Prop
 | [], [] => True
 | r :: rs, a :: zs9 => zpO P r a ∧ zlh P rs zs9
 | _, _ => False
def zi6 (P : Program) [Lay P] (f : Nat) (af : AFunc) : Prop :=
 ∃ fn c S, P.funcs[f]? = some fn ∧ fn.body = some c ∧ (fn.name == "runtime.NumGoroutine") = false ∧ fn.ntmps = af.nt ∧ af.np ≤ af.nt ∧ zei P S af.nl af.nt c af.body ∧ zlh P fn.results.toList af.results
theorem zkx {n : Nat} {f : Nat → Nat} : zaS (n + 1) f = f 0 + zaS n (fun k => f (k + 1)) := by
 induction n with
 | zero => simp [zaS]
 | succ n ih => rw [zaS, ih]; simp only [zaS]; omega
theorem zgv {c : Nat} : ∀ {args : List V} {vs : List Value}, args.length = vs.length → cntP c (args.zip vs) = zaS args.length fun k => cnt2 c (args.getD k .undef) (vs.getD k undef)
 | [], [], _ => rfl
 | x :: args, v :: vs, h => by
  rw [List.zip_cons_cons, zap, zgv (by simpa using h), List.length_cons, zkx]
  simp
theorem zky {n k : Nat} {f : Nat → Nat} (h : ∀ i, n ≤ i → f i = 0) : zaS (n + k) f = zaS n f := by
 induction k with
 | zero => rfl
 | succ k ih => rw [← Nat.add_assoc, zaS, ih, h _ (by omega)]; omega
theorem zmK {args : List V} {vs : List Value} (h : args.length = vs.length) {k : Nat} (hk : k < args.length) : (args.getD k .undef, vs.getD k undef) ∈ args.zip vs := by
 have hk2 : k < vs.length := by omega
 have : (args.zip vs)[k]'(by simp; omega) = (args.getD k .undef, vs.getD k undef) := by
  simp [yad, yai hk, yai hk2]
 rw [← this]
 exact List.getElem_mem _
theorem SR.enter {g : G} {w : World} {fr : Nat → Nat} {m : List (List V)} {args : List V} {vs : Array Value} (h : SR g w 0 fr (fun _ => false) ⟨fun _ => .undef, fun _ => [], m⟩ #[] (args.zip vs.toList)) (hl : vs.size = args.length)
  (hok : args.all V.okArg = true) (S : Nat → Bool) (nl k : Nat) : SR g w nl fr S ⟨fun i => args.getD i .undef, fun _ => [], m⟩ (vs ++ Array.replicate k undef) [] := by
 have hl' : args.length = vs.toList.length := by simp [hl]
 have hin : ∀ s, s < args.length → (args.getD s .undef).okArg = true := fun s hs => yam.1 hok _ (by simp [yad, yai hs])
 have hout : ∀ s, args.length ≤ s → args.getD s .undef = .undef := fun s hs => by simp [yad, List.getElem?_eq_none hs]
 have hts : ∀ s, s < args.length → tsAt (vs ++ Array.replicate k undef) s = vs.toList.getD s undef := fun s hs => by
  unfold tsAt
  rw [zcU (by omega), zaA]
 have hcT : ∀ c, cntT c (fun i => args.getD i .undef) (vs ++ Array.replicate k undef) = cntP c (args.zip vs.toList) := fun c => by
  rw [zgv hl']
  unfold cntT
  rw [show (vs ++ Array.replicate k undef).size = args.length + k from by simp [hl]]
  rw [zky (f := fun s => cnt2 c (args.getD s .undef) (tsAt (vs ++ Array.replicate k undef) s)) (fun i hi => by rw [hout i hi, zaT])]
  exact zaq fun i hi => by rw [hts i hi]
 have hT : ∀ c, zal g w nl fr ⟨fun i => args.getD i .undef, fun _ => [], m⟩ (vs ++ Array.replicate k undef) [] c = zal g w 0 fr ⟨fun _ => .undef, fun _ => [], m⟩ #[] (args.zip vs.toList) c := fun c => by
  have e1 : cntT c (fun _ => V.undef) #[] = 0 := rfl
  have e2 : cntB g w c 0 (fun _ => []) = 0 := rfl
  have e3 : cntB g w c nl (fun _ => []) = 0 := zcG fun j _ => by simp [zbb, cntL, zaS]
  unfold zal
  rw [zc9]
  simp only [hcT, e1, e2, e3]
  omega
 refine ⟨fun s => ?_, fun s hs => hout s (by simp [hl] at hs; omega), fun s d hd => ?_, fun p hp => (by cases hp), fun p hp => (by cases hp), h.lvs, fun j hj => absurd rfl hj, h.mem, fun c => by rw [hT]; exact h.one c, fun c hc => by rw [hT]; exact h.out c hc⟩
 ·rcases Nat.lt_or_ge s args.length with hs | hs
  ·have := h.pend _ (zmK hl' hs)
   rw [hts s hs]
   exact R3.tau this fun s' e => by obtain ⟨b, o, e'⟩ := zdP (hin s hs) e; cases e'
  ·show R3 _ _ _ _ (args.getD s .undef) _
   rw [hout s hs]; trivial
 ·rcases Nat.lt_or_ge s args.length with hs | hs
  ·obtain ⟨b, o, e⟩ := zdP (hin s hs) hd; cases e
  ·have hd' : (args.getD s .undef).root? = some (.tmp d) := hd
   rw [hout s hs] at hd'; cases hd'
theorem R1.shrink {g : G} {w : World} {n n' : Nat} {x : V} {v : Value} (hok : x.cellOk) (ht : x.top ≤ n') (h : R1 g w n x v) : R1 g w n' x v := by
 cases x with
 | ptr b o => exact ⟨ht, h.2⟩
 | func f cs =>
  obtain ⟨vs, e, hs, hk⟩ := h
  refine ⟨vs, e, hs, fun k hlt => ?_⟩
  obtain ⟨b, off, e1, hb, e2⟩ := hk k hlt
  refine ⟨b, off, e1, ?_, e2⟩
  have : ∀ (l : List V), ∀ y ∈ l, zf7 y ≤ l.foldr (fun v m => max (zf7 v) m) 0 := fun l => by
   induction l with
   | nil => intro y hy; cases hy
   | cons z l ih =>
    intro y hy
    simp only [List.foldr_cons]
    cases hy with
    | head => omega
    | tail _ hy => have := ih y hy; omega
  have h1 := this cs cs[k] (List.getElem_mem _)
  have h2 : cs[k] = .ptr b off := by rw [← e1]; simp [yad, yai hlt]
  have h3 : zf7 (V.ptr b off) = b + 1 := rfl
  have ht' : cs.foldr (fun v m => max (zf7 v) m) 0 ≤ n' := ht
  rw [h2, h3] at h1
  omega
 | el r z i k => rcases hok with h' | h' <;> simp [V.ok0] at h'
 | place r => rcases hok with h' | h' <;> simp [V.ok0] at h'
 | agg _ => exact h.elim
 | tuple _ => exact h.elim
 | slice o sz xs => cases o <;> exact h
 | _ => exact h
theorem zis {f : V → Nat} : ∀ {l : List V} {y : V}, y ∈ l → f y ≤ l.foldr (fun v n => max (f v) n) 0
 | z :: l, y, hy => by
  simp only [List.foldr_cons]
  cases hy with
  | head => omega
  | tail _ hy => have := zis (f := f) hy; omega
theorem R2.shrink {g : G} {w : World} {n n' : Nat} {τ : Nat → Value} {x : V} {v : Value} (hok : x.ok1 = true) (ht : x.top1 ≤ n') (h : R2 g w n τ x v) : R2 g w n' τ x v := by
 have leaf : x.ok0 = true → x.top ≤ n' → R1 g w n x v → R1 g w n' x v := fun a b c => c.shrink (.inl a) b
 cases x with
 | agg cs =>
  obtain ⟨arr, e, hs, hk⟩ := h
  refine ⟨arr, e, hs, fun k hlt => ⟨(hk k hlt).1, (hk k hlt).2.shrink (hk k hlt).1 ?_⟩⟩
  exact zb4.1 ht k hlt
 | place r => simp [V.ok1, V.ok0] at hok
 | el r z i k => simp [V.ok1, V.ok0] at hok
 | _ => exact leaf hok ht h
theorem zgV {x : V} (h : x.ok1 = true) : x.cellOk1 := by
 cases x <;> first | trivial | exact .inl h
theorem R3.r2 {g : G} {w : World} {n : Nat} {τ : Nat → Value} {x : V} {v : Value} (hok : x.ok1 = true) (h : R3 g w n τ x v) : R2 g w n τ x v := by
 cases x <;> first | exact h | (simp [V.ok1, V.ok0] at hok; done)
def zfN : V → Bool
 | .tuple vs => vs.all V.ok1
 | x => x.ok1
theorem zeP {x : V} (h : zfN x = true) (r : Root) : x.root? ≠ some r := by
 cases x <;> first | (simp [V.root?]; done) | (simp [zfN, V.ok1, V.ok0] at h)
theorem zi7 {x : V} (h : zfN x = true) (j o : Nat) : x ≠ .loc j o := by
 rintro rfl; simp [zfN, V.ok1, V.ok0] at h
theorem R3.shrink {g : G} {w : World} {n n' : Nat} {τ : Nat → Value} {x : V} {v : Value} (hok : zfN x = true) (ht : x.top2 ≤ n') (h : R3 g w n τ x v) : R3 g w n' τ x v := by
 have leaf : x.ok1 = true → x.top1 ≤ n' → R2 g w n τ x v → R2 g w n' τ x v := fun a b c => c.shrink a b
 cases x with
 | tuple vs =>
  obtain ⟨arr, e, hs, hk⟩ := h
  refine ⟨arr, e, hs, fun k hlt => ⟨(hk k hlt).1, ?_⟩⟩
  have hm : vs.getD k .undef ∈ vs := by simp [yad, yai hlt]
  have h1 := yam.1 hok _ hm
  have h2 : (vs.getD k .undef).top1 ≤ vs.foldr (fun v n => max v.top1 n) 0 := zis (f := V.top1) hm
  exact (hk k hlt).2.shrink h1 (Nat.le_trans h2 ht)
 | place r => simp [zfN, V.ok1, V.ok0] at hok
 | el r z i k => simp [zfN, V.ok1, V.ok0] at hok
 | _ => exact leaf hok ht h
theorem R3.notau {g : G} {w : World} {n : Nat} {τ τ' : Nat → Value} {x : V} {v : Value} (hok : zfN x = true) (h : R3 g w n τ x v) : R3 g w n τ' x v :=
 R3.tau h fun _ e => absurd e (zeP hok _)
theorem SR.leave {g : G} {w : World} {nl : Nat} {fr : Nat → Nat} {S : Nat → Bool} {st : St} {ts : Array Value} {r : V} {v : Value} (h : SR g w nl fr S st ts [(r, v)]) (hok : zfN r = true) {m' : List (List V)}
  (hm : m' = st.m ∨ ∃ n, n ≤ st.m.length ∧ m' = st.m.take n ∧ r.top2 ≤ n) : SR { g with lv := fun _ => False } w 0 fr (fun _ => false) ⟨fun _ => .undef, fun _ => [], m'⟩ #[] [(r, v)] := by
 have hle : m'.length ≤ st.m.length := by rcases hm with rfl | ⟨n, hn, rfl, _⟩ <;> simp <;> omega
 have hget : ∀ b, b < m'.length → m'.getD b [] = st.m.getD b [] := fun b hb => by
  rcases hm with rfl | ⟨n, hn, rfl, _⟩
  ·rfl
  ·simp only [List.length_take] at hb
   simp only [yad, List.getElem?_take]
   rw [if_pos (by omega)]
 have hT : ∀ c, zal { g with lv := fun _ => False } w 0 fr ⟨fun _ => .undef, fun _ => [], m'⟩ #[] [(r, v)] c ≤ zal g w nl fr st ts [(r, v)] c := fun c => by
  have e1 : cntT c (fun _ => V.undef) #[] = 0 := rfl
  have e2 : cntB { g with lv := fun _ => False } w c 0 (fun _ => []) = 0 := rfl
  have e3 : cntM { g with lv := fun _ => False } w c m' ≤ cntM g w c st.m := by
   unfold cntM
   refine Nat.le_trans (Nat.le_of_eq (zaq fun b hb => ?_)) (zhE (f := fun b => zaU g w c st.m b) hle)
   unfold zaU
   rw [hget b hb]
  have e4 : za0 { g with lv := fun _ => False } c = za0 g c := rfl
  unfold zal
  simp only [e1, e2, e4]
  omega
 refine ⟨fun s => trivial, fun s _ => rfl, fun s d hd => (by cases hd), fun p hp => ?_, fun p hp d hd => ?_, fun j => by simp, fun j hj => absurd rfl hj, fun b hb => ?_, fun c => Nat.le_trans (hT c) (h.one c), fun c hc => ?_⟩
 ·simp only [yao] at hp
  subst hp
  have h1 := h.pend _ (.head _)
  have h2 : R3 g w m'.length (tsAt #[]) r v := by
   rcases hm with rfl | ⟨n, hn, rfl, ht⟩
   ·exact h1.notau hok
   ·exact (h1.shrink hok (by simp; omega)).notau hok
  exact R3.mono (g := g) (τ := tsAt #[]) (fun c hc => ⟨hc, Same.refl _ _⟩) (Nat.le_refl _) (fun _ _ => rfl) (fun _ _ => Same.refl _ _) (fun j o e => absurd e (zi7 hok j o)) (fun x e => absurd e (zeP hok x)) h2
 ·simp only [yao] at hp
  subst hp; exact absurd hd (zeP hok _)
 ·have hb' : b < st.m.length := by simp only at hb; omega
  simp only
  rw [hget b hb]
  obtain ⟨⟨arr, e, hB, hs, hk⟩, ht⟩ := h.mem b hb'
  refine ⟨⟨arr, e, hB, hs, fun k hlt => ⟨(hk k hlt).1, ?_⟩⟩, ht⟩
  have h1 := (hk k hlt).2.shrink (n' := m'.length) (hk k hlt).1 (Nat.le_trans (zb4.1 ht k hlt) hb)
  exact R1.mono0 (g := g) (fun c hc => ⟨hc, Same.refl _ _⟩) (Nat.le_refl _) (fun _ _ => rfl) (fun _ _ => Same.refl _ _) (hk k hlt).1 h1
 ·have := hT c; rw [h.out c hc] at this; omega
def zgW (ts : Array Value) : ResultVar → Sem Value
 | .tmp t => pure (ts.getD t undef)
 | .cell a t => do loadVar t (← asAddr (ts.getD a undef))
theorem zgh {S : Nat → Bool} {nl : Nat} {w : World} {fr : Nat → Nat} {a : Act} : ∀ {rs : List ResultVar} {zs9 : List ARes} {g : G} {st st' : St} {vs : List V} {ps : List (V × Value)}, zlh P rs zs9 → zeo st zs9 = some (vs, st') → SR g w nl fr S st a.tmps ps →
  ∃ vals g', (rs.mapM (zgW a.tmps)).run P w = .ok vals w ∧ vs.length = vals.length ∧ GExt g g' ∧ SR g' w nl fr S st' a.tmps (vs.zip vals ++ ps) ∧ st'.m.length = st.m.length
 | [], [], g, st, st', vs, ps, _, h, hS => by
  simp only [zeo, yaa, yac] at h
  obtain ⟨rfl, rfl⟩ := h
  exact ⟨[], g, rfl, rfl, .refl _, hS, rfl⟩
 | r :: rs, x :: zs9, g, st, st', vs, ps, hok, h, hS => by
  have fin : ∀ {g1 : G} {st1 : St} {y : V} {v : Value}, GExt g g1 → st1.m.length = st.m.length → SR g1 w nl fr S st1 a.tmps ((y, v) :: ps) → (zgW a.tmps r).run P w = .ok v w → (zeo st1 zs9).bind (fun q => some (y :: q.1, q.2)) = some (vs, st') →
    ∃ vals g', ((r :: rs).mapM (zgW a.tmps)).run P w = .ok vals w ∧ vs.length = vals.length ∧ GExt g g' ∧ SR g' w nl fr S st' a.tmps (vs.zip vals ++ ps) ∧ st'.m.length = st.m.length := fun {g1 st1 y v} hg1 hl1 hS1 hr hrest => by
   simp only [yab, yaa, yac] at hrest
   obtain ⟨q, hq, rfl, rfl⟩ := hrest
   obtain ⟨vals, g2, hm, hl, hg2, hS2, hl2⟩ := zgh hok.2 hq hS1
   refine ⟨v :: vals, g2, ?_, by simp [hl], hg1.trans hg2, hS2.sub (fun p hp => ?_) (fun c => ?_), hl2.trans hl1⟩
   ·rw [List.mapM_cons, Sem.run_bind, hr]
    simp only [Result.andThen_ok, Sem.run_bind, hm]
    rfl
   ·simp only [List.zip_cons_cons, List.cons_append, List.mem_cons, yak] at hp ⊢
    rcases hp with hp | hp | hp
    ·exact .inr (.inl hp)
    ·exact .inl hp
    ·exact .inr (.inr hp)
   ·simp only [List.zip_cons_cons, List.cons_append, zap, ze9]; omega
  cases r with
  | tmp t =>
   cases x with
   | tmp s =>
    have : t = s := hok.1
    subst this
    simp only [zeo] at h
    exact fin (st1 := { st with σ := upd st.σ t .undef }) (y := st.σ t) (v := tsAt a.tmps t) (.refl g) rfl (hS.take t) rfl h
   | cell _ _ _ => exact hok.1.elim
  | cell t ty =>
   cases x with
   | tmp s => exact hok.1.elim
   | cell s agg n =>
    obtain ⟨rfl, hv⟩ := hok.1
    simp only [zeo, yab] at h
    obtain ⟨p, hp, h⟩ := h
    obtain ⟨y, st1⟩ := p
    obtain ⟨v, g1, ad, e, hrun, hS1, hg1, hl1⟩ := hS.load (q := (agg, n)) hv (hS.temps t) (hS.peeks t) hp
    refine fin hg1 hl1 hS1 ?_ (by simp only [yab]; exact h)
    have e' : a.tmps.getD t undef = .pointer (some ad) := e
    simp only [zgW, e', asAddr, Sem.run_bind, Sem.run_pure, Result.andThen_ok, hrun]
 | [], _ :: _, _, _, _, _, _, hok, _, _ => hok.elim
 | _ :: _, [], _, _, _, _, _, hok, _, _ => hok.elim
theorem zkz {fn : Func} {ts : Array Value} {vals : List Value} {w : World} (h : (fn.results.toList.mapM (zgW ts)).run P w = .ok vals w) : (results fn ts).run P w = .ok (if h : vals.length = 1 then vals[0] else .tuple vals.toArray) w := by
 have h2 : (fn.results.mapM (zgW ts)).run P w = .ok vals.toArray w := by
  rw [Array.mapM_eq_mapM_toList, Sem.run_map, h]; rfl
 have h3 : results fn ts = (fn.results.mapM (zgW ts) >>= fun vs => pure (if h : vs.size = 1 then vs[0] else .tuple vs)) := by
  unfold results
  congr 1
 rw [h3, Sem.run_bind, h2]
 simp
theorem SR.tuple {g : G} {w : World} {nl : Nat} {fr : Nat → Nat} {S : Nat → Bool} {st : St} {ts : Array Value} {vs : List V} {vals : List Value} (h : SR g w nl fr S st ts (vs.zip vals ++ [])) (hl : vs.length = vals.length) (hok : vs.all V.ok1 = true) :
  SR g w nl fr S st ts [(.tuple vs, .tuple vals.toArray)] := by
 have hk1 : ∀ k, k < vs.length → (vs.getD k .undef).ok1 = true := fun k hk => yam.1 hok _ (by simp [yad, yai hk])
 have hc : ∀ c, cnt2 c (.tuple vs) (.tuple vals.toArray) = cntP c (vs.zip vals ++ []) := fun c => by
  rw [List.append_nil, zgv hl]
  exact zaq fun k hk => by rw [zcI]; exact (zhR (zgV (hk1 k hk))).symm
 have hT : ∀ c, zal g w nl fr st ts [(.tuple vs, .tuple vals.toArray)] c = zal g w nl fr st ts (vs.zip vals ++ []) c := fun c => by
  unfold zal; rw [zap, zc9, ← hc c]; rfl
 exact { h with
  pend := fun p hp => by
   simp only [yao] at hp
   subst hp
   refine ⟨_, rfl, by simp [hl], fun k hk => ⟨zgV (hk1 k hk), ?_⟩⟩
   rw [zcI]
   exact (h.pend _ (yak.2 (.inl (zmK hl hk)))).r2 (hk1 k hk)
  ppeeks := fun p hp d hd => by
   simp only [yao] at hp
   subst hp; cases hd
  one := fun c => by rw [hT]; exact h.one c
  out := fun c hc => by rw [hT]; exact h.out c hc }
theorem zlX [Lay P] {cf : CF} (hcf : Good P cf) {f : Nat} {af : AFunc} (hf : zi6 P f af) {args : List V} {m m' : List (List V)} {r : V} (h : runF cf af args m = some (r, m')) : zc7 P f args m r m' := by
 intro g w fr vs hl hok hL hS
 obtain ⟨fn, c, S, hfn, hbody, _, hnt, hnp, hcode, hres⟩ := hf
 unfold runF at h
 split at h
 ·rename_i hlen
  simp only [yab] at h
  obtain ⟨q, hq, h⟩ := h
  obtain ⟨e, st⟩ := q
  have hsz : (vs ++ Array.replicate (fn.ntmps - vs.size) undef).size = af.nt := by simp; omega
  refine calls_of_wp hfn hbody ?_
  have hS1 := hS.enter hl hok S af.nl (fn.ntmps - vs.size)
  refine zlW (a := { tmps := vs ++ Array.replicate (fn.ntmps - vs.size) undef, defers := [] }) hcf hL (g0 := g) (w0 := w) (n0 := m.length) (by rw [hsz]; exact hcode) hS1 (Ext.refl fr m.length g w) (Nat.le_refl _) hq fun a' g' w' h1 h2 h3 h4 h5 => ?_
  have fin : (zhN st af.results).bind (fun q => if m.length ≤ q.2.m.length then some (q.1, if q.1.top2 ≤ m.length then q.2.m.take m.length else q.2.m) else none) = some (r, m') →
    ∃ v, (results fn a'.tmps).run P w' = .ok v w' ∧ ∃ v2 g2, Ending.returned v = .returned v2 ∧ SR g2 w' 0 fr (fun _ => false) ⟨fun _ => .undef, fun _ => [], m'⟩ #[] [(r, v2)] ∧ Ext fr m.length g w g2 w' ∧ m.length ≤ m'.length ∧ (∀ x, r.root? ≠ some x) ∧ ∀ j o, r ≠ .loc j o := fun hr => by
   simp only [yab] at hr
   obtain ⟨q, hq2, hr⟩ := hr
   obtain ⟨y, st2⟩ := q
   simp only at hr
   split at hr
   ·rename_i hml
    simp only [yaa, yac] at hr
    obtain ⟨rfl, rfl⟩ := hr
    unfold zhN at hq2
    simp only [yab] at hq2
    obtain ⟨p, hp, hq2⟩ := hq2
    obtain ⟨rv, st3⟩ := p
    split at hq2
    ·rename_i hall
     obtain ⟨vals, g3, hrun, hvl, hg3, hS3, hl3⟩ := zgh hres hp h1
     have hrr := zkz (P := P) hrun
     have one : ∃ v, (if h : vals.length = 1 then vals[0] else .tuple vals.toArray) = v ∧ zfN y = true ∧ SR g3 w' af.nl fr S st2 a'.tmps [(y, v)] := by
      simp only at hq2 hall
      match rv, vals, hvl, hq2, hS3, hall with
      | [x], [z], _, hq2, hS3, hall =>
       simp only [yaa, yac] at hq2
       obtain ⟨rfl, rfl⟩ := hq2
       refine ⟨z, rfl, ?_, by simpa using hS3⟩
       simp only [List.all_cons, List.all_nil, Bool.and_true] at hall
       cases x <;> first | exact hall | (simp [V.ok1, V.ok0] at hall)
      | [], [], _, hq2, hS3, _ =>
       simp only [yaa, yac] at hq2
       obtain ⟨rfl, rfl⟩ := hq2
       exact ⟨_, rfl, rfl, SR.tuple (vs := []) (vals := []) hS3 rfl rfl⟩
      | x :: x' :: xs, z :: z' :: zs, hvl, hq2, hS3, hall =>
       simp only [yaa, yac] at hq2
       obtain ⟨rfl, rfl⟩ := hq2
       exact ⟨_, by rw [dif_neg (by simp)], hall, SR.tuple hS3 hvl hall⟩
     obtain ⟨v, hv, hokr, hS4⟩ := one
     rw [hv] at hrr
     have hlv := hS4.leave hokr (m' := if y.top2 ≤ m.length then st2.m.take m.length else st2.m) (by
      split
      ·rename_i ht; exact .inr ⟨m.length, hml, rfl, ht⟩
      ·exact .inl rfl)
     refine ⟨v, hrr, v, _, rfl, hlv, ?_, ?_, zeP hokr, zi7 hokr⟩
     ·have := h4.trans (Ext.gext (fr := fr) (n0 := m.length) hg3 w') (Nat.le_refl _)
      exact ⟨this.os, this.tape, this.output, this.size, this.pers, this.frame, this.mb⟩
     ·split
      ·simp; omega
      ·exact hml
    ·cases hq2
   ·cases hr
  cases e with
  | normal =>
   obtain ⟨v, hv, hR⟩ := fin h
   exact ⟨by rw [h3], v, hv, hR⟩
  | ret =>
   obtain ⟨v, hv, hR⟩ := fin h
   exact ⟨by rw [h3], v, hv, hR⟩
  | exit i => cases h
 ·cases h
structure TableOK (P : Program) [Lay P] (T : Table) : Prop where
 code : ∀ f af, T.code f = some af → zi6 P f af
 ext : Good P T.ext
theorem zi8 [Lay P] {T : Table} (hT : TableOK P T) {f : Nat} {args : List V} {m m' : List (List V)} {r : V} (h : Ret T f args m r m') :
  (∃ fn, P.funcs[f]? = some fn ∧ fn.body.isSome = true ∧ (fn.name == "runtime.NumGoroutine") = false) ∧ zc7 P f args m r m' := by
 induction h with
 | mk cf f fn args m r m' hf h hcf ih =>
  have hF := hT.code f fn hf
  refine ⟨?_, zlX (fun f a m r m' hh => ih f a m r m' hh) hF h⟩
  obtain ⟨fn', c, S, h1, h2, h3, _⟩ := hF
  exact ⟨fn', h1, by rw [h2]; rfl, h3⟩
 | ext f args m r m' hf h => exact hT.ext f args m r m' h
end
end Go.Proofs.YtakdnfneikbjjaaGreatDoor.Am

set_option linter.all false
namespace Go.Proofs.YtakdnfneikbjjaaGreatDoor.Am
section
variable {P : Program} {S : Nat → Bool} {nl : Nat} {oc : Oper}
theorem zgX {x : V} (h : x.flat0 = true) : x.ok0 = true ∧ x.top = 0 ∧ x.root? = none ∧ ∀ j o, x ≠ .loc j o := by
 cases x with
 | func f cs =>
  have : cs = [] := by simpa [V.flat0] using h
  subst this
  exact ⟨rfl, rfl, rfl, fun j o => by simp⟩
 | _ => first | exact ⟨rfl, rfl, rfl, fun j o => by simp⟩ | cases h
theorem zi9 {cs : List V} (h : cs.all V.flat0 = true) : tops cs = 0 := by
 induction cs with
 | nil => rfl
 | cons x cs ih =>
  simp only [List.all_cons, yae] at h
  have e1 := (zgX h.1).2.1
  have e2 := ih h.2
  unfold tops at e2 ⊢
  simp only [List.foldr_cons, e1, e2]; rfl
theorem zbD {x : V} (h : x.flat1 = true) : x.ok1 = true ∧ x.okArg = true ∧ x.top1 = 0 ∧ x.root? = none ∧ (∀ j o, x ≠ .loc j o) ∧ zfN x = true ∧ x.top2 = 0 := by
 cases x with
 | agg cs =>
  have h : cs.all V.flat0 = true := h
  have h0 : cs.all V.ok0 = true := yam.2 fun y hy => (zgX (yam.1 h y hy)).1
  exact ⟨h0, h0, zi9 h, rfl, fun j o => by simp, h0, zi9 h⟩
 | func f cs =>
  have : cs = [] := by simpa [V.flat1, V.flat0] using h
  subst this
  exact ⟨rfl, rfl, rfl, rfl, fun j o => by simp, rfl, rfl⟩
 | _ => first | exact ⟨rfl, rfl, rfl, rfl, fun j o => by simp, rfl, rfl⟩ | cases h
theorem zlY {vs : List V} (h : vs.all V.flat1 = true) : vs.foldr (fun (v : V) (n : Nat) => max v.top1 n) 0 = 0 := by
 induction vs with
 | nil => rfl
 | cons v vs ih =>
  simp only [List.all_cons, yae] at h
  rw [List.foldr_cons, (zbD h.1).2.2.1, ih h.2]; rfl
theorem zfc {x : V} (h : x.flat2 = true) : zfN x = true ∧ x.top2 = 0 ∧ x.root? = none ∧ ∀ j o, x ≠ .loc j o := by
 cases x with
 | tuple vs =>
  have h : vs.all V.flat1 = true := h
  exact ⟨yam.2 fun y hy => (zbD (yam.1 h y hy)).1, zlY h, rfl, fun j o => by simp⟩
 | agg cs =>
  have := zbD (x := .agg cs) h
  exact ⟨this.2.2.2.2.2.1, this.2.2.2.2.2.2, this.2.2.2.1, this.2.2.2.2.1⟩
 | func f cs =>
  have := zbD (x := .func f cs) h
  exact ⟨this.2.2.2.2.2.1, this.2.2.2.2.2.2, this.2.2.2.1, this.2.2.2.2.1⟩
 | _ => first | exact ⟨rfl, rfl, rfl, fun j o => by simp⟩ | cases h
theorem SR.callP [Lay P] {g : G} {w : World} {fr : Nat → Nat} {st : St} {ts : Array Value} {args : List V} {vs : Array Value} (h : SR g w nl fr S st ts (args.zip vs.toList)) (hlen : vs.size = args.length) (hfl : args.all V.flat1 = true) (hL : Laid P g w)
  {f : Nat} {r : V} (hr : r.flat2 = true) (hcall : zc7 P f args [] r []) {K : Value → World → Prop}
  (hK : ∀ v g' w', SR g' w' nl fr S st ts [(r, v)] → Ext fr st.m.length g w g' w' → K v w') :
  Calls P f vs w fun e w' => ∃ v, e = .returned v ∧ K v w' := by
 obtain ⟨gc, hgc⟩ : ∃ gc : G, gc = { g with lv := fun _ => False } := ⟨_, rfl⟩
 obtain ⟨fr', hfr'⟩ : ∃ fr' : Nat → Nat, fr' = fun c => cntT c st.σ ts + cntB g w c nl st.l + cntM g w c st.m + fr c := ⟨_, rfl⟩
 have hfm : ∀ p ∈ args.zip vs.toList, p.1.flat1 = true := fun p hp => yam.1 hfl _ (List.of_mem_zip hp).1
 have hok : args.all V.okArg = true := yam.2 fun x hx => (zbD (yam.1 hfl x hx)).2.1
 have hT : ∀ c, zal gc w 0 fr' ⟨fun _ => .undef, fun _ => [], []⟩ #[] (args.zip vs.toList) c = zal g w nl fr st ts (args.zip vs.toList) c := fun c => by
  subst hgc hfr'
  have e1 : cntT c (fun _ => V.undef) #[] = 0 := rfl
  have e2 : cntB { g with lv := fun _ => False } w c 0 (fun _ => []) = 0 := rfl
  have e3 : cntM { g with lv := fun _ => False } w c [] = 0 := rfl
  have e4 : za0 { g with lv := fun _ => False } c = za0 g c := rfl
  unfold zal
  simp only [e1, e2, e3, e4]
  omega
 have hS : SR gc w 0 fr' (fun _ => false) ⟨fun _ => .undef, fun _ => [], []⟩ #[] (args.zip vs.toList) := by
  refine ⟨fun s => trivial, fun s _ => rfl, fun s d hd => (by cases hd), fun p hp => ?_, fun p hp d hd => ?_, fun j => ?_, fun j hj => absurd rfl hj, fun b hb => absurd hb (Nat.not_lt_zero _), fun c => by rw [hT]; exact h.one c, fun c hc => by rw [hT]; exact h.out c hc⟩
  ·have hp1 := zbD (hfm p hp)
   have h1 := R3.shrink (n' := 0) hp1.2.2.2.2.2.1 (by rw [hp1.2.2.2.2.2.2]; exact Nat.le_refl _) (h.pend p hp)
   subst hgc
   exact R3.mono (g := g) (τ := tsAt ts) (fun c hc => ⟨hc, Same.refl _ _⟩) (Nat.le_refl _) (fun _ _ => rfl) (fun _ _ => Same.refl _ _) (fun j o e => absurd e (hp1.2.2.2.2.1 j o)) (fun r e => by rw [hp1.2.2.2.1] at e; cases e) h1
  ·rw [(zbD (hfm p hp)).2.2.2.1] at hd; cases hd
  ·subst hgc; simp
 refine (hcall gc w fr' vs hlen hok (hL.same (by subst hgc; rfl)) hS).mono fun e w' => ?_
 rintro ⟨v, g2, rfl, hS2, hE, hml, hnr, hnl⟩
 refine ⟨v, rfl, ?_⟩
 obtain ⟨g3, hg3⟩ : ∃ g3 : G, g3 = { g2 with lb := g.lb, lv := g.lv, mb := g.mb } := ⟨_, rfl⟩
 have hpers : ∀ c, g.pers c → g3.pers c ∧ Same w w' c := fun c hc => by
  subst hg3
  have := hE.pers c (by subst hgc; exact hc)
  exact this
 have hfrm : ∀ c, 0 < cntT c st.σ ts ∨ 0 < cntB g w c nl st.l ∨ 0 < cntM g w c st.m ∨ 0 < fr c → Same w w' c := fun c hc => hE.frame c (by subst hfr'; simp only; omega)
 have hmb : ∀ b, b < st.m.length → g3.mb b = g.mb b := fun b hb => by subst hg3; rfl
 have hbox : ∀ j, st.l j ≠ [] → ∀ c, 0 < zbb g w c st.l j → Same w w' c := fun j hj c hc => hfrm c (.inr (.inl (by
  have := za9 (f := fun i => zbb g w c st.l i) (h.locs j hj).1
  unfold cntB; omega)))
 have hlbs : ∀ j, st.l j ≠ [] → Same w w' (g.lb j) := fun j hj => hbox j hj _ (by unfold zbb; rw [if_pos ⟨hj, rfl⟩]; omega)
 have hmem : ∀ b, b < st.m.length → ∀ c, 0 < zaU g w c st.m b → Same w w' c := fun b hb c hc => hfrm c (.inr (.inr (.inl (by
  have := za9 (f := fun i => zaU g w c st.m i) hb
  unfold cntM; omega))))
 have hmbs : ∀ b, b < st.m.length → Same w w' (g.mb b) := fun b hb => hmem b hb _ (by unfold zaU; rw [if_pos rfl]; omega)
 have hcB : ∀ c, cntB g3 w' c nl st.l = cntB g w c nl st.l := fun c => by
  subst hg3
  refine zaq fun j _ => ?_
  unfold zbb
  by_cases hj : st.l j = []
  ·simp [hj, cntL, zaS]
  ·rw [(hlbs j hj).cellsOf]
 have hcM : ∀ c, cntM g3 w' c st.m = cntM g w c st.m := fun c => by
  subst hg3
  refine zaq fun b hb => ?_
  unfold zaU
  rw [(hmbs b hb).cellsOf]
 have hT2 : ∀ c, zal g3 w' nl fr st ts [(r, v)] c = zal g2 w' 0 fr' ⟨fun _ => .undef, fun _ => [], []⟩ #[] [(r, v)] c := fun c => by
  have e1 : cntT c (fun _ => V.undef) #[] = 0 := rfl
  have e2 : cntB g2 w' c 0 (fun _ => []) = 0 := rfl
  have e3 : cntM g2 w' c [] = 0 := rfl
  have e4 : za0 g3 c = za0 g2 c := by subst hg3; rfl
  unfold zal
  simp only [e1, e2, e3, e4, hcB, hcM]
  subst hfr'
  simp only
  omega
 refine hK v g3 w' ?_ ⟨hE.os, hE.tape, hE.output, hE.size, hpers, fun c hc => hfrm c (.inr (.inr (.inr hc))), hmb⟩
 refine ⟨fun s => ?_, h.dead, h.peeks, fun p hp => ?_, fun p hp d hd => ?_, fun j => (by subst hg3; exact h.lvs j), fun j hj => ?_, fun b hb => ?_, fun c => by rw [hT2]; exact hS2.one c, fun c hc => by rw [hT2]; exact hS2.out c hc⟩
 ·refine R3.mono (g := g) (w := w) (n := st.m.length) (τ := tsAt ts) hpers (Nat.le_refl _) hmb (fun c hc => hfrm c (.inl ?_)) (fun j o _ => by subst hg3; rfl) (fun x hx => ?_) (h.temps s)
  ·by_cases hs : s < ts.size
   ·have := zcp (c := c) (σ := st.σ) hs; omega
   ·rw [h.dead s (by omega), zaT] at hc; omega
  ·cases x with
   | mem b o => exact (hmbs b ((h.temps s).memLt hx)).cell
   | loc j o => exact fun hl => ⟨by subst hg3; rfl, by subst hg3; exact hl, (hlbs j ((h.lvs j).1 hl)).cell⟩
   | tmp s => rfl
 ·simp only [yao] at hp
  subst hp
  have hrp := zfc hr
  have hp2 := R3.mono (g := g2) (g' := g3) (w := w') (w' := w') (n := 0) (n' := st.m.length) (τ := tsAt #[]) (τ' := tsAt ts) (fun c hc => ⟨by subst hg3; exact hc, Same.refl _ _⟩) (Nat.zero_le _) (fun b hb => absurd hb (Nat.not_lt_zero _)) (fun _ _ => Same.refl _ _) (fun j o e => absurd e (hrp.2.2.2 j o)) (fun x e => by rw [hrp.2.2.1] at e; cases e) (hS2.pend (r, v) (.head _))
  exact hp2
 ·simp only [yao] at hp
  subst hp
  rw [(zfc hr).2.2.1] at hd; cases hd
 ·have hlb : g3.lb j = g.lb j := by subst hg3; rfl
  rw [hlb]
  exact ⟨(h.locs j hj).1, CBlk.mono (g := g) hpers (Nat.le_refl _) hmb (hlbs j hj) (fun d (hd : 0 < cntL d (st.l j) (cellsOf w (g.lb j))) => hbox j hj d (by unfold zbb; omega)) (h.locs j hj).2⟩
 ·rw [hmb b hb]
  exact ⟨CBlk.mono (g := g) hpers (Nat.le_refl _) hmb (hmbs b hb) (fun d (hd : 0 < cntL d (st.m.getD b []) (cellsOf w (g.mb b))) => hmem b hb d (by unfold zaU; omega)) (h.mem b hb).1, (h.mem b hb).2⟩
theorem zoa [Lay P] {c : Call} {f : Nat} {os : List Opd} (hop : oc.op = .call c) (hc : c.callee = .value (.func f)) (ho : zeq S c.args.toList os) : OpOK P S nl oc (.callP f os) := by
 intro cf g w fr st a y st' hgood h he K Q kk
 simp only [evalOp, yab] at he
 obtain ⟨p, hp, he⟩ := he
 obtain ⟨vals, st1⟩ := p
 obtain ⟨g1, hg1, hs1, hm1, hl1⟩ := h.getOs ho hp
 simp only at he
 split at he
 ·rename_i hfl
  simp only [yab] at he
  obtain ⟨q, hq, he⟩ := he
  obtain ⟨r, m'⟩ := q
  simp only at he
  split at he
  ·rename_i hfr
   simp only [yae, List.isEmpty_iff] at hfr
   obtain ⟨hrf, rfl⟩ := hfr
   simp only [yaa, yac] at he
   obtain ⟨rfl, rfl⟩ := he
   obtain ⟨⟨fn, hfn, hbody, hname⟩, hcall⟩ := hgood.good _ _ _ _ _ hq
   have hargs : (c.args.map a.eval).toList = c.args.toList.map a.eval := by simp
   have hrun : (execOp a.eval oc).run P w = .ok (.enter f (c.args.map a.eval)) w := by
    have := zcs (w := w) hfn hbody hname (c.args.map a.eval)
    simp [execOp, hop, resolve, hc, Act.eval, Deferred.ofValue, invoke]
    simpa [Act.eval] using this
   refine zeO hrun ?_
   have h2 : SR g1 w nl fr S st1 a.tmps (vals.zip (c.args.map a.eval).toList) := by rw [hargs]; simpa using hs1
   refine h2.callP (by simp [hl1]) hfl (hgood.laid.gext hg1) hrf hcall fun v g' w' hS hE => ?_
   exact kk v g' w' hS (by
    have := (Ext.gext (fr := fr) (n0 := st.m.length) hg1 w).trans hE (by rw [hm1]; exact Nat.le_refl _)
    exact this) (by rw [hm1]; exact Nat.le_refl _)
  ·cases he
 ·cases he
end
end Go.Proofs.YtakdnfneikbjjaaGreatDoor.Am

set_option linter.all false
namespace Go.Proofs.YtakdnfneikbjjaaGreatDoor.Am
section
variable {P : Program} {S : Nat → Bool} {nl : Nat} {oc : Oper}
theorem zfO {f : Nat → Nat} {k : Nat} : ∀ {j : Nat}, zaS (k + j) f = zaS k f + zaS j (fun i => f (k + i))
 | 0 => rfl
 | j + 1 => by rw [← Nat.add_assoc, zaS, zfO (j := j), zaS]; omega
theorem zja {m : List (List V)} {k b : Nat} (h : b < k) : (m.take k).getD b [] = m.getD b [] := by
 simp only [yad, List.getElem?_take]
 rw [if_pos h]
theorem zc7.narrow [Lay P] {f : Nat} {args : List V} {m m1 : List (List V)} {r : V} {k : Nat} (hk : k ≤ m.length) (hok : args.all V.ok1 = true) (ht : ∀ x ∈ args, x.top1 ≤ k) (hr : r.flat2 = true) (hl : m1.length = k)
  (h : zc7 P f args (m.take k) r m1) : zc7 P f args m r (m1 ++ m.drop k) := by
 intro g w fr vs hlen hokA hL hS
 obtain ⟨fr', hfr'⟩ : ∃ fr' : Nat → Nat, fr' = fun c => zaS (m.length - k) (fun i => zaU g w c m (k + i)) + fr c := ⟨_, rfl⟩
 have hmk : (m.take k).length = k := by rw [List.length_take]; omega
 have hsp : ∀ c, cntM g w c m = cntM g w c (m.take k) + zaS (m.length - k) (fun i => zaU g w c m (k + i)) := fun c => by
  unfold cntM
  rw [hmk, show m.length = k + (m.length - k) by omega, zfO]
  congr 1
  ·refine zaq fun b hb => ?_
   unfold zaU
   rw [zja hb]
  ·congr 1; omega
 have hT : ∀ c, zal g w 0 fr' ⟨fun _ => .undef, fun _ => [], m.take k⟩ #[] (args.zip vs.toList) c = zal g w 0 fr ⟨fun _ => .undef, fun _ => [], m⟩ #[] (args.zip vs.toList) c := fun c => by
  subst hfr'
  unfold zal
  simp only [hsp c]
  have e2 : cntB g w c 0 (fun _ => []) = 0 := rfl
  omega
 have hS1 : SR g w 0 fr' (fun _ => false) ⟨fun _ => .undef, fun _ => [], m.take k⟩ #[] (args.zip vs.toList) := by
  refine ⟨fun s => trivial, fun s _ => rfl, fun s d hd => (by cases hd), fun p hp => ?_, hS.ppeeks, hS.lvs, fun j hj => absurd rfl hj, fun b hb => ?_, fun c => by rw [hT]; exact hS.one c, fun c hc => by rw [hT]; exact hS.out c hc⟩
  ·have hm := List.of_mem_zip hp
   have ho := yam.1 hok _ hm.1
   have ho2 : zfN p.1 = true := by
    cases hx : p.1 <;> rw [hx] at ho <;> first | exact ho | cases ho
   have ht2 : p.1.top2 ≤ k := by
    have := ht _ hm.1
    cases hx : p.1 <;> rw [hx] at ho this <;> first | exact this | cases ho
   have := R3.shrink (n' := k) ho2 ht2 (hS.pend p hp)
   show R3 g w (m.take k).length _ _ _
   rw [hmk]; exact this
  ·simp only [hmk] at hb
   have hb' : b < m.length := by omega
   obtain ⟨⟨arr, e, hB, hs, hk2⟩, ht2⟩ := hS.mem b hb'
   simp only
   rw [zja hb, hmk]
   refine ⟨⟨arr, e, hB, hs, fun i hlt => ⟨(hk2 i hlt).1, ?_⟩⟩, ht2⟩
   exact (hk2 i hlt).2.shrink (n' := k) (hk2 i hlt).1 (Nat.le_trans (zb4.1 ht2 i hlt) hb)
 refine (h g w fr' vs hlen hokA hL hS1).mono fun e w' => ?_
 rintro ⟨v, g2, rfl, hS2, hE, hml, hnr, hnl⟩
 obtain ⟨g3, hg3⟩ : ∃ g3 : G, g3 = { g2 with mb := g.mb } := ⟨_, rfl⟩
 have hmb2 : ∀ b, b < k → g2.mb b = g.mb b := fun b hb => hE.mb b (by rw [hmk]; exact hb)
 have hfrm : ∀ c, (∃ i, i < m.length - k ∧ 0 < zaU g w c m (k + i)) ∨ 0 < fr c → Same w w' c := fun c hc => hE.frame c (by
  subst hfr'
  rcases hc with ⟨i, hi, hp⟩ | hc
  ·have := za9 (f := fun i => zaU g w c m (k + i)) hi
   simp only; omega
  ·simp only; omega)
 have hpers : ∀ c, g.pers c → g3.pers c ∧ Same w w' c := fun c hc => by subst hg3; exact hE.pers c hc
 have hold : ∀ b, k ≤ b → b < m.length → ∀ c, 0 < zaU g w c m b → Same w w' c := fun b hb hb2 c hc => hfrm c (.inl ⟨b - k, by omega, by rw [show k + (b - k) = b by omega]; exact hc⟩)
 have hmbs : ∀ b, k ≤ b → b < m.length → Same w w' (g.mb b) := fun b hb hb2 => hold b hb hb2 _ (by unfold zaU; rw [if_pos rfl]; omega)
 have hlen2 : (m1 ++ m.drop k).length = m.length := by rw [yar, List.length_drop]; omega
 have hgl : ∀ b, b < k → (m1 ++ m.drop k).getD b [] = m1.getD b [] := fun b hb => by
  rw [yad, yad, yaq (by omega)]
 have hgr : ∀ b, k ≤ b → (m1 ++ m.drop k).getD b [] = m.getD b [] := fun b hb => by
  rw [yad, yad, List.getElem?_append_right (by omega), List.getElem?_drop]
  congr 2; omega
 have hcM : ∀ c, cntM g3 w' c (m1 ++ m.drop k) = cntM g2 w' c m1 + zaS (m.length - k) (fun i => zaU g w c m (k + i)) := fun c => by
  unfold cntM
  rw [hlen2, hl, show m.length = k + (m.length - k) by omega, zfO]
  congr 1
  ·refine zaq fun b hb => ?_
   unfold zaU
   rw [hgl b hb]
   subst hg3
   simp only
   rw [hmb2 b hb]
  ·rw [show k + (m.length - k) - k = m.length - k by omega]
   refine zaq fun i hi => ?_
   unfold zaU
   rw [hgr (k + i) (by omega)]
   subst hg3
   simp only
   rw [(hmbs (k + i) (by omega) (by omega)).cellsOf]
 have hT2 : ∀ c, zal g3 w' 0 fr ⟨fun _ => .undef, fun _ => [], m1 ++ m.drop k⟩ #[] [(r, v)] c = zal g2 w' 0 fr' ⟨fun _ => .undef, fun _ => [], m1⟩ #[] [(r, v)] c := fun c => by
  have e4 : za0 g3 c = za0 g2 c := by subst hg3; rfl
  have e5 : cntB g3 w' c 0 (fun _ => []) = 0 := rfl
  have e6 : cntB g2 w' c 0 (fun _ => []) = 0 := rfl
  unfold zal
  simp only [hcM c, e4, e5, e6]
  subst hfr'
  simp only
  omega
 have hrp := zfc hr
 refine ⟨v, g3, rfl, ?_, ⟨hE.os, hE.tape, hE.output, hE.size, hpers, fun c hc => hfrm c (.inr hc), fun b hb => by subst hg3; rfl⟩, by rw [hlen2]; exact Nat.le_refl _, hnr, hnl⟩
 refine ⟨fun s => trivial, fun s _ => rfl, fun s d hd => (by cases hd), fun p hp => ?_, hS2.ppeeks, fun j => by subst hg3; exact hS2.lvs j, fun j hj => absurd rfl hj, fun b hb => ?_, fun c => by rw [hT2]; exact hS2.one c, fun c hc => by rw [hT2]; exact hS2.out c hc⟩
 ·simp only [yao] at hp
  subst hp
  have h1 := R3.shrink (n' := 0) hrp.1 (by rw [hrp.2.1]; exact Nat.le_refl _) (hS2.pend _ (.head _))
  exact R3.mono (g := g2) (g' := g3) (w := w') (w' := w') (n := 0) (τ := tsAt #[]) (τ' := tsAt #[]) (fun c hc => ⟨by subst hg3; exact hc, Same.refl _ _⟩) (Nat.zero_le _) (fun b hb => absurd hb (Nat.not_lt_zero _)) (fun _ _ => Same.refl _ _) (fun j o e => absurd e (hnl j o)) (fun x e => absurd e (hnr x)) h1
 ·have hb : b < (m1 ++ m.drop k).length := hb
  rw [hlen2] at hb
  show CBlk g3 w' (m1 ++ m.drop k).length (g3.mb b) ((m1 ++ m.drop k).getD b []) ∧ _
  rw [hlen2]
  by_cases hbk : b < k
  ·have h1 := hS2.mem b (by show b < m1.length; omega)
   simp only at h1
   rw [show (⟨fun _ => .undef, fun _ => [], m1 ++ m.drop k⟩ : St).m.getD b [] = m1.getD b [] from hgl b hbk]
   have hgb : g3.mb b = g2.mb b := by subst hg3; exact (hmb2 b hbk).symm
   rw [hgb]
   exact ⟨CBlk.mono (g := g2) (fun c hc => ⟨by subst hg3; exact hc, Same.refl _ _⟩) (by omega) (fun b' hb' => by subst hg3; exact (hmb2 b' (by omega)).symm) (Same.refl _ _) (fun _ _ => Same.refl _ _) h1.1, h1.2⟩
  ·have h1 := hS.mem b hb
   simp only at h1
   rw [show (⟨fun _ => .undef, fun _ => [], m1 ++ m.drop k⟩ : St).m.getD b [] = m.getD b [] from hgr b (by omega)]
   have hgb : g3.mb b = g.mb b := by subst hg3; rfl
   rw [hgb]
   exact ⟨CBlk.mono (g := g) hpers (Nat.le_refl _) (fun b' _ => by subst hg3; rfl) (hmbs b (by omega) hb) (fun d (hd : 0 < cntL d (m.getD b []) (cellsOf w (g.mb b))) => hold b (by omega) hb d (by unfold zaU; omega)) h1.1, h1.2⟩
theorem zmL {x : V} (h : x.ok1 = true) : x.okArg = true := by
 cases x <;> first | exact h | cases h
theorem zo6 {vs : List V} {x : V} (h : x ∈ vs) : x.top1 ≤ seen vs := zis (f := V.top1) h
theorem zob [Lay P] {c : Call} {f : Nat} {os ws : List Opd} (hop : oc.op = .call c) (hc : c.callee = .value (.func f)) (ho : zeq S c.args.toList os) : OpOK P S nl oc (.callN f os ws) := by
 intro cf g w fr st a y st' hgood h he K Q kk
 simp only [evalOp, yab] at he
 obtain ⟨us, _, p, hp, he⟩ := he
 obtain ⟨vals, st1⟩ := p
 obtain ⟨g1, hg1, hs1, hm1, hl1⟩ := h.getOs ho hp
 simp only at he
 split at he
 ·rename_i hcc
  obtain ⟨hok1, _, hbl⟩ := hcc
  simp only [yab] at he
  obtain ⟨q, hq, he⟩ := he
  obtain ⟨r, m'⟩ := q
  simp only at he
  split at he
  ·rename_i hfl
   obtain ⟨hrf, hml⟩ := hfl
   simp only [yaa, yac] at he
   obtain ⟨rfl, rfl⟩ := he
   obtain ⟨⟨fn, hfn, hbody, hname⟩, hcall⟩ := hgood.good _ _ _ _ _ hq
   have hcall := zc7.narrow hbl hok1 (fun x hx => zo6 hx) hrf hml hcall
   have hok : vals.all V.okArg = true := yam.2 fun x hx => zmL (yam.1 hok1 x hx)
   have hargs : (c.args.map a.eval).toList = c.args.toList.map a.eval := by simp
   have hrun : (execOp a.eval oc).run P w = .ok (.enter f (c.args.map a.eval)) w := by
    have := zcs (w := w) hfn hbody hname (c.args.map a.eval)
    simp [execOp, hop, resolve, hc, Act.eval, Deferred.ofValue, invoke]
    simpa [Act.eval] using this
   refine zeO hrun ?_
   have h2 : SR g1 w nl fr S st1 a.tmps (vals.zip (c.args.map a.eval).toList) := by rw [hargs]; simpa using hs1
   refine h2.call (by simp [hl1]) hok (hgood.laid.gext hg1) hcall fun v g' w' hS hE hl => ?_
   exact kk v g' w' hS (by
    have := (Ext.gext (fr := fr) (n0 := st.m.length) hg1 w).trans hE (by rw [hm1]; exact Nat.le_refl _)
    exact this) (by
    show st.m.length ≤ (m' ++ List.drop (seen vals) st1.m).length
    rw [← hm1]; exact hl)
  ·cases he
 ·cases he
theorem zoc [Lay P] {mode : Use} {agg : Bool} {n : Nat} {p w : Opd} {os : List Opd} (h : OpOK P S nl oc (.load agg n p mode)) : OpOK P S nl oc (.loadW mode agg n p w os) := by
 intro cf g wd fr st a y st' hgood hS he K Q kk
 refine h cf g wd fr st a y st' hgood hS ?_ K Q kk
 simp only [evalOp, yab] at he ⊢
 obtain ⟨v, hv, us, _, he⟩ := he
 refine ⟨v, hv, ?_⟩
 split at he
 ·simp only [yab] at he
  obtain ⟨q, hq, he⟩ := he
  split at he
  ·rw [hq]; exact he
  ·cases he
 ·cases he
def TOp.under (s : Nat) : TOp → AOp
 | .place => .mv (.u s .peek)
 | .index sz x i => .indexSl sz (.t x) i
 | .load agg n p => .load agg n (.t p) .copy
 | .len x => .lenSl (.t x)
 | .store n p x => .store n (.t p) x
theorem zmM {s : Nat} {v : V} (h : tIs s v = true) : v = .place (.tmp s) := by
 unfold tIs at h
 split at h
 ·simp only [beq_iff_eq] at h; subst h; rfl
 ·cases h
theorem zeQ {st : St} {x : Nat} {r : Root} (h : st.σ x = .place r) : getC st (.t x) = some (.place r) := by
 simp only [getC, h]
 rw [if_neg (show ¬ (V.place r).hasOwn = true from fun h => Bool.false_ne_true h)]
theorem zkA {st : St} {x z i k : Nat} {r : Root} (h : st.σ x = .el r z i k) : getC st (.t x) = some (.el r z i k) := by
 simp only [getC, h]
 rw [if_neg (show ¬ (V.el r z i k).hasOwn = true from fun h => Bool.false_ne_true h)]
theorem zkB {cf : CF} {st : St} {s : Nat} {k : TOp} {r : V × St} (h : zdF st s k = some r) : evalOp cf st (k.under s) = some r := by
 cases k with
 | place => exact h
 | index sz x i =>
  simp only [zdF] at h
  split at h
  ·rename_i hx
   have hx := zmM hx
   simp only [yab] at h
   obtain ⟨n, hn, h⟩ := h
   simp only [TOp.under, evalOp, zeQ hx, hn, Option.bind_some]
   cases n with
   | int kk j =>
    simp only [look] at h ⊢
    exact h
   | _ => cases h
  ·cases h
 | load agg n p =>
  simp only [zdF, yab] at h
  obtain ⟨cs, hc, v, hv, h⟩ := h
  unfold zke at hc
  split at hc
  ·rename_i s' z i k' hp
   split at hc
   ·rename_i hs
    subst hs
    simp only [TOp.under, evalOp, zkA hp, Option.bind_some, za1, if_true, look]
    split at hc
    ·rename_i sz xs hσ
     split at hc
     ·rename_i hcc
      simp only [yaa] at hc
      subst hc
      rw [if_pos hcc, hv]; exact h
     ·cases hc
    ·cases hc
   ·cases hc
  ·cases hc
 | len x =>
  simp only [zdF] at h
  split at h
  ·rename_i hx
   have hx := zmM hx
   simp only [TOp.under, evalOp, zeQ hx, Option.bind_some]
   exact h
  ·cases h
 | store n p x =>
  simp only [zdF, yab] at h
  obtain ⟨q, hq, a, ha, h⟩ := h
  split at h
  ·simp only [TOp.under, evalOp, hq, ha, Option.bind_some]; exact h
  ·cases h
theorem zjb [Lay P] {s : Nat} {k : TOp} (h : OpOK P S nl oc (k.under s)) : OpOK P S nl oc (.tOp s k) := by
 intro cf g wd fr st a y st' hgood hS he K Q kk
 exact h cf g wd fr st a y st' hgood hS (zkB he) K Q kk
def toT (s : Nat) : AOp → AOp
 | .mv (.u s' .peek) => if s' = s then .tOp s .place else .mv (.u s' .peek)
 | .indexSl sz (.t x) i => .tOp s (.index sz x i)
 | .load agg n (.t p) .copy => .tOp s (.load agg n p)
 | .lenSl (.t x) => .tOp s (.len x)
 | .store n (.t p) x => .tOp s (.store n p x)
 | op => op
theorem zpw [Lay P] {s : Nat} {op : AOp} (h : OpOK P S nl oc op) : OpOK P S nl oc (toT s op) := by
 unfold toT
 split
 ·split
  ·rename_i hs; subst hs; exact zjb (k := .place) h
  ·exact h
 ·exact zjb (k := .index _ _ _) h
 ·exact zjb (k := .load _ _ _) h
 ·exact zjb (k := .len _) h
 ·exact zjb (k := .store _ _ _) h
 ·exact h
end
end Go.Proofs.YtakdnfneikbjjaaGreatDoor.Am

set_option linter.all false
namespace Go.Proofs.YtakdnfneikbjjaaGreatDoor.Am
section
variable {P : Program} {S : Nat → Bool} {nl : Nat} {oc : Oper}
variable {g : G} {w : World} {fr : Nat → Nat} {st : St} {ts : Array Value}
noncomputable def zfP (g : G) (w : World) (nl : Nat) (fr : Nat → Nat) (st : St) (ts : Array Value) : G := { g with lv := fun _ => False, pers := fun c => 0 < zal g w nl fr st ts [] c }
theorem zmN {c : Nat} {x : V} {v : Value} (h : 0 < cnt0 c x v) : 0 < cnt2 c x v := by
 cases x with
 | slice o z xs => exact h
 | _ => simp [cnt0] at h
theorem SR.lookL (h : SR g w nl fr S st ts []) {r : Root} {v : Value} (hr : R3 g w st.m.length (tsAt ts) (.place r) v) : Am.look st r = .undef ∨ (R3 g w st.m.length (tsAt ts) (Am.look st r) v ∧ ∀ c, 0 < cnt0 c (Am.look st r) v → 0 < zal g w nl fr st ts [] c) := by
 cases r with
 | mem b o =>
  obtain ⟨hb, hc⟩ := hr
  obtain ⟨⟨arr, e, hB, hs, hk⟩, _⟩ := h.mem b hb
  rw [hB.cell] at hc
  obtain ⟨ho, ev⟩ := yan.1 hc
  have hk' := hk o (by omega)
  have hv : arr.getD o undef = v := by simp [yaf, hc]
  rw [hv] at hk'
  refine .inr ⟨hk'.2.r3 hk'.1, fun c hc0 => h.tot_memOf hb ?_⟩
  have := zdm (c := c) (xs := st.m.getD b []) (vs := arr) (k := o) (by omega)
  rw [hv] at this
  have hlk : Am.look st (.mem b o) = (st.m.getD b []).getD o .undef := rfl
  rw [hlk] at hc0
  unfold zaU
  rw [hB.cellsOf]
  omega
 | loc j o =>
  by_cases hj : st.l j = []
  ·exact .inl (by simp [Am.look, hj])
  ·obtain ⟨_, arr, e, hB, hs, hk⟩ := h.locs j hj
   have hc : w.cell? ⟨g.lb j, o, none⟩ = some v := hr.2
   rw [hB.cell] at hc
   obtain ⟨ho, ev⟩ := yan.1 hc
   have hk' := hk o (by omega)
   have hv : arr.getD o undef = v := by simp [yaf, hc]
   rw [hv] at hk'
   refine .inr ⟨hk'.2.r3 hk'.1, fun c hc0 => h.tot_box hj ?_⟩
   have := zdm (c := c) (xs := st.l j) (vs := arr) (k := o) (by omega)
   rw [hv] at this
   have hlk : Am.look st (.loc j o) = (st.l j).getD o .undef := rfl
   rw [hlk] at hc0
   unfold zbb
   rw [hB.cellsOf]
   omega
 | tmp s =>
  have hv : tsAt ts s = v := hr
  refine .inr ⟨by rw [← hv]; exact h.temps s, fun c hc0 => h.tot_temp (s := s) ?_⟩
  rw [hv]
  exact zmN hc0
theorem SR.lentV (h : SR g w nl fr S st ts []) {x u : V} {v : Value} (hr : R3 g w st.m.length (tsAt ts) x v) (hu : Am.lentV st x = some u) : R3 (zfP g w nl fr st ts) w 0 (tsAt #[]) u v ∧ u.flat1 = true ∧ u.hasOwn = false := by
 have hp : ∀ c, g.pers c → (zfP g w nl fr st ts).pers c ∧ Same w w c := fun c hc => ⟨h.tot_pers hc, Same.refl _ _⟩
 have plain : x.flat1 = true → x.hasOwn = false → R3 (zfP g w nl fr st ts) w 0 (tsAt #[]) x v := fun hf ho => by
  have hp1 := zbD hf
  have h1 := R3.shrink (n' := 0) hp1.2.2.2.2.2.1 (by rw [hp1.2.2.2.2.2.2]; exact Nat.le_refl _) hr
  exact R3.mono (g := g) (τ := tsAt ts) hp (Nat.le_refl _) (fun _ hb => absurd hb (Nat.not_lt_zero _)) (fun _ _ => Same.refl _ _) (fun j o e => absurd e (hp1.2.2.2.2.1 j o)) (fun r e => by rw [hp1.2.2.2.1] at e; cases e) h1
 cases x with
 | place r =>
  rcases h.lookL hr with hl | ⟨h3, hcnt⟩
  ·simp only [Am.lentV, hl] at hu; cases hu
  ·simp only [Am.lentV] at hu
   split at hu
   ·rename_i hl
    simp only [yaa] at hu
    subst hu
    rw [hl] at h3
    have h4 : RB g.pers w .nils v := h3
    exact ⟨h4.mono hp, rfl, rfl⟩
   ·rename_i o z xs hl
    simp only [yaa] at hu
    subst hu
    rw [hl] at h3 hcnt
    refine ⟨?_, rfl, rfl⟩
    cases o with
    | false =>
     have h4 : RB g.pers w (.slice false z xs) v := h3
     exact h4.mono hp
    | true =>
     have h4 : OwnS g.pers w z xs v := h3
     obtain ⟨a, cap, arr, e, rfl, hsp, hcap, hB, hoff, hE⟩ := h4
     exact RB.slice_iff.2 ⟨a, cap, rfl, fun _ => hsp, fun _ => hcnt _ (by simp [cnt0]), hcap, hE.mono hp (Same.refl _ _)⟩
   ·cases hu
 | _ =>
  simp only [Am.lentV] at hu
  split at hu
  ·rename_i hc
   simp only [yae, Bool.not_eq_true'] at hc
   simp only [yaa] at hu
   subst hu
   exact ⟨plain hc.1 hc.2, hc.1, hc.2⟩
  ·cases hu
theorem zhV {st : St} : ∀ {xs us : List V}, zef st xs = some us → us.length = xs.length
 | [], us, h => by simp only [zef, yaa] at h; subst h; rfl
 | x :: xs, us, h => by
  simp only [zef, yab, yaa] at h
  obtain ⟨u, _, us', hus, rfl⟩ := h
  simp [zhV hus]
theorem zhW {st : St} : ∀ {xs us : List V} {k : Nat}, zef st xs = some us → k < xs.length → Am.lentV st (xs.getD k .undef) = some (us.getD k .undef)
 | x :: xs, us, k, h, hk => by
  simp only [zef, yab, yaa] at h
  obtain ⟨u, hu, us', hus, rfl⟩ := h
  cases k with
  | zero => exact hu
  | succ k => exact zhW (xs := xs) (us := us') (k := k) hus (by simpa using hk)
theorem zmO {c : Nat} {ps : List (V × Value)} (h : ∀ p ∈ ps, p.1.hasOwn = false) : cntP c ps = 0 := by
 induction ps with
 | nil => rfl
 | cons p ps ih => rw [zap, zep (h p (.head _)), ih fun q hq => h q (.tail _ hq)]
theorem SR.callL [Lay P] (h : SR g w nl fr S st ts []) {us : List V} {vs : Array Value} (hlen : vs.size = us.length)
  (hu : ∀ k, k < us.length → R3 (zfP g w nl fr st ts) w 0 (tsAt #[]) (us.getD k .undef) (vs.toList.getD k undef) ∧ (us.getD k .undef).flat1 = true ∧ (us.getD k .undef).hasOwn = false)
  (hL : Laid P g w) {f : Nat} {r : V} (hcall : zc7 P f us [] r []) (hb : r.bare = true) {K : Value → World → Prop}
  (hK : ∀ v w', SR g w' nl fr S st ts [(r, v)] → Ext fr st.m.length g w g w' → K v w') :
  Calls P f vs w fun e w' => ∃ v, e = .returned v ∧ K v w' := by
 have hpend : ∀ p ∈ us.zip vs.toList, R3 (zfP g w nl fr st ts) w 0 (tsAt #[]) p.1 p.2 ∧ p.1.flat1 = true ∧ p.1.hasOwn = false := fun p hp => by
  obtain ⟨k, hk, rfl⟩ := List.mem_iff_getElem.1 hp
  have hk0 := hk
  rw [List.length_zip] at hk0
  have hk1 : k < us.length := by omega
  have := hu k hk1
  simp only [List.getElem_zip]
  simp only [yad, yai hk1] at this
  rw [yai (by omega)] at this
  exact this
 have hok : us.all V.okArg = true := yam.2 fun x hx => by
  obtain ⟨k, hk, rfl⟩ := List.mem_iff_getElem.1 hx
  have := (hu k hk).2.1
  simp only [yad, yai hk] at this
  exact (zbD this).2.1
 have hT : ∀ c, zal (zfP g w nl fr st ts) w 0 (fun _ => 0) ⟨fun _ => .undef, fun _ => [], []⟩ #[] (us.zip vs.toList) c = za0 (zfP g w nl fr st ts) c := fun c => by
  have e1 : cntT c (fun _ => V.undef) #[] = 0 := rfl
  have e2 : cntB (zfP g w nl fr st ts) w c 0 (fun _ => []) = 0 := rfl
  have e3 : cntM (zfP g w nl fr st ts) w c [] = 0 := rfl
  have e4 : cntP c (us.zip vs.toList) = 0 := zmO fun p hp => (hpend p hp).2.2
  unfold zal
  simp only [e1, e2, e3, e4]; omega
 have hS : SR (zfP g w nl fr st ts) w 0 (fun _ => 0) (fun _ => false) ⟨fun _ => .undef, fun _ => [], []⟩ #[] (us.zip vs.toList) := by
  refine ⟨fun s => trivial, fun s _ => rfl, fun s d hd => (by cases hd), fun p hp => (hpend p hp).1, fun p hp d hd => ?_, fun j => ?_, fun j hj => absurd rfl hj, fun b hb => absurd hb (Nat.not_lt_zero _), fun c => ?_, fun c hc => ?_⟩
  ·rw [(zbD (hpend p hp).2.1).2.2.2.1] at hd; cases hd
  ·simp [zfP]
  ·rw [hT]; unfold za0; split <;> omega
  ·rw [hT]
   have h0 := h.out c hc
   unfold za0
   rw [if_neg (by simp only [zfP]; omega)]
 refine (hcall (zfP g w nl fr st ts) w (fun _ => 0) vs hlen hok (hL.mono fun c hc => ⟨h.tot_pers hc, Same.refl _ _⟩) hS).mono fun e w' => ?_
 rintro ⟨v, g2, rfl, hS2, hX, _, _, _⟩
 refine ⟨v, rfl, ?_⟩
 have hsame : ∀ c, 0 < zal g w nl fr st ts [] c → Same w w' c := fun c hc => (hX.pers c hc).2
 refine hK v w' ((h.kept hX.size hsame).add ((hS2.pend _ (.head _)).bare hb) (zlf hb) fun d hd => (zgT hb hd).elim) ⟨hX.os, hX.tape, hX.output, hX.size, fun c hc => ⟨hc, hsame c (h.tot_pers hc)⟩, fun c hc => hsame c (by unfold zal; omega), fun _ _ => rfl⟩
theorem zod [Lay P] {c : Call} {f : Nat} {os : List Opd} (hop : oc.op = .call c) (hc : c.callee = .value (.func f)) (ho : zeq S c.args.toList os) : OpOK P S nl oc (.callL f os) := by
 intro cf g w fr st a y st' hgood h he K Q kk
 simp only [evalOp, yab] at he
 obtain ⟨vals, hvals, us, hus, q, hq, he⟩ := he
 obtain ⟨r, m'⟩ := q
 split at he
 ·rename_i hcc
  simp only [yae, List.isEmpty_iff] at hcc
  obtain ⟨hb, rfl⟩ := hcc
  simp only [yaa, yac] at he
  obtain ⟨rfl, rfl⟩ := he
  obtain ⟨hl, hr⟩ := h.getCs ho hvals
  have hul := zhV hus
  obtain ⟨⟨fn, hfn, hbody, hname⟩, hcall⟩ := hgood.good _ _ _ _ _ hq
  have hrun : (execOp a.eval oc).run P w = .ok (.enter f (c.args.map a.eval)) w := by
   have := zcs (w := w) hfn hbody hname (c.args.map a.eval)
   simp [execOp, hop, resolve, hc, Act.eval, Deferred.ofValue, invoke]
   simpa [Act.eval] using this
  refine zeO hrun ?_
  refine h.callL (us := us) (by rw [hul, hl]; simp) (fun k hk => ?_) hgood.laid hcall hb fun v w' hS hE => kk v g w' hS hE (Nat.le_refl _)
  have hk2 : k < vals.length := by omega
  have e : (c.args.map a.eval).toList.getD k undef = (c.args.toList.map a.eval).getD k undef := by simp
  rw [e]
  exact h.lentV (hr k hk2).1 (zhW hus hk2)
 ·cases he
end
end Go.Proofs.YtakdnfneikbjjaaGreatDoor.Am

namespace Go.Proofs.YtakdnfneikbjjaaGreatDoor.Am
def St.at (st : St) (d : Nat) (v : V) : St := { st with σ := upd st.σ d v }
def taken : List Opd → List Nat
  | [] => []
  | .u s .take :: r => s :: taken r
  | .u s .share :: r => s :: taken r
  | _ :: r => taken r
def AOp.boxes : AOp → Bool
  | .allocL _ _ | .boxL _ _ | .mvK _ | .tOp _ _ => true
  | _ => false
theorem zdz {σ : Nat → V} {d e : Nat} {u v : V} (h : d ≠ e) : upd (upd σ d u) e v = upd (upd σ e v) d u := by
  funext i; simp only [upd]; split <;> split <;> simp_all
theorem zhX {σ : Nat → V} {d i : Nat} {v : V} (h : i ≠ d) : upd σ d v i = σ i := by simp [upd, h]
section
variable {cf : CF} {st : St} {d : Nat} {v : V}
theorem zaG {o : Opd} (h : d ∉ o.slot?) : getC (st.at d v) o = getC st o := by
  cases o with
  | c x => rfl
  | t s => simp only [Opd.slot?, yao] at h; simp only [getC, St.at, zhX (Ne.symm h)]
  | u s how => cases how <;> rfl
theorem zdo {o : Opd} (h : d ∉ o.slot?) : getO (st.at d v) o = (getO st o).map fun p => (p.1, p.2.at d v) := by
  cases o with
  | c x => rfl
  | t s =>
    simp only [Opd.slot?, yao] at h
    simp only [getO, St.at, zhX (Ne.symm h)]
    split <;> rfl
  | u s how =>
    simp only [Opd.slot?, yao] at h
    cases how <;> simp only [getO, St.at, zhX (Ne.symm h)]
    · split <;> rfl
    · simp only [Option.map_some]; rw [zdz h]
    · simp only [Option.map_some]; rw [zdz h]
    · rfl
theorem zfp : ∀ {os : List Opd} {st : St}, d ∉ slots os → getOs (st.at d v) os = (getOs st os).map fun p => (p.1, p.2.at d v)
  | [], _, _ => rfl
  | o :: os, st, h => by
    simp only [slots, yag, yak, not_or] at h
    simp only [getOs]
    rw [zdo h.1]
    cases getO st o with
    | none => rfl
    | some p =>
      simp only [Option.map_some, Option.bind_some]
      rw [zfp h.2]
      cases getOs p.2 os <;> rfl
theorem zeR : ∀ {os : List Opd}, d ∉ slots os → getCs (st.at d v) os = getCs st os
  | [], _ => rfl
  | o :: os, h => by
    simp only [slots, yag, yak, not_or] at h
    simp only [getCs]
    rw [zaG h.1, zeR h.2]
theorem zcJ {n : Nat} {o : Option Opd} (h : ∀ x, o = some x → d ∉ x.slot?) : zaV (st.at d v) n o = zaV st n o := by
  cases o with
  | none => rfl
  | some x => simp only [zaV]; rw [zaG (h x rfl)]
theorem zfd {r : Root} (h : ∀ s, r ≠ .tmp s) : look (st.at d v) r = look st r := by
  cases r with
  | tmp s => exact absurd rfl (h s)
  | _ => rfl
theorem zjc {ps : List (Nat × Nat × Opd)} : ∀ {st : St} {cells : List V}, d ∉ slots (ps.map fun p => p.2.2) → zbd (st.at d v) cells ps = (zbd st cells ps).map fun p => (p.1, p.2.at d v) := by
  induction ps with
  | nil => intro st cells _; rfl
  | cons p ps ih =>
    intro st cells h
    obtain ⟨off, n, x⟩ := p
    simp only [slots, List.map_cons, yag, yak, not_or] at h
    simp only [zbd]
    rw [zdo h.1]
    cases getO st x with
    | none => rfl
    | some q =>
      simp only [Option.map_some, Option.bind_some]
      split
      · exact ih h.2
      · rfl
theorem zjd {ps : List (Nat × Opd)} : ∀ {st : St} {sz : Nat} {xs : List (List V)}, d ∉ slots (ps.map fun p => p.2) → zbe (st.at d v) sz xs ps = (zbe st sz xs ps).map fun p => (p.1, p.2.at d v) := by
  induction ps with
  | nil => intro st sz xs _; rfl
  | cons p ps ih =>
    intro st sz xs h
    obtain ⟨i, x⟩ := p
    simp only [slots, List.map_cons, yag, yak, not_or] at h
    simp only [zbe]
    rw [zdo h.1]
    cases getO st x with
    | none => rfl
    | some q =>
      simp only [Option.map_some, Option.bind_some]
      split
      · exact ih h.2
      · rfl
def zbY (x : V) : Prop := ∀ s, x.root? ≠ some (.tmp s)
theorem zbR {p : Bool} {x : V} (h : rootOk p x = true) : zbY x := by
  intro s e
  cases x with
  | place r => simp [V.root?] at e; subst e; simp [rootOk] at h
  | el r z i k => simp [V.root?] at e; subst e; simp [rootOk] at h
  | _ => simp [V.root?] at e
theorem zcm {x : V} (h : rootOk true x = true) : x.root? = none ∧ x ≠ .undef := by
  cases x with
  | place r => cases r <;> simp [rootOk] at h
  | el r z i k => cases r <;> simp [rootOk] at h
  | undef => simp [rootOk] at h
  | _ => exact ⟨rfl, by simp⟩
theorem zlZ {x : V} (h : x.root? = none) : zkd x = x := by
  cases x <;> first | rfl | (simp [V.root?] at h)
theorem zgY {x : V} (h : x.root? = none) : killMV x = x := by
  cases x <;> first | rfl | (simp [V.root?] at h)
theorem zfq {x : V} (h : x.root? = none) : killLocV x = x := by
  cases x with
  | place r => simp [V.root?] at h
  | el r z i k => simp [V.root?] at h
  | _ => rfl
theorem zgi {off n : Nat} {x : V} (h : x.root? = none) : killAtV off n x = x := by
  cases x with
  | place r => simp [V.root?] at h
  | el r z i k => simp [V.root?] at h
  | _ => rfl
theorem zmP {off n : Nat} (h : v.root? = none) : killAt off n (upd st.σ d v) = upd (killAt off n st.σ) d v := by
  funext i; simp only [killAt, upd]; split
  · exact zgi h
  · rfl
theorem zl0 (h : v.root? = none) : killLoc (upd st.σ d v) = upd (killLoc st.σ) d v := by
  funext i; simp only [killLoc, upd]; split
  · exact zfq h
  · rfl
theorem zfr (h : v.root? = none) : killM (upd st.σ d v) = upd (killM st.σ) d v := by
  funext i; simp only [killM, upd]; split
  · exact zgY h
  · rfl
theorem zli {x : V} (h : zbY x) : elems (st.at d v) x = elems st x := by
  cases x with
  | place r => simp only [elems]; rw [zfd fun s e => h s (by rw [e]; rfl)]
  | _ => rfl
theorem zje {sz : Nat} {x : V} (h : zbY x) : zcX sz (st.at d v) x = zcX sz st x := by
  cases x with
  | place r => simp only [zcX]; rw [zfd fun s e => h s (by rw [e]; rfl)]
  | _ => rfl
theorem zoe {x : V} (h : zbY x) : lentV (st.at d v) x = lentV st x := by
  cases x with
  | place r => simp only [lentV]; rw [zfd fun s e => h s (by rw [e]; rfl)]
  | _ => rfl
theorem zjf : ∀ {xs : List V}, (∀ x ∈ xs, zbY x) → zef (st.at d v) xs = zef st xs
  | [], _ => rfl
  | x :: xs, h => by simp only [zef]; rw [zoe (h x (.head _)), zjf fun y hy => h y (.tail _ hy)]
theorem zof {sz : Nat} {x : V} (h : zbY x) : lendS sz (st.at d v) x = lendS sz st x := by
  cases x <;> first | rfl | exact zje h
theorem zjg {agg : Bool} {n : Nat} {mode : Use} {x : V} (h : zbY x) : za1 (st.at d v) agg n mode x = (za1 st agg n mode x).map fun p => (p.1, p.2.at d v) := by
  cases x with
  | ptr b off =>
    by_cases hc : b < st.m.length ∧ off + n ≤ (st.m.getD b []).length
    · have hc' : b < (st.at d v).m.length ∧ off + n ≤ ((st.at d v).m.getD b []).length := hc
      simp only [za1]
      rw [if_pos hc, if_pos hc']
      simp only [St.at]
      cases zdX mode (.mem b off) agg (((st.m.getD b []).drop off).take n) with
      | none => rfl
      | some y => cases hm : mode.writes <;> simp
    · have hc' : ¬ (b < (st.at d v).m.length ∧ off + n ≤ ((st.at d v).m.getD b []).length) := hc
      simp only [za1]
      rw [if_neg hc, if_neg hc']; rfl
  | loc j off =>
    by_cases hc : off + n ≤ (st.l j).length ∧ mode ≠ .share
    · have hc' : off + n ≤ ((st.at d v).l j).length ∧ mode ≠ .share := hc
      simp only [za1]
      rw [if_pos hc, if_pos hc']
      simp only [St.at]
      cases zdX mode (.loc j off) agg (((st.l j).drop off).take n) with
      | none => rfl
      | some y => cases hm : mode.writes <;> simp
    · have hc' : ¬ (off + n ≤ ((st.at d v).l j).length ∧ mode ≠ .share) := hc
      simp only [za1]
      rw [if_neg hc, if_neg hc']; rfl
  | ro cs off =>
    simp only [za1]
    split
    · cases agg? agg ((cs.drop off).take n) <;> rfl
    · rfl
  | el r z i k =>
    simp only [za1]
    rw [zfd fun s e => h s (by rw [e]; rfl)]
    split
    · cases look st r with
      | slice o sz xs =>
        cases o with
        | true =>
          simp only
          split
          · cases agg? agg (((xs.getD i []).drop k).take n) <;> rfl
          · rfl
        | false => rfl
      | _ => rfl
    · rfl
  | _ => rfl
theorem zl1 {n : Nat} {cs : List V} {x : V} (h : zbY x) (hv : v.root? = none) : zbA (st.at d v) n cs x = (zbA st n cs x).map fun p => p.at d v := by
  cases x with
  | ptr b off =>
    by_cases hc : b < st.m.length ∧ off + n ≤ (st.m.getD b []).length ∧ cs.length = n ∧ cs.all V.ok0 ∧ tops cs ≤ b + 1
    · have hc' : b < (st.at d v).m.length ∧ off + n ≤ ((st.at d v).m.getD b []).length ∧ cs.length = n ∧ cs.all V.ok0 ∧ tops cs ≤ b + 1 := hc
      simp only [zbA]
      rw [if_pos hc, if_pos hc']
      simp only [St.at, Option.map_some, zmP hv]
    · have hc' : ¬ (b < (st.at d v).m.length ∧ off + n ≤ ((st.at d v).m.getD b []).length ∧ cs.length = n ∧ cs.all V.ok0 ∧ tops cs ≤ b + 1) := hc
      simp only [zbA]
      rw [if_neg hc, if_neg hc']; rfl
  | loc j off =>
    by_cases hc : off + n ≤ (st.l j).length ∧ cs.length = n ∧ cs.all V.ok0
    · have hc' : off + n ≤ ((st.at d v).l j).length ∧ cs.length = n ∧ cs.all V.ok0 := hc
      simp only [zbA]
      rw [if_pos hc, if_pos hc']
      simp only [St.at, Option.map_some, zl0 hv]
    · have hc' : ¬ (off + n ≤ ((st.at d v).l j).length ∧ cs.length = n ∧ cs.all V.ok0) := hc
      simp only [zbA]
      rw [if_neg hc, if_neg hc']; rfl
  | el r z i k =>
    simp only [zbA]
    rw [zfd fun s e => h s (by rw [e]; rfl)]
    split
    · cases look st r with
      | slice o sz xs =>
        cases o with
        | true =>
          simp only
          split
          · cases r with
            | tmp s => exact absurd rfl (h s)
            | _ => rfl
          · rfl
        | false => rfl
      | _ => rfl
    · rfl
  | _ => rfl
end
theorem getC_mem {st : St} {o : Opd} {x : V} (h : getC st o = some x) : (∃ y, o = .c y ∧ x = y) ∨ (∃ s, o = .t s ∧ x = st.σ s) ∨ ∃ s, o = .u s .peek ∧ x = .place (.tmp s) := by
  cases o with
  | c y => simp only [getC, yaa] at h; exact .inl ⟨y, rfl, h.symm⟩
  | t s =>
    simp only [getC] at h
    split at h
    · cases h
    · simp only [yaa] at h; exact .inr (.inl ⟨s, rfl, h.symm⟩)
  | u s how =>
    cases how with
    | peek => simp only [getC, yaa] at h; exact .inr (.inr ⟨s, rfl, h.symm⟩)
    | _ => cases h
def Opd.plain : Opd → Bool
  | .c x => x.root?.isNone
  | .u _ .peek => false
  | _ => true
theorem share_root {x : V} : x.share.root? = x.root? := by cases x <;> rfl
theorem zdd {st : St} {o : Opd} {x : V} (h : getC st o = some x) (hp : o.plain = true) (hr : ∀ s ∈ o.slot?, zbY (st.σ s)) : zbY x := by
  rcases getC_mem h with ⟨y, rfl, rfl⟩ | ⟨s, rfl, rfl⟩ | ⟨s, rfl, rfl⟩
  · intro s e; simp [Opd.plain, e] at hp
  · exact hr s (by simp [Opd.slot?])
  · simp [Opd.plain] at hp
theorem zjh {st : St} : ∀ {os : List Opd} {vs : List V}, getCs st os = some vs → os.all Opd.plain = true → (∀ s ∈ slots os, zbY (st.σ s)) → ∀ x ∈ vs, zbY x
  | [], vs, h, _, _, x, hx => by simp only [getCs, yaa] at h; subst h; cases hx
  | o :: os, vs, h, hp, hr, x, hx => by
    simp only [getCs, yab, yaa] at h
    obtain ⟨u, hu, us, hus, rfl⟩ := h
    simp only [List.all_cons, yae] at hp
    cases hx with
    | head => exact zdd hu hp.1 fun s hs => hr s (by simp [slots]; exact .inl hs)
    | tail _ hx => exact zjh hus hp.2 (fun s hs => hr s (by simp only [slots, yag, yak]; exact .inr hs)) x hx
theorem zit {st st' : St} {o : Opd} {x : V} (h : getO st o = some (x, st')) (hp : o.plain = true) (hr : ∀ s ∈ o.slot?, zbY (st.σ s)) : zbY x := by
  cases o with
  | c y =>
    simp only [getO, yaa, yac] at h
    obtain ⟨rfl, _⟩ := h
    intro s e; simp [Opd.plain, e] at hp
  | t s =>
    simp only [getO] at h
    split at h
    · cases h
    · simp only [yaa, yac] at h
      obtain ⟨rfl, _⟩ := h
      exact hr s (by simp [Opd.slot?])
  | u s how =>
    have hs := hr s (by simp [Opd.slot?])
    cases how with
    | copy =>
      simp only [getO] at h
      split at h
      · cases h
      · simp only [yaa, yac] at h; obtain ⟨rfl, _⟩ := h; exact hs
    | take => simp only [getO, yaa, yac] at h; obtain ⟨rfl, _⟩ := h; exact hs
    | share => simp only [getO, yaa, yac] at h; obtain ⟨rfl, _⟩ := h; intro s' e; rw [share_root] at e; exact hs s' e
    | peek => cases hp
theorem zfQ {st st' : St} {o : Opd} {x : V} (h : getO st o = some (x, st')) : (∀ s, s ∉ taken [o] → st'.σ s = st.σ s) ∧ (∀ s, st'.σ s = st.σ s ∨ st'.σ s = .undef) ∧ st'.l = st.l ∧ st'.m = st.m := by
  have same : st' = st → (∀ s, s ∉ taken [o] → st'.σ s = st.σ s) ∧ (∀ s, st'.σ s = st.σ s ∨ st'.σ s = .undef) ∧ st'.l = st.l ∧ st'.m = st.m := by rintro rfl; exact ⟨fun _ _ => rfl, fun _ => .inl rfl, rfl, rfl⟩
  cases o with
  | c y => simp only [getO, yaa, yac] at h; exact same h.2.symm
  | t s =>
    simp only [getO] at h
    split at h
    · cases h
    · simp only [yaa, yac] at h; exact same h.2.symm
  | u s how =>
    have cl : st' = { st with σ := upd st.σ s .undef } → s ∈ taken [.u s how] → (∀ i, i ∉ taken [.u s how] → st'.σ i = st.σ i) ∧ (∀ i, st'.σ i = st.σ i ∨ st'.σ i = .undef) ∧ st'.l = st.l ∧ st'.m = st.m := by
      rintro rfl ht
      refine ⟨fun i hi => zhX fun e => hi (e ▸ ht), fun i => ?_, rfl, rfl⟩
      simp only [upd]; split
      · exact .inr rfl
      · exact .inl rfl
    cases how with
    | copy =>
      simp only [getO] at h
      split at h
      · cases h
      · simp only [yaa, yac] at h; exact same h.2.symm
    | take => simp only [getO, yaa, yac] at h; exact cl h.2.symm (by simp [taken])
    | share => simp only [getO, yaa, yac] at h; exact cl h.2.symm (by simp [taken])
    | peek => simp only [getO, yaa, yac] at h; exact same h.2.symm
theorem obm {α β : Type} {o : Option α} {F F' : α → Option β} {k : β → β} (h : ∀ u, o = some u → F' u = (F u).map k) : o.bind F' = (o.bind F).map k := by
  cases o with
  | none => rfl
  | some u => exact h u rfl
theorem obm2 {α β : Type} {o : Option α} {j : α → α} {F F' : α → Option β} {k : β → β} (h : ∀ u, o = some u → F' (j u) = (F u).map k) : (o.map j).bind F' = (o.bind F).map k := by
  cases o with
  | none => rfl
  | some u => exact h u rfl
theorem zcn {st : St} {d : Nat} {v : V} {o : Option V} : (o.bind fun x => some (x, st.at d v)) = (o.bind fun x => some (x, st)).map fun p => (p.1, p.2.at d v) := by cases o <;> rfl
section
variable {cf : CF} {st : St} {d : Nat} {v : V}
theorem zo7 {op : AOp} (hd : d ∉ slots op.opds) (hr : ∀ s ∈ slots op.opds, zbY (st.σ s)) (hp : op.opds.all Opd.plain = true) (hv : v.root? = none ∨ op.still = true) (hb : op.boxes = false) :
    evalOp cf (st.at d v) op = (evalOp cf st op).map fun p => (p.1, p.2.at d v) := by
  cases op with
  | mv x => simp only [AOp.opds, slots, yag, List.flatMap_nil, List.append_nil] at hd; simp only [evalOp]; exact zdo hd
  | pick c a b =>
    simp only [AOp.opds, slots, yag, List.flatMap_nil, List.append_nil, yak, not_or] at hd
    simp only [evalOp]
    rw [zaG hd.1]
    refine obm fun u _ => ?_
    cases u with
    | bool t =>
      simp only
      cases t with
      | true => simp only [if_true]; rw [zaG hd.2.1]; exact zcn
      | false => simp only [yas, if_false]; rw [zaG hd.2.2]; exact zcn
    | _ => rfl
  | mvK _ => cases hb
  | allocL _ _ => cases hb
  | boxL _ _ => cases hb
  | allocM zero => simp only [evalOp, St.at]; split <;> rfl
  | boxM x =>
    simp only [AOp.opds, slots, yag, List.flatMap_nil, List.append_nil] at hd
    simp only [evalOp]
    rw [zdo hd]
    refine obm2 fun u _ => ?_
    simp only
    split <;> rfl
  | build zero ps =>
    simp only [evalOp]
    rw [zjc hd]
    exact obm2 fun u _ => rfl
  | buildSlice sz zero len ps =>
    simp only [evalOp]
    split
    · rw [zjd hd]
      exact obm2 fun u _ => rfl
    · rfl
  | load agg n p mode =>
    simp only [AOp.opds, slots, yag, List.flatMap_nil, List.append_nil, List.all_cons, List.all_nil, Bool.and_true] at hd hr hp
    simp only [evalOp]
    rw [zaG hd]
    exact obm fun u hu => zjg (zdd hu hp hr)
  | store n p x =>
    simp only [AOp.opds, slots, yag, List.flatMap_nil, List.append_nil, List.all_cons, List.all_nil, Bool.and_true, yak, not_or, yae] at hd hr hp
    have hv' : v.root? = none := hv.resolve_right (by simp [AOp.still, AOp.pure])
    simp only [evalOp]
    rw [zdo hd.2]
    refine obm2 fun u hu => ?_
    simp only
    rw [zaG hd.1]
    refine obm fun y hy => ?_
    obtain ⟨x', st1⟩ := u
    have hs := zfQ hu
    have hy' : zbY y := zdd hy hp.1 fun s hs' => by
      rcases hs.2.1 s with e | e
      · simp only [e]; exact hr s (.inl hs')
      · simp only [e]; intro s' e'; cases e'
    split
    · rw [zl1 hy' hv']
      exact obm2 fun u _ => rfl
    · rfl
  | nilCheck x =>
    simp only [AOp.opds, slots, yag, List.flatMap_nil, List.append_nil] at hd
    simp only [evalOp]
    rw [zaG hd]
    refine obm fun u _ => ?_
    cases u <;> rfl
  | bin op x y =>
    simp only [AOp.opds, slots, yag, List.flatMap_nil, List.append_nil, yak, not_or] at hd
    simp only [evalOp]
    rw [zaG hd.1, zaG hd.2]
    exact obm fun u _ => obm fun u' _ => zcn
  | eq neg kind x y =>
    simp only [AOp.opds, slots, yag, List.flatMap_nil, List.append_nil, yak, not_or] at hd
    simp only [evalOp]
    rw [zaG hd.1, zaG hd.2]
    exact obm fun u _ => obm fun u' _ => by cases eqV kind u u' <;> rfl
  | un op x =>
    simp only [AOp.opds, slots, yag, List.flatMap_nil, List.append_nil] at hd
    simp only [evalOp]
    rw [zaG hd]
    exact obm fun u _ => zcn
  | conv k x =>
    simp only [AOp.opds, slots, yag, List.flatMap_nil, List.append_nil] at hd
    simp only [evalOp]
    rw [zaG hd]
    refine obm fun u _ => ?_
    cases u <;> rfl
  | strStr x =>
    simp only [AOp.opds, slots, yag, List.flatMap_nil, List.append_nil] at hd
    simp only [evalOp]
    rw [zaG hd]
    refine obm fun u _ => ?_
    cases u <;> rfl
  | strBytes x =>
    simp only [AOp.opds, slots, yag, List.flatMap_nil, List.append_nil] at hd
    simp only [evalOp]
    rw [zaG hd]
    refine obm fun u _ => ?_
    cases u <;> rfl
  | bytesStr x =>
    simp only [AOp.opds, slots, yag, List.flatMap_nil, List.append_nil, List.all_cons, List.all_nil, Bool.and_true] at hd hr hp
    simp only [evalOp]
    rw [zaG hd]
    refine obm fun u hu => ?_
    rw [zli (zdd hu hp hr)]
    refine obm fun xs _ => ?_
    cases bytesOf xs <;> rfl
  | intStr x =>
    simp only [AOp.opds, slots, yag, List.flatMap_nil, List.append_nil] at hd
    simp only [evalOp]
    rw [zaG hd]
    refine obm fun u _ => ?_
    cases u <;> rfl
  | convB x =>
    simp only [AOp.opds, slots, yag, List.flatMap_nil, List.append_nil] at hd
    simp only [evalOp]
    rw [zdo hd]
    refine obm2 fun u _ => ?_
    obtain ⟨x', st1⟩ := u
    cases x' with
    | slice o z xs => cases o <;> first | rfl | (simp only; split <;> rfl)
    | _ => rfl
  | makeSlice sz zero l c =>
    simp only [AOp.opds, slots, yag, List.flatMap_nil, List.append_nil, yak, not_or] at hd
    simp only [evalOp]
    rw [zaG hd.1, zaG hd.2]
    refine obm fun u _ => obm fun u' _ => ?_
    cases u <;> cases u' <;> first | rfl | (simp only; split <;> rfl)
  | sliceS x lo hi =>
    simp only [AOp.opds, slots, yag, List.flatMap_append, yak, not_or] at hd
    have hlo : ∀ o, lo = some o → d ∉ o.slot? := fun o e => by subst e; simpa using hd.2.1
    have hhi : ∀ o, hi = some o → d ∉ o.slot? := fun o e => by subst e; simpa using hd.2.2
    simp only [evalOp]
    rw [zaG hd.1]
    refine obm fun u _ => ?_
    cases u with
    | str s =>
      simp only
      rw [zcJ hhi, zcJ hlo]
      refine obm fun b _ => obm fun b' _ => ?_
      split <;> rfl
    | _ => rfl
  | sliceV sz x lo hi =>
    simp only [AOp.opds, slots, yag, List.flatMap_append, yak, not_or] at hd
    have hlo : ∀ o, lo = some o → d ∉ o.slot? := fun o e => by subst e; simpa using hd.2.1
    have hhi : ∀ o, hi = some o → d ∉ o.slot? := fun o e => by subst e; simpa using hd.2.2
    simp only [evalOp]
    rw [zdo hd.1]
    refine obm2 fun u _ => ?_
    obtain ⟨x', st1⟩ := u
    cases x' with
    | nils =>
      simp only
      rw [zcJ hhi, zcJ hlo]
      refine obm fun b _ => obm fun b' _ => ?_
      split <;> rfl
    | slice o z xs =>
      simp only
      rw [zcJ hhi, zcJ hlo]
      refine obm fun b _ => obm fun b' _ => ?_
      split <;> rfl
    | _ => rfl
  | fieldAddr off x =>
    simp only [AOp.opds, slots, yag, List.flatMap_nil, List.append_nil] at hd
    simp only [evalOp]
    rw [zaG hd]
    refine obm fun u _ => ?_
    cases u <;> rfl
  | field agg n off x =>
    simp only [AOp.opds, slots, yag, List.flatMap_nil, List.append_nil] at hd
    simp only [evalOp]
    rw [zaG hd]
    refine obm fun u _ => ?_
    cases u with
    | agg cs => simp only; split; · exact zcn
                · rfl
    | _ => rfl
  | indexArr len sz x i =>
    simp only [AOp.opds, slots, yag, List.flatMap_nil, List.append_nil, yak, not_or] at hd
    simp only [evalOp]
    rw [zaG hd.1, zaG hd.2]
    refine obm fun u _ => obm fun u' _ => ?_
    cases u' with
    | int k m => simp only; split; · cases u <;> rfl
                 · rfl
    | _ => rfl
  | indexSl sz x i =>
    simp only [AOp.opds, slots, yag, List.flatMap_nil, List.append_nil, List.all_cons, List.all_nil, Bool.and_true, yak, not_or, yae] at hd hr hp
    simp only [evalOp]
    rw [zaG hd.1, zaG hd.2]
    refine obm fun u hu => obm fun u' _ => ?_
    have hu' : zbY u := zdd hu hp.1 fun s hs => hr s (.inl hs)
    cases u' with
    | int k m =>
      cases u with
      | slice o z xs => cases o <;> simp only <;> first | rfl | (split <;> rfl)
      | place r =>
        simp only
        rw [zfd fun s e => hu' s (by rw [e]; rfl)]
        cases look st r with
        | slice o z xs => cases o <;> simp only <;> (split <;> rfl)
        | _ => rfl
      | _ => rfl
    | _ => rfl
  | indexAgg agg len sz x i =>
    simp only [AOp.opds, slots, yag, List.flatMap_nil, List.append_nil, yak, not_or] at hd
    simp only [evalOp]
    rw [zaG hd.1, zaG hd.2]
    refine obm fun u _ => obm fun u' _ => ?_
    cases u with
    | agg cs =>
      cases u' with
      | int k m =>
        simp only
        split
        · exact zcn
        · rfl
      | _ => rfl
    | _ => rfl
  | indexStr x i =>
    simp only [AOp.opds, slots, yag, List.flatMap_nil, List.append_nil, yak, not_or] at hd
    simp only [evalOp]
    rw [zaG hd.1, zaG hd.2]
    refine obm fun u _ => obm fun u' _ => ?_
    cases u <;> cases u' <;> first | rfl | (simp only; split <;> rfl)
  | extract x i =>
    simp only [AOp.opds, slots, yag, List.flatMap_nil, List.append_nil] at hd
    simp only [evalOp]
    rw [zdo hd]
    refine obm2 fun u _ => ?_
    obtain ⟨x', st1⟩ := u
    cases x' with
    | tuple vs => simp only; split <;> rfl
    | _ => rfl
  | callL f args =>
    simp only [AOp.opds] at hd hr hp
    simp only [evalOp]
    rw [zeR hd]
    refine obm fun us hus => ?_
    rw [zjf (zjh hus hp hr)]
    refine obm fun zs _ => obm fun q _ => ?_
    split <;> rfl
  | lend f z x lo =>
    simp only [AOp.opds, slots, yag, List.flatMap_nil, List.append_nil, List.all_cons, List.all_nil, Bool.and_true] at hd hr hp
    simp only [evalOp]
    rw [zaG hd]
    refine obm fun u hu => ?_
    rw [zof (zdd hu hp hr)]
    refine obm fun xs _ => ?_
    split
    · refine obm fun q _ => ?_
      split <;> rfl
    · rfl
  | callP f args =>
    simp only [AOp.opds] at hd
    simp only [evalOp]
    rw [zfp hd]
    refine obm2 fun u _ => ?_
    split
    · refine obm fun q _ => ?_
      split <;> rfl
    · rfl
  | callF f args =>
    have hv' : v.root? = none := hv.resolve_right (by simp [AOp.still, AOp.pure])
    simp only [AOp.opds] at hd
    simp only [evalOp]
    rw [zfp hd]
    refine obm2 fun u _ => ?_
    simp only [St.at]
    split
    · cases cf f u.1 u.2.m with
      | none => rfl
      | some r => simp only [Option.bind_some, Option.map_some, zfr hv']
    · rfl
  | tOp s k => cases hb
  | callN f args ws =>
    have hv' : v.root? = none := hv.resolve_right (by simp [AOp.still, AOp.pure])
    simp only [AOp.opds, slots, List.flatMap_append, yak, not_or] at hd
    simp only [evalOp]
    rw [zeR hd.1]
    refine obm fun us _ => ?_
    rw [zfp hd.2]
    refine obm2 fun u _ => ?_
    simp only [St.at]
    by_cases hc : u.1.all V.ok1 = true ∧ us.all (ziP (seen u.1)) = true ∧ seen u.1 ≤ u.2.m.length
    · simp only [hc, and_self, if_true]
      cases cf f u.1 (u.2.m.take (seen u.1)) with
      | none => rfl
      | some r =>
        simp only [Option.bind_some]
        by_cases hd : r.1.flat2 = true ∧ r.2.length = seen u.1
        · simp only [hd, and_self, if_true, Option.map_some, zfr hv']
        · simp only [hd, if_false, Option.map_none]
    · simp only [hc, if_false, Option.map_none]
  | loadW mode agg n p w os =>
    simp only [AOp.opds, slots, yag, yak, not_or] at hd
    simp only [AOp.opds, slots, yag, yak] at hr
    simp only [AOp.opds, List.all_cons, yae] at hp
    simp only [evalOp]
    rw [zaG hd.1]
    refine obm fun u hu => ?_
    rw [zeR (os := w :: os) (by simp only [slots, yag, yak, not_or]; exact hd.2)]
    refine obm fun us _ => ?_
    by_cases hc : ziQ u us = true
    · rw [if_pos hc, if_pos hc, zjg (zdd hu hp.1 fun s hs => hr s (.inl hs))]
      cases za1 st agg n mode u with
      | none => rfl
      | some q =>
        simp only [Option.map_some, Option.bind_some]
        by_cases hd : zgs q.1 = true
        · simp only [hd, if_true, Option.map_some]
        · simp only [hd, if_false, Option.map_none, yas]
    · rw [if_neg hc, if_neg hc]; rfl
  | callV f args =>
    have hv' : v.root? = none := hv.resolve_right (by simp [AOp.still, AOp.pure])
    simp only [AOp.opds, slots, yag, yak, not_or] at hd
    simp only [evalOp]
    rw [zaG hd.1]
    refine obm fun y _ => ?_
    cases y with
    | func gf cap =>
      simp only
      rw [zfp hd.2]
      refine obm2 fun u _ => ?_
      simp only [St.at]
      split
      · cases cf gf (u.1 ++ cap) u.2.m with
        | none => rfl
        | some r => simp only [Option.bind_some, Option.map_some, zfr hv']
      · rfl
    | _ => rfl
  | lenStr x =>
    simp only [AOp.opds, slots, yag, List.flatMap_nil, List.append_nil] at hd
    simp only [evalOp]
    rw [zaG hd]
    refine obm fun u _ => ?_
    cases u <;> rfl
  | lenSl x =>
    simp only [AOp.opds, slots, yag, List.flatMap_nil, List.append_nil, List.all_cons, List.all_nil, Bool.and_true] at hd hr hp
    simp only [evalOp]
    rw [zaG hd]
    refine obm fun u hu => ?_
    rw [zli (zdd hu hp hr)]
    cases elems st u <;> rfl
  | lenC n => rfl
  | append sz x y =>
    simp only [AOp.opds, slots, yag, List.flatMap_nil, List.append_nil, List.all_cons, List.all_nil, Bool.and_true, yak, not_or, yae] at hd hr hp
    simp only [evalOp]
    rw [zdo hd.1]
    refine obm2 fun u hu => ?_
    obtain ⟨px, st1⟩ := u
    have hs := zfQ hu
    have hpx : zbY px := zit hu hp.1 fun s hs' => hr s (.inl hs')
    simp only
    rw [zdo hd.2]
    refine obm2 fun u hu2 => ?_
    obtain ⟨qy, st2⟩ := u
    have hqy : zbY qy := zit hu2 hp.2 fun s hs' => by
      rcases hs.2.1 s with e | e
      · rw [e]; exact hr s (.inr hs')
      · rw [e]; intro s' e'; cases e'
    simp only
    rw [zje hqy]
    refine obm fun ys _ => ?_
    cases px with
    | nils => simp only; split; · rfl
              · split <;> rfl
    | slice o z xs => cases o <;> simp only <;> first | rfl | (split <;> rfl)
    | place r =>
      simp only
      rw [zfd fun s e => hpx s (by rw [e]; rfl)]
      cases look st2 r with
      | nils => simp only; split; · rfl
                · split <;> rfl
      | slice o z xs =>
        cases o with
        | true =>
          simp only
          split
          · cases r with
            | tmp s => exact absurd rfl (hpx s)
            | _ => rfl
          · rfl
        | false => rfl
      | _ => rfl
    | _ => rfl
  | minMax mx x ys =>
    simp only [AOp.opds, slots, yag, yak, not_or] at hd
    simp only [evalOp]
    rw [zaG hd.1]
    refine obm fun u _ => ?_
    rw [zeR hd.2]
    refine obm fun us _ => ?_
    exact zcn
  | mkFunc f captured =>
    simp only [AOp.opds] at hd
    simp only [evalOp]
    rw [zeR hd]
    refine obm fun us _ => ?_
    split <;> rfl
end
end Go.Proofs.YtakdnfneikbjjaaGreatDoor.Am

namespace Go.Proofs.YtakdnfneikbjjaaGreatDoor.Am
section
variable {cf : CF}
theorem zan {st1 st2 : St} {o : Opd} (h : ∀ s ∈ o.slot?, st1.σ s = st2.σ s) : getC st1 o = getC st2 o := by
 cases o with
 | c x => rfl
 | t s => simp only [getC]; rw [h s (by simp [Opd.slot?])]
 | u s how => cases how <;> rfl
theorem zd8 {st1 st2 : St} : ∀ {os : List Opd}, (∀ s ∈ slots os, st1.σ s = st2.σ s) → getCs st1 os = getCs st2 os
 | [], _ => rfl
 | o :: os, h => by
  simp only [slots, yag, yak] at h
  simp only [getCs]
  rw [zan fun s hs => h s (.inl hs), zd8 fun s hs => h s (.inr hs)]
theorem zbV {st1 st2 : St} {n : Nat} {o : Option Opd} (h : ∀ x, o = some x → ∀ s ∈ x.slot?, st1.σ s = st2.σ s) : zaV st1 n o = zaV st2 n o := by
 cases o with
 | none => rfl
 | some x => simp only [zaV]; rw [zan (h x rfl)]
def clears (ss : List Nat) (st : St) : St := ss.foldl (fun st s => st.at s .undef) st
theorem zbt {xs ys : List Nat} {st : St} : clears (xs ++ ys) st = clears ys (clears xs st) := by simp [clears]
theorem zbr {o : Opd} {os : List Opd} : taken (o :: os) = taken [o] ++ taken os := by
 cases o with
 | u s how => cases how <;> rfl
 | _ => rfl
theorem zd9 {ss : List Nat} {st : St} {i : Nat} : (clears ss st).σ i = if i ∈ ss then .undef else st.σ i := by
 induction ss generalizing st with
 | nil => rfl
 | cons s ss ih =>
  simp only [clears, List.foldl_cons] at ih ⊢
  rw [ih]
  simp only [List.mem_cons, St.at, upd]
  by_cases h1 : i ∈ ss <;> by_cases h2 : i = s <;> simp [h1, h2]
theorem zcA {ss : List Nat} {st : St} : (clears ss st).l = st.l := by
 induction ss generalizing st with
 | nil => rfl
 | cons s ss ih => simp only [clears, List.foldl_cons] at ih ⊢; rw [ih]; rfl
theorem zci {ss : List Nat} {st : St} : (clears ss st).m = st.m := by
 induction ss generalizing st with
 | nil => rfl
 | cons s ss ih => simp only [clears, List.foldl_cons] at ih ⊢; rw [ih]; rfl
theorem zb8 {st1 st2 : St} {o : Opd} (h : ∀ s ∈ o.slot?, st1.σ s = st2.σ s) {x : V} {st1' : St} (he : getO st1 o = some (x, st1')) : st1' = clears (taken [o]) st1 ∧ getO st2 o = some (x, clears (taken [o]) st2) := by
 cases o with
 | c y => simp only [getO, yaa, yac] at he ⊢; exact ⟨he.2.symm, he.1, rfl⟩
 | t s =>
  have := h s (by simp [Opd.slot?])
  simp only [getO] at he ⊢
  rw [← this]
  split at he
  ·cases he
  ·rename_i hn
   simp only [yaa, yac] at he
   exact ⟨he.2.symm, by rw [if_neg hn, he.1]; rfl⟩
 | u s how =>
  have := h s (by simp [Opd.slot?])
  cases how with
  | copy =>
   simp only [getO] at he ⊢
   rw [← this]
   split at he
   ·cases he
   ·rename_i hn
    simp only [yaa, yac] at he
    exact ⟨he.2.symm, by rw [if_neg hn, he.1]; rfl⟩
  | take => simp only [getO, yaa, yac] at he ⊢; exact ⟨he.2.symm, by rw [← this]; exact he.1, rfl⟩
  | share => simp only [getO, yaa, yac] at he ⊢; exact ⟨he.2.symm, by rw [← this]; exact he.1, rfl⟩
  | peek => simp only [getO, yaa, yac] at he ⊢; exact ⟨he.2.symm, he.1, rfl⟩
theorem zev {st1 st2 : St} {ss : List Nat} {s : Nat} (h : st1.σ s = st2.σ s) : (clears ss st1).σ s = (clears ss st2).σ s := by
 rw [zd9, zd9, h]
theorem zdp : ∀ {ps : List (Nat × Nat × Opd)} {st1 st2 : St} {cells : List V} (_ : ∀ s ∈ slots (ps.map fun p => p.2.2), st1.σ s = st2.σ s) {x : List V} {st1' : St} (_ : zbd st1 cells ps = some (x, st1')),
  st1' = clears (taken (ps.map fun p => p.2.2)) st1 ∧ zbd st2 cells ps = some (x, clears (taken (ps.map fun p => p.2.2)) st2)
 | [], st1, st2, cells, _, x, st1', he => by simp only [zbd, yaa, yac] at he ⊢; exact ⟨he.2.symm, he.1, rfl⟩
 | (off, n, o) :: ps, st1, st2, cells, h, x, st1', he => by
  simp only [slots, List.map_cons, yag, yak] at h
  simp only [zbd, yab] at he
  obtain ⟨q, hq, he⟩ := he
  obtain ⟨v, st3⟩ := q
  obtain ⟨e1, e2⟩ := zb8 (fun s hs => h s (.inl hs)) hq
  split at he
  ·rename_i hc
   obtain ⟨e3, e4⟩ := zdp (st2 := clears (taken [o]) st2) (fun s hs => by subst e1; exact zev (h s (.inr hs))) he
   rw [List.map_cons, zbr, zbt, zbt]
   refine ⟨by rw [e3, e1], ?_⟩
   simp only [zbd, e2, Option.bind_some]
   rw [if_pos hc]; exact e4
  ·cases he
theorem zdq : ∀ {ps : List (Nat × Opd)} {st1 st2 : St} {sz : Nat} {xs : List (List V)} (_ : ∀ s ∈ slots (ps.map fun p => p.2), st1.σ s = st2.σ s) {x : List (List V)} {st1' : St} (_ : zbe st1 sz xs ps = some (x, st1')),
  st1' = clears (taken (ps.map fun p => p.2)) st1 ∧ zbe st2 sz xs ps = some (x, clears (taken (ps.map fun p => p.2)) st2)
 | [], st1, st2, sz, xs, _, x, st1', he => by simp only [zbe, yaa, yac] at he ⊢; exact ⟨he.2.symm, he.1, rfl⟩
 | (i, o) :: ps, st1, st2, sz, xs, h, x, st1', he => by
  simp only [slots, List.map_cons, yag, yak] at h
  simp only [zbe, yab] at he
  obtain ⟨q, hq, he⟩ := he
  obtain ⟨v, st3⟩ := q
  obtain ⟨e1, e2⟩ := zb8 (fun s hs => h s (.inl hs)) hq
  split at he
  ·rename_i hc
   obtain ⟨e3, e4⟩ := zdq (st2 := clears (taken [o]) st2) (fun s hs => by subst e1; exact zev (h s (.inr hs))) he
   rw [List.map_cons, zbr, zbt, zbt]
   refine ⟨by rw [e3, e1], ?_⟩
   simp only [zbe, e2, Option.bind_some]
   rw [if_pos hc]; exact e4
  ·cases he
theorem zji {xs ys : List Opd} : taken (xs ++ ys) = taken xs ++ taken ys := by
 induction xs with
 | nil => rfl
 | cons x xs ih => rw [List.cons_append, zbr, ih, zbr (o := x) (os := xs), List.append_assoc]
theorem zcV {st1 st2 st1' : St} {o : Option V} {x : V} (h : (o.bind fun v => some (v, st1)) = some (x, st1')) : st1' = st1 ∧ (o.bind fun v => some (v, st2)) = some (x, st2) := by
 cases o with
 | none => cases h
 | some v => simp only [Option.bind_some, yaa, yac] at h ⊢; exact ⟨h.2.symm, h.1, trivial⟩
theorem zdi {op : AOp} (hp : op.pure = true) (ht : taken op.opds = []) {st1 st2 : St} (h : ∀ s ∈ slots op.opds, st1.σ s = st2.σ s) {x : V} {st1' : St} (he : evalOp cf st1 op = some (x, st1')) :
  st1' = st1 ∧ evalOp cf st2 op = some (x, st2) := by
 cases op with
 | mv y =>
  simp only [AOp.opds, slots, yag, List.flatMap_nil, List.append_nil] at h
  have e := zb8 h he
  simp only [AOp.opds] at ht
  rw [ht] at e
  exact e
 | pick c a b =>
  simp only [AOp.opds, slots, yag, List.flatMap_nil, List.append_nil, yak] at h
  simp only [evalOp] at he ⊢
  rw [← zan (st1 := st1) fun s hs => h s (.inl hs)]
  cases hc : getC st1 c with
  | none => rw [hc] at he; cases he
  | some u =>
   rw [hc] at he
   simp only [Option.bind_some] at he ⊢
   cases u with
   | bool t =>
    cases t with
    | true => simp only [if_true] at he ⊢; rw [← zan (st1 := st1) fun s hs => h s (.inr (.inl hs))]; exact zcV he
    | false => simp only [yas, if_false] at he ⊢; rw [← zan (st1 := st1) fun s hs => h s (.inr (.inr hs))]; exact zcV he
   | _ => cases he
 | nilCheck y =>
  simp only [AOp.opds, slots, yag, List.flatMap_nil, List.append_nil] at h
  simp only [evalOp] at he ⊢
  rw [← zan (st1 := st1) h]
  cases hc : getC st1 y with
  | none => rw [hc] at he; cases he
  | some u =>
   rw [hc] at he
   simp only [Option.bind_some] at he ⊢
   cases u <;> simp only [yaa, yac] at he ⊢ <;> first | exact ⟨he.2.symm, he.1, trivial⟩ | cases he
 | bin op y z =>
  simp only [AOp.opds, slots, yag, List.flatMap_nil, List.append_nil, yak] at h
  simp only [evalOp] at he ⊢
  rw [← zan (st1 := st1) fun s hs => h s (.inl hs), ← zan (st1 := st1) fun s hs => h s (.inr hs)]
  cases hc : getC st1 y with
  | none => rw [hc] at he; cases he
  | some u =>
   cases hc2 : getC st1 z with
   | none => rw [hc, hc2] at he; cases he
   | some u' => rw [hc, hc2] at he; exact zcV he
 | eq neg kind y z =>
  simp only [AOp.opds, slots, yag, List.flatMap_nil, List.append_nil, yak] at h
  simp only [evalOp] at he ⊢
  rw [← zan (st1 := st1) fun s hs => h s (.inl hs), ← zan (st1 := st1) fun s hs => h s (.inr hs)]
  cases hc : getC st1 y with
  | none => rw [hc] at he; cases he
  | some u =>
   cases hc2 : getC st1 z with
   | none => rw [hc, hc2] at he; cases he
   | some u' =>
    rw [hc, hc2] at he
    simp only [Option.bind_some] at he ⊢
    cases hq : eqV kind u u' with
    | none => rw [hq] at he; cases he
    | some b => rw [hq] at he; simp only [Option.bind_some, yaa, yac] at he ⊢; exact ⟨he.2.symm, he.1, trivial⟩
 | un op y =>
  simp only [AOp.opds, slots, yag, List.flatMap_nil, List.append_nil] at h
  simp only [evalOp] at he ⊢
  rw [← zan (st1 := st1) h]
  cases hc : getC st1 y with
  | none => rw [hc] at he; cases he
  | some u => rw [hc] at he; exact zcV he
 | conv k y =>
  simp only [AOp.opds, slots, yag, List.flatMap_nil, List.append_nil] at h
  simp only [evalOp] at he ⊢
  rw [← zan (st1 := st1) h]
  cases hc : getC st1 y with
  | none => rw [hc] at he; cases he
  | some u =>
   rw [hc] at he
   simp only [Option.bind_some] at he ⊢
   cases u <;> simp only [yaa, yac] at he ⊢ <;> first | exact ⟨he.2.symm, he.1, trivial⟩ | cases he
 | strStr y =>
  simp only [AOp.opds, slots, yag, List.flatMap_nil, List.append_nil] at h
  simp only [evalOp] at he ⊢
  rw [← zan (st1 := st1) h]
  cases hc : getC st1 y with
  | none => rw [hc] at he; cases he
  | some u =>
   rw [hc] at he
   simp only [Option.bind_some] at he ⊢
   cases u <;> simp only [yaa, yac] at he ⊢ <;> first | exact ⟨he.2.symm, he.1, trivial⟩ | cases he
 | intStr y =>
  simp only [AOp.opds, slots, yag, List.flatMap_nil, List.append_nil] at h
  simp only [evalOp] at he ⊢
  rw [← zan (st1 := st1) h]
  cases hc : getC st1 y with
  | none => rw [hc] at he; cases he
  | some u =>
   rw [hc] at he
   simp only [Option.bind_some] at he ⊢
   cases u <;> simp only [yaa, yac] at he ⊢ <;> first | exact ⟨he.2.symm, he.1, trivial⟩ | cases he
 | sliceS y lo hi =>
  simp only [AOp.opds, slots, yag, List.flatMap_append, yak] at h
  have hlo : ∀ o, lo = some o → ∀ s ∈ o.slot?, st1.σ s = st2.σ s := fun o e s hs => h s (.inr (.inl (by subst e; simpa using hs)))
  have hhi : ∀ o, hi = some o → ∀ s ∈ o.slot?, st1.σ s = st2.σ s := fun o e s hs => h s (.inr (.inr (by subst e; simpa using hs)))
  simp only [evalOp] at he ⊢
  rw [← zan (st1 := st1) fun s hs => h s (.inl hs)]
  cases hc : getC st1 y with
  | none => rw [hc] at he; cases he
  | some u =>
   rw [hc] at he
   simp only [Option.bind_some] at he ⊢
   cases u with
   | str s =>
    simp only at he ⊢
    rw [← zbV hlo, ← zbV hhi]
    cases h1 : zaV st1 s.length hi with
    | none => rw [h1] at he; cases he
    | some b =>
     cases h2 : zaV st1 0 lo with
     | none => rw [h1, h2] at he; cases he
     | some b' =>
      rw [h1, h2] at he
      simp only [Option.bind_some] at he ⊢
      split at he
      ·rename_i hcc
       simp only [yaa, yac] at he
       exact ⟨he.2.symm, by rw [if_pos hcc, he.1]⟩
      ·cases he
   | _ => cases he
 | sliceV sz y lo hi =>
  simp only [AOp.opds, slots, yag, List.flatMap_append, yak] at h
  have hlo : ∀ o, lo = some o → ∀ s ∈ o.slot?, st1.σ s = st2.σ s := fun o e s hs => h s (.inr (.inl (by subst e; simpa using hs)))
  have hhi : ∀ o, hi = some o → ∀ s ∈ o.slot?, st1.σ s = st2.σ s := fun o e s hs => h s (.inr (.inr (by subst e; simpa using hs)))
  have hty : taken [y] = [] := by
   simp only [AOp.opds] at ht
   rw [zbr] at ht
   exact (List.append_eq_nil_iff.1 ht).1
  simp only [evalOp] at he ⊢
  cases hc : getO st1 y with
  | none => rw [hc] at he; cases he
  | some u =>
   rw [hc] at he
   obtain ⟨u, st3⟩ := u
   obtain ⟨e1, e2⟩ := zb8 (fun s hs => h s (.inl hs)) hc
   rw [hty] at e1 e2
   have e1 : st3 = st1 := e1
   have e2 : getO st2 y = some (u, st2) := e2
   subst e1
   rw [e2]
   simp only [Option.bind_some] at he ⊢
   cases u with
   | nils =>
    simp only at he ⊢
    rw [← zbV hlo, ← zbV hhi]
    cases h1 : zaV st3 0 hi with
    | none => rw [h1] at he; cases he
    | some b =>
     cases h2 : zaV st3 0 lo with
     | none => rw [h1, h2] at he; cases he
     | some b' =>
      rw [h1, h2] at he
      simp only [Option.bind_some] at he ⊢
      split at he
      ·rename_i hcc
       simp only [yaa, yac] at he
       exact ⟨he.2.symm, by rw [if_pos hcc, he.1]⟩
      ·cases he
   | slice o z xs =>
    simp only at he ⊢
    rw [← zbV hlo, ← zbV hhi]
    cases h1 : zaV st3 xs.length hi with
    | none => rw [h1] at he; cases he
    | some b =>
     cases h2 : zaV st3 0 lo with
     | none => rw [h1, h2] at he; cases he
     | some b' =>
      rw [h1, h2] at he
      simp only [Option.bind_some] at he ⊢
      split at he
      ·rename_i hcc
       simp only [yaa, yac] at he
       exact ⟨he.2.symm, by rw [if_pos hcc, he.1]⟩
      ·cases he
   | _ => cases he
 | fieldAddr off y =>
  simp only [AOp.opds, slots, yag, List.flatMap_nil, List.append_nil] at h
  simp only [evalOp] at he ⊢
  rw [← zan (st1 := st1) h]
  cases hc : getC st1 y with
  | none => rw [hc] at he; cases he
  | some u =>
   rw [hc] at he
   simp only [Option.bind_some] at he ⊢
   cases u <;> simp only [yaa, yac] at he ⊢ <;> first | exact ⟨he.2.symm, he.1, trivial⟩ | cases he
 | field agg n off y =>
  simp only [AOp.opds, slots, yag, List.flatMap_nil, List.append_nil] at h
  simp only [evalOp] at he ⊢
  rw [← zan (st1 := st1) h]
  cases hc : getC st1 y with
  | none => rw [hc] at he; cases he
  | some u =>
   rw [hc] at he
   simp only [Option.bind_some] at he ⊢
   cases u with
   | agg cs =>
    simp only at he ⊢
    split at he
    ·rename_i hcc; rw [if_pos hcc]; exact zcV he
    ·cases he
   | _ => cases he
 | indexArr len sz y i =>
  simp only [AOp.opds, slots, yag, List.flatMap_nil, List.append_nil, yak] at h
  simp only [evalOp] at he ⊢
  rw [← zan (st1 := st1) fun s hs => h s (.inl hs), ← zan (st1 := st1) fun s hs => h s (.inr hs)]
  cases hc : getC st1 y with
  | none => rw [hc] at he; cases he
  | some u =>
   cases hc2 : getC st1 i with
   | none => rw [hc, hc2] at he; cases he
   | some u' =>
    rw [hc, hc2] at he
    simp only [Option.bind_some] at he ⊢
    cases u' with
    | int k m =>
     simp only at he ⊢
     split at he
     ·rename_i hcc
      rw [if_pos hcc]
      cases u <;> simp only [yaa, yac] at he ⊢ <;> first | exact ⟨he.2.symm, he.1, trivial⟩ | cases he
     ·cases he
    | _ => cases he
 | indexAgg agg len sz y i =>
  simp only [AOp.opds, slots, yag, List.flatMap_nil, List.append_nil, yak] at h
  simp only [evalOp] at he ⊢
  rw [← zan (st1 := st1) fun s hs => h s (.inl hs), ← zan (st1 := st1) fun s hs => h s (.inr hs)]
  cases hc : getC st1 y with
  | none => rw [hc] at he; cases he
  | some u =>
   cases hc2 : getC st1 i with
   | none => rw [hc, hc2] at he; cases he
   | some u' =>
    rw [hc, hc2] at he
    simp only [Option.bind_some] at he ⊢
    cases u with
    | agg cs =>
     cases u' with
     | int k m =>
      simp only at he ⊢
      split at he
      ·rename_i hcc; rw [if_pos hcc]; exact zcV he
      ·cases he
     | _ => cases he
    | _ => cases he
 | indexStr y i =>
  simp only [AOp.opds, slots, yag, List.flatMap_nil, List.append_nil, yak] at h
  simp only [evalOp] at he ⊢
  rw [← zan (st1 := st1) fun s hs => h s (.inl hs), ← zan (st1 := st1) fun s hs => h s (.inr hs)]
  cases hc : getC st1 y with
  | none => rw [hc] at he; cases he
  | some u =>
   cases hc2 : getC st1 i with
   | none => rw [hc, hc2] at he; cases he
   | some u' =>
    rw [hc, hc2] at he
    simp only [Option.bind_some] at he ⊢
    cases u with
    | str cs =>
     cases u' with
     | int k m =>
      simp only at he ⊢
      split at he
      ·rename_i hcc
       simp only [yaa, yac] at he
       exact ⟨he.2.symm, by rw [if_pos hcc, he.1]⟩
      ·cases he
     | _ => cases he
    | _ => cases he
 | extract y i =>
  simp only [AOp.opds, slots, yag, List.flatMap_nil, List.append_nil] at h
  simp only [evalOp] at he ⊢
  cases hc : getO st1 y with
  | none => rw [hc] at he; cases he
  | some p =>
   rw [hc] at he
   obtain ⟨u, st3⟩ := p
   obtain ⟨e1, e2⟩ := zb8 h hc
   simp only [AOp.opds] at ht
   rw [ht] at e1 e2
   change st3 = st1 at e1
   change _ = some (u, st2) at e2
   subst e1
   rw [e2]
   simp only [Option.bind_some] at he ⊢
   cases u with
   | tuple vs =>
    simp only at he ⊢
    split at he
    ·rename_i hcc
     simp only [yaa, yac] at he
     exact ⟨he.2.symm, by rw [if_pos hcc, he.1]⟩
    ·cases he
   | _ => cases he
 | lenStr y =>
  simp only [AOp.opds, slots, yag, List.flatMap_nil, List.append_nil] at h
  simp only [evalOp] at he ⊢
  rw [← zan (st1 := st1) h]
  cases hc : getC st1 y with
  | none => rw [hc] at he; cases he
  | some u =>
   rw [hc] at he
   simp only [Option.bind_some] at he ⊢
   cases u <;> simp only [yaa, yac] at he ⊢ <;> first | exact ⟨he.2.symm, he.1, trivial⟩ | cases he
 | lenC n => simp only [evalOp, yaa, yac] at he ⊢; exact ⟨he.2.symm, he.1, trivial⟩
 | minMax mx y ys =>
  simp only [AOp.opds, slots, yag, yak] at h
  simp only [evalOp] at he ⊢
  rw [← zan (st1 := st1) fun s hs => h s (.inl hs), ← zd8 (st1 := st1) fun s hs => h s (.inr hs)]
  cases hc : getC st1 y with
  | none => rw [hc] at he; cases he
  | some u =>
   cases hc2 : getCs st1 ys with
   | none => rw [hc, hc2] at he; cases he
   | some u' => rw [hc, hc2] at he; exact zcV he
 | _ => cases hp
end
end Go.Proofs.YtakdnfneikbjjaaGreatDoor.Am

namespace Go.Proofs.YtakdnfneikbjjaaGreatDoor.Am
section
variable {cf : CF}
def AOp.takes : AOp → Bool
 | .mv _ | .extract _ _ | .build _ _ | .buildSlice _ _ _ _ | .callP _ _ => true
 | _ => false
def AOper.leanOk (o : AOper) : Bool := o.lean && (o.op.takes || (taken o.op.opds).isEmpty)
def zmQ (o : AOper) (st1 st2 : St) : Prop := (∀ j, o.mark = .loc j → st1.l j = st2.l j) ∧ (o.mark = .mem → st1.m = st2.m)
theorem zgZ {st : St} {o : Opd} {x : V} (h : getC st o = some x) (hp : o.plain = true) (hr : ∀ s ∈ o.slot?, rootOk true (st.σ s) = true) : x.root? = none := by
 rcases getC_mem h with ⟨y, rfl, rfl⟩ | ⟨s, rfl, rfl⟩ | ⟨s, rfl, rfl⟩
 ·simpa [Opd.plain] using hp
 ·exact (zcm (hr s (by simp [Opd.slot?]))).1
 ·simp [Opd.plain] at hp
theorem zhY {st1 st2 : St} {x : V} (h : x.root? = none) : elems st1 x = elems st2 x := by
 cases x <;> first | rfl | (simp [V.root?] at h)
theorem zcK : ∀ {os : List Opd} {s1 s2 s1' : St} {vs : List V}, (∀ s ∈ slots os, s1.σ s = s2.σ s) → getOs s1 os = some (vs, s1') → s1' = clears (taken os) s1 ∧ getOs s2 os = some (vs, clears (taken os) s2)
 | [], s1, s2, s1', vs, _, h => by
  simp only [getOs, yaa, yac] at h
  obtain ⟨rfl, rfl⟩ := h
  exact ⟨rfl, rfl⟩
 | o :: os, s1, s2, s1', vs, hs, h => by
  simp only [getOs, yab, yaa, yac] at h
  obtain ⟨⟨pv, ps⟩, hp1, ⟨qv, qs⟩, hq, rfl, rfl⟩ := h
  obtain ⟨e1, e2⟩ := zb8 (st2 := s2) (fun s hs' => hs s (by simp [slots, hs'])) hp1
  subst e1
  obtain ⟨e3, e4⟩ := zcK (s2 := clears (taken [o]) s2) (fun s hs' => zev (hs s (by simp only [slots, yag, yak]; exact .inr hs'))) hq
  refine ⟨?_, ?_⟩
  ·simp only at e3 ⊢
   rw [e3, zbr (o := o) (os := os), zbt]
  ·simp only [getOs, e2, Option.bind_some, e4]
   rw [zbr (o := o) (os := os), zbt]
theorem zdQ {o : AOper} (hl : o.leanOk = true) (hp : o.op.opds.all Opd.plain = true) {st1 st2 : St} (h : ∀ s ∈ slots o.op.opds, st1.σ s = st2.σ s) (hr : ∀ s ∈ slots o.op.opds, rootOk true (st1.σ s) = true)
  (ha : zmQ o st1 st2) {x : V} {st1' : St} (hm : zbg o st1 st1' = true) (he : evalOp cf st1 o.op = some (x, st1')) :
  st1' = clears (taken o.op.opds) st1 ∧ evalOp cf st2 o.op = some (x, clears (taken o.op.opds) st2) := by
 obtain ⟨dst, guard, kt, op, mark⟩ := o
 simp only at h hr he hm ha hp ⊢
 simp only [AOper.leanOk, AOper.lean, yae, Bool.or_eq_true, List.isEmpty_iff] at hl
 obtain ⟨⟨_, hl⟩, ht⟩ := hl
 have nt : op.takes = false → taken op.opds = [] := fun hk => ht.resolve_left (by rw [hk]; exact Bool.false_ne_true)
 by_cases hpu : op.pure = true
 ·by_cases hk : op.takes = true
  ·cases op with
   | mv y =>
    simp only [AOp.opds, slots, yag, List.flatMap_nil, List.append_nil] at h
    exact zb8 h he
   | extract y i =>
    simp only [AOp.opds, slots, yag, List.flatMap_nil, List.append_nil] at h
    simp only [evalOp] at he ⊢
    cases hc : getO st1 y with
    | none => rw [hc] at he; cases he
    | some p =>
     rw [hc] at he
     obtain ⟨u, st3⟩ := p
     obtain ⟨e1, e2⟩ := zb8 h hc
     rw [e2]
     simp only [Option.bind_some] at he ⊢
     cases u with
     | tuple vs =>
      simp only at he ⊢
      split at he
      ·rename_i hcc
       simp only [yaa, yac] at he
       exact ⟨by rw [← he.2, e1]; rfl, by rw [if_pos hcc, he.1]; rfl⟩
      ·cases he
     | _ => cases he
   | build _ _ => cases hpu
   | callP _ _ => cases hpu
   | buildSlice _ _ _ _ => cases hpu
   | _ => cases hk
  ·have ht' := nt (by simpa using hk)
   rw [ht']
   exact zdi hpu ht' h he
 ·have hmk : mark.set = true ∧ (op.still = true ∨ op.builds = true) := by
   rcases hl with h1 | h1
   ·exact absurd h1 hpu
   ·exact ⟨h1.1, h1.2⟩
  cases op with
  | build zero ps =>
   simp only [evalOp] at he ⊢
   cases hc : zbd st1 zero ps with
   | none => rw [hc] at he; cases he
   | some q =>
    rw [hc] at he
    simp only [Option.bind_some, yaa, yac] at he
    obtain ⟨e1, e2⟩ := zdp (st2 := st2) h hc
    rw [e2]
    simp only [Option.bind_some, yaa, yac]
    exact ⟨by rw [← he.2, e1]; rfl, he.1, rfl⟩
  | buildSlice sz zero len ps =>
   simp only [evalOp] at he ⊢
   split at he
   ·rename_i hcc
    rw [if_pos hcc]
    cases hc : zbe st1 sz (List.replicate len zero) ps with
    | none => rw [hc] at he; cases he
    | some q =>
     rw [hc] at he
     simp only [Option.bind_some, yaa, yac] at he
     obtain ⟨e1, e2⟩ := zdq (st2 := st2) h hc
     rw [e2]
     simp only [Option.bind_some, yaa, yac]
     exact ⟨by rw [← he.2, e1]; rfl, he.1, rfl⟩
   ·cases he
  | callP f args =>
   simp only [evalOp] at he ⊢
   cases hc : getOs st1 args with
   | none => rw [hc] at he; cases he
   | some q =>
    rw [hc] at he
    obtain ⟨vs, st3⟩ := q
    have h' : ∀ s ∈ slots args, st1.σ s = st2.σ s := h
    obtain ⟨e1, e2⟩ := zcK (s2 := st2) h' hc
    show _ ∧ ((getOs st2 args).bind _) = _
    rw [e2]
    simp only [Option.bind_some] at he ⊢
    split at he
    ·rename_i hcc
     rw [if_pos hcc]
     cases hq : cf f vs [] with
     | none => rw [hq] at he; cases he
     | some r =>
      rw [hq] at he
      simp only [Option.bind_some] at he ⊢
      split at he
      ·rename_i hr2
       rw [if_pos hr2]
       simp only [yaa, yac] at he ⊢
       exact ⟨by rw [← he.2, e1]; rfl, he.1, rfl⟩
      ·cases he
    ·cases he
  | makeSlice sz zero l c =>
   have ht' := nt rfl
   rw [ht']
   simp only [AOp.opds, slots, yag, List.flatMap_nil, List.append_nil, yak] at h
   simp only [evalOp] at he ⊢
   rw [← zan (st1 := st1) fun s hs => h s (.inl hs), ← zan (st1 := st1) fun s hs => h s (.inr hs)]
   cases hc : getC st1 l with
   | none => rw [hc] at he; cases he
   | some u =>
    cases hc2 : getC st1 c with
    | none => rw [hc, hc2] at he; cases he
    | some u' =>
     rw [hc, hc2] at he
     simp only [Option.bind_some] at he ⊢
     cases u with
     | int k n =>
      cases u' with
      | int k' n' =>
       simp only at he ⊢
       split at he
       ·rename_i hcc
        simp only [yaa, yac] at he
        exact ⟨he.2.symm, by rw [if_pos hcc, he.1]; rfl⟩
       ·cases he
      | _ => cases he
     | _ => cases he
  | strBytes y =>
   have ht' := nt rfl
   rw [ht']
   simp only [AOp.opds, slots, yag, List.flatMap_nil, List.append_nil] at h
   simp only [evalOp] at he ⊢
   rw [← zan (st1 := st1) h]
   cases hc : getC st1 y with
   | none => rw [hc] at he; cases he
   | some u =>
    rw [hc] at he
    simp only [Option.bind_some] at he ⊢
    cases u with
    | str s => simp only [yaa, yac] at he ⊢; exact ⟨he.2.symm, he.1, rfl⟩
    | _ => cases he
  | mkFunc f captured =>
   have ht' := nt rfl
   rw [ht']
   simp only [AOp.opds] at h
   simp only [evalOp] at he ⊢
   rw [← zd8 (st1 := st1) h]
   cases hc : getCs st1 captured with
   | none => rw [hc] at he; cases he
   | some u =>
    rw [hc] at he
    simp only [Option.bind_some] at he ⊢
    split at he
    ·rename_i hcc
     simp only [yaa, yac] at he
     exact ⟨he.2.symm, by rw [if_pos hcc, he.1]; rfl⟩
    ·cases he
  | indexSl sz y i =>
   have ht' := nt rfl
   rw [ht']
   simp only [AOp.opds, slots, yag, List.flatMap_nil, List.append_nil, yak, List.all_cons, List.all_nil, Bool.and_true, yae] at h hr hp
   simp only [evalOp] at he ⊢
   rw [← zan (st1 := st1) fun s hs => h s (.inl hs), ← zan (st1 := st1) fun s hs => h s (.inr hs)]
   cases hc : getC st1 y with
   | none => rw [hc] at he; cases he
   | some u =>
    have hfree := zgZ hc hp.1 fun s hs => hr s (.inl hs)
    cases hc2 : getC st1 i with
    | none => rw [hc, hc2] at he; cases he
    | some u' =>
     rw [hc, hc2] at he
     simp only [Option.bind_some] at he ⊢
     cases u' with
     | int k m =>
      simp only at he ⊢
      cases u with
      | slice o z xs =>
       cases o with
       | true => cases he
       | false =>
        simp only at he ⊢
        split at he
        ·rename_i hcc
         simp only [yaa, yac] at he
         exact ⟨he.2.symm, by rw [if_pos hcc, he.1]; rfl⟩
        ·cases he
      | place r => simp [V.root?] at hfree
      | _ => cases he
     | _ => cases he
  | lenSl y =>
   have ht' := nt rfl
   rw [ht']
   simp only [AOp.opds, slots, yag, List.flatMap_nil, List.append_nil, List.all_cons, List.all_nil, Bool.and_true] at h hr hp
   simp only [evalOp] at he ⊢
   rw [← zan (st1 := st1) h]
   cases hc : getC st1 y with
   | none => rw [hc] at he; cases he
   | some u =>
    rw [hc] at he
    simp only [Option.bind_some] at he ⊢
    rw [← zhY (st1 := st1) (zgZ hc hp hr)]
    cases hq : elems st1 u with
    | none => rw [hq] at he; cases he
    | some b => rw [hq] at he; simp only [Option.bind_some, yaa, yac] at he ⊢; exact ⟨he.2.symm, he.1, rfl⟩
  | bytesStr y =>
   have ht' := nt rfl
   rw [ht']
   simp only [AOp.opds, slots, yag, List.flatMap_nil, List.append_nil, List.all_cons, List.all_nil, Bool.and_true] at h hr hp
   simp only [evalOp] at he ⊢
   rw [← zan (st1 := st1) h]
   cases hc : getC st1 y with
   | none => rw [hc] at he; cases he
   | some u =>
    rw [hc] at he
    simp only [Option.bind_some] at he ⊢
    rw [← zhY (st1 := st1) (zgZ hc hp hr)]
    cases hq : elems st1 u with
    | none => rw [hq] at he; cases he
    | some b =>
     rw [hq] at he
     simp only [Option.bind_some] at he ⊢
     cases hq2 : bytesOf b with
     | none => rw [hq2] at he; cases he
     | some s => rw [hq2] at he; simp only [Option.bind_some, yaa, yac] at he ⊢; exact ⟨he.2.symm, he.1, rfl⟩
  | load agg n p mode =>
   have ht' := nt rfl
   rw [ht']
   have hmode : mode = .copy ∨ mode = .peek := by
    rcases hmk.2 with h1 | h1
    ·cases mode with
     | copy => exact .inl rfl
     | peek => exact .inr rfl
     | _ => cases h1
    ·cases h1
   have hwr : mode.writes = false := by rcases hmode with rfl | rfl <;> rfl
   simp only [AOp.opds, slots, yag, List.flatMap_nil, List.append_nil] at h
   simp only [evalOp] at he ⊢
   rw [← zan (st1 := st1) h]
   cases hc : getC st1 p with
   | none => rw [hc] at he; cases he
   | some u =>
    rw [hc] at he
    simp only [Option.bind_some] at he ⊢
    have hm' : match u with
     | .loc i _ => mark = .loc i
     | .ptr _ _ => mark = .mem
     | .ro _ _ => mark = .free
     | _ => False := by
     unfold zbg at hm
     simp only [AOp.ptr?, hc] at hm
     cases mark with
     | none => cases hmk.1
     | quiet => cases hmk.1
     | fa _ => cases hmk.1
     | _ => cases u <;> simp_all
    cases u with
    | loc j off =>
     have hl := ha.1 j hm'
     simp only [za1] at he ⊢
     split at he
     ·rename_i hcc
      rw [if_pos (by rw [← hl]; exact hcc)]
      rw [← hl]
      simp only [hwr, yas, if_false] at he ⊢
      exact zcV he
     ·cases he
    | ptr b off =>
     have hl := ha.2 hm'
     simp only [za1] at he ⊢
     split at he
     ·rename_i hcc
      rw [if_pos (by rw [← hl]; exact hcc)]
      rw [← hl]
      simp only [hwr, yas, if_false] at he ⊢
      exact zcV he
     ·cases he
    | ro cs off =>
     simp only [za1] at he ⊢
     split at he
     ·rename_i hcc
      rw [if_pos hcc]
      exact zcV he
     ·cases he
    | _ => exact hm'.elim
  | mv y => exact absurd rfl hpu
  | pick _ _ _ => exact absurd rfl hpu
  | _ => first | exact absurd rfl hpu | (rcases hmk.2 with h1 | h1 <;> cases h1)
end
end Go.Proofs.YtakdnfneikbjjaaGreatDoor.Am

namespace Go.Proofs.YtakdnfneikbjjaaGreatDoor.Am
section
variable {cf : CF}
theorem zmR {σ : Nat → List V} {d i : Nat} {v : List V} (h : i ≠ d) : upd σ d v i = σ i := by simp [upd, h]
def AOper.keepsL (o : AOper) (j : Nat) : Bool :=
 match o.op with
 | .store _ _ _ => match o.mark with
  | .loc i => i != j
  | .mem | .quiet => true
  | _ => false
 | .load _ _ _ mode => !mode.writes || (match o.mark with
  | .loc i => i != j
  | .mem | .free | .quiet => true
  | _ => false)
 | .append _ _ _ => o.mark == .quiet
 | .allocL _ _ | .boxL _ _ => false
 | _ => true
def AOper.keepsM (o : AOper) : Bool :=
 match o.op with
 | .store _ _ _ => match o.mark with
  | .loc _ | .quiet => true
  | _ => false
 | .load _ _ _ mode => !mode.writes || (match o.mark with
  | .loc _ | .free | .quiet => true
  | _ => false)
 | .append _ _ _ | .callF _ _ | .callV _ _ | .callN _ _ _ => o.mark == .quiet
 | .loadW mode _ _ _ _ _ => !mode.writes
 | .allocM _ | .boxM _ => false
 | _ => true
def zmS (u v : V) : Prop := v = u ∨ v = zkd u ∨ v = killMV u ∨ v = killLocV u ∨ ∃ off n, v = killAtV off n u
theorem zfR {u v : V} (h : zmS u v) (hr : u.root? = none) : v = u := by
 rcases h with h | h | h | h | ⟨_, _, h⟩
 ·exact h
 ·rw [h, zlZ hr]
 ·rw [h, zgY hr]
 ·rw [h, zfq hr]
 ·rw [h, zgi hr]
theorem zkC (u : V) : zkd u = u ∨ zkd u = .undef := by
 cases u with
 | place r => cases r <;> simp [zkd]
 | el r z i k => cases r <;> simp [zkd]
 | _ => exact .inl rfl
theorem zjj (u : V) : killMV u = u ∨ killMV u = .undef := by
 cases u with
 | place r => cases r <;> simp [killMV]
 | el r z i k => cases r <;> simp [killMV]
 | _ => exact .inl rfl
theorem zhH (u : V) : killLocV u = u ∨ killLocV u = .undef := by
 cases u with
 | place r => cases r <;> simp [killLocV]
 | el r z i k => cases r <;> simp [killLocV]
 | _ => exact .inl rfl
theorem ziu (off n : Nat) (u : V) : killAtV off n u = u ∨ killAtV off n u = .undef := by
 cases u with
 | place r => cases r <;> simp only [killAtV] <;> first | exact .inl trivial | (split <;> simp)
 | el r z i k => cases r <;> simp only [killAtV] <;> first | exact .inl trivial | (split <;> simp)
 | _ => exact .inl rfl
theorem zfS {u v : V} (h : zmS u v) (hv : v ≠ .undef) : v = u := by
 rcases h with h | h | h | h | ⟨off, n, h⟩
 ·exact h
 ·rcases zkC u with e | e
  ·rw [h, e]
  ·exact absurd (h.trans e) hv
 ·rcases zjj u with e | e
  ·rw [h, e]
  ·exact absurd (h.trans e) hv
 ·rcases zhH u with e | e
  ·rw [h, e]
  ·exact absurd (h.trans e) hv
 ·rcases ziu off n u with e | e
  ·rw [h, e]
  ·exact absurd (h.trans e) hv
structure Eff (o : AOper) (st st' : St) : Prop where
 σ : ∀ s, s ∉ taken o.op.opds → zmS (st.σ s) (st'.σ s)
 l : ∀ j, o.keepsL j = true → st'.l j = st.l j
 m : o.keepsM = true → st'.m = st.m
theorem Eff.same {o : AOper} {st : St} : Eff o st st := ⟨fun _ _ => .inl rfl, fun _ _ => rfl, fun _ => rfl⟩
theorem Eff.clear {o : AOper} {st st' : St} {ts : List Nat} (h : st' = clears ts st) (hs : ∀ s ∈ ts, s ∈ taken o.op.opds) : Eff o st st' := by
 subst h
 refine ⟨fun s hs' => .inl ?_, fun _ _ => by rw [zcA], fun _ => zci⟩
 rw [zd9, if_neg fun hc => hs' (hs s hc)]
theorem zbk {st st' : St} {o : Opd} {x : V} (h : getO st o = some (x, st')) : st' = clears (taken [o]) st := (zb8 (st2 := st) (fun _ _ => rfl) h).1
theorem zbu : ∀ {os : List Opd} {st st' : St} {xs : List V} (_ : getOs st os = some (xs, st')), st' = clears (taken os) st
 | [], st, st', xs, h => by simp only [getOs, yaa, yac] at h; exact h.2.symm
 | o :: os, st, st', xs, h => by
  simp only [getOs, yab, yaa, yac] at h
  obtain ⟨p, hp, q, hq, _, e⟩ := h
  rw [zbr, zbt, ← zbk hp, ← zbu hq, e]
theorem zbv {o : AOper} {st st' : St} (h : zbg o st st' = true) (hq : o.mark = .quiet) : st'.m = st.m ∧ st'.l = st.l := by
 unfold zbg at h
 rw [hq] at h
 simpa using h
theorem zeS {o : AOper} {st st' : St} {i : Nat} {p : Opd} {v : V} (h : zbg o st st' = true) (hq : o.mark = .loc i) (hp : o.op.ptr? = some p) (hc : getC st p = some v) : ∃ off, v = .loc i off := by
 unfold zbg at h
 simp only [hq, hp, hc] at h
 cases v <;> simp at h
 exact ⟨_, by rw [h]⟩
theorem zhZ {o : AOper} {st st' : St} {p : Opd} {v : V} (h : zbg o st st' = true) (hq : o.mark = .mem) (hp : o.op.ptr? = some p) (hc : getC st p = some v) : ∃ b off, v = .ptr b off := by
 unfold zbg at h
 simp only [hq, hp, hc] at h
 cases v <;> simp at h
 exact ⟨_, _, rfl⟩
theorem zg0 {o : AOper} {st st' : St} {p : Opd} {v : V} (h : zbg o st st' = true) (hq : o.mark = .free) (hp : o.op.ptr? = some p) (hc : getC st p = some v) : ∃ cs off, v = .ro cs off := by
 unfold zbg at h
 simp only [hq, hp, hc] at h
 cases v <;> simp at h
 exact ⟨_, _, rfl⟩
theorem zfT {st st' : St} {agg : Bool} {n : Nat} {mode : Use} {v x : V} (h : za1 st agg n mode v = some (x, st')) :
  (mode.writes = false → st' = st) ∧ st'.σ = st.σ ∧ (∀ j, (∀ off, v ≠ .loc j off) → st'.l j = st.l j) ∧ ((∀ b off, v ≠ .ptr b off) → st'.m = st.m) := by
 cases v with
 | ptr b off =>
  simp only [za1] at h
  split at h
  ·simp only [yab, yaa, yac] at h
   obtain ⟨y, _, _, rfl⟩ := h
   cases hm : mode.writes with
   | true => exact ⟨fun e => absurd e (by simp), rfl, fun _ _ => rfl, fun e => absurd rfl (e b off)⟩
   | false => exact ⟨fun _ => rfl, rfl, fun _ _ => rfl, fun _ => rfl⟩
  ·cases h
 | loc j off =>
  simp only [za1] at h
  split at h
  ·simp only [yab, yaa, yac] at h
   obtain ⟨y, _, _, rfl⟩ := h
   cases hm : mode.writes with
   | true => exact ⟨fun e => absurd e (by simp), rfl, fun i hi => by simp only [if_true]; exact zmR fun (e : i = j) => hi off (by rw [e]), fun _ => rfl⟩
   | false => exact ⟨fun _ => rfl, rfl, fun _ _ => rfl, fun _ => rfl⟩
  ·cases h
 | ro cs off =>
  simp only [za1] at h
  split at h
  ·simp only [yab, yaa, yac] at h
   obtain ⟨y, _, _, rfl⟩ := h
   exact ⟨fun _ => rfl, rfl, fun _ _ => rfl, fun _ => rfl⟩
  ·cases h
 | el r z i k =>
  simp only [za1] at h
  split at h
  ·split at h
   ·split at h
    ·simp only [yab, yaa, yac] at h
     obtain ⟨y, _, _, rfl⟩ := h
     exact ⟨fun _ => rfl, rfl, fun _ _ => rfl, fun _ => rfl⟩
    ·cases h
   ·cases h
  ·cases h
 | _ => cases h
theorem zkD {st st' : St} {n : Nat} {cs : List V} {v : V} (h : zbA st n cs v = some st') (hv : zbY v) :
  (∀ s, zmS (st.σ s) (st'.σ s)) ∧ (∀ j, (∀ off, v ≠ .loc j off) → v.root? = none → st'.l j = st.l j) ∧ ((∀ b off, v ≠ .ptr b off) → v.root? = none → st'.m = st.m) := by
 cases v with
 | ptr b off =>
  simp only [zbA] at h
  split at h
  ·simp only [yaa] at h
   subst h
   exact ⟨fun s => .inr (.inr (.inr (.inr ⟨_, _, rfl⟩))), fun _ _ _ => rfl, fun e => absurd rfl (e b off)⟩
  ·cases h
 | loc j off =>
  simp only [zbA] at h
  split at h
  ·simp only [yaa] at h
   subst h
   exact ⟨fun s => .inr (.inr (.inr (.inl rfl))), fun i hi _ => zmR fun (e : i = j) => hi off (by rw [e]), fun _ _ => rfl⟩
  ·cases h
 | el r z i k =>
  simp only [zbA] at h
  split at h
  ·split at h
   ·split at h
    ·cases r with
     | tmp s => exact absurd rfl (hv s)
     | mem b o => simp only [yaa] at h; subst h; exact ⟨fun s => .inl rfl, fun _ _ e => by simp [V.root?] at e, fun _ e => by simp [V.root?] at e⟩
     | loc j o => simp only [yaa] at h; subst h; exact ⟨fun s => .inl rfl, fun _ _ e => by simp [V.root?] at e, fun _ e => by simp [V.root?] at e⟩
    ·cases h
   ·cases h
  ·cases h
 | _ => cases h
theorem ziv {o : AOper} {st st' : St} {x : V} (hb : o.op.boxes = false) (hp : o.op.opds.all Opd.plain = true) (hr : ∀ s ∈ slots o.op.opds, zbY (st.σ s)) (hm : zbg o st st' = true) (he : evalOp cf st o.op = some (x, st')) : Eff o st st' := by
 obtain ⟨dst, guard, kt, op, mark⟩ := o
 simp only at he hb hr hp
 cases op with
 | mv y => exact .clear (zbk he) fun s hs => hs
 | pick c a b =>
  simp only [evalOp, yab] at he
  obtain ⟨u, _, he⟩ := he
  cases u with
  | bool t =>
   simp only [yab, yaa, yac] at he
   obtain ⟨_, _, _, e⟩ := he
   subst e; exact .same
  | _ => cases he
 | mvK _ => cases hb
 | tOp _ _ => cases hb
 | allocL _ _ => cases hb
 | boxL _ _ => cases hb
 | allocM zero =>
  simp only [evalOp] at he
  split at he
  ·simp only [yaa, yac] at he
   rw [← he.2]
   exact ⟨fun s _ => .inl rfl, fun _ _ => rfl, fun h => by cases h⟩
  ·cases he
 | boxM y =>
  simp only [evalOp, yab] at he
  obtain ⟨q, hq, he⟩ := he
  split at he
  ·simp only [yaa, yac] at he
   have h1 : Eff ⟨dst, guard, kt, .boxM y, mark⟩ st q.2 := .clear (zbk hq) fun s hs => hs
   rw [← he.2]
   exact ⟨h1.σ, h1.l, fun h => by cases h⟩
  ·cases he
 | build zero ps =>
  simp only [evalOp, yab, yaa, yac] at he
  obtain ⟨q, hq, _, e⟩ := he
  exact .clear (by rw [← e]; exact (zdp (st2 := st) (fun _ _ => rfl) hq).1) fun s hs => hs
 | buildSlice sz zero len ps =>
  simp only [evalOp] at he
  split at he
  ·simp only [yab, yaa, yac] at he
   obtain ⟨q, hq, _, e⟩ := he
   exact .clear (by rw [← e]; exact (zdq (st2 := st) (fun _ _ => rfl) hq).1) fun s hs => hs
  ·cases he
 | load agg n p mode =>
  simp only [evalOp, yab] at he
  obtain ⟨v, hv, he⟩ := he
  obtain ⟨e1, e2, e3, e4⟩ := zfT he
  refine ⟨fun s _ => .inl (by rw [e2]), fun j hj => ?_, fun hk => ?_⟩
  ·by_cases hw : mode.writes = false
   ·rw [e1 hw]
   ·simp only [AOper.keepsL, Bool.or_eq_true, Bool.not_eq_true'] at hj
    have hj := hj.resolve_left hw
    cases mark with
    | none => cases hj
    | loc i =>
     obtain ⟨off, rfl⟩ := zeS hm rfl rfl hv
     exact e3 j fun off' e => by simp only [V.loc.injEq] at e; rw [e.1] at hj; simp at hj
    | mem => obtain ⟨b, off, rfl⟩ := zhZ hm rfl rfl hv; exact e3 j fun off' e => by cases e
    | quiet => rw [(zbv hm rfl).2]
    | free => obtain ⟨b, off, rfl⟩ := zg0 hm rfl rfl hv; exact e3 j fun off' e => by cases e
    | cool => cases hj
    | fa _ => cases hj
  ·by_cases hw : mode.writes = false
   ·rw [e1 hw]
   ·simp only [AOper.keepsM, Bool.or_eq_true, Bool.not_eq_true'] at hk
    have hk := hk.resolve_left hw
    cases mark with
    | none => cases hk
    | loc i => obtain ⟨off, rfl⟩ := zeS hm rfl rfl hv; exact e4 fun b off' e => by cases e
    | mem => cases hk
    | quiet => exact (zbv hm rfl).1
    | free => obtain ⟨b, off, rfl⟩ := zg0 hm rfl rfl hv; exact e4 fun b off' e => by cases e
    | cool => cases hk
    | fa _ => cases hk
 | store n p y =>
  simp only [AOp.opds, slots, yag, List.flatMap_nil, List.append_nil, List.all_cons, List.all_nil, Bool.and_true, yak, yae] at hr hp
  simp only [evalOp, yab] at he
  obtain ⟨q, hq, a, ha, he⟩ := he
  split at he
  ·simp only [yab, yaa, yac] at he
   obtain ⟨st2, hs, _, e⟩ := he
   subst e
   have hq' := zfQ hq
   have hc := zbk hq
   have hav : zbY a := zdd ha hp.1 fun s hs' => by
    rcases hq'.2.1 s with e | e
    ·rw [e]; exact hr s (.inl hs')
    ·rw [e]; intro s' e'; cases e'
   obtain ⟨e1, e2, e3⟩ := zkD hs hav
   have hpt : getC st p = some a := by
    rcases getC_mem ha with ⟨y, rfl, rfl⟩ | ⟨s, rfl, rfl⟩ | ⟨s, rfl, rfl⟩
    ·rfl
    ·rcases hq'.2.1 s with e | e
     ·simp only [getC] at ha ⊢
      rw [e] at ha ⊢; exact ha
     ·rw [e] at hs; cases hs
    ·rfl
   refine ⟨fun s hs' => ?_, fun j hj => ?_, fun hk => ?_⟩
   ·have : q.2.σ s = st.σ s := hq'.1 s fun hc' => hs' (by
     have h1 : taken (AOp.store n p y).opds = taken [p] ++ (taken [y] ++ taken []) := by simp only [AOp.opds]; rw [zbr]; simp [taken]
     simp only at h1 ⊢
     rw [h1]; simp [hc'])
    rw [← this]; exact e1 s
   ·simp only [AOper.keepsL] at hj
    cases mark with
    | none => cases hj
    | loc i =>
     obtain ⟨off, rfl⟩ := zeS hm rfl rfl hpt
     rw [e2 j (fun off' e => by simp only [V.loc.injEq] at e; rw [e.1] at hj; simp at hj) rfl, hq'.2.2.1]
    | mem => obtain ⟨b, off, rfl⟩ := zhZ hm rfl rfl hpt; rw [e2 j (fun off' e => by cases e) rfl, hq'.2.2.1]
    | quiet => rw [(zbv hm rfl).2]
    | free => cases hj
    | cool => cases hj
    | fa _ => cases hj
   ·simp only [AOper.keepsM] at hk
    cases mark with
    | none => cases hk
    | loc i => obtain ⟨off, rfl⟩ := zeS hm rfl rfl hpt; rw [e3 (fun b off' e => by cases e) rfl, hq'.2.2.2]
    | mem => cases hk
    | quiet => exact (zbv hm rfl).1
    | free => cases hk
    | cool => cases hk
    | fa _ => cases hk
  ·cases he
 | nilCheck y =>
  simp only [evalOp, yab] at he
  obtain ⟨u, _, he⟩ := he
  cases u <;> simp only [yaa, yac] at he <;> first | (rw [← he.2]; exact .same) | cases he
 | bin op y z =>
  simp only [evalOp, yab, yaa, yac] at he
  obtain ⟨_, _, _, _, _, _, _, e⟩ := he
  subst e; exact .same
 | eq neg kind y z =>
  simp only [evalOp, yab, yaa, yac] at he
  obtain ⟨_, _, _, _, _, _, _, e⟩ := he
  subst e; exact .same
 | un op y =>
  simp only [evalOp, yab, yaa, yac] at he
  obtain ⟨_, _, _, _, _, e⟩ := he
  subst e; exact .same
 | conv k y =>
  simp only [evalOp, yab] at he
  obtain ⟨u, _, he⟩ := he
  cases u <;> simp only [yaa, yac] at he <;> first | (rw [← he.2]; exact .same) | cases he
 | strStr y =>
  simp only [evalOp, yab] at he
  obtain ⟨u, _, he⟩ := he
  cases u <;> simp only [yaa, yac] at he <;> first | (rw [← he.2]; exact .same) | cases he
 | strBytes y =>
  simp only [evalOp, yab] at he
  obtain ⟨u, _, he⟩ := he
  cases u <;> simp only [yaa, yac] at he <;> first | (rw [← he.2]; exact .same) | cases he
 | bytesStr y =>
  simp only [evalOp, yab, yaa, yac] at he
  obtain ⟨_, _, _, _, _, _, _, e⟩ := he
  subst e; exact .same
 | intStr y =>
  simp only [evalOp, yab] at he
  obtain ⟨u, _, he⟩ := he
  cases u <;> simp only [yaa, yac] at he <;> first | (rw [← he.2]; exact .same) | cases he
 | convB y =>
  simp only [evalOp, yab] at he
  obtain ⟨q, hq, he⟩ := he
  have hts : ∀ s ∈ taken [y], s ∈ taken (AOp.convB y).opds := fun s hs => hs
  obtain ⟨v, st2⟩ := q
  have h1 : Eff ⟨dst, guard, kt, .convB y, mark⟩ st st2 := .clear (zbk hq) hts
  cases v with
  | slice o z xs =>
   cases o with
   | true =>
    simp only at he
    split at he
    ·simp only [yaa, yac] at he; rw [← he.2]; exact h1
    ·cases he
   | false => cases he
  | _ => cases he
 | makeSlice sz zero l c =>
  simp only [evalOp, yab] at he
  obtain ⟨u, _, u', _, he⟩ := he
  cases u with
  | int k n =>
   cases u' with
   | int k' n' =>
    simp only at he
    split at he
    ·simp only [yaa, yac] at he; rw [← he.2]; exact .same
    ·cases he
   | _ => cases he
  | _ => cases he
 | sliceS y lo hi =>
  simp only [evalOp, yab] at he
  obtain ⟨u, _, he⟩ := he
  cases u with
  | str s =>
   simp only [yab] at he
   obtain ⟨_, _, _, _, he⟩ := he
   split at he
   ·simp only [yaa, yac] at he; rw [← he.2]; exact .same
   ·cases he
  | _ => cases he
 | sliceV sz y lo hi =>
  simp only [evalOp, yab] at he
  obtain ⟨q, hq, he⟩ := he
  have hts : ∀ s ∈ taken [y], s ∈ taken (AOp.sliceV sz y lo hi).opds := fun s hs => by
   simp only [AOp.opds]; rw [zbr]; exact List.mem_append_left _ hs
  obtain ⟨v, st2⟩ := q
  have h1 : Eff ⟨dst, guard, kt, .sliceV sz y lo hi, mark⟩ st st2 := .clear (zbk hq) hts
  cases v with
  | nils =>
   simp only [yab] at he
   obtain ⟨_, _, _, _, he⟩ := he
   split at he
   ·simp only [yaa, yac] at he; rw [← he.2]; exact h1
   ·cases he
  | slice o z xs =>
   simp only [yab] at he
   obtain ⟨_, _, _, _, he⟩ := he
   split at he
   ·simp only [yaa, yac] at he; rw [← he.2]; exact h1
   ·cases he
  | _ => cases he
 | fieldAddr off y =>
  simp only [evalOp, yab] at he
  obtain ⟨u, _, he⟩ := he
  cases u <;> simp only [yaa, yac] at he <;> first | (rw [← he.2]; exact .same) | cases he
 | field agg n off y =>
  simp only [evalOp, yab] at he
  obtain ⟨u, _, he⟩ := he
  cases u with
  | agg cs =>
   simp only at he
   split at he
   ·simp only [yab, yaa, yac] at he
    obtain ⟨_, _, _, e⟩ := he
    subst e; exact .same
   ·cases he
  | _ => cases he
 | indexArr len sz y i =>
  simp only [evalOp, yab] at he
  obtain ⟨u, _, u', _, he⟩ := he
  cases u' with
  | int k n =>
   simp only at he
   split at he
   ·cases u <;> simp only [yaa, yac] at he <;> first | (rw [← he.2]; exact .same) | cases he
   ·cases he
  | _ => cases he
 | indexSl sz y i =>
  simp only [evalOp, yab] at he
  obtain ⟨u, _, u', _, he⟩ := he
  cases u' with
  | int k n =>
   cases u with
   | slice o z xs =>
    cases o with
    | true => cases he
    | false =>
     simp only at he
     split at he
     ·simp only [yaa, yac] at he; rw [← he.2]; exact .same
     ·cases he
   | place r =>
    simp only at he
    split at he
    ·split at he
     ·simp only [yaa, yac] at he; rw [← he.2]; exact .same
     ·cases he
    ·split at he
     ·simp only [yaa, yac] at he; rw [← he.2]; exact .same
     ·cases he
    ·cases he
   | _ => cases he
  | _ => cases he
 | indexAgg agg len sz y i =>
  simp only [evalOp, yab] at he
  obtain ⟨u, _, u', _, he⟩ := he
  cases u with
  | agg cs =>
   cases u' with
   | int k n =>
    simp only at he
    split at he
    ·simp only [yab, yaa, yac] at he
     obtain ⟨_, _, _, e⟩ := he
     subst e; exact .same
    ·cases he
   | _ => cases he
  | _ => cases he
 | indexStr y i =>
  simp only [evalOp, yab] at he
  obtain ⟨u, _, u', _, he⟩ := he
  cases u with
  | str cs =>
   cases u' with
   | int k n =>
    simp only at he
    split at he
    ·simp only [yaa, yac] at he; rw [← he.2]; exact .same
    ·cases he
   | _ => cases he
  | _ => cases he
 | extract y i =>
  simp only [evalOp, yab] at he
  obtain ⟨q, hq, he⟩ := he
  obtain ⟨v, st2⟩ := q
  have h1 : Eff ⟨dst, guard, kt, .extract y i, mark⟩ st st2 := .clear (zbk hq) fun s hs => hs
  cases v with
  | tuple vs =>
   simp only at he
   split at he
   ·simp only [yaa, yac] at he; rw [← he.2]; exact h1
   ·cases he
  | _ => cases he
 | callP f args =>
  simp only [evalOp, yab] at he
  obtain ⟨q, hq, he⟩ := he
  have h1 : Eff ⟨dst, guard, kt, .callP f args, mark⟩ st q.2 := .clear (zbu hq) fun s hs => hs
  split at he
  ·simp only [yab] at he
   obtain ⟨r, _, he⟩ := he
   split at he
   ·simp only [yaa, yac] at he; rw [← he.2]; exact h1
   ·cases he
  ·cases he
 | callL f args =>
  simp only [evalOp, yab] at he
  obtain ⟨_, _, _, _, _, _, he⟩ := he
  split at he
  ·simp only [yaa, yac] at he; rw [← he.2]; exact .same
  ·cases he
 | lend f z y lo =>
  simp only [evalOp, yab] at he
  obtain ⟨_, _, _, _, he⟩ := he
  split at he
  ·simp only [yab] at he
   obtain ⟨_, _, he⟩ := he
   split at he
   ·simp only [yaa, yac] at he; rw [← he.2]; exact .same
   ·cases he
  ·cases he
 | callF f args =>
  simp only [evalOp, yab] at he
  obtain ⟨q, hq, he⟩ := he
  have h1 : Eff ⟨dst, guard, kt, .callF f args, mark⟩ st q.2 := .clear (zbu hq) fun s hs => hs
  have h2 := zbu hq
  split at he
  ·simp only [yab, yaa, yac] at he
   obtain ⟨r, _, _, e⟩ := he
   subst e
   refine ⟨fun s hs => ?_, h1.l, fun hk => ?_⟩
   ·have : q.2.σ s = st.σ s := by rw [h2, zd9]; exact if_neg hs
    right; right; left; simp only [killM, this]
   ·have hq : mark = .quiet := by simpa [AOper.keepsM] using hk
    exact (zbv hm hq).1
  ·cases he
 | callN f args ws =>
  simp only [evalOp, yab] at he
  obtain ⟨us, hus, q, hq, he⟩ := he
  have hts : ∀ s ∈ taken args, s ∈ taken (AOp.callN f args ws).opds := fun s hs => by
   simp only [AOp.opds, zji]; exact List.mem_append_right _ hs
  have h1 : Eff ⟨dst, guard, kt, .callN f args ws, mark⟩ st q.2 := .clear (zbu hq) hts
  have h2 := zbu hq
  split at he
  ·simp only [yab] at he
   obtain ⟨r, _, he⟩ := he
   split at he
   ·simp only [yaa, yac] at he
    obtain ⟨_, e⟩ := he
    subst e
    refine ⟨fun s hs => ?_, h1.l, fun hk => ?_⟩
    ·have : q.2.σ s = st.σ s := by rw [h2, zd9, if_neg fun hc => hs (hts s hc)]
     right; right; left; simp only [killM, this]
    ·have hq : mark = .quiet := by simpa [AOper.keepsM] using hk
     exact (zbv hm hq).1
   ·cases he
  ·cases he
 | loadW mode agg n p w os =>
  simp only [evalOp, yab] at he
  obtain ⟨v, hv, us, _, he⟩ := he
  split at he
  ·rename_i ha
   simp only [yab] at he
   obtain ⟨q, hq, he⟩ := he
   split at he
   ·simp only [yaa] at he
    subst he
    obtain ⟨e1, e2, e3, e4⟩ := zfT hq
    have hnl : ∀ j off, v ≠ .loc j off := fun j off e => by subst e; cases ha
    refine ⟨fun s _ => .inl (by rw [e2]), fun j _ => e3 j (hnl j), fun hk => ?_⟩
    have hw : mode.writes = false := by simpa [AOper.keepsM] using hk
    rw [e1 hw]
   ·cases he
  ·cases he
 | callV f args =>
  simp only [evalOp, yab] at he
  obtain ⟨u, _, he⟩ := he
  cases u with
  | func gf cap =>
   simp only [yab] at he
   obtain ⟨q, hq, he⟩ := he
   have hts : ∀ s ∈ taken args, s ∈ taken (AOp.callV f args).opds := fun s hs => by
    simp only [AOp.opds]; rw [zbr]; exact List.mem_append_right _ hs
   have h1 : Eff ⟨dst, guard, kt, .callV f args, mark⟩ st q.2 := .clear (zbu hq) hts
   have h2 := zbu hq
   split at he
   ·simp only [yab, yaa, yac] at he
    obtain ⟨r, _, _, e⟩ := he
    subst e
    refine ⟨fun s hs => ?_, h1.l, fun hk => ?_⟩
    ·have : q.2.σ s = st.σ s := by rw [h2, zd9, if_neg fun hc => hs (hts s hc)]
     right; right; left; simp only [killM, this]
    ·have hq : mark = .quiet := by simpa [AOper.keepsM] using hk
     exact (zbv hm hq).1
   ·cases he
  | _ => cases he
 | lenStr y =>
  simp only [evalOp, yab] at he
  obtain ⟨u, _, he⟩ := he
  cases u <;> simp only [yaa, yac] at he <;> first | (rw [← he.2]; exact .same) | cases he
 | lenSl y =>
  simp only [evalOp, yab, yaa, yac] at he
  obtain ⟨_, _, _, _, _, e⟩ := he
  subst e; exact .same
 | lenC n => simp only [evalOp, yaa, yac] at he; rw [← he.2]; exact .same
 | minMax mx y ys =>
  simp only [evalOp, yab, yaa, yac] at he
  obtain ⟨_, _, _, _, _, _, _, e⟩ := he
  subst e; exact .same
 | mkFunc f captured =>
  simp only [evalOp, yab] at he
  obtain ⟨u, _, he⟩ := he
  split at he
  ·simp only [yaa, yac] at he; rw [← he.2]; exact .same
  ·cases he
 | append sz y z =>
  simp only [AOp.opds, slots, yag, List.flatMap_nil, List.append_nil, List.all_cons, List.all_nil, Bool.and_true, yak, yae] at hr hp
  simp only [evalOp, yab] at he
  obtain ⟨p, hp1, q, hq, ys, _, he⟩ := he
  have e1 := zbk hp1
  have e2 := zbk hq
  have htt : taken (AOp.append sz y z).opds = taken [y] ++ taken [z] := by simp only [AOp.opds]; rw [zbr]
  have e3 : q.2 = clears (taken (AOp.append sz y z).opds) st := by rw [htt, zbt, ← e1, ← e2]
  have h1 : Eff ⟨dst, guard, kt, .append sz y z, mark⟩ st q.2 := .clear e3 fun s hs => hs
  have hpx : zbY p.1 := zit (st' := p.2) (by rw [hp1]) hp.1 fun s hs' => hr s (.inl hs')
  have fin : ∀ st3 : St, st3.σ = q.2.σ → zbg ⟨dst, guard, kt, .append sz y z, mark⟩ st st3 = true → Eff ⟨dst, guard, kt, .append sz y z, mark⟩ st st3 := fun st3 h3 h4 =>
   ⟨fun s hs => by rw [h3]; exact h1.σ s hs, fun j hj => by rw [(zbv h4 (by simpa [AOper.keepsL] using hj)).2], fun hk => (zbv h4 (by simpa [AOper.keepsM] using hk)).1⟩
  obtain ⟨px, st2⟩ := p
  obtain ⟨qy, st4⟩ := q
  simp only at he hpx fin h1
  cases px with
  | nils =>
   simp only at he
   split at he
   ·simp only [yaa, yac] at he; rw [← he.2]; exact h1
   ·split at he
    ·simp only [yaa, yac] at he; rw [← he.2]; exact h1
    ·cases he
  | slice o z xs =>
   cases o with
   | true =>
    simp only at he
    split at he
    ·simp only [yaa, yac] at he; rw [← he.2]; exact h1
    ·cases he
   | false => cases he
  | place r =>
   simp only at he
   split at he
   ·split at he
    ·cases r with
     | tmp s => exact absurd rfl (hpx s)
     | mem b o => simp only [yaa, yac] at he; exact fin st' (by rw [← he.2]) hm
     | loc j o => simp only [yaa, yac] at he; exact fin st' (by rw [← he.2]) hm
    ·cases he
   ·split at he
    ·simp only [yaa, yac] at he; rw [← he.2]; exact h1
    ·split at he
     ·simp only [yaa, yac] at he; rw [← he.2]; exact h1
     ·cases he
   ·cases he
  | _ => cases he
end
end Go.Proofs.YtakdnfneikbjjaaGreatDoor.Am

namespace Go.Proofs.YtakdnfneikbjjaaGreatDoor.Am
section
variable {cf : CF}
def ups (us : List (Nat × V)) (st : St) : St := us.foldl (fun st p => st.at p.1 p.2) st
theorem ups_nil {st : St} : ups [] st = st := rfl
theorem ups_cons {p : Nat × V} {us : List (Nat × V)} {st : St} : ups (p :: us) st = ups us (st.at p.1 p.2) := rfl
theorem zdR {us vs : List (Nat × V)} {st : St} : ups (us ++ vs) st = ups vs (ups us st) := by simp [ups]
theorem zcL {ts : List Nat} {st : St} : clears ts st = ups (ts.map fun s => (s, .undef)) st := by
 induction ts generalizing st with
 | nil => rfl
 | cons t ts ih => simp only [clears, List.foldl_cons, List.map_cons, ups_cons] at ih ⊢; exact ih
theorem ziw {us : List (Nat × V)} : ∀ {st : St} {i : Nat} (_ : ∀ p ∈ us, p.1 ≠ i), (ups us st).σ i = st.σ i := by
 induction us with
 | nil => intro st i _; rfl
 | cons p us ih =>
  intro st i h
  rw [ups_cons, ih fun q hq => h q (.tail _ hq)]
  simp only [St.at]; exact zhX fun e => h p (.head _) e.symm
theorem zjk {us : List (Nat × V)} : ∀ {st : St}, (ups us st).l = st.l := by
 induction us with
 | nil => intro st; rfl
 | cons p us ih => intro st; rw [ups_cons, ih]; rfl
theorem zjl {us : List (Nat × V)} : ∀ {st : St}, (ups us st).m = st.m := by
 induction us with
 | nil => intro st; rfl
 | cons p us ih => intro st; rw [ups_cons, ih]; rfl
theorem zo8 {st : St} {d e : Nat} {u v : V} (h : d ≠ e) : (st.at d u).at e v = (st.at e v).at d u := by
 simp only [St.at]; rw [zdz h]
theorem zpx {us : List (Nat × V)} {d : Nat} {v : V} : ∀ {st : St} (_ : ∀ p ∈ us, p.1 ≠ d), ups us (st.at d v) = (ups us st).at d v := by
 induction us with
 | nil => intro st _; rfl
 | cons p us ih =>
  intro st h
  rw [ups_cons, ups_cons, zo8 (fun e => h p (.head _) e.symm), ih fun q hq => h q (.tail _ hq)]
theorem zix {us vs : List (Nat × V)} : ∀ {st : St} (_ : ∀ p ∈ us, ∀ q ∈ vs, p.1 ≠ q.1), ups us (ups vs st) = ups vs (ups us st) := by
 induction vs with
 | nil => intro st _; rfl
 | cons q vs ih =>
  intro st h
  rw [ups_cons, ups_cons, ih fun p hp r hr => h p hp r (.tail _ hr), zpx fun p hp => h p hp q (.head _)]
theorem zmT {st : St} {d : Option Nat} {v : V} : st.put false d v = ups (d.toList.map fun d => (d, v)) st := by cases d <;> rfl
theorem zgw {op : AOp} {us : List (Nat × V)} (hp : op.opds.all Opd.plain = true) (hb : op.boxes = false) : ∀ {st : St} (_ : ∀ p ∈ us, p.1 ∉ slots op.opds) (_ : ∀ s ∈ slots op.opds, zbY (st.σ s)) (_ : ∀ p ∈ us, p.2.root? = none ∨ op.still = true),
  evalOp cf (ups us st) op = (evalOp cf st op).map fun p => (p.1, ups us p.2) := by
 induction us with
 | nil => intro st _ _ _; simp only [ups_nil]; cases evalOp cf st op <;> rfl
 | cons p us ih =>
  intro st hd hr hv
  rw [ups_cons, ih (fun q hq => hd q (.tail _ hq)) (fun s hs => by
   simp only [St.at]; rw [zhX fun (e : s = p.1) => hd p (.head _) (e ▸ hs)]; exact hr s hs) (fun q hq => hv q (.tail _ hq)), zo7 (hd p (.head _)) hr hp (hv p (.head _)) hb]
  cases evalOp cf st op <;> rfl
theorem zo9 {op : AOp} {p : Opd} (h : op.ptr? = some p) : ∀ s ∈ p.slot?, s ∈ slots op.opds := by
 intro s hs
 cases op with
 | load agg n q mode => simp only [AOp.ptr?, yaa] at h; subst h; simpa [AOp.opds, slots] using hs
 | store n q x => simp only [AOp.ptr?, yaa] at h; subst h; simp [AOp.opds, slots, hs]
 | _ => cases h
theorem zbw {o : AOper} {st1 st2 st1' st2' : St} (h : ∀ s ∈ slots o.op.opds, st1.σ s = st2.σ s) (hq : o.mark = .quiet → (st1'.m = st1.m ∧ st1'.l = st1.l ↔ st2'.m = st2.m ∧ st2'.l = st2.l)) : zbg o st1 st1' = zbg o st2 st2' := by
 unfold zbg
 cases hm : o.mark with
 | none => rfl
 | quiet => simp only; rw [decide_eq_decide]; exact hq hm
 | cool =>
  simp only
  cases hp : o.op.ptr? with
  | some p => rfl
  | none =>
   simp only
   rw [Bool.eq_iff_iff, yam, yam]
   exact ⟨fun hh s hs => by rw [← h s hs]; exact hh s hs, fun hh s hs => by rw [h s hs]; exact hh s hs⟩
 | fa j =>
  simp only
  rw [Bool.eq_iff_iff, yam, yam]
  exact ⟨fun hh s hs => by rw [← h s hs]; exact hh s hs, fun hh s hs => by rw [h s hs]; exact hh s hs⟩
 | _ =>
  simp only
  cases hp : o.op.ptr? with
  | none => rfl
  | some p => simp only; rw [zan fun s hs => h s (zo9 hp s hs)]
def AOper.looks (o : AOper) : List Nat := slots o.op.opds ++ (o.guard.map (·.1)).toList
def AOper.writes (o : AOper) : List Nat := taken o.op.opds ++ o.dst.toList
def AOper.fit (o : AOper) : Bool := !o.op.boxes && o.op.opds.all Opd.plain && !o.kt
def AOper.sees (b a : AOper) : Bool := match b.mark with
 | .loc j => a.keepsL j
 | .mem => a.keepsM
 | _ => true
def AOper.jumps (b a : AOper) : Bool := b.leanOk && b.sees a
def AOper.stills (o : AOper) : Bool := o.op.still && (taken o.op.opds).isEmpty
theorem zh0 {o : AOper} {v : V} (h : zeY o v = true) : rootOk o.lean v = true := by
 simp only [zeY, yae] at h; exact h.1
theorem zmU {o : AOper} (h : o.op.boxes = false) : o.op.isT = false := by
 cases ho : o.op <;> rw [ho] at h <;> first | rfl | cases h
theorem zaQ {o : AOper} {st st' : St} (hk : o.kt = false) (hT : o.op.isT = false := by first | rfl | (apply zmU; assumption)) : zay cf o st = some st' ↔ ∃ x st1, (∀ s ∈ slots o.op.opds, rootOk o.lean (st.σ s) = true) ∧ evalOp cf st o.op = some (x, st1) ∧ zeY o x = true ∧ zbg o st st1 = true ∧ st' = ups (o.dst.toList.map fun d => (d, x)) st1 := by
 unfold zay
 rw [hT]
 simp only [yas, if_false]
 constructor
 ·intro h
  split at h
  ·rename_i hs
   simp only [yab] at h
   obtain ⟨p, hp, h⟩ := h
   unfold putD at h
   split at h
   ·rename_i hc
    simp only [yae] at hc
    unfold zdv at h
    rw [hk] at h
    simp only [yas, if_false, yaa] at h
    exact ⟨p.1, p.2, yam.1 hs, hp, hc.1, hc.2, by rw [← h, zmT]⟩
   ·cases h
  ·cases h
 ·rintro ⟨x, st1, hs, he, hr, hm, rfl⟩
  rw [if_pos (yam.2 hs), he]
  simp only [Option.bind_some, putD, hr, hm, Bool.and_self, if_true, zdv, hk, yas, if_false, zmT]
theorem zew {o : AOper} {st st' : St} {x : V} (hs : o.op.still = true) (ht : taken o.op.opds = []) (he : evalOp cf st o.op = some (x, st')) : st' = st := by
 by_cases hp : o.op.pure = true
 ·exact (zdi (st2 := st) hp ht (fun _ _ => rfl) he).1
 ·obtain ⟨dst, guard, kt, op, mark⟩ := o
  simp only at hs hp he
  cases op with
  | load agg n p mode =>
   simp only [evalOp, yab] at he
   obtain ⟨v, _, he⟩ := he
   refine (zfT he).1 ?_
   cases mode <;> first | rfl | cases hs
  | indexSl sz y i =>
   simp only [evalOp, yab] at he
   obtain ⟨u, _, u', _, he⟩ := he
   cases u' with
   | int k n =>
    cases u with
    | slice o z xs =>
     cases o with
     | true => cases he
     | false =>
      simp only at he
      split at he
      ·simp only [yaa, yac] at he; exact he.2.symm
      ·cases he
    | place r =>
     simp only at he
     split at he
     ·split at he
      ·simp only [yaa, yac] at he; exact he.2.symm
      ·cases he
     ·split at he
      ·simp only [yaa, yac] at he; exact he.2.symm
      ·cases he
     ·cases he
    | _ => cases he
   | _ => cases he
  | lenSl y =>
   simp only [evalOp, yab, yaa, yac] at he
   obtain ⟨_, _, _, _, _, e⟩ := he
   exact e.symm
  | bytesStr y =>
   simp only [evalOp, yab, yaa, yac] at he
   obtain ⟨_, _, _, _, _, _, _, e⟩ := he
   exact e.symm
  | _ => first | exact absurd rfl hp | cases hs
def zfs (a b : AOper) : Bool := a.writes.all (fun s => !(b.looks ++ b.writes).contains s) && b.writes.all (fun s => !(a.looks ++ a.writes).contains s)
theorem zdS {a b : AOper} : zfs a b = true ↔ (∀ s ∈ a.writes, s ∉ b.looks ∧ s ∉ b.writes) ∧ (∀ s ∈ b.writes, s ∉ a.looks ∧ s ∉ a.writes) := by
 simp [zfs]
theorem zc4 {o : AOper} : o.fit = true ↔ o.op.boxes = false ∧ o.op.opds.all Opd.plain = true ∧ o.kt = false := by
 simp [AOper.fit, and_assoc]
def wr (o : AOper) (x : V) : List (Nat × V) := ((taken o.op.opds).map fun s => (s, .undef)) ++ (o.dst.toList.map fun d => (d, x))
theorem zgj {o : AOper} {x : V} {p : Nat × V} (h : p ∈ wr o x) : p.1 ∈ o.writes := by
 simp only [wr, yak, List.mem_map] at h
 simp only [AOper.writes, yak]
 rcases h with ⟨s, hs, rfl⟩ | ⟨s, hs, rfl⟩
 ·exact .inl hs
 ·exact .inr hs
theorem zmV {o : AOper} {x : V} (hx : x.root? = none) {p : Nat × V} (h : p ∈ wr o x) : p.2.root? = none := by
 simp only [wr, yak, List.mem_map] at h
 rcases h with ⟨s, hs, rfl⟩ | ⟨s, hs, rfl⟩
 ·rfl
 ·exact hx
theorem zaW {o : AOper} {s : Nat} (h : s ∈ slots o.op.opds) : s ∈ o.looks := List.mem_append_left _ h
theorem zl2 {a b : AOper} (ha : a.fit = true) (hb : b.fit = true) (hap : zfs a b = true) (hj : b.jumps a = true) {st st1 st2 : St} (h1 : zay cf a st = some st1) (h2 : zay cf b st1 = some st2) :
  ∃ st3, zay cf b st = some st3 ∧ zay cf a st3 = some st2 := by
 obtain ⟨ha1, ha2, ha3⟩ := zc4.1 ha
 obtain ⟨hb1, hb2, hb3⟩ := zc4.1 hb
 obtain ⟨hab, hba⟩ := zdS.1 hap
 simp only [AOper.jumps, yae] at hj
 obtain ⟨hlean, hsees⟩ := hj
 have hbl : b.lean = true := by simp only [AOper.leanOk, yae] at hlean; exact hlean.1
 obtain ⟨x, sa, hsa, hea, hra, hma, rfl⟩ := (zaQ ha3).1 h1
 obtain ⟨y, sb, hsb, heb, hrb, hmb, rfl⟩ := (zaQ hb3).1 h2
 rw [hbl] at hsb
 have hrb1 : rootOk true y = true := by have := zh0 hrb; rwa [hbl] at this
 have hE := ziv ha1 ha2 (fun s hs => zbR (hsa s hs)) hma hea
 have hst : ∀ s ∈ slots b.op.opds, (ups (a.dst.toList.map fun d => (d, x)) sa).σ s = st.σ s := fun s hs => by
  have hw : s ∉ a.writes := fun hw => (hab s hw).1 (zaW hs)
  simp only [AOper.writes, yak, not_or] at hw
  have e1 : (ups (a.dst.toList.map fun d => (d, x)) sa).σ s = sa.σ s := ziw fun p hp e => by
   simp only [List.mem_map] at hp
   obtain ⟨d, hd, rfl⟩ := hp
   exact hw.2 (e ▸ hd)
  have hk := zcm (hsb s hs)
  rw [e1] at hk ⊢
  exact zfS (hE.σ s hw.1) hk.2
 have hagree : zmQ b (ups (a.dst.toList.map fun d => (d, x)) sa) st := by
  refine ⟨fun j hj => ?_, fun hj => ?_⟩
  ·rw [zjk]; refine hE.l j ?_; simpa [AOper.sees, hj] using hsees
  ·rw [zjl]; refine hE.m ?_; simpa [AOper.sees, hj] using hsees
 obtain ⟨e1, e2⟩ := zdQ (cf := cf) hlean hb2 hst hsb hagree hmb heb
 have hfree := (zcm hrb1).1
 refine ⟨ups (wr b y) st, (zaQ hb3).2 ⟨y, clears (taken b.op.opds) st, fun s hs => by rw [hbl, ← hst s hs]; exact hsb s hs, e2, hrb, ?_, ?_⟩, (zaQ ha3).2 ⟨x, ups (wr b y) sa, ?_, ?_, hra, ?_, ?_⟩⟩
 ·rw [← hmb]
  refine zbw (fun s hs => (hst s hs).symm) fun _ => ⟨fun _ => ?_, fun _ => ⟨zci, zcA⟩⟩
  rw [e1]; exact ⟨zci, zcA⟩
 ·rw [wr, zdR, ← zcL]
 ·intro s hs
  rw [ziw fun p hp e => (hba _ (zgj hp)).1 (e ▸ zaW hs)]
  exact hsa s hs
 ·rw [zgw ha2 ha1 (fun p hp hs => (hba _ (zgj hp)).1 (zaW hs)) (fun s hs => zbR (hsa s hs)) (fun p hp => .inl (zmV hfree hp)), hea]; rfl
 ·rw [← hma]
  refine zbw (fun s hs => ziw fun p hp e => (hba _ (zgj hp)).1 (e ▸ zaW hs)) fun _ => ?_
  rw [zjl, zjl, zjk, zjk]
 ·rw [e1, zcL, ← zdR, ← wr]
  refine zix fun p hp q hq => ?_
  simp only [List.mem_map] at hq
  obtain ⟨d, hd, rfl⟩ := hq
  intro e
  exact (hba _ (zgj hp)).2 (by rw [e]; simp only [AOper.writes, yak]; exact .inr hd)
theorem zkE {a b : AOper} (ha : a.fit = true) (hb : b.fit = true) (hap : zfs a b = true) (hj : a.jumps b = true) {st st1 st2 : St} (h1 : zay cf a st = some st1) (h2 : zay cf b st1 = some st2) :
  ∃ st3, zay cf b st = some st3 ∧ zay cf a st3 = some st2 := by
 obtain ⟨ha1, ha2, ha3⟩ := zc4.1 ha
 obtain ⟨hb1, hb2, hb3⟩ := zc4.1 hb
 obtain ⟨hab, hba⟩ := zdS.1 hap
 simp only [AOper.jumps, yae] at hj
 obtain ⟨hlean, hsees⟩ := hj
 have hal : a.lean = true := by simp only [AOper.leanOk, yae] at hlean; exact hlean.1
 obtain ⟨x, sa, hsa, hea, hra, hma, rfl⟩ := (zaQ ha3).1 h1
 rw [hal] at hsa
 have hra1 : rootOk true x = true := by have := zh0 hra; rwa [hal] at this
 have hxf := (zcm hra1).1
 have e1 := (zdQ (cf := cf) (st2 := st) hlean ha2 (fun _ _ => rfl) hsa ⟨fun _ _ => rfl, fun _ => rfl⟩ hma hea).1
 have e1' : ups (a.dst.toList.map fun d => (d, x)) sa = ups (wr a x) st := by rw [e1, zcL, ← zdR, ← wr]
 rw [e1'] at h2
 obtain ⟨y, sb, hsb, heb, hrb, hmb, rfl⟩ := (zaQ hb3).1 h2
 have hst : ∀ s ∈ slots b.op.opds, (ups (wr a x) st).σ s = st.σ s := fun s hs => ziw fun p hp e => (hab _ (zgj hp)).1 (e ▸ zaW hs)
 have hsb' : ∀ s ∈ slots b.op.opds, rootOk b.lean (st.σ s) = true := fun s hs => by rw [← hst s hs]; exact hsb s hs
 rw [zgw hb2 hb1 (fun p hp hs => (hab _ (zgj hp)).1 (zaW hs)) (fun s hs => zbR (hsb' s hs)) (fun p hp => .inl (zmV hxf hp))] at heb
 cases heb0 : evalOp cf st b.op with
 | none => rw [heb0] at heb; cases heb
 | some q =>
  rw [heb0] at heb
  obtain ⟨y', sb0⟩ := q
  simp only [Option.map_some, yaa, yac] at heb
  obtain ⟨rfl, rfl⟩ := heb
  have hmb0 : zbg b st sb0 = true := by
   rw [← hmb]
   refine zbw (fun s hs => (hst s hs).symm) fun _ => ?_
   rw [zjl, zjl, zjk, zjk]
  have hE := ziv hb1 hb2 (fun s hs => zbR (hsb' s hs)) hmb0 heb0
  have hst2 : ∀ s ∈ slots a.op.opds, st.σ s = (ups (b.dst.toList.map fun d => (d, y')) sb0).σ s := fun s hs => by
   have hw : s ∉ b.writes := fun hw => (hba s hw).1 (zaW hs)
   simp only [AOper.writes, yak, not_or] at hw
   have e2 : (ups (b.dst.toList.map fun d => (d, y')) sb0).σ s = sb0.σ s := ziw fun p hp e => by
    simp only [List.mem_map] at hp
    obtain ⟨d, hd, rfl⟩ := hp
    exact hw.2 (e ▸ hd)
   rw [e2]
   exact (zfR (hE.σ s hw.1) (zcm (hsa s hs)).1).symm
  have hagree : zmQ a st (ups (b.dst.toList.map fun d => (d, y')) sb0) := by
   refine ⟨fun j hj => ?_, fun hj => ?_⟩
   ·rw [zjk]; exact (hE.l j (by simpa [AOper.sees, hj] using hsees)).symm
   ·rw [zjl]; exact (hE.m (by simpa [AOper.sees, hj] using hsees)).symm
  obtain ⟨_, e3⟩ := zdQ (cf := cf) hlean ha2 hst2 hsa hagree hma hea
  refine ⟨ups (b.dst.toList.map fun d => (d, y')) sb0, (zaQ hb3).2 ⟨y', sb0, hsb', heb0, hrb, hmb0, rfl⟩, (zaQ ha3).2 ⟨x, _, ?_, e3, hra, ?_, ?_⟩⟩
  ·intro s hs; rw [hal, ← hst2 s hs]; exact hsa s hs
  ·rw [← hma]
   refine zbw (fun s hs => (hst2 s hs).symm) fun _ => ⟨fun _ => ?_, fun _ => ⟨zci, zcA⟩⟩
   rw [e1]; exact ⟨zci, zcA⟩
  ·have e5 : ∀ s0, ups (a.dst.toList.map fun d => (d, x)) (clears (taken a.op.opds) s0) = ups (wr a x) s0 := fun s0 => by rw [zcL, ← zdR]; rfl
   rw [e5]
   refine (zix fun p hp q hq => ?_).symm
   simp only [List.mem_map] at hq
   obtain ⟨d, hd, rfl⟩ := hq
   intro e
   exact (hab _ (zgj hp)).2 (by rw [e]; simp only [AOper.writes, yak]; exact .inr hd)
theorem zl3 {a b : AOper} (ha : a.fit = true) (hb : b.fit = true) (hap : zfs a b = true) (hsa' : a.stills = true) (hsb' : b.stills = true) {st st1 st2 : St} (h1 : zay cf a st = some st1) (h2 : zay cf b st1 = some st2) :
  ∃ st3, zay cf b st = some st3 ∧ zay cf a st3 = some st2 := by
 obtain ⟨ha1, ha2, ha3⟩ := zc4.1 ha
 obtain ⟨hb1, hb2, hb3⟩ := zc4.1 hb
 obtain ⟨hab, hba⟩ := zdS.1 hap
 simp only [AOper.stills, yae, List.isEmpty_iff] at hsa' hsb'
 obtain ⟨x, sa, hsa, hea, hra, hma, rfl⟩ := (zaQ ha3).1 h1
 have e1 := zew hsa'.1 hsa'.2 hea
 subst e1
 obtain ⟨y, sb, hsb, heb, hrb, hmb, rfl⟩ := (zaQ hb3).1 h2
 have hda : ∀ p ∈ (a.dst.toList.map fun d => (d, x)), p.1 ∈ a.writes := fun p hp => by
  simp only [List.mem_map] at hp
  obtain ⟨d, hd, rfl⟩ := hp
  simp only [AOper.writes, yak]; exact .inr hd
 have hdb : ∀ p ∈ (b.dst.toList.map fun d => (d, y)), p.1 ∈ b.writes := fun p hp => by
  simp only [List.mem_map] at hp
  obtain ⟨d, hd, rfl⟩ := hp
  simp only [AOper.writes, yak]; exact .inr hd
 have hst : ∀ s ∈ slots b.op.opds, (ups (a.dst.toList.map fun d => (d, x)) sa).σ s = sa.σ s := fun s hs => ziw fun p hp e => (hab _ (hda p hp)).1 (e ▸ zaW hs)
 have hsb0 : ∀ s ∈ slots b.op.opds, rootOk b.lean (sa.σ s) = true := fun s hs => by rw [← hst s hs]; exact hsb s hs
 rw [zgw hb2 hb1 (fun p hp hs => (hab _ (hda p hp)).1 (zaW hs)) (fun s hs => zbR (hsb0 s hs)) (fun p hp => .inr hsb'.1)] at heb
 cases heb0 : evalOp cf sa b.op with
 | none => rw [heb0] at heb; cases heb
 | some q =>
  rw [heb0] at heb
  obtain ⟨y', sb0⟩ := q
  simp only [Option.map_some, yaa, yac] at heb
  obtain ⟨rfl, rfl⟩ := heb
  have e2 := zew hsb'.1 hsb'.2 heb0
  subst e2
  refine ⟨ups (b.dst.toList.map fun d => (d, y')) sb0, (zaQ hb3).2 ⟨y', sb0, hsb0, heb0, hrb, ?_, rfl⟩, (zaQ ha3).2 ⟨x, ups (b.dst.toList.map fun d => (d, y')) sb0, ?_, ?_, hra, ?_, ?_⟩⟩
  ·rw [← hmb]
   exact zbw (fun s hs => (hst s hs).symm) fun _ => by simp [zjl, zjk]
  ·intro s hs
   rw [ziw fun p hp e => (hba _ (hdb p hp)).1 (e ▸ zaW hs)]
   exact hsa s hs
  ·rw [zgw ha2 ha1 (fun p hp hs => (hba _ (hdb p hp)).1 (zaW hs)) (fun s hs => zbR (hsa s hs)) (fun p hp => .inr hsa'.1), hea]; rfl
  ·rw [← hma]
   exact zbw (fun s hs => ziw fun p hp e => (hba _ (hdb p hp)).1 (e ▸ zaW hs)) fun _ => by simp [zjl, zjk]
  ·exact zix fun p hp q hq e => (hba _ (hdb p hp)).2 (e ▸ hda q hq)
end
end Go.Proofs.YtakdnfneikbjjaaGreatDoor.Am

namespace Go.Proofs.YtakdnfneikbjjaaGreatDoor.Am
def AOper.alloc? (o : AOper) : Option (Nat × Nat) := match o with
 | ⟨some d, none, false, .allocL j _, .none⟩ => some (j, d)
 | _ => none
section
variable {cf : CF} {st st' : St}
theorem zct {o : AOper} {j d : Nat} (h : o.alloc? = some (j, d)) : ∃ z, o = ⟨some d, none, false, .allocL j z, .none⟩ := by
 unfold AOper.alloc? at h
 split at h
 ·simp only [yaa, yac] at h
  obtain ⟨rfl, rfl⟩ := h
  exact ⟨_, rfl⟩
 ·cases h
theorem zea {j d : Nat} {z : List V} : zay cf ⟨some d, none, false, .allocL j z, .none⟩ st = if z.all V.ok0 then some { st with l := upd st.l j z, σ := upd (killL j st.σ) d (.loc j 0) } else none := by
 unfold zay
 simp only [AOp.isT, yas, if_false, slots, AOp.opds, List.flatMap_nil, List.all_nil, if_true, evalOp]
 split
 ·have hr : ∀ z, zeY ⟨some d, none, false, .allocL j z, .none⟩ (.loc j 0) = true := fun z => rfl
  simp [putD, hr, zbg, zdv, St.put]
 ·rfl
theorem zkF {i j : Nat} {v : V} : killLV j (killLV i v) = killLV i (killLV j v) := by
 cases v with
 | loc k o =>
  by_cases h1 : k = i
  ·by_cases h2 : k = j
   ·subst h1; subst h2; rfl
   ·subst h1
    have e1 : killLV k (.loc k o) = .undef := if_pos rfl
    have e2 : killLV j (.loc k o) = .loc k o := if_neg h2
    rw [e1, e2, e1]; rfl
  ·have e1 : killLV i (.loc k o) = .loc k o := if_neg h1
   by_cases h2 : k = j
   ·subst h2
    have e2 : killLV k (.loc k o) = .undef := if_pos rfl
    rw [e1, e2]; rfl
   ·have e2 : killLV j (.loc k o) = .loc k o := if_neg h2
    rw [e1, e2, e1]
 | place r => cases r with
  | loc k o =>
   by_cases h1 : k = i
   ·by_cases h2 : k = j
    ·subst h1; subst h2; rfl
    ·subst h1
     have e1 : killLV k (.place (.loc k o)) = .undef := if_pos rfl
     have e2 : killLV j (.place (.loc k o)) = .place (.loc k o) := if_neg h2
     rw [e1, e2, e1]; rfl
   ·have e1 : killLV i (.place (.loc k o)) = .place (.loc k o) := if_neg h1
    by_cases h2 : k = j
    ·subst h2
     have e2 : killLV k (.place (.loc k o)) = .undef := if_pos rfl
     rw [e1, e2]; rfl
    ·have e2 : killLV j (.place (.loc k o)) = .place (.loc k o) := if_neg h2
     rw [e1, e2, e1]
  | _ => rfl
 | el r z a b => cases r with
  | loc k o =>
   by_cases h1 : k = i
   ·by_cases h2 : k = j
    ·subst h1; subst h2; rfl
    ·subst h1
     have e1 : killLV k (.el (.loc k o) z a b) = .undef := if_pos rfl
     have e2 : killLV j (.el (.loc k o) z a b) = .el (.loc k o) z a b := if_neg h2
     rw [e1, e2, e1]; rfl
   ·have e1 : killLV i (.el (.loc k o) z a b) = .el (.loc k o) z a b := if_neg h1
    by_cases h2 : k = j
    ·subst h2
     have e2 : killLV k (.el (.loc k o) z a b) = .undef := if_pos rfl
     rw [e1, e2]; rfl
    ·have e2 : killLV j (.el (.loc k o) z a b) = .el (.loc k o) z a b := if_neg h2
     rw [e1, e2, e1]
  | _ => rfl
 | _ => rfl
theorem zft {i k off : Nat} (h : i ≠ k) : killLV i (.loc k off) = .loc k off := by simp only [killLV]; rw [if_neg (Ne.symm h)]
theorem zmW {a b : St} (h1 : ∀ i, a.σ i = b.σ i) (h2 : ∀ i, a.l i = b.l i) (h3 : a.m = b.m) : a = b := by
 obtain ⟨_, _, _⟩ := a
 obtain ⟨_, _, _⟩ := b
 simp only [St.mk.injEq]
 exact ⟨funext h1, funext h2, h3⟩
theorem zpa {i j da db : Nat} {zi zj : List V} (hij : i ≠ j) (hd : da ≠ db) {st1 st2 : St} (h1 : zay cf ⟨some da, none, false, .allocL i zi, .none⟩ st = some st1) (h2 : zay cf ⟨some db, none, false, .allocL j zj, .none⟩ st1 = some st2) :
  ∃ st3, zay cf ⟨some db, none, false, .allocL j zj, .none⟩ st = some st3 ∧ zay cf ⟨some da, none, false, .allocL i zi, .none⟩ st3 = some st2 := by
 rw [zea] at h1 h2
 split at h1
 ·rename_i hz
  split at h2
  ·rename_i hz2
   simp only [yaa] at h1 h2
   subst h1 h2
   refine ⟨_, by rw [zea, if_pos hz2], ?_⟩
   rw [zea, if_pos hz]
   refine congrArg some (zmW (fun s => ?_) (fun s => ?_) rfl)
   ·simp only [upd, killL]
    by_cases e1 : s = da
    ·subst e1; rw [if_pos rfl, if_neg hd, if_pos rfl, zft (Ne.symm hij)]
    ·by_cases e2 : s = db
     ·subst e2; rw [if_neg e1, if_pos rfl, if_pos rfl, zft hij]
     ·simp only [if_neg e1, if_neg e2]; exact zkF
   ·simp only [upd]
    by_cases e1 : s = i
    ·subst e1; rw [if_pos rfl, if_neg hij, if_pos rfl]
    ·simp only [if_neg e1]
  ·cases h2
 ·cases h1
def AOper.easy (j : Nat) (b : AOper) : Bool := b.fit && b.leanOk && (match b.mark with
 | .cool => true
 | .free | .mem => b.op.ptr?.isSome
 | .loc k => k != j && b.op.ptr?.isSome
 | .fa k => k != j
 | _ => false)
theorem zcu {j : Nat} {v : V} (h : zgD v = true) (hr : v.root? = none) : killLV j v = v := by
 cases v <;> first | rfl | (cases h; done) | (simp [V.root?] at hr)
theorem killLV_cases (j : Nat) (u : V) : killLV j u = u ∨ killLV j u = .undef := by
 cases u with
 | loc k o => simp only [killLV]; split <;> simp
 | place r => cases r with
  | loc k o => simp only [killLV]; split <;> simp
  | _ => exact .inl rfl
 | el r z i k => cases r with
  | loc k o => simp only [killLV]; split <;> simp
  | _ => exact .inl rfl
 | _ => exact .inl rfl
def lay (j d : Nat) (z : List V) (st : St) : St := { st with l := upd st.l j z, σ := upd (killL j st.σ) d (.loc j 0) }
theorem zog {j d s : Nat} {z : List V} {st : St} (h : s ≠ d) : (lay j d z st).σ s = killLV j (st.σ s) := by
 simp only [lay, upd, if_neg h]; rfl
theorem zg1 {j d : Nat} {z : List V} : ∀ {us : List (Nat × V)} {st : St} (_ : ∀ p ∈ us, p.1 ≠ d) (_ : ∀ p ∈ us, killLV j p.2 = p.2), lay j d z (ups us st) = ups us (lay j d z st)
 | [], st, _, _ => rfl
 | (s, v) :: us, st, h1, h2 => by
  rw [ups_cons, ups_cons]
  rw [zg1 (fun p hp => h1 p (.tail _ hp)) (fun p hp => h2 p (.tail _ hp))]
  congr 1
  have hs := h1 _ (.head _)
  have hv := h2 _ (.head _)
  simp only at hs hv
  refine zmW (fun x => ?_) (fun x => rfl) rfl
  simp only [lay, St.at, upd, killL]
  by_cases e1 : x = d
  ·subst e1; rw [if_pos rfl, if_neg (Ne.symm hs), if_pos rfl]
  ·by_cases e2 : x = s
   ·subst e2; rw [if_neg e1, if_pos rfl, if_pos rfl, hv]
   ·simp only [if_neg e1, if_neg e2]
theorem zoh {j : Nat} {b : AOper} (h : b.easy j = true) {st st' : St} (hm : zbg b st st' = true) : ∀ s ∈ slots b.op.opds, rootOk true (st.σ s) = true → ∀ d, s ≠ d → killLV j (st.σ s) = st.σ s := by
 intro s hs hr d hsd
 have hroot := (zcm hr).1
 simp only [AOper.easy, yae] at h
 obtain ⟨⟨hfit, hlean⟩, hk⟩ := h
 have pcase : ∀ p, b.op.ptr? = some p → (∀ v, getC st p = some v → ∀ o, v ≠ .loc j o) → (∃ v, getC st p = some v) → killLV j (st.σ s) = st.σ s := fun p hp hv hex => by
  have hop : b.op.opds = [p] ∨ ∃ n x, b.op = .store n p x := by
   cases hb : b.op with
   | load agg n q mode => rw [hb] at hp; simp only [AOp.ptr?, yaa] at hp; subst hp; exact .inl rfl
   | store n q x => rw [hb] at hp; simp only [AOp.ptr?, yaa] at hp; subst hp; exact .inr ⟨n, x, rfl⟩
   | _ => rw [hb] at hp; cases hp
  rcases hop with hop | ⟨n, x, hop⟩
  ·rw [hop] at hs
   simp only [slots, yag, List.flatMap_nil, List.append_nil] at hs
   obtain ⟨v, hv1⟩ := hex
   have hv2 := hv v hv1
   rcases getC_mem hv1 with ⟨y, rfl, rfl⟩ | ⟨t, rfl, rfl⟩ | ⟨t, rfl, rfl⟩
   ·simp [Opd.slot?] at hs
   ·simp only [Opd.slot?, yao] at hs
    subst hs
    rcases killLV_cases j (st.σ s) with e | e
    ·exact e
    ·exfalso
     cases hσ : st.σ s with
     | loc k o =>
      rw [hσ] at e
      simp only [killLV] at e
      split at e
      ·rename_i hkj; subst hkj; exact hv2 o hσ
      ·cases e
     | place r => rw [hσ] at hroot; simp [V.root?] at hroot
     | el r z i k => rw [hσ] at hroot; simp [V.root?] at hroot
     | undef => rw [hσ] at hr; cases hr
     | _ => rw [hσ] at e; cases e
   ·simp only [Opd.slot?, yao] at hs
    subst hs
    have := (zc4.1 hfit).2.1
    rw [hop] at this
    simp [Opd.plain] at this
  ·exfalso
   simp only [AOper.leanOk, AOper.lean, yae] at hlean
   have := hlean.1
   rw [hop] at this
   simp [AOp.pure, AOp.still, AOp.builds] at this
 unfold zbg at hm
 cases hmk : b.mark with
 | none => rw [hmk] at hk; cases hk
 | quiet => rw [hmk] at hk; cases hk
 | cool =>
  rw [hmk] at hm
  simp only at hm
  cases hp : b.op.ptr? with
  | some p => rw [hp] at hm; cases hm
  | none =>
   rw [hp] at hm
   exact zcu (yam.1 hm s hs) hroot
 | fa k =>
  rw [hmk] at hm hk
  simp only [bne_iff_ne] at hm hk
  have h1 := yam.1 hm s hs
  cases hσ : st.σ s with
  | loc i o =>
   rw [hσ] at h1
   simp only [zkf, beq_iff_eq] at h1
   subst h1
   exact zft (Ne.symm hk)
  | _ => rw [hσ] at h1; cases h1
 | loc k =>
  rw [hmk] at hm hk
  simp only [yae, bne_iff_ne] at hm hk
  cases hp : b.op.ptr? with
  | none => rw [hp] at hk; simp at hk
  | some p =>
   rw [hp] at hm
   simp only at hm
   cases hg : getC st p with
   | none => rw [hg] at hm; cases hm
   | some v =>
    rw [hg] at hm
    refine pcase p hp (fun u hu o e => ?_) ⟨v, hg⟩
    rw [hg] at hu
    simp only [yaa] at hu
    subst hu; subst e
    simp only [beq_iff_eq, Mark.loc.injEq] at hm
    exact hk.1 hm
 | mem =>
  rw [hmk] at hm hk
  simp only at hm hk
  cases hp : b.op.ptr? with
  | none => rw [hp] at hk; simp at hk
  | some p =>
   rw [hp] at hm
   simp only at hm
   cases hg : getC st p with
   | none => rw [hg] at hm; cases hm
   | some v =>
    rw [hg] at hm
    refine pcase p hp (fun u hu o e => ?_) ⟨v, hg⟩
    rw [hg] at hu
    simp only [yaa] at hu
    subst hu; subst e
    simp at hm
 | free =>
  rw [hmk] at hm hk
  simp only at hm hk
  cases hp : b.op.ptr? with
  | none => rw [hp] at hk; simp at hk
  | some p =>
   rw [hp] at hm
   simp only at hm
   cases hg : getC st p with
   | none => rw [hg] at hm; cases hm
   | some v =>
    rw [hg] at hm
    refine pcase p hp (fun u hu o e => ?_) ⟨v, hg⟩
    rw [hg] at hu
    simp only [yaa] at hu
    subst hu; subst e
    simp at hm
theorem zl4 {j d : Nat} {z : List V} {b : AOper} (h : b.easy j = true) : zmQ b st (lay j d z st) := by
 refine ⟨fun i hi => ?_, fun _ => rfl⟩
 simp only [AOper.easy, yae, hi, bne_iff_ne] at h
 show st.l i = upd st.l j z i
 simp only [upd]
 rw [if_neg h.2.1]
theorem zlj {j : Nat} {b : AOper} (h : b.easy j = true) {y : V} (hr : zeY b y = true) : killLV j y = y ∧ y.root? = none := by
 simp only [AOper.easy, yae] at h
 obtain ⟨⟨_, hlean⟩, hk⟩ := h
 have hl : b.lean = true := by simp only [AOper.leanOk, yae] at hlean; exact hlean.1
 simp only [zeY, yae, hl] at hr
 obtain ⟨h1, h2⟩ := hr
 have hroot := (zcm h1).1
 refine ⟨?_, hroot⟩
 cases hmk : b.mark with
 | fa k =>
  rw [hmk] at h2 hk
  simp only [bne_iff_ne] at hk
  cases y with
  | loc i o =>
   simp only [zkf, beq_iff_eq] at h2
   subst h2
   exact zft (Ne.symm hk)
  | _ => cases h2
 | none => rw [hmk] at hk; cases hk
 | quiet => rw [hmk] at hk; cases hk
 | cool => rw [hmk] at h2; exact zcu h2 hroot
 | mem =>
  rw [hmk] at h2
  simp only [yae] at h2
  exact zcu h2.1 hroot
 | free => rw [hmk] at h2; exact zcu h2 hroot
 | loc k => rw [hmk] at h2; exact zcu h2 hroot
theorem zjm {j : Nat} {b : AOper} {y : V} (hy : killLV j y = y) : ∀ p ∈ wr b y, killLV j p.2 = p.2 := by
 intro p hp
 simp only [wr, yak, List.mem_map] at hp
 rcases hp with ⟨s, _, rfl⟩ | ⟨s, _, rfl⟩
 ·rfl
 ·exact hy
theorem zh1 {j d : Nat} {z : List V} {b : AOper} (h : b.easy j = true) (hd : d ∉ b.looks ∧ d ∉ b.writes) {st' : St} :
  (zay cf b st = some st' → ∃ y, st' = ups (wr b y) st ∧ zay cf b (lay j d z st) = some (ups (wr b y) (lay j d z st)) ∧ killLV j y = y) ∧
  (zay cf b (lay j d z st) = some st' → ∃ y, st' = ups (wr b y) (lay j d z st) ∧ zay cf b st = some (ups (wr b y) st) ∧ killLV j y = y) := by
 have h0 := h
 simp only [AOper.easy, yae] at h0
 obtain ⟨⟨hfit, hlean⟩, _⟩ := h0
 obtain ⟨hb1, hb2, hb3⟩ := zc4.1 hfit
 have hbl : b.lean = true := by simp only [AOper.leanOk, yae] at hlean; exact hlean.1
 have hne : ∀ s ∈ slots b.op.opds, s ≠ d := fun s hs e => hd.1 (e ▸ zaW hs)
 have hag := zl4 (st := st) (d := d) (z := z) h
 have e5 : ∀ y s0, ups (b.dst.toList.map fun d => (d, y)) (clears (taken b.op.opds) s0) = ups (wr b y) s0 := fun y s0 => by rw [zcL, ← zdR]; rfl
 constructor
 ·intro h1
  obtain ⟨y, sb, hs, he, hr, hm, rfl⟩ := (zaQ hb3).1 h1
  rw [hbl] at hs
  have hst : ∀ s ∈ slots b.op.opds, st.σ s = (lay j d z st).σ s := fun s hs' => by
   rw [zog (hne s hs'), zoh h hm s hs' (hs s hs') d (hne s hs')]
  obtain ⟨e1, e2⟩ := zdQ (cf := cf) hlean hb2 hst hs hag hm he
  refine ⟨y, by rw [e1, e5], (zaQ hb3).2 ⟨y, _, fun s hs' => by rw [hbl, ← hst s hs']; exact hs s hs', e2, hr, ?_, by rw [e5]⟩, (zlj h hr).1⟩
  rw [← hm]
  refine zbw (fun s hs' => (hst s hs').symm) fun _ => ⟨fun _ => ?_, fun _ => ⟨zci, zcA⟩⟩
  rw [e1]; exact ⟨zci, zcA⟩
 ·intro h1
  obtain ⟨y, sb, hs, he, hr, hm, rfl⟩ := (zaQ hb3).1 h1
  rw [hbl] at hs
  have hst : ∀ s ∈ slots b.op.opds, (lay j d z st).σ s = st.σ s := fun s hs' => by
   have h2 := hs s hs'
   rw [zog (hne s hs')] at h2 ⊢
   rcases killLV_cases j (st.σ s) with e | e
   ·exact e
   ·rw [e] at h2; cases h2
  have hag' : zmQ b (lay j d z st) st := ⟨fun i hi => (hag.1 i hi).symm, fun hi => (hag.2 hi).symm⟩
  obtain ⟨e1, e2⟩ := zdQ (cf := cf) hlean hb2 hst hs hag' hm he
  refine ⟨y, by rw [e1, e5], (zaQ hb3).2 ⟨y, _, fun s hs' => by rw [hbl, ← hst s hs']; exact hs s hs', e2, hr, ?_, by rw [e5]⟩, (zlj h hr).1⟩
  rw [← hm]
  refine zbw (fun s hs' => (hst s hs').symm) fun _ => ⟨fun _ => ?_, fun _ => ⟨zci, zcA⟩⟩
  rw [e1]; exact ⟨zci, zcA⟩
def AOper.calls (b : AOper) : Bool := b.fit && (match b.op with
 | .callF _ _ => true
 | _ => false)
theorem zl5 {j : Nat} {v : V} (h : v.okArg = true) : killLV j v = v := by
 cases v with
 | loc k o => cases h
 | place r => cases r <;> first | rfl | cases h
 | el r z i k => cases r <;> first | rfl | cases h
 | _ => rfl
theorem zoi {j : Nat} {o : Opd} {s1 s2 : St} {v : V} (hp : o.plain = true) (h : getO s1 o = some (v, s2)) (hv : v.okArg = true) : ∀ s ∈ o.slot?, killLV j (s1.σ s) = s1.σ s ∧ s1.σ s ≠ .undef := by
 have fin : ∀ s, (s1.σ s).okArg = true → killLV j (s1.σ s) = s1.σ s ∧ s1.σ s ≠ .undef := fun s h => ⟨zl5 h, fun e => by rw [e] at h; cases h⟩
 intro s hs
 cases o with
 | c v => simp [Opd.slot?] at hs
 | t t =>
  simp only [Opd.slot?, yao] at hs
  subst hs
  simp only [getO] at h
  split at h
  ·cases h
  ·simp only [yaa, yac] at h
   exact fin s (by rw [h.1]; exact hv)
 | u t how =>
  simp only [Opd.slot?, yao] at hs
  subst hs
  cases how with
  | take =>
   simp only [getO, yaa, yac] at h
   exact fin s (by rw [h.1]; exact hv)
  | copy =>
   simp only [getO] at h
   split at h
   ·cases h
   ·simp only [yaa, yac] at h
    exact fin s (by rw [h.1]; exact hv)
  | share =>
   simp only [getO, yaa, yac] at h
   rw [← h.1] at hv
   cases hσ : s1.σ s with
   | loc k o => rw [hσ] at hv; cases hv
   | place r => rw [hσ] at hv; cases r <;> first | exact ⟨rfl, by simp⟩ | cases hv
   | el r z i k => rw [hσ] at hv; cases r <;> first | exact ⟨rfl, by simp⟩ | cases hv
   | undef => rw [hσ] at hv; cases hv
   | _ => exact ⟨rfl, by simp⟩
  | peek => simp [Opd.plain] at hp
theorem zmX {j : Nat} : ∀ {os : List Opd} {s1 s2 : St} {vs : List V} (_ : os.all Opd.plain = true) (_ : vs.all V.okArg = true) (_ : getOs s1 os = some (vs, s2)), ∀ s ∈ slots os, killLV j (s1.σ s) = s1.σ s ∧ s1.σ s ≠ .undef
 | [], s1, s2, vs, _, _, _, s, hs => by simp [slots] at hs
 | o :: os, s1, s2, vs, hp, hv, h, s, hs => by
  simp only [List.all_cons, yae] at hp
  simp only [getOs, yab, yaa, yac] at h
  obtain ⟨⟨pv, ps⟩, hp1, ⟨qv, qs⟩, hq, rfl, rfl⟩ := h
  simp only [List.all_cons, yae] at hv
  by_cases ho : s ∈ o.slot?
  ·exact zoi hp.1 hp1 hv.1 s ho
  ·simp only [slots, yag, yak] at hs
   have h2 := zmX (j := j) hp.2 hv.2 hq s (hs.resolve_left ho)
   have e1 := zbk hp1
   simp only at h2
   rw [e1, zd9, if_neg (fun ht => ho (by
    cases o with
    | u t how => cases how <;> simp [taken, Opd.slot?] at ht ⊢ <;> exact ht
    | _ => simp [taken] at ht))] at h2
   exact h2
theorem zl6 {j d : Nat} {z : List V} {ts : List Nat} {st : St} (h : ∀ s ∈ ts, s ≠ d) : lay j d z (clears ts st) = clears ts (lay j d z st) := by
 rw [zcL, zcL]
 refine zg1 (fun p hp => ?_) (fun p hp => ?_)
 ·simp only [List.mem_map] at hp
  obtain ⟨s, hs, rfl⟩ := hp
  exact h s hs
 ·simp only [List.mem_map] at hp
  obtain ⟨s, hs, rfl⟩ := hp
  rfl
theorem zkG {j : Nat} (v : V) : killMV (killLV j v) = killLV j (killMV v) := by
 cases v with
 | loc k o => by_cases h : k = j <;> simp [killLV, killMV, h]
 | place r => cases r with
  | loc k o => by_cases h : k = j <;> simp [killLV, killMV, h]
  | _ => rfl
 | el r z i l => cases r with
  | loc k o => by_cases h : k = j <;> simp [killLV, killMV, h]
  | _ => rfl
 | _ => rfl
def after (m : List (List V)) (us : List (Nat × V)) (ts : List Nat) (st : St) : St := ups us { clears ts st with m := m, σ := killM (clears ts st).σ }
theorem zjn {j d : Nat} {z : List V} {m : List (List V)} {us : List (Nat × V)} {ts : List Nat} {st : St} (h1 : ∀ p ∈ us, p.1 ≠ d) (h2 : ∀ p ∈ us, killLV j p.2 = p.2) (h3 : ∀ s ∈ ts, s ≠ d) :
  lay j d z (after m us ts st) = after m us ts (lay j d z st) := by
 unfold after
 rw [zg1 h1 h2, ← zl6 h3]
 congr 1
 refine zmW (fun x => ?_) (fun x => rfl) rfl
 simp only [lay, upd, killL, killM]
 by_cases e : x = d
 ·subst e; rw [if_pos rfl, if_pos rfl]; rfl
 ·rw [if_neg e, if_neg e, zkG]
theorem zh2 {j d f : Nat} {args : List Opd} {z : List V} {b : AOper} (hop : b.op = .callF f args) (h : b.fit = true) (hm0 : b.mark = .quiet) (hd : d ∉ b.looks ∧ d ∉ b.writes) {st' : St} :
  (zay cf b st = some st' → ∃ y m, st' = after m (b.dst.toList.map fun d => (d, y)) (taken args) st ∧ killLV j y = y ∧ zay cf b (lay j d z st) = some (after m (b.dst.toList.map fun d => (d, y)) (taken args) (lay j d z st))) ∧
  (zay cf b (lay j d z st) = some st' → ∃ y m, st' = after m (b.dst.toList.map fun d => (d, y)) (taken args) (lay j d z st) ∧ killLV j y = y ∧ zay cf b st = some (after m (b.dst.toList.map fun d => (d, y)) (taken args) st)) := by
 obtain ⟨hb1, hb2, hb3⟩ := zc4.1 h
 rw [hop] at hb2
 have hb2' : args.all Opd.plain = true := hb2
 have hsl : slots b.op.opds = slots args := by rw [hop]; rfl
 have hne : ∀ s ∈ slots args, s ≠ d := fun s hs e => hd.1 (e ▸ zaW (by rw [hsl]; exact hs))
 have hmk : ∀ {s1 s2 s1' s2' : St}, (s1'.m = s1.m ∧ s1'.l = s1.l ↔ s2'.m = s2.m ∧ s2'.l = s2.l) → zbg b s1 s1' = zbg b s2 s2' := fun hi => by
  unfold zbg
  rw [hm0]; simp only; rw [decide_eq_decide]; exact hi
 have run : ∀ {s1 s2 s1' : St}, s1.m = s2.m → (∀ (vs : List V) (s2 : St), vs.all V.okArg = true → getOs s1 args = some (vs, s2) → ∀ s ∈ slots args, s1.σ s ≠ .undef) → (∀ (vs : List V) (s3 : St), vs.all V.okArg = true → getOs s1 args = some (vs, s3) → ∀ s ∈ slots args, s1.σ s = s2.σ s) → zay cf b s1 = some s1' →
   ∃ y m, s1' = after m (b.dst.toList.map fun d => (d, y)) (taken args) s1 ∧ killLV j y = y ∧ zay cf b s2 = some (after m (b.dst.toList.map fun d => (d, y)) (taken args) s2) := fun {s1 s2 s1'} hmm _ hst h1 => by
  obtain ⟨y, sb, hs, he, hr, hm, rfl⟩ := (zaQ hb3).1 h1
  rw [hop] at he
  simp only [evalOp, yab] at he
  obtain ⟨⟨vs, s3⟩, hg, he⟩ := he
  split at he
  ·rename_i ha
   simp only [yab, yaa, yac] at he
   obtain ⟨⟨r, m⟩, hc, rfl, rfl⟩ := he
   have hst' := hst vs s3 ha hg
   obtain ⟨e1, e2⟩ := zcK hst' hg
   try simp only at hc
   subst e1
   rw [zci] at hc
   have hy : killLV j r = r := by
    simp only [zeY, hm0, yae] at hr
    refine zcu hr.2.1 ?_
    cases r <;> first | rfl | exact absurd hr.2.2 (by simp)
   refine ⟨r, m, rfl, hy, (zaQ hb3).2 ⟨r, { clears (taken args) s2 with m := m, σ := killM (clears (taken args) s2).σ }, fun s hs' => ?_, ?_, hr, ?_, rfl⟩⟩
   ·rw [hsl] at hs'
    rw [← hst' s hs']; exact hs s (by rw [hsl]; exact hs')
   ·rw [hop]
    simp only [evalOp, e2, Option.bind_some]
    rw [if_pos ha, zci, ← hmm, hc]; rfl
   ·rw [← hm]
    refine hmk ?_
    simp only [zcA, hmm]
  ·cases he
 have st_of : ∀ {s : Nat}, s ≠ d → killLV j (st.σ s) = st.σ s → (lay j d z st).σ s = st.σ s := fun {s} hs h => by rw [zog hs, h]
 constructor
 ·intro h1
  exact run rfl (fun vs s2 hv hg s hs => (zmX (j := j) hb2' hv hg s hs).2) (fun vs s3 hv hg s hs => (st_of (hne s hs) (zmX (j := j) hb2' hv hg s hs).1).symm) h1
 ·intro h1
  refine run rfl (fun vs s2 hv hg s hs => (zmX (j := j) hb2' hv hg s hs).2) (fun vs s3 hv hg s hs => ?_) h1
  have h2 := (zmX (j := j) hb2' hv hg s hs).2
  rw [zog (hne s hs)] at h2 ⊢
  rcases killLV_cases j (st.σ s) with e | e
  ·exact e
  ·exact absurd e h2
def AOper.callf? (b : AOper) : Bool := b.fit && (match b.op with
 | .callF _ _ => true
 | _ => false) && (match b.mark with
 | .quiet => true
 | _ => false)
theorem zl7 {b : AOper} (h : b.callf? = true) : ∃ f args, b.op = .callF f args ∧ b.fit = true ∧ b.mark = .quiet := by
 simp only [AOper.callf?, yae] at h
 obtain ⟨⟨h1, h2⟩, h3⟩ := h
 cases hop : b.op with
 | callF f args =>
  refine ⟨f, args, rfl, h1, ?_⟩
  cases hm : b.mark <;> rw [hm] at h3 <;> first | rfl | cases h3
 | _ => rw [hop] at h2; cases h2
theorem zfu {j d : Nat} {z : List V} : zay cf ⟨some d, none, false, .allocL j z, .none⟩ st = if z.all V.ok0 then some (lay j d z st) else none := zea
def AOper.besides (j d : Nat) (b : AOper) : Bool := (b.easy j || b.callf?) && !(b.looks ++ b.writes).contains d && b.guard.isNone
theorem zlk {j d : Nat} {z : List V} {b : AOper} (h : b.besides j d = true) {st' : St} :
  (zay cf b (lay j d z st) = some st' → ∃ st3, zay cf b st = some st3 ∧ lay j d z st3 = st') ∧ (∀ st3, zay cf b st = some st3 → zay cf b (lay j d z st) = some (lay j d z st3)) := by
 simp only [AOper.besides, yae, Bool.or_eq_true, Bool.not_eq_true', List.contains_eq_mem, decide_eq_false_iff_not, yak, not_or] at h
 obtain ⟨⟨he, hd⟩, _⟩ := h
 have hdst : ∀ {y : V}, ∀ p ∈ (b.dst.toList.map fun d => (d, y)), p.1 ≠ d := fun {y} p hp e => by
  simp only [List.mem_map] at hp
  obtain ⟨d', hd', rfl⟩ := hp
  exact hd.2 (by simp only at e; subst e; simp only [AOper.writes, yak]; exact .inr hd')
 rcases he with he | he
 ·have hwr : ∀ {y : V}, ∀ p ∈ wr b y, p.1 ≠ d := fun {y} p hp e => hd.2 (e ▸ zgj hp)
  constructor
  ·intro h1
   obtain ⟨y, rfl, h2, hy⟩ := (zh1 (st := st) (z := z) he hd (st' := st')).2 h1
   exact ⟨_, h2, zg1 hwr (zjm hy)⟩
  ·intro st3 h1
   obtain ⟨y, rfl, h2, hy⟩ := (zh1 (st := st) (z := z) he hd (st' := st3)).1 h1
   rw [h2, zg1 hwr (zjm hy)]
 ·obtain ⟨f, args, hop, hfit, hmk⟩ := zl7 he
  have ht : ∀ s ∈ taken args, s ≠ d := fun s hs e => hd.2 (by subst e; simp only [AOper.writes, yak]; left; rw [hop]; exact hs)
  have hk : ∀ {y : V}, killLV j y = y → ∀ p ∈ (b.dst.toList.map fun d => (d, y)), killLV j p.2 = p.2 := fun {y} hy p hp => by
   simp only [List.mem_map] at hp
   obtain ⟨d', hd', rfl⟩ := hp
   exact hy
  constructor
  ·intro h1
   obtain ⟨y, m, rfl, hy, h2⟩ := (zh2 (st := st) (z := z) hop hfit hmk hd (st' := st')).2 h1
   exact ⟨_, h2, zjn hdst (hk hy) ht⟩
  ·intro st3 h1
   obtain ⟨y, m, rfl, hy, h2⟩ := (zh2 (st := st) (z := z) hop hfit hmk hd (st' := st3)).1 h1
   rw [h2, zjn hdst (hk hy) ht]
def zdT (a b : AOper) : Bool := match a.alloc?, b.alloc? with
 | some (i, da), some (j, db) => i != j && da != db
 | some (i, da), none => b.besides i da
 | none, some (j, db) => a.besides j db
 | none, none => false
theorem zl8 {a b : AOper} (h : zdT a b = true) {st1 st2 : St} (h1 : zay cf a st = some st1) (h2 : zay cf b st1 = some st2) : ∃ st3, zay cf b st = some st3 ∧ zay cf a st3 = some st2 := by
 unfold zdT at h
 split at h
 ·rename_i i da j db ea eb
  obtain ⟨z, rfl⟩ := zct ea
  obtain ⟨z', rfl⟩ := zct eb
  simp only [yae, bne_iff_ne] at h
  exact zpa h.1 h.2 h1 h2
 ·rename_i i da ea eb
  obtain ⟨z, rfl⟩ := zct ea
  rw [zfu] at h1
  split at h1
  ·rename_i hz
   simp only [yaa] at h1
   subst h1
   obtain ⟨st3, h3, h4⟩ := (zlk (st := st) (z := z) h).1 h2
   exact ⟨st3, h3, by rw [zfu, if_pos hz, h4]⟩
  ·cases h1
 ·rename_i j db ea eb
  obtain ⟨z, rfl⟩ := zct eb
  rw [zfu] at h2
  split at h2
  ·rename_i hz
   simp only [yaa] at h2
   subst h2
   exact ⟨_, by rw [zfu, if_pos hz], (zlk (st := st) (z := z) h (st' := st)).2 st1 h1⟩
  ·cases h2
 ·cases h
theorem zgq {a b : AOper} (h : zdT a b = true) : a.guard = none ∧ b.guard = none := by
 have hb : ∀ {i d : Nat} {b : AOper}, b.besides i d = true → b.guard = none := fun {i d b} h => by
  simp only [AOper.besides, yae, Option.isNone_iff_eq_none] at h
  exact h.2
 unfold zdT at h
 split at h
 ·rename_i i da j db ea eb
  obtain ⟨z, rfl⟩ := zct ea
  obtain ⟨z', rfl⟩ := zct eb
  exact ⟨rfl, rfl⟩
 ·rename_i i da ea eb
  obtain ⟨z, rfl⟩ := zct ea
  exact ⟨rfl, hb h⟩
 ·rename_i j db ea eb
  obtain ⟨z, rfl⟩ := zct eb
  exact ⟨hb h, rfl⟩
 ·cases h
end
end Go.Proofs.YtakdnfneikbjjaaGreatDoor.Am

namespace Go.Proofs.YtakdnfneikbjjaaGreatDoor.Am
mutual
def V.eqb : V → V → Bool
 | .undef, .undef => true
 | .bool a, .bool b => decide (a = b)
 | .int k a, .int k' b => decide (k = k') && decide (a = b)
 | .str a, .str b => decide (a = b)
 | .nilp, .nilp => true
 | .ptr a b, .ptr a' b' => decide (a = a') && decide (b = b')
 | .loc a b, .loc a' b' => decide (a = a') && decide (b = b')
 | .ro xs a, .ro ys b => V.eqbs xs ys && decide (a = b)
 | .el r a b c, .el r' a' b' c' => decide (r = r') && decide (a = a') && decide (b = b') && decide (c = c')
 | .place r, .place r' => decide (r = r')
 | .nils, .nils => true
 | .slice o s xs, .slice o' s' ys => decide (o = o') && decide (s = s') && V.eqbss xs ys
 | .agg xs, .agg ys => V.eqbs xs ys
 | .tuple xs, .tuple ys => V.eqbs xs ys
 | .func f xs, .func f' ys => decide (f = f') && V.eqbs xs ys
 | .nilf, .nilf => true
 | .nili, .nili => true
 | .erri, .erri => true
 | _, _ => false
def V.eqbs : List V → List V → Bool
 | [], [] => true
 | x :: xs, y :: ys => V.eqb x y && V.eqbs xs ys
 | _, _ => false
def V.eqbss : List (List V) → List (List V) → Bool
 | [], [] => true
 | x :: xs, y :: ys => V.eqbs x y && V.eqbss xs ys
 | _, _ => false
end
mutual
theorem V.eqb_iff : ∀ (a b : V), V.eqb a b = true ↔ a = b
 | .undef, b => by cases b <;> simp [V.eqb]
 | .bool a, b => by cases b <;> simp [V.eqb]
 | .int k a, b => by cases b <;> simp [V.eqb]
 | .str a, b => by cases b <;> simp [V.eqb]
 | .nilp, b => by cases b <;> simp [V.eqb]
 | .ptr a a', b => by cases b <;> simp [V.eqb]
 | .loc a a', b => by cases b <;> simp [V.eqb]
 | .ro xs a, b => by cases b <;> simp [V.eqb, V.eqbs_iff xs]
 | .el r a a' a'', b => by cases b <;> simp [V.eqb, and_assoc]
 | .place r, b => by cases b <;> simp [V.eqb]
 | .nils, b => by cases b <;> simp [V.eqb]
 | .slice o s xs, b => by cases b <;> simp [V.eqb, V.eqbss_iff xs, and_assoc]
 | .agg xs, b => by cases b <;> simp [V.eqb, V.eqbs_iff xs]
 | .tuple xs, b => by cases b <;> simp [V.eqb, V.eqbs_iff xs]
 | .func f xs, b => by cases b <;> simp [V.eqb, V.eqbs_iff xs]
 | .nilf, b => by cases b <;> simp [V.eqb]
 | .nili, b => by cases b <;> simp [V.eqb]
 | .erri, b => by cases b <;> simp [V.eqb]
theorem V.eqbs_iff : ∀ (a b : List V), V.eqbs a b = true ↔ a = b
 | [], [] => by simp [V.eqbs]
 | [], _ :: _ => by simp [V.eqbs]
 | _ :: _, [] => by simp [V.eqbs]
 | x :: xs, y :: ys => by simp [V.eqbs, V.eqb_iff x y, V.eqbs_iff xs ys]
theorem V.eqbss_iff : ∀ (a b : List (List V)), V.eqbss a b = true ↔ a = b
 | [], [] => by simp [V.eqbss]
 | [], _ :: _ => by simp [V.eqbss]
 | _ :: _, [] => by simp [V.eqbss]
 | x :: xs, y :: ys => by simp [V.eqbss, V.eqbs_iff x y, V.eqbss_iff xs ys]
end
instance : DecidableEq V := fun a b => decidable_of_iff _ (V.eqb_iff a b)
deriving instance DecidableEq for Opd
deriving instance DecidableEq for TOp
deriving instance DecidableEq for AOp
deriving instance DecidableEq for AOper
deriving instance DecidableEq for ACode
deriving instance DecidableEq for ARes
deriving instance DecidableEq for AFunc
example : (ACode.region true [⟨some 1, none, false, .bin .add (.t 1) (.c (.int .i64 2)), .none⟩]) = (ACode.region true [⟨some 1, none, false, .bin .add (.t 1) (.c (.int .i64 2)), .none⟩]) := by decide +kernel
example : (V.slice true 2 [[.int .i64 1, .agg [.bool true]]]) = (V.slice true 2 [[.int .i64 1, .agg [.bool true]]]) := by decide +kernel
end Go.Proofs.YtakdnfneikbjjaaGreatDoor.Am

set_option linter.all false
namespace Go.Proofs.YtakdnfneikbjjaaGreatDoor.Am
structure LW where
 mode : Use
 agg : Bool
 n : Nat
 s : Nat
 w : Nat
 os : List Opd
 d : Nat
def LW.op (x : LW) : AOper := ⟨some x.d, none, false, .loadW x.mode x.agg x.n (.t x.s) (.t x.w) x.os, .none⟩
def AOper.lw? (o : AOper) : Option LW := match o with
 | ⟨some d, none, false, .loadW mode agg n (.t s) (.t w) os, .none⟩ => if (mode == .take || mode == .copy) && (taken os).isEmpty then some ⟨mode, agg, n, s, w, os, d⟩ else none
 | _ => none
structure NC where
 f : Nat
 args : List Opd
 ws : List Opd
 d : Nat
def NC.op (x : NC) : AOper := ⟨some x.d, none, false, .callN x.f x.args x.ws, .none⟩
def AOper.ncall? (o : AOper) : Option NC := match o with
 | ⟨some d, none, false, .callN f args ws, .none⟩ => if (taken args).isEmpty then some ⟨f, args, ws, d⟩ else none
 | _ => none
section
variable {cf : CF} {st st' : St}
theorem ziy {o : AOper} {x : LW} (h : o.lw? = some x) : o = x.op ∧ (x.mode = .take ∨ x.mode = .copy) ∧ taken x.os = [] := by
 unfold AOper.lw? at h
 split at h
 ·split at h
  ·rename_i hc
   simp only [yaa] at h
   subst h
   simp only [yae, Bool.or_eq_true, beq_iff_eq, List.isEmpty_iff] at hc
   exact ⟨rfl, hc.1, hc.2⟩
  ·cases h
 ·cases h
theorem zh3 {o : AOper} {x : NC} (h : o.ncall? = some x) : o = x.op ∧ taken x.args = [] := by
 unfold AOper.ncall? at h
 split at h
 ·split at h
  ·rename_i hc
   simp only [yaa] at h
   subst h
   exact ⟨rfl, by simpa using hc⟩
  ·cases h
 ·cases h
def LW.mem (x : LW) (b off : Nat) (m : List (List V)) : List (List V) := if x.mode.writes then m.set b (zaH (m.getD b []) off (zhD x.mode (((m.getD b []).drop off).take x.n))) else m
structure LWs (x : LW) (st : St) (b off : Nat) (y : V) : Prop where
 p : st.σ x.s = .ptr b off
 wb : ∃ o, st.σ x.w = .ptr b o
 ss : ∀ t ∈ slots x.os, rootOk false (st.σ t) = true
 os : ∃ us, getCs st x.os = some us ∧ ∀ u ∈ us, ∃ c o, u = .ptr c o ∧ c ≠ b
 lt : b < st.m.length
 le : off + x.n ≤ (st.m.getD b []).length
 v : zdX x.mode (.mem b off) x.agg (((st.m.getD b []).drop off).take x.n) = some y
 root : zgs y = true
 res : zeY x.op y = true
theorem zgx {s b off : Nat} (h : st.σ s = .ptr b off) : getC st (.t s) = some (.ptr b off) := by
 simp only [getC, h]
 rw [if_neg (show ¬ (V.ptr b off).hasOwn = true from fun h => Bool.false_ne_true h)]
theorem zh4 {s : Nat} {v : V} (h : getC st (.t s) = some v) : st.σ s = v := by
 simp only [getC] at h
 split at h
 ·cases h
 ·simpa using h
theorem zcj {x : LW} : zay cf x.op st = some st' ↔ ∃ b off y, LWs x st b off y ∧ st' = { st with m := x.mem b off st.m, σ := upd st.σ x.d y } := by
 rw [zaQ rfl]
 have hslots : slots x.op.op.opds = x.s :: x.w :: slots x.os := by simp [LW.op, slots, AOp.opds, Opd.slot?]
 have hlean : x.op.lean = false := rfl
 constructor
 ·rintro ⟨y, st1, hs, he, hr, hm, rfl⟩
  rw [hslots, hlean] at hs
  simp only [LW.op, evalOp, yab] at he
  obtain ⟨v, hv, us, hus, he⟩ := he
  split at he
  ·rename_i ha
   simp only [yab] at he
   obtain ⟨q, hq, he⟩ := he
   split at he
   ·rename_i hroot
    simp only [yaa] at he
    subst he
    simp only [getCs, yab, yaa] at hus
    obtain ⟨wv, hw, us', hus', rfl⟩ := hus
    have hσ := zh4 hv
    have hσw := zh4 hw
    unfold ziQ at ha
    split at ha
    ·rename_i b off c o r heq
     simp only [List.cons.injEq] at heq
     obtain ⟨rfl, rfl⟩ := heq
     simp only [yae, beq_iff_eq] at ha
     obtain ⟨rfl, ha⟩ := ha
     simp only [za1] at hq
     split at hq
     ·rename_i hc
      simp only [yab, yaa, yac] at hq
      obtain ⟨z, hz, rfl, rfl⟩ := hq
      refine ⟨b, off, z, ⟨hσ, ⟨o, hσw⟩, fun t ht => hs t (.tail _ (.tail _ ht)), ⟨us', hus', fun u hu => ?_⟩, hc.1, hc.2, hz, hroot, hr⟩, ?_⟩
      ·have := yam.1 ha u hu
       cases u <;> first | exact ⟨_, _, rfl, by simpa using this⟩ | cases this
      ·show ups [(x.d, z)] _ = _
       unfold LW.mem
       split <;> rfl
     ·cases hq
    ·cases ha
   ·cases he
  ·cases he
 ·rintro ⟨b, off, y, h, rfl⟩
  refine ⟨y, { st with m := x.mem b off st.m }, fun t ht => ?_, ?_, h.res, rfl, rfl⟩
  ·rw [hslots] at ht
   rw [hlean]
   rcases List.mem_cons.1 ht with rfl | ht
   ·rw [h.p]; rfl
   ·rcases List.mem_cons.1 ht with rfl | ht
    ·obtain ⟨o, e⟩ := h.wb; rw [e]; rfl
    ·exact h.ss t ht
  ·obtain ⟨o, ew⟩ := h.wb
   obtain ⟨us, hus, hap⟩ := h.os
   simp only [LW.op, evalOp, zgx h.p, Option.bind_some, getCs, zgx ew, hus]
   have ha : ziQ (.ptr b off) (.ptr b o :: us) = true := by
    simp only [ziQ, beq_self_eq_true, Bool.true_and]
    refine yam.2 fun u hu => ?_
    obtain ⟨c, o, rfl, hc⟩ := hap u hu
    simpa using hc
   rw [if_pos ha]
   simp only [za1]
   rw [if_pos ⟨h.lt, h.le⟩, h.v]
   simp only [Option.bind_some]
   rw [if_pos h.root]
   unfold LW.mem
   split <;> rfl
structure NCs (cf : CF) (x : NC) (st : St) (vs : List V) (q : V × List (List V)) : Prop where
 ss : ∀ t ∈ slots x.ws ++ slots x.args, rootOk false (st.σ t) = true
 ws : ∃ us, getCs st x.ws = some us ∧ us.all (ziP (seen vs)) = true
 args : getOs st x.args = some (vs, st)
 ok : vs.all V.ok1 = true
 le : seen vs ≤ st.m.length
 call : cf x.f vs (st.m.take (seen vs)) = some q
 flat : q.1.flat2 = true
 len : q.2.length = seen vs
 res : zeY x.op q.1 = true
theorem zgy {x : NC} (ht : taken x.args = []) : zay cf x.op st = some st' ↔ ∃ vs q, NCs cf x st vs q ∧ st' = { st with m := q.2 ++ st.m.drop (seen vs), σ := upd (killM st.σ) x.d q.1 } := by
 rw [zaQ rfl]
 have hslots : slots x.op.op.opds = slots x.ws ++ slots x.args := by simp [NC.op, slots, AOp.opds]
 have hlean : x.op.lean = false := rfl
 constructor
 ·rintro ⟨y, st1, hs, he, hr, hm, rfl⟩
  rw [hslots, hlean] at hs
  simp only [NC.op, evalOp, yab] at he
  obtain ⟨us, hus, ⟨vs, sa⟩, hg, he⟩ := he
  obtain ⟨e1, _⟩ := zcK (s2 := st) (fun _ _ => rfl) hg
  rw [ht] at e1
  have e1 : sa = st := e1
  subst e1
  simp only at he
  split at he
  ·rename_i hc
   simp only [yab] at he
   obtain ⟨q, hq, he⟩ := he
   split at he
   ·rename_i hc2
    simp only [yaa, yac] at he
    obtain ⟨rfl, rfl⟩ := he
    exact ⟨vs, q, ⟨hs, ⟨us, hus, hc.2.1⟩, hg, hc.1, hc.2.2, hq, hc2.1, hc2.2, hr⟩, rfl⟩
   ·cases he
  ·cases he
 ·rintro ⟨vs, q, h, rfl⟩
  refine ⟨q.1, { st with m := q.2 ++ st.m.drop (seen vs), σ := killM st.σ }, fun t ht' => ?_, ?_, h.res, rfl, rfl⟩
  ·rw [hslots] at ht'
   rw [hlean]
   exact h.ss t ht'
  ·obtain ⟨us, hus, hb⟩ := h.ws
   simp only [NC.op, evalOp, hus, h.args, Option.bind_some]
   rw [if_pos ⟨h.ok, hb, h.le⟩, h.call]
   simp only [Option.bind_some]
   rw [if_pos ⟨h.flat, h.len⟩]
theorem zfv {y : V} (h : zgs y = true) : y.root? = none := by
 cases y <;> first | rfl | cases h
theorem zfw {w : Nat} : ∀ {ws : List Opd} {us : List V} {st : St}, getCs st ws = some us → (.t w) ∈ ws → st.σ w ∈ us
 | o :: ws, us, st, h, hm => by
  simp only [getCs, yab, yaa] at h
  obtain ⟨v, hv, vs, hvs, rfl⟩ := h
  rcases List.mem_cons.1 hm with e | hm
  ·subst e
   rw [zh4 hv]; exact .head _
  ·exact .tail _ (zfw hvs hm)
def zl9 (a b : AOper) : Bool := match a.lw?, b.ncall? with
 | some x, some y => y.ws.any (fun o => o == .t x.w) && x.d != y.d && !((slots y.ws ++ slots y.args).contains x.d) && !((x.s :: x.w :: slots x.os).contains y.d)
 | _, _ => false
theorem zll {x : LW} {b off k : Nat} {m : List (List V)} (hk : k ≤ b) : (x.mem b off m).take k = m.take k ∧ (x.mem b off m).length = m.length := by
 unfold LW.mem
 split
 ·exact ⟨List.take_set_of_le hk, List.length_set ..⟩
 ·exact ⟨rfl, rfl⟩
theorem zmY {x : LW} {b off k : Nat} {m m1 : List (List V)} (hk : k ≤ b) (hm : k ≤ m.length) (hl : m1.length = k) : (m1 ++ m.drop k).getD b [] = m.getD b [] ∧ x.mem b off (m1 ++ m.drop k) = m1 ++ (x.mem b off m).drop k := by
 have hget : (m1 ++ m.drop k).getD b [] = m.getD b [] := by
  rw [yad, yad, List.getElem?_append_right (by omega), List.getElem?_drop]
  congr 2; omega
 refine ⟨hget, ?_⟩
 unfold LW.mem
 split
 ·rw [hget, List.set_append_right _ _ (by omega), List.drop_set, if_neg (by omega), hl]
 ·rfl
theorem zh5 {b off : Nat} : killMV (.ptr b off) = .ptr b off := rfl
theorem zdj {st1 st2 : St} {os : List Opd} {us : List V} (h : getCs st1 os = some us) (hag : ∀ t ∈ slots os, st2.σ t = st1.σ t) : getCs st2 os = some us := by
 rw [← h]; exact zd8 hag
theorem zh6 : ∀ {os : List Opd} {us : List V} {b : Nat} {s1 s2 : St}, getCs s1 os = some us → (∀ u ∈ us, ∃ c o, u = V.ptr c o ∧ c ≠ b) → (∀ t ∈ slots os, s2.σ t = killMV (s1.σ t)) → getCs s2 os = some us
 | [], us, b, s1, s2, h, _, _ => h
 | o :: os, us, b, s1, s2, h, hp, hk => by
  simp only [getCs, yab, yaa] at h
  obtain ⟨v, hv, vs, hvs, rfl⟩ := h
  simp only [getCs]
  have h2 := zh6 hvs (fun u hu => hp u (.tail _ hu)) (fun t ht => hk t (by simp only [slots, yag, yak]; exact .inr ht))
  obtain ⟨c, o', rfl, _⟩ := hp v (.head _)
  have h1 : getC s2 o = some (.ptr c o') := by
   cases o with
   | c x => exact hv
   | t s =>
    have e := zh4 hv
    refine zgx ?_
    rw [hk s (by simp [slots, Opd.slot?]), e]; rfl
   | u s how => cases how <;> cases hv
  rw [h1, h2]; rfl
theorem zex : ∀ {os : List Opd} {us : List V} {b : Nat} {s1 s2 : St}, getCs s2 os = some us → (∀ u ∈ us, ∃ c o, u = V.ptr c o ∧ c ≠ b) → (∀ t ∈ slots os, s2.σ t = killMV (s1.σ t)) → getCs s1 os = some us
 | [], us, b, s1, s2, h, _, _ => h
 | o :: os, us, b, s1, s2, h, hp, hk => by
  simp only [getCs, yab, yaa] at h
  obtain ⟨v, hv, vs, hvs, rfl⟩ := h
  simp only [getCs]
  have h2 := zex hvs (fun u hu => hp u (.tail _ hu)) (fun t ht => hk t (by simp only [slots, yag, yak]; exact .inr ht))
  obtain ⟨c, o', rfl, _⟩ := hp v (.head _)
  have h1 : getC s1 o = some (.ptr c o') := by
   cases o with
   | c x => exact hv
   | t s =>
    have e := zh4 hv
    refine zgx ?_
    rw [hk s (by simp [slots, Opd.slot?])] at e
    cases hu : s1.σ s with
    | place r => rw [hu] at e; cases r <;> cases e
    | el r _ _ _ => rw [hu] at e; cases r <;> cases e
    | _ => rw [hu] at e; exact e
   | u s how => cases how <;> cases hv
  rw [h1, h2]; rfl
theorem zjo : ∀ {os : List Opd} {us : List V} {b : Nat} {s1 : St}, getCs s1 os = some us → (∀ u ∈ us, ∃ c o, u = V.ptr c o ∧ c ≠ b) → ∀ t ∈ slots os, rootOk false (s1.σ t) = true
 | [], us, b, s1, h, _, t, ht => by simp [slots] at ht
 | o :: os, us, b, s1, h, hp, t, ht => by
  simp only [getCs, yab, yaa] at h
  obtain ⟨v, hv, vs, hvs, rfl⟩ := h
  simp only [slots, yag, yak] at ht
  rcases ht with ht | ht
  ·obtain ⟨c, o', rfl, _⟩ := hp v (.head _)
   cases o with
   | c x => simp [Opd.slot?] at ht
   | t s =>
    simp only [Opd.slot?, yao] at ht
    subst ht
    rw [zh4 hv]; rfl
   | u s how => cases how <;> cases hv
  ·exact zjo hvs (fun u hu => hp u (.tail _ hu)) t ht
theorem zh7 {a b : AOper} (h : zl9 a b = true) :
  (∀ {st1 st2 : St}, zay cf a st = some st1 → zay cf b st1 = some st2 → ∃ st3, zay cf b st = some st3 ∧ zay cf a st3 = some st2) ∧
  (∀ {st1 st2 : St}, zay cf b st = some st1 → zay cf a st1 = some st2 → ∃ st3, zay cf a st = some st3 ∧ zay cf b st3 = some st2) := by
 unfold zl9 at h
 split at h
 ·rename_i x y ha hb
  simp only [yae, List.any_eq_true, beq_iff_eq, bne_iff_ne, Bool.not_eq_true', List.contains_eq_mem, decide_eq_false_iff_not] at h
  obtain ⟨⟨⟨⟨o, ho, rfl⟩, hdd⟩, hdl⟩, hdr⟩ := h
  obtain ⟨rfl, hmode, hto⟩ := ziy ha
  obtain ⟨rfl, hta⟩ := zh3 hb
  have hag : ∀ {v : V}, ∀ t ∈ slots y.ws ++ slots y.args, upd st.σ x.d v t = st.σ t := fun {v} t ht => by simp only [upd]; rw [if_neg (show ¬ t = x.d from fun e => hdl (e ▸ ht))]
  have hbey : ∀ {us : List V} {k b o : Nat} {s0 : St}, getCs s0 y.ws = some us → us.all (ziP k) = true → s0.σ x.w = .ptr b o → k ≤ b := fun {us k b o s0} h1 h2 h3 => by
   have := yam.1 h2 _ (zfw h1 ho)
   rw [h3] at this
   simpa [ziP] using this
  constructor
  ·intro st1 st2 h1 h2
   obtain ⟨b, off, v, hl, rfl⟩ := zcj.1 h1
   obtain ⟨vs, q, hn, rfl⟩ := (zgy hta).1 h2
   obtain ⟨o, hw⟩ := hl.wb
   obtain ⟨us, hus, hub⟩ := hn.ws
   have hag' : ∀ t ∈ slots y.ws ++ slots y.args, st.σ t = upd st.σ x.d v t := fun t ht => (hag t ht).symm
   have hus2 : getCs st y.ws = some us := zdj hus fun t ht => hag' t (List.mem_append_left _ ht)
   have hk := hbey hus2 hub hw
   obtain ⟨e1, e2⟩ := zll (x := x) (off := off) (m := st.m) hk
   obtain ⟨_, e3⟩ := zcK (s2 := st) (fun t ht => hag t (List.mem_append_right _ ht)) hn.args
   rw [hta] at e3
   have hlen : seen vs ≤ st.m.length := by have := hn.le; simp only [e2] at this; exact this
   have hcall := hn.call
   simp only [e1] at hcall
   refine ⟨_, (zgy hta).2 ⟨vs, q, ⟨fun t ht => by have := hn.ss t ht; simp only [hag t ht] at this; exact this, ⟨us, hus2, hub⟩, e3, hn.ok, hlen, hcall, hn.flat, hn.len, hn.res⟩, rfl⟩, ?_⟩
   obtain ⟨e4, e5⟩ := zmY (x := x) (off := off) (m := st.m) (m1 := q.2) hk hlen hn.len
   have hsx : ∀ t, t ∈ x.s :: x.w :: slots x.os → t ≠ y.d := fun t ht e => hdr (e ▸ ht)
   obtain ⟨us3, hus3, hap3⟩ := hl.os
   refine zcj.2 ⟨b, off, v, ⟨?_, ⟨o, ?_⟩, fun t ht => ?_, ⟨us3, ?_, hap3⟩, ?_, ?_, ?_, hl.root, hl.res⟩, ?_⟩
   ·simp only [upd, if_neg (hsx x.s (.head _)), killM, hl.p, zh5]
   ·simp only [upd, if_neg (hsx x.w (.tail _ (.head _))), killM, hw, zh5]
   ·simp only [upd, if_neg (hsx t (.tail _ (.tail _ ht))), killM]
    have := hl.ss t ht
    cases hσ : st.σ t with
    | place r => cases r <;> first | rfl | (rw [hσ] at this; exact this)
    | el r _ _ _ => cases r <;> first | rfl | (rw [hσ] at this; exact this)
    | _ => rw [hσ] at this; first | rfl | exact this
   ·exact zh6 hus3 hap3 fun t ht => by simp only [upd, if_neg (hsx t (.tail _ (.tail _ ht))), killM]
   ·simp only [yar, List.length_drop, hn.len]; have := hl.lt; omega
   ·simp only [e4]; exact hl.le
   ·simp only [e4]; exact hl.v
   ·simp only [e5, zfr (zfv hl.root)]
    rw [zdz hdd]
  ·intro st1 st2 h1 h2
   obtain ⟨vs, q, hn, rfl⟩ := (zgy hta).1 h1
   obtain ⟨b, off, v, hl, rfl⟩ := zcj.1 h2
   have hsx : ∀ t, t ∈ x.s :: x.w :: slots x.os → t ≠ y.d := fun t ht e => hdr (e ▸ ht)
   have hp := hl.p
   obtain ⟨o, hw⟩ := hl.wb
   simp only [upd, if_neg (hsx x.s (.head _)), killM] at hp
   simp only [upd, if_neg (hsx x.w (.tail _ (.head _))), killM] at hw
   have unk : ∀ {u : V} {b o : Nat}, killMV u = .ptr b o → u = .ptr b o := fun {u b o} h => by
    cases u with
    | place r => cases r <;> cases h
    | el r _ _ _ => cases r <;> cases h
    | _ => exact h
   have hp := unk hp
   have hw := unk hw
   obtain ⟨us, hus, hub⟩ := hn.ws
   have hk := hbey hus hub hw
   obtain ⟨e4, e5⟩ := zmY (x := x) (off := off) (m := st.m) (m1 := q.2) hk hn.le hn.len
   have hlt := hl.lt
   have hle := hl.le
   have hv := hl.v
   simp only [yar, List.length_drop, hn.len] at hlt
   simp only [e4] at hle hv
   obtain ⟨us3, hus3, hap3⟩ := hl.os
   have hlen := hn.le
   refine ⟨_, zcj.2 ⟨b, off, v, ⟨hp, ⟨o, hw⟩, fun t ht => ?_, ⟨us3, ?_, hap3⟩, by omega, hle, hv, hl.root, hl.res⟩, rfl⟩, ?_⟩
   ·exact zjo (zex hus3 hap3 fun t ht => by simp only [upd, if_neg (hsx t (.tail _ (.tail _ ht))), killM]) hap3 t ht
   ·exact zex hus3 hap3 fun t ht => by simp only [upd, if_neg (hsx t (.tail _ (.tail _ ht))), killM]
   ·obtain ⟨e1, e2⟩ := zll (x := x) (off := off) (m := st.m) hk
    obtain ⟨_, e3⟩ := zcK (s2 := { st with m := x.mem b off st.m, σ := upd st.σ x.d v }) (fun t ht => (hag t (List.mem_append_right _ ht)).symm) hn.args
    rw [hta] at e3
    refine (zgy hta).2 ⟨vs, q, ⟨fun t ht => by show rootOk false (upd st.σ x.d v t) = true; rw [hag t ht]; exact hn.ss t ht, ⟨us, zdj hus fun t ht => hag t (List.mem_append_left _ ht), hub⟩, e3, hn.ok, by simp only [e2]; exact hn.le, by simp only [e1]; exact hn.call, hn.flat, hn.len, hn.res⟩, ?_⟩
    simp only [e5, zfr (zfv hl.root)]
    rw [zdz hdd]
 ·cases h
def twoN (a b : AOper) : Bool := match a.lw?, b.lw? with
 | some x, some y => y.mode == .copy && x.os.any (fun o => o == .t y.w) && x.d != y.d && !((x.s :: x.w :: slots x.os).contains y.d) && !((y.s :: y.w :: slots y.os).contains x.d)
 | _, _ => false
theorem zjp {a b : AOper} (h : twoN a b = true) :
  (∀ {st1 st2 : St}, zay cf a st = some st1 → zay cf b st1 = some st2 → ∃ st3, zay cf b st = some st3 ∧ zay cf a st3 = some st2) ∧
  (∀ {st1 st2 : St}, zay cf b st = some st1 → zay cf a st1 = some st2 → ∃ st3, zay cf a st = some st3 ∧ zay cf b st3 = some st2) := by
 unfold twoN at h
 split at h
 ·rename_i x y ha hb
  simp only [yae, List.any_eq_true, beq_iff_eq, bne_iff_ne, Bool.not_eq_true', List.contains_eq_mem, decide_eq_false_iff_not] at h
  obtain ⟨⟨⟨⟨hyc, o, ho, rfl⟩, hdd⟩, hdx⟩, hdy⟩ := h
  obtain ⟨rfl, _, _⟩ := ziy ha
  obtain ⟨rfl, _, _⟩ := ziy hb
  have hsx : ∀ {v : V}, ∀ t ∈ x.s :: x.w :: slots x.os, upd st.σ y.d v t = st.σ t := fun {v} t ht => by simp only [upd]; rw [if_neg (show ¬ t = y.d from fun e => hdx (e ▸ ht))]
  have hsy : ∀ {v : V}, ∀ t ∈ y.s :: y.w :: slots y.os, upd st.σ x.d v t = st.σ t := fun {v} t ht => by simp only [upd]; rw [if_neg (show ¬ t = x.d from fun e => hdy (e ▸ ht))]
  have hym : ∀ {b off : Nat} {m : List (List V)}, y.mem b off m = m := fun {b off m} => by unfold LW.mem; rw [hyc]; rfl
  have hxm : ∀ {b off c : Nat} {m : List (List V)}, c ≠ b → (x.mem b off m).getD c [] = m.getD c [] ∧ (x.mem b off m).length = m.length := fun {b off c m} hc => by
   unfold LW.mem
   split
   ·refine ⟨?_, List.length_set ..⟩
    rw [yad, List.getElem?_set, if_neg (Ne.symm hc), yad]
   ·exact ⟨rfl, rfl⟩
  constructor
  ·intro st1 st2 h1 h2
   obtain ⟨b, off, v, hx, rfl⟩ := zcj.1 h1
   obtain ⟨c, off2, u, hy, rfl⟩ := zcj.1 h2
   obtain ⟨us, hus, hap⟩ := hx.os
   have hpy := hy.p
   obtain ⟨o2, hwy⟩ := hy.wb
   simp only [hsy y.s (.head _)] at hpy
   simp only [hsy y.w (.tail _ (.head _))] at hwy
   have hcb : c ≠ b := by
    obtain ⟨c', o', e, hne⟩ := hap _ (zfw hus ho)
    rw [hwy] at e
    simp only [V.ptr.injEq] at e
    exact e.1 ▸ hne
   obtain ⟨e1, e2⟩ := hxm (off := off) (m := st.m) hcb
   obtain ⟨us2, hus2, hap2⟩ := hy.os
   have hlt := hy.lt
   have hle := hy.le
   have hv := hy.v
   simp only [e2] at hlt
   simp only [e1] at hle hv
   refine ⟨_, zcj.2 ⟨c, off2, u, ⟨hpy, ⟨o2, hwy⟩, fun t ht => by have := hy.ss t ht; simp only [hsy t (.tail _ (.tail _ ht))] at this; exact this, ⟨us2, zdj hus2 fun t ht => (hsy t (.tail _ (.tail _ ht))).symm, hap2⟩, hlt, hle, hv, hy.root, hy.res⟩, rfl⟩, ?_⟩
   obtain ⟨o1, hwx⟩ := hx.wb
   refine zcj.2 ⟨b, off, v, ⟨(hsx x.s (.head _)).trans hx.p, ⟨o1, (hsx x.w (.tail _ (.head _))).trans hwx⟩, fun t ht => by show rootOk false (upd st.σ y.d u t) = true; rw [hsx t (.tail _ (.tail _ ht))]; exact hx.ss t ht, ⟨us, zdj hus fun t ht => hsx t (.tail _ (.tail _ ht)), hap⟩, by simp only [hym]; exact hx.lt, by simp only [hym]; exact hx.le, by simp only [hym]; exact hx.v, hx.root, hx.res⟩, ?_⟩
   simp only [hym]
   rw [zdz hdd]
  ·intro st1 st2 h1 h2
   obtain ⟨c, off2, u, hy, rfl⟩ := zcj.1 h1
   obtain ⟨b, off, v, hx, rfl⟩ := zcj.1 h2
   obtain ⟨us, hus, hap⟩ := hx.os
   have hus' : getCs st x.os = some us := zdj hus fun t ht => (hsx t (.tail _ (.tail _ ht))).symm
   obtain ⟨o2, hwy⟩ := hy.wb
   have hcb : c ≠ b := by
    obtain ⟨c', o', e, hne⟩ := hap _ (zfw hus' ho)
    rw [hwy] at e
    simp only [V.ptr.injEq] at e
    exact e.1 ▸ hne
   obtain ⟨e1, e2⟩ := hxm (off := off) (m := st.m) hcb
   obtain ⟨us2, hus2, hap2⟩ := hy.os
   have hpx := hx.p
   obtain ⟨o1, hwx⟩ := hx.wb
   simp only [hsx x.s (.head _)] at hpx
   simp only [hsx x.w (.tail _ (.head _))] at hwx
   have hlt := hx.lt
   have hle := hx.le
   have hv := hx.v
   simp only [hym] at hlt hle hv
   refine ⟨_, zcj.2 ⟨b, off, v, ⟨hpx, ⟨o1, hwx⟩, fun t ht => by have := hx.ss t ht; simp only [hsx t (.tail _ (.tail _ ht))] at this; exact this, ⟨us, hus', hap⟩, hlt, hle, hv, hx.root, hx.res⟩, rfl⟩, ?_⟩
   refine zcj.2 ⟨c, off2, u, ⟨(hsy y.s (.head _)).trans hy.p, ⟨o2, (hsy y.w (.tail _ (.head _))).trans hwy⟩, fun t ht => by show rootOk false (upd st.σ x.d v t) = true; rw [hsy t (.tail _ (.tail _ ht))]; exact hy.ss t ht, ⟨us2, zdj hus2 fun t ht => hsy t (.tail _ (.tail _ ht)), hap2⟩, by simp only [e2]; exact hy.lt, by simp only [e1]; exact hy.le, by simp only [e1]; exact hy.v, hy.root, hy.res⟩, ?_⟩
   simp only [hym]
   rw [zdz hdd]
 ·cases h
def zey (a b : AOper) : Bool := zl9 a b || zl9 b a || twoN a b || twoN b a
theorem zma {a b : AOper} (h : zey a b = true) {st1 st2 : St} (h1 : zay cf a st = some st1) (h2 : zay cf b st1 = some st2) : ∃ st3, zay cf b st = some st3 ∧ zay cf a st3 = some st2 := by
 simp only [zey, Bool.or_eq_true] at h
 rcases h with ((h | h) | h) | h
 ·exact (zh7 h).1 h1 h2
 ·exact (zh7 h).2 h1 h2
 ·exact (zjp h).1 h1 h2
 ·exact (zjp h).2 h1 h2
theorem zmb {a b : AOper} (h : zey a b = true) : a.guard = none ∧ b.guard = none := by
 have g1 : ∀ {a : AOper} {x : LW}, a.lw? = some x → a.guard = none := fun {a x} h => by rw [(ziy h).1]; rfl
 have g2 : ∀ {a : AOper} {x : NC}, a.ncall? = some x → a.guard = none := fun {a x} h => by rw [(zh3 h).1]; rfl
 have k1 : ∀ {a b : AOper}, zl9 a b = true → a.guard = none ∧ b.guard = none := fun {a b} h => by
  unfold zl9 at h
  split at h
  ·rename_i ha hb; exact ⟨g1 ha, g2 hb⟩
  ·cases h
 have k2 : ∀ {a b : AOper}, twoN a b = true → a.guard = none ∧ b.guard = none := fun {a b} h => by
  unfold twoN at h
  split at h
  ·rename_i ha hb; exact ⟨g1 ha, g1 hb⟩
  ·cases h
 simp only [zey, Bool.or_eq_true] at h
 rcases h with ((h | h) | h) | h
 ·exact k1 h
 ·exact (k1 h).symm
 ·exact k2 h
 ·exact (k2 h).symm
end
end Go.Proofs.YtakdnfneikbjjaaGreatDoor.Am
