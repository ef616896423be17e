/-
EscText answers true where the input is of bounded bulk; the input reads as it did.
-/
import Derived.Test.YtggbcchebiedjaaDoorAmEscTextRow5
import Derived.ChangeReads
import Derived.ChangeArms
import Derived.Carry
import Derived.OpenShut
import Derived.ChangeSame
import Derived.RowKit
import Derived.Test.YtggbcchebiedjaaDoorRows
import Derived.LaidSub
import Derived.Lib.LaidTab
import Derived.Test.YtggbcchebiedjaaDoorCards
import Derived.Test.YtggbcchebiedjaaDoorTie
import Derived.WalkKit
import Derived.ProofKit
import Derived.Deep.DeepHandedRow
set_option linter.all false
namespace Go.Proofs.YtggbcchebiedjaaDoor.Am.Esc
open Go.Proofs.YtggbcchebiedjaaDoor.Am.T
noncomputable def runE (p : ParserM) (b : List Int) : ParserM := b.foldl byteE p
def Z (p : ParserM) : ParserM := { p with out := [] }
theorem St.Z {n m : Nat} {p : ParserM} (h : St n m p) : St n 0 (Z p) :=
  ⟨⟨h.ok.inn, h.ok.wts, h.ok.pay, h.ok.int, h.ok.num⟩, Nat.le_refl _, fun a ha => by cases ha⟩
theorem feed_loop (b : List Int) (hb : Byts b) (hl : b.length ≤ 100000000) : ∀ (k i : Nat) (p : ParserM) (n m : Nat), i + k = b.length → St n m p → n + 2 * k ≤ 4611686018427387904 → m + 10 * k + 20 ≤ most →
    iter (fun s => esc_Parser_Feed_l1 b s.1 s.2 : (Int × ParserM) → Option ((Int × ParserM) ⊕ ParserM)) ((i : Int), p) = some (runE p (b.drop i)) ∧ St (n + 2 * k) (m + 10 * k) (runE p (b.drop i))
  | 0, i, p, n, m, hi, h, hN, hm => by
    rw [List.drop_of_length_le (by omega)]
    refine ⟨iter_inr ?_, h⟩
    simp only [esc_Parser_Feed_l1, letB]
    rw [decide_eq_false (by omega)]; rfl
  | k + 1, i, p, n, m, hi, h, hN, hm => by
    have hd : b.drop i = b.getD i 0 :: b.drop (i + 1) := by
      rw [List.getD_eq_getElem?_getD, List.getElem?_eq_getElem (by omega)]; exact List.drop_eq_getElem_cons (by omega)
    obtain ⟨e, s⟩ := feed_loop b hb hl k (i + 1) (byteE p (b.getD i 0)) (n + 2) (m + 10) (by omega) (h.byte (hb.get i) (by omega)) (by omega) (by omega)
    rw [hd]
    refine ⟨?_, s.mono (by omega) (by omega)⟩
    rw [iter_inl (s' := (((i + 1 : Nat) : Int), byteE p (b.getD i 0))) (by
      simp only [esc_Parser_Feed_l1, letB]
      rw [decide_eq_true (by omega), idx_is (d := 0) (by omega) (by omega)]
      simp only [cond_true, Option.bind_some, Int.toNat_natCast]
      rw [byte_is h (hb.get i) (by omega) (by omega), w64_id (by omega) (by omega)]; rfl), e]
    rfl
theorem Feed_is {n m : Nat} {p : ParserM} {b : List Int} (h : St n m p) (hb : Byts b) (hl : b.length ≤ 100000000) (hN : n + 2 * b.length ≤ 4611686018427387904) :
    esc_Parser_Feed p b = some ((runE (Z p) b).out, Z (runE (Z p) b)) ∧ St (n + 2 * b.length) (10 * b.length) (runE (Z p) b) := by
  have hmost := most_is
  obtain ⟨e, s⟩ := feed_loop b hb hl b.length 0 (Z p) n 0 (by omega) h.Z (by omega) (by omega)
  rw [List.drop_zero] at e s
  refine ⟨?_, s.mono (by omega) (by omega)⟩
  unfold esc_Parser_Feed
  have e' : iter (fun s => esc_Parser_Feed_l1 b s.1 s.2 : (Int × ParserM) → Option ((Int × ParserM) ⊕ ParserM)) (0, { p with out := [] }) = some (runE (Z p) b) := e
  rw [e']; rfl
theorem idle_is {p : ParserM} : esc_Parser_Idle p = some (decide (p.in_ = 0) && decide (p.text.waits.length = 0)) := by
  unfold esc_Parser_Idle glyph_Reader_Waits_in32_0
  simp only [letB, Option.bind_some]
  by_cases h : p.in_ = 0
  · rw [decide_eq_true h]
    by_cases h2 : p.text.waits.length = 0
    · rw [decide_eq_true h2, decide_eq_true (by omega : (p.text.waits.length : Int) = 0)]; rfl
    · rw [decide_eq_false h2, decide_eq_false (by omega : ¬ (p.text.waits.length : Int) = 0)]; rfl
  · rw [decide_eq_false h]; rfl
theorem sameInts_loop (a : List Int) (hl : a.length ≤ most) : ∀ (k i : Nat), i + k = a.length →
    iter (fun s => casementref01_SameInts_l1 a a s : Int → Option (Int ⊕ (Unit ⊕ Unit))) (i : Int) = some (.inr ())
  | 0, i, hi => iter_inr (by
      simp only [casementref01_SameInts_l1, letB]
      rw [decide_eq_false (by omega)]; rfl)
  | k + 1, i, hi => by
    have hm := most_is
    rw [iter_inl (s' := ((i + 1 : Nat) : Int)) (by
      simp only [casementref01_SameInts_l1, letB]
      rw [decide_eq_true (by omega), idx_is (d := 0) (by omega) (by omega)]
      simp only [cond_true, Option.bind_some, Int.toNat_natCast]
      rw [decide_eq_false (by simp), w64_id (by omega) (by omega)]; rfl)]
    exact sameInts_loop a hl k (i + 1) (by omega)
theorem sameInts_self {a : List Int} (hl : a.length ≤ most) : casementref01_SameInts a a = some true := by
  unfold casementref01_SameInts
  simp only [letB]
  rw [decide_eq_false (by simp)]
  have := sameInts_loop a hl a.length 0 (by omega)
  simp only [cond_false]
  have e : iter (fun s => casementref01_SameInts_l1 a a s : Int → Option (Int ⊕ (Unit ⊕ Unit))) 0 = some (.inr ()) := this
  rw [e]; rfl
def p0 : ParserM := ParserM.mk (Reader.mk []) 0 false false (ActM.mk 0 0 0 0 [] (some []) []) 0 [] []
theorem St.zero : St 0 0 p0 :=
  ⟨⟨⟨Int.le_refl _, by decide⟩, ⟨fun _ hx => (by cases hx), Nat.zero_le _⟩, ⟨fun _ hx => (by cases hx), Nat.zero_le _⟩, Nat.zero_le _, fun e => by exact absurd e (show ¬((0 : Int) = 2) by omega)⟩, Nat.le_refl _, fun _ ha => by cases ha⟩
theorem gF_97 : gF [97] = ([97], []) := by
  have h1 : unicode_utf8_FullRune [97] = some true := by decide +kernel
  have h2 : unicode_utf8_DecodeRune [97] = some (97, 1) := by
    unfold unicode_utf8_DecodeRune
    rw [iter_inr (r := .inl 97) (by decide +kernel)]; rfl
  have h3 : unicode_utf8_FullRune [] = some false := by decide +kernel
  unfold gF
  rw [iter_inl (s' := ([97], [])) (by simp only [glyph_Reader_Feed_in32_0_l1, h1, h2, Option.bind_some]; rfl)]
  rw [iter_inr (r := ([97], [])) (by simp only [glyph_Reader_Feed_in32_0_l1, h3, Option.bind_some]; rfl)]; rfl
theorem gF_195 : gF [195] = ([], [195]) := by
  have h3 : unicode_utf8_FullRune [195] = some false := by decide +kernel
  unfold gF
  rw [iter_inr (r := ([], [195])) (by simp only [glyph_Reader_Feed_in32_0_l1, h3, Option.bind_some]; rfl)]; rfl
theorem byts_of {l : List Int} (h : (l.all fun x => decide (0 ≤ x ∧ x < 256)) = true) : Byts l := fun x hx => of_decide_eq_true (List.all_eq_true.1 h x hx)
theorem plain_of {p : ParserM} {c : Int} {rs w : List Int} (h : gF (p.text.waits ++ [c]) = (rs, w)) : plainE p c = putE { p with text := ⟨w⟩ } (rs.map pr) := by
  unfold plainE; rw [h]
end Go.Proofs.YtggbcchebiedjaaDoor.Am.Esc

set_option linter.all false
namespace Go.Proofs.YtggbcchebiedjaaDoor.Am.Esc
open Go.Proofs.YtggbcchebiedjaaDoor.Am.T
deriving instance DecidableEq for Reader, ActM, Act, ParserM
def q1 : ParserM := ⟨⟨[]⟩, 0, false, false, ⟨4, 0, 72, 0, [], none, []⟩, 3, [], []⟩
def q2 : ParserM := ⟨⟨[]⟩, 0, false, true, ⟨0, 0, 93, 0, [], some [], []⟩, 0, [48, 59, 104, 105], []⟩
def q3 : ParserM := ⟨⟨[]⟩, 0, false, true, ⟨0, 0, 0, 0, [40], some [], []⟩, 0, [], []⟩
def q4 : ParserM := ⟨⟨[]⟩, 0, false, false, ⟨4, 0, 109, 0, [], none, []⟩, 0, [], []⟩
def as1 : List Act := [⟨1, 97, 0, 0, [], [], []⟩, ⟨4, 0, 72, 0, [], [1, -1, 5], []⟩]
def as2 : List Act := [⟨5, 0, 93, 0, [], [], [48, 59, 104, 105]⟩]
def as3 : List Act := [⟨3, 0, 66, 0, [40], [], []⟩]
def as4 : List Act := [⟨1, 65533, 0, 0, [], [], []⟩, ⟨4, 0, 109, 0, [], [], []⟩]
theorem run_cons {p : ParserM} {c : Int} {l : List Int} : runE p (c :: l) = runE (byteE p c) l := rfl
theorem run1 : runE (Z p0) [97, 27, 91, 49, 59, 59, 53, 72] = { q1 with out := as1 } := by
  have h : byteE (Z p0) 97 = putE p0 [pr 97] := by
    show plainE (Z p0) 97 = _
    rw [plain_of (p := Z p0) (c := 97) (rs := [97]) (w := []) gF_97]; rfl
  rw [run_cons, h]; decide +kernel
theorem run2 : runE (Z q1) [27, 93, 48, 59, 104, 105, 7] = { q2 with out := as2 } := by decide +kernel
theorem run3 : runE (Z q2) [27, 40, 66] = { q3 with out := as3 } := by decide +kernel
theorem run4 : runE (Z q3) [195, 27, 91, 109] = { q4 with out := as4 } := by
  have h : byteE (Z q3) 195 = { q3 with text := ⟨[195]⟩ } := by
    show plainE (Z q3) 195 = _
    rw [plain_of (p := Z q3) (c := 195) (rs := []) (w := [195]) gF_195]; rfl
  rw [run_cons, h]; decide +kernel
theorem feed_ex {n m : Nat} {p q : ParserM} {b : List Int} {zs : List Act} (h : St n m p) (hn : n ≤ 1000) (hb : (b.all fun x => decide (0 ≤ x ∧ x < 256)) = true) (hl : b.length ≤ 1000) (hq : runE (Z p) b = { q with out := zs }) (hz : q.out = []) :
    esc_Parser_Feed p b = some (zs, q) ∧ St (n + 2 * b.length) (10 * b.length) q := by
  obtain ⟨e, s⟩ := Feed_is h (byts_of hb) (by omega) (by omega)
  rw [hq] at e s
  have hq' : Z { q with out := zs } = q := by
    show { q with out := [] } = q
    rw [← hz]
  refine ⟨by rw [e, hq'], ?_⟩
  have := s.Z
  rw [hq'] at this
  exact this.mono (Nat.le_refl _) (by omega)
theorem csi_ex : esc_Csi 63 [25] 104 = some [27, 91, 63, 50, 53, 104] := by
  have h1 : app ([27, 91] : List Int) [63] = some [27, 91, 63] := app_some (by simp [most_is])
  have h2 : subB ([25] : List Int) (min (([25] : List Int).length : Int) 16) = some [25] := by decide +kernel
  have h3 : esc_Csi_l1 [25] [27, 91, 63] 0 = some (.inl ([27, 91, 63, 50, 53], 1)) := by decide +kernel
  have h4 : esc_Csi_l1 [25] [27, 91, 63, 50, 53] 1 = some (.inr [27, 91, 63, 50, 53]) := by decide +kernel
  have h5 : iter (fun s => esc_Csi_l1 [25] s.1 s.2 : (List Int × Int) → Option ((List Int × Int) ⊕ List Int)) ([27, 91, 63], 0) = some [27, 91, 63, 50, 53] := by
    revert h3 h4
    generalize esc_Csi_l1 [25] = f
    intro h3 h4
    rw [iter_inl (s' := ([27, 91, 63, 50, 53], 1)) (by exact h3), iter_inr (by exact h4)]
  have h6 : app ([27, 91, 63, 50, 53] : List Int) [104] = some [27, 91, 63, 50, 53, 104] := app_some (by simp [most_is])
  unfold esc_Csi
  simp only [letB]
  show ((app [27, 91] [63]).bind fun x3 => some x3).bind _ = _
  rw [h1]
  simp only [Option.bind_some, h2, h5, h6]
theorem alive_is : casementlaw04_alive = some true := by
  obtain ⟨e1, s1⟩ := feed_ex (q := q1) (zs := as1) St.zero (by omega) (by decide) (by decide) run1 rfl
  obtain ⟨e2, s2⟩ := feed_ex (q := q2) (zs := as2) s1 (by decide) (by decide) (by decide) run2 rfl
  obtain ⟨e3, s3⟩ := feed_ex (q := q3) (zs := as3) s2 (by decide) (by decide) (by decide) run3 rfl
  obtain ⟨e4, s4⟩ := feed_ex (q := q4) (zs := as4) s3 (by decide) (by decide) (by decide) run4 rfl
  unfold casementlaw04_alive
  rw [show (ParserM.mk (Reader.mk []) 0 false false (ActM.mk 0 0 0 0 [] (some []) []) 0 [] []) = p0 from rfl, e1]
  simp only [Option.bind_some]
  rw [e2]
  simp only [Option.bind_some]
  rw [e3]
  simp only [Option.bind_some]
  rw [e4]
  simp only [Option.bind_some]
  have i1 : idx as1 0 = some ⟨1, 97, 0, 0, [], [], []⟩ := rfl
  have i2 : idx as1 1 = some ⟨4, 0, 72, 0, [], [1, -1, 5], []⟩ := rfl
  have i3 : idx as2 0 = some ⟨5, 0, 93, 0, [], [], [48, 59, 104, 105]⟩ := rfl
  have i4 : idx as3 0 = some ⟨3, 0, 66, 0, [40], [], []⟩ := rfl
  have i5 : idx as4 0 = some ⟨1, 65533, 0, 0, [], [], []⟩ := rfl
  have i6 : idx as4 1 = some ⟨4, 0, 109, 0, [], [], []⟩ := rfl
  have hs : casementref01_SameInts [1, -1, 5] [1, -1, 5] = some true := sameInts_self (by decide)
  have hb : bstr [27, 91, 63, 50, 53, 104] = some [27, 91, 63, 50, 53, 104] := rfl
  simp only [i1, i2, i3, i4, i5, i6, Option.bind_some, hs, csi_ex, hb, idle_is, letB]
  decide +kernel
end Go.Proofs.YtggbcchebiedjaaDoor.Am.Esc

set_option linter.all false
namespace Go.Proofs.YtggbcchebiedjaaDoor.Am.Esc
open Go.Proofs.YtggbcchebiedjaaDoor.Am.T
theorem run_app {p : ParserM} {a b : List Int} : runE p (a ++ b) = runE (runE p a) b := List.foldl_append
theorem St.run {b : List Int} : ∀ {p : ParserM} {n m : Nat}, St n m p → Byts b → n + 2 * b.length ≤ 4611686018427387904 → St (n + 2 * b.length) (m + 10 * b.length) (runE p b) := by
  induction b with
  | nil => intro p n m h _ _; exact h
  | cons c b ih =>
    intro p n m h hb hN
    rw [List.length_cons] at hN ⊢
    rw [run_cons]
    exact (ih (h.byte (hb c List.mem_cons_self) (by omega)) (fun x hx => hb x (.tail _ hx)) (by omega)).mono (by omega) (by omega)
theorem Byts.take {l : List Int} (h : Byts l) (n : Nat) : Byts (l.take n) := fun x hx => h x (List.mem_of_mem_take hx)
def Sim (p q : ParserM) : Prop := p.text = q.text ∧ p.in_ = q.in_ ∧ p.out = q.out ∧ (p.in_ ≠ 0 → p = q)
theorem Sim.refl {p : ParserM} : Sim p p := ⟨rfl, rfl, rfl, fun _ => rfl⟩
theorem Sim.byte {p q : ParserM} {c : Int} (h : Sim p q) : Sim (byteE p c) (byteE q c) := by
  by_cases h0 : p.in_ = 0
  case neg => rw [h.2.2.2 h0]; exact .refl
  have hf : Sim (flushE p c) (flushE q c) ∧ (flushE p c).in_ = 0 := by
    unfold flushE restE putE
    split
    · exact ⟨⟨rfl, h.2.1, by show _ ++ _ = _ ++ _; rw [h.1, h.2.2.1], fun hn => absurd h0 hn⟩, h0⟩
    · exact ⟨h, h0⟩
  obtain ⟨hf, h0⟩ := hf
  have h0' : (flushE q c).in_ = 0 := by rw [← hf.2.1]; exact h0
  unfold byteE
  rw [if_neg (by omega), if_neg (by omega), if_neg (by omega), if_neg (by omega)]
  revert hf h0 h0'
  generalize flushE p c = p
  generalize flushE q c = q
  intro h h0 h0'
  unfold outE
  split
  · exact ⟨h.1, rfl, h.2.2.1, fun hn => absurd rfl hn⟩
  split
  · have : beginE p 1 = beginE q 1 := by unfold beginE; rw [h.1, h.2.2.1]
    rw [this]; exact .refl
  split
  · exact ⟨h.1, h.2.1, by show _ ++ _ = _ ++ _; rw [h.2.2.1], fun hn => absurd h0 hn⟩
  split
  · unfold onE
    rw [if_neg (by omega), if_neg (by omega), if_neg (by omega), if_neg (by omega)]
    unfold plainE putE
    exact ⟨by show Reader.mk _ = Reader.mk _; rw [h.1], h.2.1, by show _ ++ _ = _ ++ _; rw [h.1, h.2.2.1], fun hn => absurd h0 hn⟩
  · exact h
theorem Sim.run {b : List Int} : ∀ {p q : ParserM}, Sim p q → Sim (runE p b) (runE q b) := by
  induction b with
  | nil => intro p q h; exact h
  | cons c b ih => intro p q h; rw [run_cons, run_cons]; exact ih h.byte
end Go.Proofs.YtggbcchebiedjaaDoor.Am.Esc

set_option linter.all false
namespace Go.Proofs.YtggbcchebiedjaaDoor.Am.Esc
open Go.Proofs.YtggbcchebiedjaaDoor.Am.T
def low (x : Int) : Int := w8 (32 + (iAnd .u8 x 15))
end Go.Proofs.YtggbcchebiedjaaDoor.Am.Esc

namespace Go.Proofs.YtggbcchebiedjaaDoor.Am
inductive Fits (P : Program) : TypeId → List V → Prop
  | bool {t : TypeId} (b : Bool) (h : P.underlying t = some .bool) : Fits P t [.bool b]
  | int {t : TypeId} {k : IntKind} (n : Int) (h : P.underlying t = some (.int k)) (hn : (Lit.int k n).wf = true) : Fits P t [.int k n]
  | str {t : TypeId} (s : List UInt8) (h : P.underlying t = some .string) (hs : s.length ≤ maxLen) : Fits P t [.str s]
  | nils {t e : TypeId} (h : P.underlying t = some (.slice e)) : Fits P t [.nils]
  | slice {t e : TypeId} (xs : List (List V)) (h : P.underlying t = some (.slice e)) (hl : xs.length ≤ maxLen) (hx : ∀ i, i < xs.length → Fits P e (xs.getD i [])) : Fits P t [.slice false (P.cellsOf e) xs]
  | struct {t : TypeId} {fs : Array Field} (cs : List V) (h : P.underlying t = some (.struct fs)) (hl : cs.length = P.cellsOf t) (hf : ∀ f ∈ fs.toList, Fits P f.type ((cs.drop f.offset).take (P.cellsOf f.type))) : Fits P t cs
  | array {t e : TypeId} {n : Nat} (cs : List V) (h : P.underlying t = some (.array n e)) (hl : cs.length = P.cellsOf t) (hf : ∀ i, i < n → Fits P e ((cs.drop (i * P.cellsOf e)).take (P.cellsOf e))) : Fits P t cs
def tiles (P : Program) : Nat → List Field → Nat → Bool
  | n, [], m => n == m
  | n, f :: fs, m => f.offset == n && tiles P (n + P.cellsOf f.type) fs m
def supT (P : Program) : Nat → TypeId → Bool
  | 0, _ => false
  | d + 1, t => match P.underlying t with
    | some .bool | some (.int _) | some .string => P.cellsOf t == 1
    | some (.slice e) => P.cellsOf t == 1 && decide (0 < P.cellsOf e) && supT P d e
    | some (.struct fs) => tiles P 0 fs.toList (P.cellsOf t) && fs.toList.all fun f => supT P d f.type
    | some (.array n e) => P.cellsOf t == n * P.cellsOf e && supT P d e
    | _ => false
section
variable {P : Program} {H : Type} {enc : TypeId × Value → H} {W : World}
def blocksOf (W : World) : Nat → Prop := fun c => c < W.heap.size
theorem cell_block {a : Addr} {v : Value} (h : W.cell? a = some v) : a.block < W.heap.size ∧ a.spot = none := by
  unfold World.cell? at h
  cases hb : W.heap[a.block]? with
  | none => rw [hb] at h; cases h
  | some o =>
    rw [hb] at h
    refine ⟨(Array.getElem?_eq_some_iff.1 hb).1, ?_⟩
    cases o with
    | cells c _ _ =>
      simp only at h
      split at h
      · cases h
      · rename_i hs; simpa using hs
    | _ => cases h
def Reads (P : Program) (W : World) (t : TypeId) (cs : List Value) : Prop :=
  ∃ vs : List V, vs.length = cs.length ∧ Fits P t vs ∧ ∀ k, k < cs.length → RB (blocksOf W) W (vs.getD k .undef) (cs.getD k undef)
theorem trod_array {n : Nat} {e t : TypeId} {base fuel : Nat} {sp : Nat → Bool} {held : Bool} {cs : List Value} {x : DataW H × List MemPlace} (ht : P.underlying t = some (.array n e)) (h : DataW.trod enc P W base sp held fuel t cs = some x) :
    cs.length = P.cellsOf t ∧ ∃ m, ∀ i, i < n → ∃ y, DataW.trod enc P W base sp held m e ((cs.drop (i * P.cellsOf e)).take (P.cellsOf e)) = some y := by
  cases fuel with
  | zero => simp [DataW.trod] at h
  | succ m =>
    unfold DataW.trod at h
    rw [ht] at h
    split at h <;> simp_all
    obtain ⟨hl, xs, hp, hd⟩ := h
    refine ⟨m, fun i hi => ?_⟩
    have h1 := mapM_some_length hp
    have h2 := mapM_some_get hp i i (by simp [hi])
    simp only [List.length_range] at h1
    rw [List.getElem?_eq_getElem (by omega)] at h2
    exact ⟨_, _, h2⟩
def RBs (W : World) (vs : List V) (cs : List Value) : Prop := vs.length = cs.length ∧ ∀ k, k < cs.length → RB (blocksOf W) W (vs.getD k .undef) (cs.getD k undef)
theorem RBs.append {vs us : List V} {cs ds : List Value} (h : RBs W vs cs) (k : RBs W us ds) : RBs W (vs ++ us) (cs ++ ds) := by
  refine ⟨by simp [h.1, k.1], fun i hi => ?_⟩
  simp only [List.getD_eq_getElem?_getD]
  have h1 := h.1
  by_cases hlt : i < cs.length
  · have := h.2 i hlt
    simp only [List.getD_eq_getElem?_getD] at this
    rw [List.getElem?_append_left (by omega), List.getElem?_append_left hlt]; exact this
  · rw [List.length_append] at hi
    have := k.2 (i - cs.length) (by omega)
    simp only [List.getD_eq_getElem?_getD] at this
    rw [List.getElem?_append_right (by omega), List.getElem?_append_right (by omega), h1]; exact this
theorem reads_iff {t : TypeId} {cs : List Value} : Reads P W t cs ↔ ∃ vs, Fits P t vs ∧ RBs W vs cs :=
  ⟨fun ⟨vs, a, b, c⟩ => ⟨vs, b, a, c⟩, fun ⟨vs, b, a, c⟩ => ⟨vs, a, b, c⟩⟩
theorem fields_of {cs : List Value} : ∀ {fs : List Field} {n m : Nat}, tiles P n fs m = true → m ≤ cs.length → (∀ f ∈ fs, Reads P W f.type ((cs.drop f.offset).take (P.cellsOf f.type))) →
    n ≤ m ∧ ∃ vs, RBs W vs ((cs.drop n).take (m - n)) ∧ ∀ f ∈ fs, n ≤ f.offset ∧ Fits P f.type ((vs.drop (f.offset - n)).take (P.cellsOf f.type))
  | [], n, m, ht, hm, _ => by
    have : n = m := by simpa [tiles] using ht
    subst this
    exact ⟨Nat.le_refl _, [], ⟨by simp, fun k hk => absurd hk (by simp)⟩, fun f hf => by cases hf⟩
  | f :: fs, n, m, ht, hm, hr => by
    simp only [tiles, Bool.and_eq_true, beq_iff_eq] at ht
    obtain ⟨h0, ht⟩ := ht
    obtain ⟨hle, vs, hvs, hfs⟩ := fields_of ht hm fun g hg => hr g (.tail _ hg)
    obtain ⟨us, hfit, hus⟩ := reads_iff.1 (hr f (.head _))
    rw [h0] at hus
    have hul : us.length = P.cellsOf f.type := by rw [hus.1]; simp; omega
    have hsplit : (cs.drop n).take (m - n) = (cs.drop n).take (P.cellsOf f.type) ++ (cs.drop (n + P.cellsOf f.type)).take (m - (n + P.cellsOf f.type)) := by
      rw [← List.drop_drop, ← List.take_add]
      congr 1
      omega
    refine ⟨by omega, us ++ vs, by rw [hsplit]; exact hus.append hvs, fun g hg => ?_⟩
    cases hg with
    | head =>
      refine ⟨by omega, ?_⟩
      rw [h0, Nat.sub_self, List.drop_zero, List.take_append_of_le_length (by omega), List.take_of_length_le (by omega)]
      exact hfit
    | tail _ hg =>
      obtain ⟨h1, h2⟩ := hfs g hg
      refine ⟨by omega, ?_⟩
      rw [List.drop_append, List.drop_eq_nil_of_le (by omega), List.nil_append, hul]
      rw [show g.offset - n - P.cellsOf f.type = g.offset - (n + P.cellsOf f.type) from by omega]
      exact h2
theorem elems_of {cs : List Value} {e : TypeId} : ∀ {n : Nat}, n * P.cellsOf e ≤ cs.length → (∀ i, i < n → Reads P W e ((cs.drop (i * P.cellsOf e)).take (P.cellsOf e))) →
    ∃ vs, RBs W vs (cs.take (n * P.cellsOf e)) ∧ ∀ i, i < n → Fits P e ((vs.drop (i * P.cellsOf e)).take (P.cellsOf e))
  | 0, _, _ => ⟨[], ⟨by simp, fun k hk => absurd hk (by simp)⟩, fun i hi => absurd hi (by omega)⟩
  | n + 1, hn, hr => by
    have hs : (n + 1) * P.cellsOf e = n * P.cellsOf e + P.cellsOf e := Nat.succ_mul _ _
    obtain ⟨vs, hvs, hfs⟩ := elems_of (n := n) (by omega) fun i hi => hr i (by omega)
    obtain ⟨us, hfit, hus⟩ := reads_iff.1 (hr n (by omega))
    have hvl : vs.length = n * P.cellsOf e := by rw [hvs.1]; simp; omega
    have hul : us.length = P.cellsOf e := by rw [hus.1]; simp; omega
    refine ⟨vs ++ us, by rw [hs, List.take_add]; exact hvs.append hus, fun i hi => ?_⟩
    by_cases hin : i = n
    · subst hin
      rw [List.drop_append, List.drop_eq_nil_of_le (by omega), List.nil_append, hvl, Nat.sub_self, List.drop_zero, List.take_of_length_le (by omega)]
      exact hfit
    · have h1 := hfs i (by omega)
      have h2 : i * P.cellsOf e + P.cellsOf e ≤ n * P.cellsOf e := by rw [← Nat.succ_mul]; exact Nat.mul_le_mul_right _ (by omega)
      rw [List.drop_append_of_le_length (by omega), List.take_append_of_le_length (by simp; omega)]
      exact h1
theorem list_choose {α : Type} {n : Nat} {p : Nat → α → Prop} (h : ∀ i, i < n → ∃ x, p i x) : ∃ l : List α, l.length = n ∧ ∀ i x, l[i]? = some x → p i x := by
  induction n with
  | zero => exact ⟨[], rfl, fun i x hx => by simp at hx⟩
  | succ n ih =>
    obtain ⟨l, hl, hp⟩ := ih fun i hi => h i (by omega)
    obtain ⟨x, hx⟩ := h n (by omega)
    refine ⟨l ++ [x], by simp [hl], fun i y hy => ?_⟩
    by_cases hi : i < l.length
    · rw [List.getElem?_append_left hi] at hy; exact hp i y hy
    · rw [List.getElem?_append_right (by omega)] at hy
      have : i - l.length = 0 := by
        rcases Nat.eq_zero_or_pos (i - l.length) with h0 | h0
        · exact h0
        · rw [List.getElem?_eq_none (by simp; omega)] at hy; cases hy
      rw [this] at hy
      simp only [List.getElem?_cons_zero, Option.some.injEq] at hy
      subst hy
      have : i = n := by omega
      subst this; exact hx
theorem reads_of : ∀ {d : Nat} {t : TypeId}, supT P d t = true → ∀ {fuel : Nat} {held : Bool} {cs : List Value} {x : DataW H × List MemPlace}, DataW.trod enc P W 0 (fun _ => true) held fuel t cs = some x → Reads P W t cs := by
  intro d
  induction d with
  | zero => intro t h; cases h
  | succ d ih =>
    intro t h fuel held cs x hx
    simp only [supT] at h
    split at h
    · rename_i ht
      obtain ⟨b, rfl, _⟩ := DataW.trod_bool ht hx
      exact ⟨[.bool b], rfl, .bool b ht, fun k hk => by
        have : k = 0 := by simpa using hk
        subst this; exact .bool b⟩
    · rename_i kk ht
      obtain ⟨n, rfl, _, hwf⟩ := DataW.trod_int ht hx
      exact ⟨[.int kk n], rfl, .int n ht hwf, fun k hk => by
        have : k = 0 := by simpa using hk
        subst this; exact .int kk n⟩
    · rename_i ht
      obtain ⟨s, rfl, _, hs⟩ := DataW.trod_string ht hx
      exact ⟨[.str s.data.toList], rfl, .str _ ht (by simpa using hs), fun k hk => by
        have : k = 0 := by simpa using hk
        subst this; exact .str s⟩
    · rename_i e ht
      simp only [Bool.and_eq_true, beq_iff_eq, decide_eq_true_eq] at h
      obtain ⟨⟨_, hpos⟩, hsup⟩ := h
      rcases DataW.trod_slice ht hx with ⟨rfl, _⟩ | ⟨a, len, cap, elems, rest, n, _, rfl, _, _, hlc, hcap, hel, he, hre, _⟩
      · exact ⟨[.nils], rfl, .nils ht, fun k hk => by
          have : k = 0 := by simpa using hk
          subst this; exact .nils⟩
      · have hone : ∀ i, i < len → ∃ vs : List V, Fits P e vs ∧ vs.length = P.cellsOf e ∧ ∀ k, k < P.cellsOf e → ∃ v, W.cell? ((a.add (i * P.cellsOf e)).add k) = some v ∧ RB (blocksOf W) W (vs.getD k .undef) v := fun i hi => by
          have h1 := he i hi
          rw [List.getElem?_eq_getElem (by omega)] at h1
          simp only [Option.bind_eq_some_iff] at h1
          obtain ⟨cs', hc1, hc2⟩ := h1
          obtain ⟨_, hl, hc⟩ := World.cells?_some hc1
          obtain ⟨vs, hf, hr⟩ := reads_iff.1 (ih hsup hc2)
          refine ⟨vs, hf, by rw [hr.1, hl], fun k hk => ⟨cs'.getD k undef, ?_, hr.2 k (by omega)⟩⟩
          rw [hc k hk, List.getD_eq_getElem?_getD, List.getElem?_eq_getElem (by omega)]; rfl
        obtain ⟨xs, hxl, hxs⟩ := list_choose hone
        have hxs' : ∀ i, i < xs.length → Fits P e (xs.getD i []) ∧ (xs.getD i []).length = P.cellsOf e ∧ ∀ k, k < P.cellsOf e → ∃ v, W.cell? ((a.add (i * P.cellsOf e)).add k) = some v ∧ RB (blocksOf W) W ((xs.getD i []).getD k .undef) v := fun i hi => by
          rw [List.getD_eq_getElem?_getD, List.getElem?_eq_getElem hi]
          exact hxs i _ (List.getElem?_eq_getElem hi)
        have hblk : 0 < cap → a.block < W.heap.size ∧ a.spot = none := fun hc0 => by
          have h00 : (a.add (0 * P.cellsOf e)).add 0 = a := by simp [Addr.add]
          have hcell : ∃ v, W.cell? a = some v := by
            by_cases h0 : 0 < len
            · obtain ⟨v, hv, _⟩ := (hxs' 0 (by omega)).2.2 0 hpos
              rw [h00] at hv
              exact ⟨v, hv⟩
            · have h1 := (hre rfl).2 0 (by omega)
              have h2 := (hre rfl).1
              have hl0 : len = 0 := by omega
              subst hl0
              rw [List.getElem?_eq_getElem (by omega)] at h1
              simp only [Option.bind_eq_some_iff] at h1
              obtain ⟨cs', hc1, _⟩ := h1
              obtain ⟨_, hl, hc⟩ := World.cells?_some hc1
              have h3 := hc 0 hpos
              rw [Nat.add_zero, h00, List.getElem?_eq_getElem (by omega)] at h3
              exact ⟨_, h3⟩
          obtain ⟨v, hv⟩ := hcell
          exact cell_block hv
        refine ⟨[.slice false (P.cellsOf e) xs], rfl, .slice xs ht (by omega) (fun i hi => (hxs' i hi).1), fun k hk => ?_⟩
        have : k = 0 := by simpa using hk
        subst this
        simp only [List.getD_cons_zero]
        refine RB.slice_iff.2 ⟨a, cap, by rw [hxl], fun hc0 => (hblk hc0).2, fun hc0 => (hblk hc0).1, by omega, fun i hi => (hxs' i hi).2.1, fun i k hi hk => ?_⟩
        obtain ⟨v, hv, hr⟩ := (hxs' i hi).2.2 k hk
        refine ⟨v, ?_, hr⟩
        have hsp := (hblk (by omega)).2
        rw [addr_add hsp, addr_add rfl] at hv
        rw [← hv]
        simp [Nat.add_assoc]
    · rename_i fs ht
      simp only [Bool.and_eq_true, List.all_eq_true] at h
      obtain ⟨htile, hall⟩ := h
      obtain ⟨xs, n, _, _, hl, hxl, hf⟩ := DataW.trod_struct ht hx
      obtain ⟨_, vs, hvs, hfs⟩ := fields_of (P := P) (W := W) (cs := cs) htile (by omega) fun f hfm => by
        obtain ⟨i, hi⟩ := List.getElem?_of_mem hfm
        have hi' : i < fs.size := by have := (List.getElem?_eq_some_iff.1 hi).1; simpa using this
        have h1 := hf i f (by simpa using hi)
        rw [List.getElem?_eq_getElem (by omega)] at h1
        exact ih (hall f hfm) h1
      rw [List.drop_zero, Nat.sub_zero, List.take_of_length_le (by omega)] at hvs
      exact reads_iff.2 ⟨vs, .struct vs ht (by rw [hvs.1, hl]) (fun f hfm => by simpa using (hfs f hfm).2), hvs⟩
    · rename_i n e ht
      simp only [Bool.and_eq_true, beq_iff_eq] at h
      obtain ⟨hsz, hsup⟩ := h
      obtain ⟨hl, m, hm⟩ := trod_array ht hx
      obtain ⟨vs, hvs, hfs⟩ := elems_of (P := P) (W := W) (cs := cs) (e := e) (n := n) (by omega) fun i hi => by
        obtain ⟨y, hy⟩ := hm i hi
        exact ih hsup hy
      rw [List.take_of_length_le (by omega)] at hvs
      exact reads_iff.2 ⟨vs, .array vs ht (by rw [hvs.1, hl]) hfs, hvs⟩
    · cases h
end
end Go.Proofs.YtggbcchebiedjaaDoor.Am

namespace Go.Proofs.YtggbcchebiedjaaDoor.Am
section
variable {P : Program} {W : World}
inductive ArgOK (W : World) : V → Value → Prop
  | leaf {x : V} {v : Value} (h : RB (blocksOf W) W x v) : ArgOK W x v
  | agg (cs : List V) (arr : Array Value) (hs : arr.size = cs.length) (h : ∀ k, k < cs.length → RB (blocksOf W) W (cs.getD k .undef) (arr.getD k undef)) : ArgOK W (.agg cs) (.agg arr)
def g0 (W : World) : G := ⟨id, id, fun _ => False, blocksOf W⟩
theorem RB.toR1 {x : V} {v : Value} (h : RB (blocksOf W) W x v) : R1 (g0 W) W 0 x v := by
  cases h with
  | func f => exact ⟨#[], rfl, rfl, fun k hk => absurd hk (by simp)⟩
  | bool b => exact RB.bool b
  | int k n => exact RB.int k n
  | str b => exact RB.str b
  | nilp => exact RB.nilp
  | nils => exact RB.nils
  | nilf => exact RB.nilf
  | nili => exact RB.nili
  | slice sz xs a cap vs hs hp hc hz hv hr => exact RB.slice sz xs a cap vs hs hp hc hz hv hr
theorem RB.ok0 {x : V} {v : Value} (h : RB (blocksOf W) W x v) : x.ok0 = true := by
  cases h <;> rfl
theorem RB.cnt {x : V} {v : Value} (h : RB (blocksOf W) W x v) (c : Nat) : cnt0 c x v = 0 := by
  cases h <;> rfl
theorem ArgOK.r3 {x : V} {v : Value} (h : ArgOK W x v) (τ : Nat → Value) : R3 (g0 W) W 0 τ x v := by
  cases h with
  | leaf h =>
    have h1 := h.toR1
    cases h <;> exact h1
  | agg cs arr hs h => exact ⟨arr, rfl, hs, fun k hk => ⟨.inl (h k hk).ok0, (h k hk).toR1⟩⟩
theorem ArgOK.okArg {x : V} {v : Value} (h : ArgOK W x v) : x.okArg = true := by
  cases h with
  | leaf h => cases h <;> rfl
  | agg cs arr hs h =>
    simp only [V.okArg, List.all_eq_true]
    intro y hy
    obtain ⟨k, hk, rfl⟩ := List.getElem_of_mem hy
    have := (h k hk).ok0
    rwa [List.getD_eq_getElem?_getD, List.getElem?_eq_getElem hk] at this
theorem ArgOK.cnt {x : V} {v : Value} (h : ArgOK W x v) (c : Nat) : cnt2 c x v = 0 := by
  cases h with
  | leaf h =>
    have h1 := h.cnt c
    cases h <;> exact h1
  | agg cs arr hs h => exact sumTo_zero fun k hk => (h k hk).cnt c
theorem start {args : List V} {vs : Array Value} (hl : args.length = vs.toList.length) (ha : ∀ k, k < args.length → ArgOK W (args.getD k .undef) (vs.toList.getD k undef)) :
    SR (g0 W) W 0 (fun _ => 0) (fun _ => false) ⟨fun _ => .undef, fun _ => [], []⟩ #[] (args.zip vs.toList) := by
  have hmem : ∀ p ∈ args.zip vs.toList, ArgOK W p.1 p.2 := fun p hp => by
    obtain ⟨k, hk, rfl⟩ := List.getElem_of_mem hp
    have hk' : k < args.length := by simp at hk; omega
    have h1 := ha k hk'
    simp only [List.getElem_zip]
    rw [List.getD_eq_getElem?_getD, List.getElem?_eq_getElem hk', List.getD_eq_getElem?_getD, List.getElem?_eq_getElem (by omega)] at h1
    exact h1
  have hcP : ∀ c, cntP c (args.zip vs.toList) = 0 := fun c => by
    rw [cntP_zip hl]; exact sumTo_zero fun k hk => (ha k hk).cnt c
  have hT : ∀ c, total (g0 W) W 0 (fun _ => 0) ⟨fun _ => .undef, fun _ => [], []⟩ #[] (args.zip vs.toList) c = persOf (g0 W) c := fun c => by
    have e1 : cntT c (fun _ => V.undef) #[] = 0 := rfl
    have e2 : cntB (g0 W) W c 0 (fun _ => []) = 0 := rfl
    have e3 : cntM (g0 W) W c [] = 0 := rfl
    unfold total
    simp only [e1, e2, e3, hcP]
    omega
  refine ⟨fun s => trivial, fun s _ => rfl, fun s d hd => (by cases hd), fun p hp => (hmem p hp).r3 _, fun p hp d hd => ?_, fun j => by simp [g0], fun j hj => absurd rfl hj, fun b hb => absurd hb (by simp), fun c => ?_, fun c hc => ?_⟩
  · obtain ⟨b, o, e⟩ := okArg_root (hmem p hp).okArg hd; cases e
  · rw [hT]; unfold persOf; split <;> omega
  · rw [hT]; unfold persOf
    rw [if_neg]
    show ¬ (c < W.heap.size)
    omega
theorem law_calls [Lay P] {T : Table} (hLd : Laid P (g0 W) W) (hT : TableOK P T) {f : Nat} {args : List V} {m' : List (List V)} {vs : Array Value} {b : Bool} (hret : RF T f args [] = some (.bool b, m')) (hl : args.length = vs.toList.length)
    (ha : ∀ k, k < args.length → ArgOK W (args.getD k .undef) (vs.toList.getD k undef)) : Calls P f vs W fun e W' => e = .returned (.bool b) ∧ RowKit.Below W.heap.size W W' := by
  obtain ⟨_, hcall⟩ := ret_sound hT (RF_ret.1 hret)
  have hok : args.all V.okArg = true := List.all_eq_true.2 fun y hy => by
    obtain ⟨k, hk, rfl⟩ := List.getElem_of_mem hy
    have := (ha k hk).okArg
    rwa [List.getD_eq_getElem?_getD, List.getElem?_eq_getElem hk] at this
  refine (hcall (g0 W) W (fun _ => 0) vs (by simpa using hl.symm) hok hLd (start hl ha)).mono fun e W' ⟨v, g', he, hS, hE, _⟩ => ?_
  have hv : v = .bool b := R3.bool (hS.pend _ (.head _))
  exact ⟨by rw [he, hv], hE.os, hE.tape, hE.output, hE.size, fun k hk => (hE.pers k hk).2⟩
def FitsV (P : Program) (t : TypeId) (x : V) : Prop :=
  match P.underlying t with
  | some (.struct _) | some (.array _ _) => ∃ cs, x = .agg cs ∧ Fits P t cs
  | _ => Fits P t [x]
section
variable {H : Type} {enc : TypeId × Value → H}
theorem arg_of {d : Nat} {t : TypeId} (hsup : supT P d t = true) {v : Value} {dd : DataW H} {ps : List MemPlace} {base : Nat} (hval : Value.okWide P W .any base t v) (h : DataW.Trod enc P W 0 (fun _ => true) true t v dd ps) :
    ∃ x, FitsV P t x ∧ ArgOK W x v := by
  obtain ⟨fuel, h⟩ := h
  obtain ⟨cs, hfit, hr⟩ := reads_iff.1 (reads_of hsup h)
  have agg : ∀ arr : Array Value, v = .agg arr → ArgOK W (.agg cs) v := fun arr e => by
    subst e
    have hc : (Value.agg arr).cells = arr := rfl
    rw [hc] at hr
    refine .agg cs arr (by have := hr.1; simpa using this.symm) fun k hk => ?_
    have := hr.2 k (by rw [← hr.1]; exact hk)
    rwa [array_toList_getD] at this
  have leaf : (∀ arr, v ≠ .agg arr) → cs.length = 1 → ∃ x, cs = [x] ∧ ArgOK W x v := fun hv h1 => by
    match cs, h1 with
    | [x], _ =>
      refine ⟨x, rfl, .leaf ?_⟩
      rw [cells_leaf hv] at hr
      exact hr.2 0 (by simp)
  unfold FitsV
  unfold Value.okWide at hval
  cases hu : P.underlying t with
  | none => cases hfit <;> simp_all
  | some ud =>
    rw [hu] at hval
    cases ud with
    | struct fs => obtain ⟨arr, e, _⟩ := hval; exact ⟨.agg cs, ⟨cs, rfl, hfit⟩, agg arr e⟩
    | array n e => obtain ⟨arr, e, _⟩ := hval; exact ⟨.agg cs, ⟨cs, rfl, hfit⟩, agg arr e⟩
    | _ =>
      simp only at hval ⊢
      have h1 : cs.length = 1 := by cases hfit <;> first | rfl | simp_all
      have h2 : ∀ arr, v ≠ .agg arr := fun arr e => by
        subst e
        simp only [Cell.okWide, Cell.ok, hu] at hval
      obtain ⟨x, rfl, hx⟩ := leaf h2 h1
      exact ⟨x, hfit, hx⟩
theorem args_of {d : Nat} : ∀ {ts : List TypeId} {vs : List Value} {ds : List (DataW H)} {ps : List MemPlace} {base : Nat}, ts.all (supT P d) = true → (∀ (j : Nat) (t : TypeId) (v : Value), ts[j]? = some t → vs[j]? = some v → Value.okWide P W .any base t v) →
    DataW.TrodAll enc P W 0 (fun _ => true) true ts vs ds ps → ∃ args : List V, args.length = vs.length ∧ ts.length = vs.length ∧ (∀ (j : Nat) (t : TypeId), ts[j]? = some t → FitsV P t (args.getD j .undef)) ∧ ∀ k, k < args.length → ArgOK W (args.getD k .undef) (vs.getD k undef)
  | [], vs, ds, ps, base, _, _, h => by
    obtain ⟨rfl, rfl, rfl⟩ := ChangeShapes.trodAll_nil h
    exact ⟨[], rfl, rfl, fun j t hj => by simp at hj, fun k hk => absurd hk (by simp)⟩
  | t :: ts, vs, ds, ps, base, hsup, hval, h => by
    obtain ⟨v, vs', dd, ds', p, q, rfl, rfl, rfl, h0, r0⟩ := ChangeShapes.trodAll_cons h
    simp only [List.all_cons, Bool.and_eq_true] at hsup
    obtain ⟨x, hx1, hx2⟩ := arg_of hsup.1 (hval 0 t v rfl rfl) h0
    obtain ⟨args, h1, h2, h3, h4⟩ := args_of hsup.2 (fun j t v hj hv => hval (j + 1) t v hj hv) r0
    refine ⟨x :: args, by simp [h1], by simp [h2], fun j t' hj => ?_, fun k hk => ?_⟩
    · cases j with
      | zero => simp only [List.getElem?_cons_zero, Option.some.injEq] at hj; subst hj; exact hx1
      | succ j => exact h3 j t' hj
    · cases k with
      | zero => exact hx2
      | succ k => exact h4 k (by simpa using hk)
theorem args_stay (hl : laidOutB P = true) {W' : World} {sp : Nat → Bool} : ∀ {ts : List TypeId} {vs : List Value} {ds : List (DataW H)} {ps : List MemPlace}, (ts.all fun t => P.readableRec t && decide (t < P.types.size)) = true →
    DataW.TrodAll enc P W 0 (fun _ => true) true ts vs ds ps → (∀ p ∈ ps, W.sameAt W' p) → (∀ p ∈ ps, sp p.block = true) → DataW.TrodAll enc P W' 0 sp true ts vs ds ps
  | [], vs, ds, ps, _, h, _, _ => by
    obtain ⟨rfl, rfl, rfl⟩ := ChangeShapes.trodAll_nil h
    exact rfl
  | t :: ts, vs, ds, ps, hr, h, hs, hsp => by
    obtain ⟨v, vs', dd, ds', p, q, rfl, rfl, rfl, h0, r0⟩ := ChangeShapes.trodAll_cons h
    simp only [List.all_cons, Bool.and_eq_true, decide_eq_true_eq] at hr
    exact trodAll_cons_mk (WideElems.Trod_stays hl hr.1.1 hr.1.2 h0 (fun x hx => hs x (List.mem_append_left _ hx)) (fun x hx => hsp x (List.mem_append_left _ hx)))
      (args_stay hl hr.2 r0 (fun x hx => hs x (List.mem_append_right _ hx)) (fun x hx => hsp x (List.mem_append_right _ hx)))
theorem trodAll_len : ∀ {ts : List TypeId} {vs : List Value} {ds : List (DataW H)} {ps : List MemPlace}, DataW.TrodAll enc P W 0 (fun _ => true) true ts vs ds ps → ds.length = ts.length
  | [], vs, ds, ps, h => by obtain ⟨rfl, rfl, rfl⟩ := ChangeShapes.trodAll_nil h; rfl
  | t :: ts, vs, ds, ps, h => by
    obtain ⟨v, vs', dd, ds', p, q, rfl, rfl, rfl, h0, r0⟩ := ChangeShapes.trodAll_cons h
    simp [trodAll_len r0]
open ChangeShapes in
theorem post_of_below {f : Func} {s : ChangeSpec} {apart fresh handsOn again : Bool} {W W' : World} {args : Array Value} {v : Value} {ds gs : List (DataW H)} {before pa pv : List MemPlace}
    (hW : DataW.Whole enc P f.params.toList s.vars apart W args.toList ds gs before)
    (hres : ∀ (b : Nat) (sp : Nat → Bool) (hd : Bool), DataW.TrodAll enc P W' b sp hd f.resultTypes.toList (v.resultList f.resultTypes.size) (s.fn H (ds ++ gs)).results [])
    (hargs : ∀ sp : Nat → Bool, (∀ p ∈ before, sp p.block = true) → DataW.TrodAll enc P W' 0 sp true f.params.toList args.toList (s.fn H (ds ++ gs)).args pa)
    (hvars : ∀ sp : Nat → Bool, (∀ p ∈ before, sp p.block = true) → DataW.TrodVars enc P W' sp s.vars (s.fn H (ds ++ gs)).vars pv)
    (hps : before = pa ++ pv) (hb : RowKit.Below W.heap.size W W')
    (hok : ∀ (j : Nat) (t : TypeId) (r : Value), f.resultTypes[j]? = some t → (v.resultList f.resultTypes.size)[j]? = some r → Value.okWide P W' .any 0 t r) :
    s.post enc P f apart fresh handsOn again W args v W' := by
  have hlt : ∀ p ∈ before, p.block < W.heap.size := fun p hp => hW.lt p hp
  have hold : ∀ p ∈ before, (fun b => decide (b < W.heap.size)) p.block = true := fun p hp => by simpa using hlt p hp
  refine ⟨ds, gs, before, [], pa, pv, hW, hres _ _ _, hargs _ hold, hvars _ hold, World.keptBut_mono (fun p hp => ⟨hp, ?_⟩) (hb.frame (· ∈ before)), fun _ => ?_⟩
  · rw [hps, List.mem_append] at hp
    exact Or.inr hp
  · obtain ⟨_, _, _, _, _, hz, hn⟩ := hW
    refine ⟨hok, _, _, ([] ++ pa) ++ pv, ⟨[] ++ pa, pv, trodAll_append (hargs _ (fun _ _ => rfl)) (hres _ _ _), hvars _ (fun _ _ => rfl), rfl, ?_, ?_⟩, ?_⟩
    · intro b off hp
      have hp' : MemPlace.cell b off ∈ before := by rw [hps]; simpa using hp
      rw [hb.frozen (p := ⟨b, off, none⟩) (hlt _ hp')]
      exact hz b off hp'
    · intro ha
      have := hn ha
      rw [hps] at this
      simpa using this
    · intro p hp _
      rw [hps]
      simpa using hp
end
end
end Go.Proofs.YtggbcchebiedjaaDoor.Am

set_option linter.all false
namespace Go.Proofs.YtggbcchebiedjaaDoor.Am.Esc
open Go.Proofs
theorem gl2 : Tryd.prog.globalNamed "unicode/utf8.acceptRanges" = some 2 := by kernel_rfl
theorem gl1 : Tryd.prog.globalNamed "unicode/utf8.first" = some 1 := by kernel_rfl
theorem gt2 : (Tryd.prog.globals[2]?).map (·.type) = some 95 := by kernel_rfl
theorem gt1 : (Tryd.prog.globals[1]?).map (·.type) = some 92 := by kernel_rfl
noncomputable def eT (t : TypeId) : TypeId := match Tryd.prog.underlying t with | some (.array _ e) => e | _ => 0
noncomputable def fsT (t : TypeId) : Array Field := match Tryd.prog.underlying t with | some (.struct fs) => fs | _ => #[]
theorem ut1 : Tryd.prog.underlying 92 = some (.array 256 (eT 92)) := by kernel_rfl
theorem ut2 : Tryd.prog.underlying 95 = some (.array 16 (eT 95)) := by kernel_rfl
theorem ue1 : Tryd.prog.underlying (eT 92) = some (.int .u8) := by kernel_rfl
theorem ue2 : Tryd.prog.underlying (eT 95) = some (.struct (fsT (eT 95))) := by kernel_rfl
theorem uf0 : ((fsT (eT 95))[0]?.map fun f => (f.type, f.offset)) = some (5, 0) := by kernel_rfl
theorem uf1 : ((fsT (eT 95))[1]?.map fun f => (f.type, f.offset)) = some (5, 1) := by kernel_rfl
theorem u5 : Tryd.prog.underlying 5 = some (.int .u8) := by kernel_rfl
theorem c1 : Tryd.prog.cellsOf (eT 92) = 1 := by kernel_rfl
theorem c2 : Tryd.prog.cellsOf (eT 95) = 2 := by kernel_rfl
theorem c5 : Tryd.prog.cellsOf 5 = 1 := by kernel_rfl
theorem laid_one {l : List (String × DataW Unit)} {W : World} {n : String} {d : DataW Unit} {g : Nat} {t : TypeId} (h : laidMetH Tryd.prog l W)
    (hf : (l.filter fun x => x.2.handleName?.isNone).filter (fun x => x.1 == n) = [(n, d)]) (hg : Tryd.prog.globalNamed n = some g) (hty : (Tryd.prog.globals[g]?).map (·.type) = some t) :
    ∃ (cs : Array Value) (fuel : Nat) (p : List MemPlace), (∀ i, W.cell? ⟨g, i, none⟩ = cs[i]?) ∧ g < W.heap.size ∧ DataW.trod (fun _ => ()) Tryd.prog W 0 (fun _ => true) false fuel t cs.toList = some (d, p) := by
  have h2 := (laidMetH_iff.1 h).1.filter (fun x => x.1 == n)
  rw [hf] at h2
  obtain ⟨ps, ⟨g', t', cs, fuel, p, q, hg', ht', hvar, hd, _, _⟩, _⟩ := h2
  obtain rfl := Option.some.inj (hg.symm.trans hg')
  obtain rfl := Option.some.inj (hty.symm.trans ht')
  refine ⟨cs, fuel, p, fun i => World.var?_cell hg hvar i, ?_, hd⟩
  unfold World.var? at hvar
  rw [hg] at hvar
  simp only [Option.bind_some] at hvar
  cases hh : W.heap[g]? with
  | none => rw [hh] at hvar; cases hvar
  | some o => exact (Array.getElem?_eq_some_iff.1 hh).1
noncomputable def lst (x : List V) : DataW Unit := match x with
  | [.int k n] => .lit (.int k n)
  | [.int k n, .int k' n'] => .agg [.lit (.int k n), .lit (.int k' n')]
  | _ => .nil
theorem first_rows {W : World} {cs : Array Value} {fuel : Nat} {p : List MemPlace} (h : DataW.trod (fun _ => ()) Tryd.prog W 0 (fun _ => true) false fuel 92 cs.toList = some (.agg (tab1.map lst), p)) (i : Nat) (hi : i < 256) :
    ∃ n, tab1[i]? = some [.int .u8 n] ∧ cs[i]? = some (.int .u8 n) := by
  obtain ⟨xs, m, _, hx, hl, hlen, hr⟩ := DataW.trod_array ut1 h
  have hxs : tab1.map lst = xs.map (·.1) := by
    have := congrArg Prod.fst hx
    simpa using this
  have h1 := hr i hi
  rw [c1, List.getElem?_eq_getElem (by omega)] at h1
  obtain ⟨n, hc, hy, _⟩ := DataW.trod_int ue1 h1
  have h2 : (tab1.map lst)[i]? = some (.lit (.int .u8 n)) := by
    rw [hxs, List.getElem?_map, List.getElem?_eq_getElem (by omega), hy]; rfl
  refine ⟨n, ?_, ?_⟩
  · rw [List.getElem?_map] at h2
    obtain ⟨x, hx1, hx2⟩ := Option.map_eq_some_iff.1 h2
    rw [hx1]
    have hk : ∀ y ∈ tab1, ∃ z, y = [.int .u8 z] := by
      have : tab1.all (fun y => match y with | [.int .u8 _] => true | _ => false) = true := by decide +kernel
      intro y hy
      have := List.all_eq_true.1 this y hy
      split at this
      · exact ⟨_, rfl⟩
      · cases this
    obtain ⟨z, rfl⟩ := hk x (List.mem_of_getElem? hx1)
    simp only [lst, DataW.lit.injEq, Lit.int.injEq, true_and] at hx2
    rw [hx2]
  · have := congrArg (·[0]?) hc
    simpa [List.getElem?_take, List.getElem?_drop] using this
theorem second_rows {W : World} {cs : Array Value} {fuel : Nat} {p : List MemPlace} (h : DataW.trod (fun _ => ()) Tryd.prog W 0 (fun _ => true) false fuel 95 cs.toList = some (.agg (tab2.map lst), p)) (i : Nat) (hi : i < 16) :
    ∃ a b, tab2[i]? = some [.int .u8 a, .int .u8 b] ∧ cs[i * 2]? = some (.int .u8 a) ∧ cs[i * 2 + 1]? = some (.int .u8 b) := by
  obtain ⟨xs, m, _, hx, hl, hlen, hr⟩ := DataW.trod_array ut2 h
  have hxs : tab2.map lst = xs.map (·.1) := by
    have := congrArg Prod.fst hx
    simpa using this
  have h1 := hr i hi
  rw [c2, List.getElem?_eq_getElem (by omega)] at h1
  obtain ⟨ys, m2, _, hy, hl2, hlen2, hr2⟩ := DataW.trod_struct ue2 h1
  have hsz : (fsT (eT 95)).size = 2 := by kernel_rfl
  obtain ⟨g0, hg0, hq0⟩ := Option.map_eq_some_iff.1 uf0
  obtain ⟨g1, hg1, hq1⟩ := Option.map_eq_some_iff.1 uf1
  have f0 := hr2 0 _ hg0
  have f1 := hr2 1 _ hg1
  rw [show g0.type = 5 from congrArg Prod.fst hq0, show g0.offset = 0 from congrArg Prod.snd hq0, c5] at f0
  rw [show g1.type = 5 from congrArg Prod.fst hq1, show g1.offset = 1 from congrArg Prod.snd hq1, c5] at f1
  rw [List.getElem?_eq_getElem (by omega)] at f0 f1
  obtain ⟨a, ha, hya, _⟩ := DataW.trod_int u5 f0
  obtain ⟨b, hb, hyb, _⟩ := DataW.trod_int u5 f1
  have hys : ys.map (·.1) = [.lit (.int .u8 a), .lit (.int .u8 b)] := by
    match ys, hlen2.trans hsz with
    | [y0, y1], _ =>
      simp only [List.getElem_cons_zero, List.getElem_cons_succ] at hya hyb
      rw [hya, hyb]; rfl
  have h2 : (tab2.map lst)[i]? = some (.agg [.lit (.int .u8 a), .lit (.int .u8 b)]) := by
    rw [hxs, List.getElem?_map, List.getElem?_eq_getElem (by omega), hy, ← hys]; rfl
  refine ⟨a, b, ?_, ?_, ?_⟩
  · rw [List.getElem?_map] at h2
    obtain ⟨x, hx1, hx2⟩ := Option.map_eq_some_iff.1 h2
    rw [hx1]
    have hk : ∀ y ∈ tab2, ∃ z z', y = [.int .u8 z, .int .u8 z'] := by
      have : tab2.all (fun y => match y with | [.int .u8 _, .int .u8 _] => true | _ => false) = true := by decide +kernel
      intro y hy
      have := List.all_eq_true.1 this y hy
      split at this
      · exact ⟨_, _, rfl⟩
      · cases this
    obtain ⟨z, z', rfl⟩ := hk x (List.mem_of_getElem? hx1)
    simp only [lst, DataW.agg.injEq, List.cons.injEq, DataW.lit.injEq, Lit.int.injEq, true_and, and_true] at hx2
    rw [hx2.1, hx2.2]
  · have := congrArg (·[0]?) ha
    simpa [List.getElem?_take, List.getElem?_drop] using this
  · have := congrArg (·[0]?) hb
    simpa [List.getElem?_take, List.getElem?_drop] using this
theorem laid_of {l : List (String × DataW Unit)} {W : World} (h : laidMetH Tryd.prog l W)
    (h1 : (l.filter fun x => x.2.handleName?.isNone).filter (fun x => x.1 == "unicode/utf8.first") = [("unicode/utf8.first", .agg (tab1.map lst))])
    (h2 : (l.filter fun x => x.2.handleName?.isNone).filter (fun x => x.1 == "unicode/utf8.acceptRanges") = [("unicode/utf8.acceptRanges", .agg (tab2.map lst))]) : Laid Tryd.prog (g0 W) W := by
  obtain ⟨cs1, f1, p1, e1, s1, t1⟩ := laid_one h h1 gl1 gt1
  obtain ⟨cs2, f2, p2, e2, s2, t2⟩ := laid_one h h2 gl2 gt2
  have len1 : tab1.length = 256 := by decide +kernel
  have len2 : tab2.length = 16 := by decide +kernel
  intro t ht
  have ht : t ∈ [(1, 1, tab1), (2, 2, tab2)] := ht
  rcases List.mem_cons.1 ht with rfl | ht
  · refine ⟨s1, fun i hi => ?_, fun i k hi hk => ?_⟩
    · have hi : i < tab1.length := hi
      obtain ⟨n, a, _⟩ := first_rows t1 i (by omega)
      show (tab1.getD i []).length = 1
      rw [List.getD_eq_getElem?_getD, a]; rfl
    · have hi : i < tab1.length := hi
      have hk : k < 1 := hk
      obtain ⟨n, a, b⟩ := first_rows t1 i (by omega)
      obtain rfl : k = 0 := by omega
      refine ⟨.int .u8 n, ?_, ?_⟩
      · show W.cell? ⟨1, 0 + (i * 1 + 0), none⟩ = _
        rw [show 0 + (i * 1 + 0) = i by omega, e1, b]
      · show RB _ W ((tab1.getD i []).getD 0 .undef) _
        rw [show tab1.getD i [] = _ from List.getD_eq_getElem?_getD, a]; exact RB.int _ _
  · obtain rfl := List.mem_singleton.1 ht
    refine ⟨s2, fun i hi => ?_, fun i k hi hk => ?_⟩
    · have hi : i < tab2.length := hi
      obtain ⟨n, n', a, _⟩ := second_rows t2 i (by omega)
      show (tab2.getD i []).length = 2
      rw [List.getD_eq_getElem?_getD, a]; rfl
    · have hi : i < tab2.length := hi
      have hk : k < 2 := hk
      obtain ⟨n, n', a, b, c⟩ := second_rows t2 i (by omega)
      match k, hk with
      | 0, _ =>
        refine ⟨.int .u8 n, ?_, ?_⟩
        · show W.cell? ⟨2, 0 + (i * 2 + 0), none⟩ = _
          rw [show 0 + (i * 2 + 0) = i * 2 by omega, e2, b]
        · show RB _ W ((tab2.getD i []).getD 0 .undef) _
          rw [show tab2.getD i [] = _ from List.getD_eq_getElem?_getD, a]; exact RB.int _ _
      | 1, _ =>
        refine ⟨.int .u8 n', ?_, ?_⟩
        · show W.cell? ⟨2, 0 + (i * 2 + 1), none⟩ = _
          rw [show 0 + (i * 2 + 1) = i * 2 + 1 by omega, e2, c]
        · show RB _ W ((tab2.getD i []).getD 1 .undef) _
          rw [show tab2.getD i [] = _ from List.getD_eq_getElem?_getD, a]; exact RB.int _ _
end Go.Proofs.YtggbcchebiedjaaDoor.Am.Esc

namespace Go.Proofs.YtggbcchebiedjaaDoor.Am
def ints (xs : List Int) : List (List V) := xs.map fun n => [.int .i64 n]
inductive IV : V → List Int → Prop
  | nil : IV .nils []
  | sl (xs : List Int) : IV (.slice false 1 (ints xs)) xs
def boolL (xs : List Bool) : List (List V) := xs.map fun b => [.bool b]
inductive BV : V → List Bool → Prop
  | nil : BV .nils []
  | sl (xs : List Bool) : BV (.slice false 1 (boolL xs)) xs
section
variable {P : Program}
theorem fits_int {t : TypeId} {k : IntKind} (ht : P.underlying t = some (.int k)) {vs : List V} (h : Fits P t vs) : ∃ n, vs = [.int k n] ∧ (Lit.int k n).wf = true := by
  cases h <;> simp_all
theorem fits_slice {t e : TypeId} (ht : P.underlying t = some (.slice e)) {vs : List V} (h : Fits P t vs) : vs = [.nils] ∨ ∃ xs, vs = [.slice false (P.cellsOf e) xs] ∧ xs.length ≤ maxLen ∧ ∀ x ∈ xs, Fits P e x := by
  cases h with
  | nils => exact .inl rfl
  | slice xs h hl hx =>
    rw [ht] at h
    cases h
    refine .inr ⟨xs, rfl, hl, fun x hm => ?_⟩
    obtain ⟨i, hi, rfl⟩ := List.getElem_of_mem hm
    have := hx i hi
    rwa [List.getD_eq_getElem?_getD, List.getElem?_eq_getElem hi] at this
  | _ => simp_all
theorem list_of {α β : Type} {f : α → β} {Q : α → Prop} : ∀ {xs : List β}, (∀ x ∈ xs, ∃ a, f a = x ∧ Q a) → ∃ l : List α, xs = l.map f ∧ ∀ a ∈ l, Q a
  | [], _ => ⟨[], rfl, fun a h => (nomatch h)⟩
  | x :: xs, h => by
    obtain ⟨a, ha, hq⟩ := h x (.head _)
    obtain ⟨l, has, hqs⟩ := list_of (f := f) (Q := Q) fun y hy => h y (.tail _ hy)
    exact ⟨a :: l, by rw [List.map_cons, ha, has], fun b hb => by cases hb with | head => exact hq | tail _ hb => exact hqs b hb⟩
theorem fitsV_leaf {t : TypeId} {x : V} {d : TypeDesc} (ht : P.underlying t = some d) (h : FitsV P t x) (hs : ∀ fs, d ≠ .struct fs) (ha : ∀ n e, d ≠ .array n e) : Fits P t [x] := by
  unfold FitsV at h
  rw [ht] at h
  cases d <;> first | exact h | exact absurd rfl (hs _) | exact absurd rfl (ha _ _)
end
end Go.Proofs.YtggbcchebiedjaaDoor.Am

namespace Go.Proofs.YtggbcchebiedjaaDoor.Am
inductive LT where
  | bool
  | int (k : IntKind)
  | str
  | slice (e : TypeId)
  deriving DecidableEq
def LV (P : Program) (l : LT) (v : V) : Prop :=
  match l with
  | .bool => ∃ b, v = .bool b
  | .int k => ∃ n, v = .int k n ∧ (Lit.int k n).wf = true
  | .str => ∃ s, v = .str s ∧ s.length ≤ maxLen
  | .slice e => v = .nils ∨ ∃ xs, v = .slice false (P.cellsOf e) xs ∧ xs.length ≤ maxLen ∧ ∀ x ∈ xs, Fits P e x
def LVs (P : Program) : List LT → List V → Prop
  | [], [] => True
  | l :: ls, v :: vs => LV P l v ∧ LVs P ls vs
  | _, _ => False
section
variable {P : Program}
theorem LVs.append : ∀ {ls ks : List LT} {vs us : List V}, LVs P ls vs → LVs P ks us → LVs P (ls ++ ks) (vs ++ us)
  | [], _, [], _, _, h => h
  | _ :: _, _, _ :: _, _, h, k => ⟨h.1, LVs.append h.2 k⟩
  | [], _, _ :: _, _, h, _ => h.elim
  | _ :: _, _, [], _, h, _ => h.elim
theorem LVs.len : ∀ {ls : List LT} {vs : List V}, LVs P ls vs → vs.length = ls.length
  | [], [], _ => rfl
  | _ :: _, _ :: _, h => by rw [List.length_cons, List.length_cons, LVs.len h.2]
  | [], _ :: _, h => h.elim
  | _ :: _, [], h => h.elim
end
end Go.Proofs.YtggbcchebiedjaaDoor.Am

namespace Go.Proofs.YtggbcchebiedjaaDoor.Am
section
variable {P : Program} {W : World} {H : Type} {enc : TypeId × Value → H}
def AsLong (x : V) (d : DataW H) : Prop := ∀ o z xs, x = .slice o z xs → ∃ elems spare, d = .slice elems spare ∧ elems.length = xs.length
theorem asLong {x : V} {v : Value} {t : TypeId} {d : DataW H} {ps : List MemPlace} (hf : FitsV P t x) (ha : ArgOK W x v) (h : DataW.Trod enc P W 0 (fun _ => true) true t v d ps) : AsLong x d := by
  intro o z xs hx
  subst hx
  have hs : ∃ e, P.underlying t = some (.slice e) := by
    unfold FitsV at hf
    split at hf
    · obtain ⟨cs, e, _⟩ := hf; cases e
    · obtain ⟨cs, e, _⟩ := hf; cases e
    · cases hf <;> first | exact ⟨_, by assumption⟩ | simp_all
  obtain ⟨e, ht⟩ := hs
  have hv : ∃ a cap, v = .slice (some a) xs.length cap := by
    cases ha with
    | leaf h => cases h with | slice _ _ a cap _ _ _ _ _ _ _ => exact ⟨a, cap, rfl⟩
  obtain ⟨a, cap, rfl⟩ := hv
  obtain ⟨fuel, h⟩ := h
  rcases DataW.trod_slice ht h with ⟨h1, _⟩ | ⟨a', len, cap', elems, rest, n, _, h1, h2, _, _, _, hel, _⟩
  · simp [Value.cells] at h1
  · simp only [Prod.mk.injEq] at h2
    refine ⟨_, _, h2.1, ?_⟩
    have e1 : len = xs.length := by
      have : (Value.slice (some a) xs.length cap).cells.toList = [.slice (some a) xs.length cap] := rfl
      rw [this] at h1
      injection h1 with h1 _
      injection h1 with _ h1 _
      exact h1.symm
    rw [List.length_map, hel, e1]
theorem asLongs : ∀ {ts : List TypeId} {vs : List Value} {ds : List (DataW H)} {ps : List MemPlace} {args : List V}, DataW.TrodAll enc P W 0 (fun _ => true) true ts vs ds ps → args.length = vs.length → (∀ (j : Nat) (t : TypeId), ts[j]? = some t → FitsV P t (args.getD j .undef)) → (∀ k, k < args.length → ArgOK W (args.getD k .undef) (vs.getD k undef)) →
    ∀ (j : Nat) (d : DataW H), ds[j]? = some d → AsLong (args.getD j .undef) d
  | [], vs, ds, ps, args, h, _, _, _, j, d, hd => by
    obtain ⟨rfl, rfl, rfl⟩ := ChangeShapes.trodAll_nil h
    simp at hd
  | t :: ts, vs, ds, ps, args, h, hl, hf, ha, j, d, hd => by
    obtain ⟨v, vs', dd, ds', p, q, rfl, rfl, rfl, h0, r0⟩ := ChangeShapes.trodAll_cons h
    match args, hl with
    | x :: args, hl =>
      cases j with
      | zero =>
        simp only [List.getElem?_cons_zero, Option.some.injEq] at hd
        subst hd
        exact asLong (hf 0 t rfl) (ha 0 (by simp)) h0
      | succ j =>
        exact asLongs r0 (by simpa using hl) (fun i t' hi => hf (i + 1) t' hi) (fun k hk => ha (k + 1) (by simpa using hk)) j d hd
theorem law_contractU [Lay P] {T : Table} (hLd : Laid P (g0 W) W) (hT : TableOK P T) {f : Nat} {fn : Func} {tb : TypeId} {s : ChangeSpec} {apart fresh handsOn again : Bool} {d : Nat} (hbool : P.underlying tb = some .bool) (hres : fn.resultTypes = #[tb]) (hvars : s.vars = [])
    (hspec : ∀ ds : List (DataW H), ds.length = fn.params.toList.length → s.fn H ds = { results := [.lit (.bool true)], args := ds }) (hl : laidOutB P = true) (hr : (fn.params.toList.all fun t => P.readableRec t && decide (t < P.types.size)) = true)
    (hsup : fn.params.toList.all (supT P d) = true) {base : Nat} {args : Array Value} {ds gs : List (DataW H)} {before : List MemPlace}
    (law : ds.length = fn.params.toList.length → ∀ zs9 : List V, zs9.length = fn.params.toList.length → (∀ (j : Nat) (t : TypeId), fn.params.toList[j]? = some t → FitsV P t (zs9.getD j .undef)) → (∀ (j : Nat) (d : DataW H), ds[j]? = some d → AsLong (zs9.getD j .undef) d) → ∃ m', RF T f zs9 [] = some (.bool true, m'))
    (hval : ∀ (j : Nat) t v, fn.params[j]? = some t → args[j]? = some v → Value.okWide P W .any base t v) (hW : DataW.Whole enc P fn.params.toList s.vars apart W args.toList ds gs before) :
    Calls P f args W fun e W' => ∃ v, e = .returned v ∧ s.post enc P fn apart fresh handsOn again W args v W' := by
  have hW' := hW
  obtain ⟨p, q, hA, hV, rfl, hfz, hnd⟩ := hW
  rw [hvars] at hV
  obtain ⟨rfl, rfl⟩ := ChangeShapes.trodVars_none hV
  obtain ⟨zs9, h1, h2, h3, h4⟩ := args_of (base := base) hsup (fun j t v hj hv => hval j t v (by simpa using hj) (by simpa using hv)) hA
  obtain ⟨m', hm⟩ := law (trodAll_len hA) zs9 (by rw [h1, h2]) h3 (asLongs hA h1 h3 h4)
  have hds : ds.length = fn.params.toList.length := trodAll_len hA
  refine (law_calls hLd hT hm h1 h4).mono fun e W' ⟨he, hb⟩ => ?_
  subst he
  have hsp : s.fn H (ds ++ []) = { results := [.lit (.bool true)], args := ds } := by rw [List.append_nil]; exact hspec ds hds
  refine ⟨_, rfl, post_of_below (pa := p) (pv := []) hW' (fun b sp hd => ?_) (fun sp hspb => ?_) (fun sp _ => ?_) rfl hb (RowKit.ok_one hres rfl (RowKit.okWide_bool_mk hbool _))⟩
  · rw [hsp, hres]
    exact trodAll_cons_mk (RowKit.shut_bool hbool true) rfl
  · rw [hsp]
    exact args_stay hl hr hA (fun x hx => hb.same (hW'.lt x (by simpa using hx))) (fun x hx => hspb x (by simpa using hx))
  · rw [hsp, hvars]; exact rfl
end
end Go.Proofs.YtggbcchebiedjaaDoor.Am

set_option linter.all false
namespace Go.Proofs.YtggbcchebiedjaaDoor.Am.Esc
open Go.Proofs.YtggbcchebiedjaaDoor.Am.T
theorem wf8 {n : Int} (h : (Lit.int .u8 n).wf = true) : 0 ≤ n ∧ n < 256 := by
  simp [Lit.wf, IntKind.min, IntKind.max, IntKind.signed, IntKind.bits] at h
  omega
theorem den_one {k : IntKind} (l : List Int) : Pw (Pw Den0) (l.map fun n => [TV.int k n]) (l.map fun n => [V.int k n]) := by
  induction l with
  | nil => exact .nil
  | cons x l ih => exact .cons (.cons (.int _ _) .nil) ih
theorem fits_bytes {P : Program} {t e : TypeId} (ht : P.underlying t = some (.slice e)) (he : P.underlying e = some (.int .u8)) (hc : P.cellsOf e = 1) {x : V} (h : Fits P t [x]) :
    ∃ l : List Int, Den [] (.sl false 1 (l.map by8)) x ∧ Byts l ∧ l.length ≤ maxLen := by
  rcases fits_slice ht h with h | ⟨xs, h, hl, hx⟩
  · injection h with h _; subst h; exact ⟨[], .base (.sln false 1), (fun _ h => by cases h), Nat.zero_le _⟩
  · injection h with h _; subst h
    obtain ⟨l, rfl, hb⟩ := list_of (f := fun n : Int => [V.int .u8 n]) (Q := fun n => 0 ≤ n ∧ n < 256) fun x hm => by
      obtain ⟨n, rfl, hw⟩ := fits_int he (hx x hm)
      exact ⟨n, rfl, wf8 hw⟩
    rw [hc]
    exact ⟨l, .base (.sl false 1 (den_one l)), hb, by simpa using hl⟩
theorem den_long {H : Type} {ρ : List Nat} {w : Bool} {z : Nat} {ys : List (List TV)} {x : V} {d : DataW H} (h : Den ρ (.sl w z ys) x) (ha : AsLong x d) : ys.length = 0 ∨ ∃ elems spare, d = .slice elems spare ∧ elems.length = ys.length := by
  rcases den_sl h with ⟨_, rfl⟩ | ⟨zs, rfl, hp⟩
  · exact .inl rfl
  · obtain ⟨elems, spare, e, hl⟩ := ha _ _ _ rfl
    exact .inr ⟨elems, spare, e, by rw [hl, hp.length]⟩
end Go.Proofs.YtggbcchebiedjaaDoor.Am.Esc

set_option linter.all false
namespace Go.Proofs.YtggbcchebiedjaaDoor.Am.Esc
open Go.Proofs.YtggbcchebiedjaaDoor.Am.T
def szOf (a : Int) : Nat := if a < 128 then 1 else if a < 194 ∨ 244 < a then 0 else if a ≤ 223 then 2 else if a ≤ 239 then 3 else 4
def loOf (a : Int) : Int := if a = 224 then 160 else if a = 240 then 144 else 128
def hiOf (a : Int) : Int := if a = 237 then 159 else if a = 244 then 143 else 191
def badV (a t : Int) : Int := iOr .i32 (iAndNot .i32 (w32 a) (iShr .i32 (iShl .i32 (w32 t) 31) 31)) (iAnd .i32 65533 (iShr .i32 (iShl .i32 (w32 t) 31) 31))
def tabOk (k : Nat) : Bool :=
  let a : Int := k; let t := tab1L.getD k 0; let r := tab2L.getD (iShr .u8 t 4).toNat ⟨0, 0⟩
  decide (0 ≤ iShr .u8 t 4 ∧ iShr .u8 t 4 < 16) && decide (w64 (iAnd .u8 t 7) = iAnd .u8 t 7) &&
  (if szOf a ≤ 1 then decide (t ≥ 240) && decide (iAnd .u8 t 7 ≤ 1) && (decide (szOf a = 1) || decide (badV a t = 65533)) && (decide (szOf a = 0) || decide (w32 a = a)) else
    decide (t < 240) && decide (iAnd .u8 t 7 = szOf a) && decide (r.lo = loOf a) && decide (r.hi = hiOf a))
theorem tab_all : (List.range 256).all tabOk = true := by decide +kernel
theorem tab_at {a : Int} (h : 0 ≤ a ∧ a < 256) : ∃ t r, idx tab1L a = some t ∧ idx tab2L (iShr .u8 t 4) = some r ∧ w64 (iAnd .u8 t 7) = iAnd .u8 t 7 ∧
    (szOf a ≤ 1 → t ≥ 240 ∧ iAnd .u8 t 7 ≤ 1 ∧ (szOf a = 0 → badV a t = 65533) ∧ (szOf a = 1 → w32 a = a)) ∧ (2 ≤ szOf a → t < 240 ∧ iAnd .u8 t 7 = szOf a ∧ r.lo = loOf a ∧ r.hi = hiOf a) := by
  have := List.all_eq_true.1 tab_all a.toNat (List.mem_range.2 (by omega))
  unfold tabOk at this
  simp only [show ((a.toNat : Nat) : Int) = a by omega] at this
  simp only [Bool.and_eq_true, decide_eq_true_eq] at this
  obtain ⟨⟨⟨h1, h2⟩, h3⟩, h4⟩ := this
  refine ⟨tab1L.getD a.toNat 0, tab2L.getD (iShr .u8 (tab1L.getD a.toNat 0) 4).toNat ⟨0, 0⟩, idx_is h.1 (by have := first_len; omega), idx_is h1 (by have := second_len; omega), h3, fun hs => ?_, fun hs => ?_⟩
  · rw [if_pos hs] at h4
    simp only [Bool.and_eq_true, Bool.or_eq_true, decide_eq_true_eq] at h4
    obtain ⟨⟨⟨k1, k2⟩, k3⟩, k4⟩ := h4
    exact ⟨k1, k2, fun e => k3.resolve_left (by omega), fun e => k4.resolve_left (by omega)⟩
  · rw [if_neg (by omega)] at h4
    simp only [Bool.and_eq_true, decide_eq_true_eq] at h4
    obtain ⟨⟨⟨k1, k2⟩, k3⟩, k4⟩ := h4
    exact ⟨k1, k2, k3, k4⟩
def inT (l : List Int) (i : Nat) (lo hi : Int) : Prop := i < l.length ∧ lo ≤ l.getD i 0 ∧ l.getD i 0 ≤ hi
instance (l : List Int) (i : Nat) (lo hi : Int) : Decidable (inT l i lo hi) := inferInstanceAs (Decidable (_ ∧ _ ∧ _))
theorem tail_is {l : List Int} {i : Nat} {lo hi : Int} : casementref01_tail l i lo hi = some (decide (inT l i lo hi)) := by
  unfold casementref01_tail
  simp only [letB]
  by_cases h1 : i < l.length
  · rw [decide_eq_true (by omega), idx_is (d := 0) (by omega) (by omega)]
    simp only [cond_true, Option.bind_some, Int.toNat_natCast]
    by_cases h2 : l.getD i 0 ≥ lo
    · rw [decide_eq_true h2]
      by_cases h3 : l.getD i 0 ≤ hi
      · rw [decide_eq_true h3, decide_eq_true (show inT l i lo hi from ⟨h1, h2, h3⟩)]; rfl
      · rw [decide_eq_false h3, decide_eq_false (show ¬ inT l i lo hi from fun h => h3 h.2.2)]; rfl
    · rw [decide_eq_false h2, decide_eq_false (show ¬ inT l i lo hi from fun h => h2 h.2.1)]; rfl
  · rw [decide_eq_false (by omega), decide_eq_false (show ¬ inT l i lo hi from fun h => h1 h.1)]; rfl
def okR (l : List Int) (a : Int) : Prop :=
  inT l 1 (loOf a) (hiOf a) ∧ (3 ≤ szOf a → inT l 2 128 191) ∧ (4 ≤ szOf a → inT l 3 128 191)
instance (l : List Int) (a : Int) : Decidable (okR l a) := inferInstanceAs (Decidable (_ ∧ _ ∧ _))
def valR (l : List Int) (a : Int) : Int :=
  if szOf a = 2 then iOr .i32 (iShl .i32 (w32 (iAnd .u8 a 31)) 6) (w32 (iAnd .u8 (l.getD 1 0) 63))
  else if szOf a = 3 then iOr .i32 (iOr .i32 (iShl .i32 (w32 (iAnd .u8 a 15)) 12) (iShl .i32 (w32 (iAnd .u8 (l.getD 1 0) 63)) 6)) (w32 (iAnd .u8 (l.getD 2 0) 63))
  else iOr .i32 (iOr .i32 (iOr .i32 (iShl .i32 (w32 (iAnd .u8 a 7)) 18) (iShl .i32 (w32 (iAnd .u8 (l.getD 1 0) 63)) 12)) (iShl .i32 (w32 (iAnd .u8 (l.getD 2 0) 63)) 6)) (w32 (iAnd .u8 (l.getD 3 0) 63))
def whR (l : List Int) (a : Int) : Int × Int :=
  if szOf a = 1 then (1, a) else if 2 ≤ szOf a ∧ okR l a then ((szOf a : Int), valR l a) else (0, 0)
theorem wh_bad {l : List Int} {a : Int} (h1 : szOf a ≠ 1) (h2 : ¬ (2 ≤ szOf a ∧ okR l a)) : whR l a = (0, 0) := by unfold whR; rw [if_neg h1, if_neg h2]
theorem wh_ok {l : List Int} {a : Int} (h1 : 2 ≤ szOf a) (h2 : okR l a) : whR l a = ((szOf a : Int), valR l a) := by unfold whR; rw [if_neg (by omega), if_pos ⟨h1, h2⟩]
theorem val2 {l : List Int} {a : Int} (h : szOf a = 2) : valR l a = iOr .i32 (iShl .i32 (w32 (iAnd .u8 a 31)) 6) (w32 (iAnd .u8 (l.getD 1 0) 63)) := by unfold valR; rw [if_pos h]
theorem val3 {l : List Int} {a : Int} (h : szOf a = 3) : valR l a = iOr .i32 (iOr .i32 (iShl .i32 (w32 (iAnd .u8 a 15)) 12) (iShl .i32 (w32 (iAnd .u8 (l.getD 1 0) 63)) 6)) (w32 (iAnd .u8 (l.getD 2 0) 63)) := by unfold valR; rw [if_neg (by omega), if_pos h]
theorem val4 {l : List Int} {a : Int} (h : szOf a = 4) : valR l a = iOr .i32 (iOr .i32 (iOr .i32 (iShl .i32 (w32 (iAnd .u8 a 7)) 18) (iShl .i32 (w32 (iAnd .u8 (l.getD 1 0) 63)) 12)) (iShl .i32 (w32 (iAnd .u8 (l.getD 2 0) 63)) 6)) (w32 (iAnd .u8 (l.getD 3 0) 63)) := by unfold valR; rw [if_neg (by omega), if_neg (by omega)]
theorem whole_is {l : List Int} (hb : Byts l) (hn : l ≠ []) : casementref01_Whole l = some (whR l (l.getD 0 0)) := by
  have h0 : 0 < l.length := List.length_pos_iff.2 hn
  have ha := hb.get 0
  have t1 : ∀ lo hi, casementref01_tail l 1 lo hi = some (decide (inT l 1 lo hi)) := fun lo hi => tail_is (i := 1)
  have t2 : ∀ lo hi, casementref01_tail l 2 lo hi = some (decide (inT l 2 lo hi)) := fun lo hi => tail_is (i := 2)
  have t3 : ∀ lo hi, casementref01_tail l 3 lo hi = some (decide (inT l 3 lo hi)) := fun lo hi => tail_is (i := 3)
  obtain ⟨_, _, _, _, _, hs1, _⟩ := tab_at ha
  unfold casementref01_Whole
  simp only [letB]
  rw [decide_eq_false (by omega), idx_is (d := 0) (i := 0) (by omega) (by omega)]
  simp only [cond_false, Option.bind_some, Int.toNat_zero, t1, t2, t3]
  have ix1 : inT l 1 (loOf (l.getD 0 0)) (hiOf (l.getD 0 0)) → idx l 1 = some (l.getD 1 0) := fun h => idx_is (i := 1) (by omega) (by have := h.1; omega)
  have ix2 : inT l 2 128 191 → idx l 2 = some (l.getD 2 0) := fun h => idx_is (i := 2) (by omega) (by have := h.1; omega)
  have ix3 : inT l 3 128 191 → idx l 3 = some (l.getD 3 0) := fun h => idx_is (i := 3) (by omega) (by have := h.1; omega)
  generalize l.getD 0 0 = a at *
  by_cases hA : a < 128
  · have hz : szOf a = 1 := by unfold szOf; rw [if_pos hA]
    rw [decide_eq_true hA, show whR l a = (1, a) by unfold whR; rw [if_pos hz], (hs1 (by omega)).2.2.2 hz]; rfl
  have nA : decide (a < 128) = false := decide_eq_false hA
  by_cases hB : 194 ≤ a ∧ a ≤ 223
  · have hz : szOf a = 2 := by unfold szOf; rw [if_neg hA, if_neg (by omega), if_pos (by omega)]
    have hlo : loOf a = 128 := by unfold loOf; rw [if_neg (by omega), if_neg (by omega)]
    have hhi : hiOf a = 191 := by unfold hiOf; rw [if_neg (by omega), if_neg (by omega)]
    rw [hlo, hhi] at ix1
    have hok : okR l a ↔ inT l 1 128 191 := by unfold okR; rw [hlo, hhi]; exact ⟨fun h => h.1, fun h => ⟨h, fun h => by omega, fun h => by omega⟩⟩
    rw [nA]
    have b1 : decide (a ≥ 194) = true := decide_eq_true hB.1
    have b2 : decide (a ≤ 223) = true := decide_eq_true hB.2
    have b3 : decide (a = 224) = false := decide_eq_false (by omega)
    have b4 : decide (a = 237) = false := decide_eq_false (by omega)
    have b5 : decide (a ≥ 224) = false := decide_eq_false (by omega)
    have b6 : decide (a = 240) = false := decide_eq_false (by omega)
    have b7 : decide (a = 244) = false := decide_eq_false (by omega)
    have b8 : decide (a ≥ 240) = false := decide_eq_false (by omega)
    by_cases h1 : inT l 1 128 191
    · simp only [b1, b2, cond_true, cond_false, Option.bind_some, decide_eq_true h1, ix1 h1]
      rw [wh_ok (by omega) (hok.2 h1), hz, val2 hz]; rfl
    · simp only [b1, b2, b3, b4, b5, b6, b7, b8, cond_true, cond_false, Option.bind_some, decide_eq_false h1]
      rw [wh_bad (by omega) (fun h => h1 (hok.1 h.2))]
  by_cases hC : 224 ≤ a ∧ a ≤ 239
  · have hz : szOf a = 3 := by unfold szOf; rw [if_neg hA, if_neg (by omega), if_neg (by omega), if_pos (by omega)]
    have hlo : (bif decide (a = 224) then some 160 else some 128 : Option Int) = some (loOf a) := by
      unfold loOf
      by_cases h : a = 224
      · rw [decide_eq_true h, if_pos h]; rfl
      · rw [decide_eq_false h, if_neg h, if_neg (by omega)]; rfl
    have hhi : (bif decide (a = 237) then some 159 else some 191 : Option Int) = some (hiOf a) := by
      unfold hiOf
      by_cases h : a = 237
      · rw [decide_eq_true h, if_pos h]; rfl
      · rw [decide_eq_false h, if_neg h, if_neg (by omega)]; rfl
    rw [nA]
    have b1 : decide (a ≥ 194) = true := decide_eq_true (by omega)
    have b2 : decide (a ≤ 223) = false := decide_eq_false (by omega)
    have b3 : decide (a ≥ 224) = true := decide_eq_true (by omega)
    have b4 : decide (a ≤ 239) = true := decide_eq_true (by omega)
    have b6 : decide (a = 240) = false := decide_eq_false (by omega)
    have b7 : decide (a = 244) = false := decide_eq_false (by omega)
    have b8 : decide (a ≥ 240) = false := decide_eq_false (by omega)
    simp only [b1, b2, b3, b4, hlo, hhi, cond_true, cond_false, Option.bind_some]
    by_cases h1 : inT l 1 (loOf a) (hiOf a)
    · by_cases h2 : inT l 2 128 191
      · simp only [cond_true, cond_false, Option.bind_some, decide_eq_true h1, decide_eq_true h2, ix1 h1, ix2 h2]
        rw [wh_ok (by omega) ⟨h1, fun _ => h2, fun h => by omega⟩, hz, val3 hz]; rfl
      · simp only [b6, b7, b8, cond_true, cond_false, Option.bind_some, decide_eq_true h1, decide_eq_false h2]
        rw [wh_bad (by omega) (fun h => h2 (h.2.2.1 (by omega)))]
    · simp only [b6, b7, b8, cond_true, cond_false, Option.bind_some, decide_eq_false h1]
      rw [wh_bad (by omega) (fun h => h1 h.2.1)]
  by_cases hD : 240 ≤ a ∧ a ≤ 244
  · have hz : szOf a = 4 := by unfold szOf; rw [if_neg hA, if_neg (by omega), if_neg (by omega), if_neg (by omega)]
    have hlo : (bif decide (a = 240) then some 144 else some 128 : Option Int) = some (loOf a) := by
      unfold loOf
      by_cases h : a = 240
      · rw [decide_eq_true h, if_neg (by omega), if_pos h]; rfl
      · rw [decide_eq_false h, if_neg (by omega), if_neg h]; rfl
    have hhi : (bif decide (a = 244) then some 143 else some 191 : Option Int) = some (hiOf a) := by
      unfold hiOf
      by_cases h : a = 244
      · rw [decide_eq_true h, if_neg (by omega), if_pos h]; rfl
      · rw [decide_eq_false h, if_neg (by omega), if_neg h]; rfl
    rw [nA]
    have b1 : decide (a ≥ 194) = true := decide_eq_true (by omega)
    have b2 : decide (a ≤ 223) = false := decide_eq_false (by omega)
    have b3 : decide (a ≥ 224) = true := decide_eq_true (by omega)
    have b4 : decide (a ≤ 239) = false := decide_eq_false (by omega)
    have b6 : decide (a = 224) = false := decide_eq_false (by omega)
    have b7 : decide (a = 237) = false := decide_eq_false (by omega)
    have b8 : decide (a ≥ 240) = true := decide_eq_true (by omega)
    have b9 : decide (a ≤ 244) = true := decide_eq_true (by omega)
    simp only [b1, b2, b3, b4, b6, b7, b8, b9, hlo, hhi, cond_true, cond_false, Option.bind_some]
    by_cases h1 : inT l 1 (loOf a) (hiOf a)
    · by_cases h2 : inT l 2 128 191
      · by_cases h3 : inT l 3 128 191
        · simp only [cond_true, cond_false, Option.bind_some, decide_eq_true h1, decide_eq_true h2, decide_eq_true h3, ix1 h1, ix2 h2, ix3 h3]
          rw [wh_ok (by omega) ⟨h1, fun _ => h2, fun _ => h3⟩, hz, val4 hz]; rfl
        · simp only [cond_true, cond_false, Option.bind_some, decide_eq_true h1, decide_eq_true h2, decide_eq_false h3]
          rw [wh_bad (by omega) (fun h => h3 (h.2.2.2 (by omega)))]
      · simp only [cond_true, cond_false, Option.bind_some, decide_eq_true h1, decide_eq_false h2]
        rw [wh_bad (by omega) (fun h => h2 (h.2.2.1 (by omega)))]
    · simp only [cond_true, cond_false, Option.bind_some, decide_eq_false h1]
      rw [wh_bad (by omega) (fun h => h1 h.2.1)]
  have hz : szOf a = 0 := by unfold szOf; rw [if_neg hA, if_pos (by omega)]
  rw [nA]
  have g7 : ((bif decide (a ≥ 194) then some (decide (a ≤ 223)) else some false : Option Bool)) = some false := by
    by_cases h : a ≥ 194
    · rw [decide_eq_true h, decide_eq_false (by omega)]; rfl
    · rw [decide_eq_false h]; rfl
  have g22 : ((bif decide (a ≥ 224) then some (decide (a ≤ 239)) else some false : Option Bool)) = some false := by
    by_cases h : a ≥ 224
    · rw [decide_eq_true h, decide_eq_false (by omega)]; rfl
    · rw [decide_eq_false h]; rfl
  have g41 : ((bif decide (a ≥ 240) then some (decide (a ≤ 244)) else some false : Option Bool)) = some false := by
    by_cases h : a ≥ 240
    · rw [decide_eq_true h, decide_eq_false (by omega)]; rfl
    · rw [decide_eq_false h]; rfl
  have b6 : decide (a = 224) = false := decide_eq_false (by omega)
  have b7 : decide (a = 237) = false := decide_eq_false (by omega)
  have b8 : decide (a = 240) = false := decide_eq_false (by omega)
  have b9 : decide (a = 244) = false := decide_eq_false (by omega)
  simp only [b6, b7, b8, b9, g7, g22, g41, cond_true, cond_false, Option.bind_some]
  rw [wh_bad (by omega) (by omega)]
end Go.Proofs.YtggbcchebiedjaaDoor.Am.Esc

set_option linter.all false
namespace Go.Proofs.YtggbcchebiedjaaDoor.Am.Esc
open Go.Proofs.YtggbcchebiedjaaDoor.Am.T
def fullR (l : List Int) (a : Int) : Prop := szOf a ≤ 1 ∨ szOf a ≤ l.length ∨ (1 < l.length ∧ ¬ inT l 1 (loOf a) (hiOf a)) ∨ (2 < l.length ∧ ¬ inT l 2 128 191)
theorem inT_not {l : List Int} {i : Nat} {lo hi : Int} (h : i < l.length) (hn : ¬ inT l i lo hi) : l.getD i 0 < lo ∨ hi < l.getD i 0 := by
  by_cases h1 : l.getD i 0 < lo
  · exact .inl h1
  · by_cases h2 : hi < l.getD i 0
    · exact .inr h2
    · exact absurd ⟨h, by omega, by omega⟩ hn
theorem out_is {x lo hi : Int} : (bif decide (x < lo) then some true else some (decide (hi < x)) : Option Bool) = some (decide (x < lo ∨ hi < x)) := by
  by_cases h : x < lo
  · rw [decide_eq_true h, decide_eq_true (show x < lo ∨ hi < x from .inl h)]; rfl
  · rw [decide_eq_false h]
    by_cases h2 : hi < x
    · rw [decide_eq_true h2, decide_eq_true (show x < lo ∨ hi < x from .inr h2)]; rfl
    · rw [decide_eq_false h2, decide_eq_false (show ¬ (x < lo ∨ hi < x) by omega)]; rfl
theorem full_is {l : List Int} (hb : Byts l) (hn : l ≠ []) : ∃ t, unicode_utf8_FullRune l = some t ∧ (t = true ↔ fullR l (l.getD 0 0)) := by
  have h0 : 0 < l.length := List.length_pos_iff.2 hn
  obtain ⟨t, r, e1, e2, e3, k1, k2⟩ := tab_at (hb.get 0)
  unfold unicode_utf8_FullRune
  simp only [letB]
  rw [decide_eq_false (by omega), idx_is (d := 0) (i := 0) (by omega) (by omega)]
  simp only [cond_false, Option.bind_some, Int.toNat_zero, e1, e2, e3, out_is]
  unfold fullR
  generalize l.getD 0 0 = a at *
  by_cases hs : szOf a ≤ 1
  · obtain ⟨g1, g2, _⟩ := k1 hs
    rw [decide_eq_true (show (l.length : Int) ≥ iAnd .u8 t 7 by omega)]
    exact ⟨true, rfl, fun _ => .inl hs, fun _ => rfl⟩
  obtain ⟨g1, g2, g3, g4⟩ := k2 (by omega)
  rw [g2, g3, g4]
  by_cases hl : szOf a ≤ l.length
  · rw [decide_eq_true (show (l.length : Int) ≥ szOf a by omega)]
    exact ⟨true, rfl, fun _ => .inr (.inl hl), fun _ => rfl⟩
  rw [decide_eq_false (show ¬ (l.length : Int) ≥ szOf a by omega)]
  simp only [cond_false]
  by_cases h1 : 1 < l.length
  · rw [decide_eq_true (show (l.length : Int) > 1 by omega), idx_is (d := 0) (i := 1) (by omega) (by omega)]
    simp only [cond_true, Option.bind_some, out_is, Int.toNat_one]
    by_cases o1 : inT l 1 (loOf a) (hiOf a)
    · rw [decide_eq_false (show ¬ (l.getD 1 0 < loOf a ∨ hiOf a < l.getD 1 0) by have := o1.2; omega)]
      simp only [cond_false]
      by_cases h2 : 2 < l.length
      · rw [decide_eq_true (show (l.length : Int) > 2 by omega), idx_is (d := 0) (i := 2) (by omega) (by omega)]
        simp only [cond_true, Option.bind_some, out_is]
        by_cases o2 : inT l 2 128 191
        · refine ⟨false, ?_, (fun h => by cases h), fun h => ?_⟩
          · rw [decide_eq_false (show ¬ (l.getD (Int.toNat 2) 0 < 128 ∨ 191 < l.getD (Int.toNat 2) 0) by have := o2.2; show ¬ (l.getD 2 0 < 128 ∨ 191 < l.getD 2 0); omega)]; rfl
          · rcases h with h | h | h | h
            · exact absurd h hs
            · exact absurd h hl
            · exact absurd o1 h.2
            · exact absurd o2 h.2
        · refine ⟨true, ?_, fun _ => .inr (.inr (.inr ⟨h2, o2⟩)), fun _ => rfl⟩
          rw [decide_eq_true (show (l.getD (Int.toNat 2) 0 < 128 ∨ 191 < l.getD (Int.toNat 2) 0) from inT_not h2 o2)]; rfl
      · rw [decide_eq_false (show ¬ (l.length : Int) > 2 by omega)]
        refine ⟨false, rfl, (fun h => by cases h), fun h => ?_⟩
        rcases h with h | h | h | h
        · exact absurd h hs
        · exact absurd h hl
        · exact absurd o1 h.2
        · exact absurd h.1 h2
    · rw [decide_eq_true (inT_not h1 o1)]
      exact ⟨true, rfl, fun _ => .inr (.inr (.inl ⟨h1, o1⟩)), fun _ => rfl⟩
  · rw [decide_eq_false (show ¬ (l.length : Int) > 1 by omega)]
    simp only [cond_false, Option.bind_some]
    rw [decide_eq_false (show ¬ (l.length : Int) > 2 by omega)]
    refine ⟨false, rfl, (fun h => by cases h), fun h => ?_⟩
    rcases h with h | h | h | h
    · exact absurd h hs
    · exact absurd h hl
    · exact absurd h.1 h1
    · exact absurd h.1 (by omega)
def decR (l : List Int) (a : Int) : Int × Int :=
  if szOf a = 1 then (a, 1) else if 2 ≤ szOf a ∧ okR l a then (valR l a, (szOf a : Int)) else (65533, 1)
theorem de_bad {l : List Int} {a : Int} (h1 : szOf a ≠ 1) (h2 : ¬ (2 ≤ szOf a ∧ okR l a)) : decR l a = (65533, 1) := by unfold decR; rw [if_neg h1, if_neg h2]
theorem de_ok {l : List Int} {a : Int} (h1 : 2 ≤ szOf a) (h2 : okR l a) : decR l a = (valR l a, (szOf a : Int)) := by unfold decR; rw [if_neg (by omega), if_pos ⟨h1, h2⟩]
theorem sz_le {a : Int} : szOf a ≤ 4 := by unfold szOf; (repeat' split) <;> omega
theorem slow_is {l : List Int} (hb : Byts l) (hn : l ≠ []) (hs1 : szOf (l.getD 0 0) ≠ 1) : unicode_utf8_decodeRuneSlow l = some (decR l (l.getD 0 0)) := by
  have h0 : 0 < l.length := List.length_pos_iff.2 hn
  obtain ⟨t, r, e1, e2, e3, k1, k2⟩ := tab_at (hb.get 0)
  unfold unicode_utf8_decodeRuneSlow
  simp only [letB]
  rw [decide_eq_false (show ¬ (l.length : Int) < 1 by omega), idx_is (d := 0) (i := 0) (by omega) (by omega)]
  simp only [cond_false, Option.bind_some, Int.toNat_zero, e1, e2, e3, out_is]
  have i1 : 1 < l.length → idx l 1 = some (l.getD 1 0) := fun h => idx_is (i := 1) (by omega) (by omega)
  have i2 : 2 < l.length → idx l 2 = some (l.getD 2 0) := fun h => idx_is (i := 2) (by omega) (by omega)
  have i3 : 3 < l.length → idx l 3 = some (l.getD 3 0) := fun h => idx_is (i := 3) (by omega) (by omega)
  have hsz := sz_le (a := l.getD 0 0)
  generalize l.getD 0 0 = a at *
  by_cases hs : szOf a ≤ 1
  · obtain ⟨g1, g2, g3, _⟩ := k1 hs
    have hz : szOf a = 0 := by omega
    rw [decide_eq_true g1, de_bad hs1 (by omega)]
    have hv := g3 hz
    unfold badV at hv
    rw [hv]; rfl
  obtain ⟨g1, g2, g3, g4⟩ := k2 (by omega)
  rw [decide_eq_false (show ¬ t ≥ 240 by omega), g2, g3, g4]
  simp only [cond_false]
  by_cases hl : l.length < szOf a
  · rw [decide_eq_true (show (l.length : Int) < szOf a by omega), de_bad hs1]
    · rfl
    · intro h
      have c1 := h.2.1.1
      have c2 := fun hh => (h.2.2.1 hh).1
      have c3 := fun hh => (h.2.2.2 hh).1
      by_cases q3 : 3 ≤ szOf a
      · have := c2 q3
        by_cases q4 : 4 ≤ szOf a
        · have := c3 q4; omega
        · omega
      · omega
  rw [decide_eq_false (show ¬ (l.length : Int) < szOf a by omega), i1 (by omega)]
  simp only [cond_false, Option.bind_some, out_is]
  by_cases o1 : inT l 1 (loOf a) (hiOf a)
  case neg => rw [decide_eq_true (inT_not (by omega) o1), de_bad hs1 (fun h => o1 h.2.1)]; rfl
  rw [decide_eq_false (show ¬ (l.getD 1 0 < loOf a ∨ hiOf a < l.getD 1 0) by have := o1.2; omega)]
  simp only [cond_false]
  by_cases q2 : szOf a = 2
  · rw [decide_eq_true (show (szOf a : Int) ≤ 2 by omega), de_ok (by omega) ⟨o1, fun h => by omega, fun h => by omega⟩, val2 q2, q2]; rfl
  rw [decide_eq_false (show ¬ (szOf a : Int) ≤ 2 by omega), i2 (by omega)]
  simp only [cond_false, Option.bind_some, out_is]
  by_cases o2 : inT l 2 128 191
  case neg => rw [decide_eq_true (inT_not (by omega) o2), de_bad hs1 (fun h => o2 (h.2.2.1 (by omega)))]; rfl
  rw [decide_eq_false (show ¬ (l.getD 2 0 < 128 ∨ 191 < l.getD 2 0) by have := o2.2; omega)]
  simp only [cond_false]
  by_cases q3 : szOf a = 3
  · rw [decide_eq_true (show (szOf a : Int) ≤ 3 by omega), de_ok (by omega) ⟨o1, fun h => o2, fun h => by omega⟩, val3 q3, q3]; rfl
  rw [decide_eq_false (show ¬ (szOf a : Int) ≤ 3 by omega), i3 (by omega)]
  simp only [cond_false, Option.bind_some, out_is]
  have q4 : szOf a = 4 := by omega
  by_cases o3 : inT l 3 128 191
  case neg => rw [decide_eq_true (inT_not (by omega) o3), de_bad hs1 (fun h => o3 (h.2.2.2 (by omega)))]; rfl
  rw [decide_eq_false (show ¬ (l.getD 3 0 < 128 ∨ 191 < l.getD 3 0) by have := o3.2; omega)]
  simp only [cond_false]
  rw [de_ok (by omega) ⟨o1, fun h => o2, fun h => o3⟩, val4 q4, q4]; rfl
theorem dec_is {l : List Int} (hb : Byts l) (hn : l ≠ []) : unicode_utf8_DecodeRune l = some (decR l (l.getD 0 0)) := by
  have h0 : 0 < l.length := List.length_pos_iff.2 hn
  obtain ⟨t, r, e1, e2, e3, k1, k2⟩ := tab_at (hb.get 0)
  unfold unicode_utf8_DecodeRune
  have hl : unicode_utf8_DecodeRune_l2 l = some (.inr (if l.getD 0 0 < 128 then .inl (w32 (l.getD 0 0)) else .inr ())) := by
    unfold unicode_utf8_DecodeRune_l2
    simp only [letB]
    rw [show decide (0 < (l.length : Int)) = true from decide_eq_true (by omega), idx_is (d := 0) (i := 0) (by omega) (by omega)]
    simp only [cond_true, Option.bind_some, Int.toNat_zero]
    by_cases h : l.getD 0 0 < 128
    · rw [decide_eq_true h, if_pos h]; rfl
    · rw [decide_eq_false h, if_neg h]; rfl
  rw [iter_inr hl]
  simp only [Option.bind_some]
  by_cases h : l.getD 0 0 < 128
  · have hz : szOf (l.getD 0 0) = 1 := by unfold szOf; rw [if_pos h]
    rw [if_pos h, (k1 (by omega)).2.2.2 hz]
    unfold decR
    rw [if_pos hz]; rfl
  · have hz : szOf (l.getD 0 0) ≠ 1 := by unfold szOf; rw [if_neg h]; (repeat' split) <;> omega
    rw [if_neg h]
    simp only [Option.bind_some, slow_is hb hn hz]
end Go.Proofs.YtggbcchebiedjaaDoor.Am.Esc

set_option linter.all false
namespace Go.Proofs.YtggbcchebiedjaaDoor.Am.Esc
open Go.Proofs.YtggbcchebiedjaaDoor.Am.T
inductive Rn : List Int → List Int → Prop
  | nil : Rn [] []
  | bad {b rs : List Int} (hn : b ≠ []) (h : whR b (b.getD 0 0) = (0, 0)) (hr : Rn (b.drop 1) rs) : Rn b (65533 :: rs)
  | good {b rs : List Int} {n : Nat} {v : Int} (hn : b ≠ []) (h1 : 1 ≤ n) (hl : n ≤ b.length) (h : whR b (b.getD 0 0) = ((n : Int), v)) (hr : Rn (b.drop n) rs) : Rn b (v :: rs)
theorem getD_app {l x : List Int} {i : Nat} (h : i < l.length) : (l ++ x).getD i 0 = l.getD i 0 := by
  rw [List.getD_eq_getElem?_getD, List.getD_eq_getElem?_getD, List.getElem?_append_left h]
theorem inT_app {l x : List Int} {i : Nat} {lo hi : Int} (h : i < l.length) : inT (l ++ x) i lo hi ↔ inT l i lo hi := by
  unfold inT
  rw [getD_app h, List.length_append]
  constructor
  · intro hh; exact ⟨h, hh.2⟩
  · intro hh; exact ⟨by omega, hh.2⟩
theorem drop_app {l x : List Int} {n : Nat} (h : n ≤ l.length) : (l ++ x).drop n = l.drop n ++ x := by
  rw [List.drop_append, show n - l.length = 0 by omega, List.drop_zero]
theorem head_is {l x rs : List Int} {r n : Int} (hn : l ≠ []) (hf : fullR l (l.getD 0 0)) (hd : decR l (l.getD 0 0) = (r, n)) (hr : Rn (l.drop n.toNat ++ x) rs) : Rn (l ++ x) (r :: rs) := by
  have h0 : 0 < l.length := List.length_pos_iff.2 hn
  have hne : l ++ x ≠ [] := by intro h; exact hn (List.append_eq_nil_iff.1 h).1
  have hg : (l ++ x).getD 0 0 = l.getD 0 0 := getD_app h0
  have hlen : (l ++ x).length = l.length + x.length := List.length_append
  have one : n = 1 → (l ++ x).drop 1 = l.drop n.toNat ++ x := fun h => by rw [h]; exact drop_app (by omega)
  revert hf hd
  rw [← hg]
  intro hf hd
  obtain ⟨a, ha⟩ : ∃ a, a = (l ++ x).getD 0 0 := ⟨_, rfl⟩
  rw [← ha] at hf hd
  by_cases hz : szOf a = 1
  · have e1 : decR l a = (a, 1) := by unfold decR; rw [if_pos hz]
    have e2 : whR (l ++ x) a = (((1 : Nat) : Int), a) := by unfold whR; rw [if_pos hz]; rfl
    rw [e1] at hd
    injection hd with h1 h2
    refine Rn.good (n := 1) hne (Nat.le_refl _) (by omega) ?_ (by rw [one h2.symm]; exact hr)
    rw [← ha, e2, h1]
  by_cases hs : 2 ≤ szOf a
  · by_cases hl : szOf a ≤ l.length
    · have hsz := sz_le (a := a)
      have hok : okR (l ++ x) a ↔ okR l a := by
        unfold okR
        rw [inT_app (by omega)]
        constructor
        · intro h; exact ⟨h.1, fun q => (inT_app (by omega)).1 (h.2.1 q), fun q => (inT_app (by omega)).1 (h.2.2 q)⟩
        · intro h; exact ⟨h.1, fun q => (inT_app (by omega)).2 (h.2.1 q), fun q => (inT_app (by omega)).2 (h.2.2 q)⟩
      by_cases ho : okR l a
      · rw [de_ok hs ho] at hd
        injection hd with h1 h2
        have hv : valR (l ++ x) a = valR l a := by
          by_cases q2 : szOf a = 2
          · rw [val2 q2, val2 q2, getD_app (by omega)]
          by_cases q3 : szOf a = 3
          · rw [val3 q3, val3 q3, getD_app (by omega), getD_app (by omega)]
          have q4 : szOf a = 4 := by omega
          rw [val4 q4, val4 q4, getD_app (by omega), getD_app (by omega), getD_app (by omega)]
        refine Rn.good (n := szOf a) hne (by omega) (by omega) (by rw [← ha, wh_ok hs (hok.2 ho), hv, h1]) ?_
        rw [drop_app hl, show szOf a = n.toNat by omega]; exact hr
      · rw [de_bad hz (fun h => ho h.2)] at hd
        injection hd with h1 h2
        rw [← h1]
        exact Rn.bad hne (by rw [← ha]; exact wh_bad hz (fun h => ho (hok.1 h.2))) (by rw [one h2.symm]; exact hr)
    · have hb1 : ¬ okR l a ∧ ¬ okR (l ++ x) a := by
        rcases hf with h | h | h | h
        · omega
        · exact absurd h hl
        · exact ⟨fun o => h.2 o.1, fun o => h.2 ((inT_app h.1).1 o.1)⟩
        · exact ⟨fun o => h.2 (o.2.1 (by omega)), fun o => h.2 ((inT_app h.1).1 (o.2.1 (by omega)))⟩
      rw [de_bad hz (fun h => hb1.1 h.2)] at hd
      injection hd with h1 h2
      rw [← h1]
      exact Rn.bad hne (by rw [← ha]; exact wh_bad hz (fun h => hb1.2 h.2)) (by rw [one h2.symm]; exact hr)
  · rw [de_bad hz (by omega)] at hd
    injection hd with h1 h2
    rw [← h1]
    exact Rn.bad hne (by rw [← ha]; exact wh_bad hz (by omega)) (by rw [one h2.symm]; exact hr)
theorem tails_is : ∀ {l : List Int}, (∀ c ∈ l, 128 ≤ c ∧ c ≤ 191) → Rn l (List.replicate l.length 65533)
  | [], _ => .nil
  | c :: l, h => by
    have hc := h c List.mem_cons_self
    have hz : szOf c = 0 := by unfold szOf; rw [if_neg (by omega), if_pos (by omega)]
    exact Rn.bad (by simp) (by show whR (c :: l) c = _; exact wh_bad (by omega) (by omega)) (tails_is fun x hx => h x (.tail _ hx))
theorem waits_is {w : List Int} (h : w = [] ∨ ¬ fullR w (w.getD 0 0)) : Rn w (List.replicate w.length 65533) := by
  match w, h with
  | [], _ => exact .nil
  | a :: l, h =>
    have h : ¬ fullR (a :: l) a := h.resolve_left (by simp)
    unfold fullR at h
    have h1 : 2 ≤ szOf a := by omega
    have h2 : (a :: l).length < szOf a := by omega
    have h3 : 1 < (a :: l).length → inT (a :: l) 1 (loOf a) (hiOf a) := fun q => Decidable.byContradiction fun o => h (.inr (.inr (.inl ⟨q, o⟩)))
    have h4 : 2 < (a :: l).length → inT (a :: l) 2 128 191 := fun q => Decidable.byContradiction fun o => h (.inr (.inr (.inr ⟨q, o⟩)))
    have hsz := sz_le (a := a)
    have hbad : ¬ okR (a :: l) a := by
      intro o
      have c1 := o.1.1
      have c2 := fun hh => (o.2.1 hh).1
      have c3 := fun hh => (o.2.2 hh).1
      by_cases q3 : 3 ≤ szOf a
      · have := c2 q3
        by_cases q4 : 4 ≤ szOf a
        · have := c3 q4; omega
        · omega
      · omega
    refine Rn.bad (by simp) (by show whR (a :: l) a = _; exact wh_bad (by omega) (fun o => hbad o.2)) ?_
    refine tails_is ?_
    have hlo : 128 ≤ loOf a := by unfold loOf; (repeat' split) <;> omega
    have hhi : hiOf a ≤ 191 := by unfold hiOf; (repeat' split) <;> omega
    match l, h2, h3, h4 with
    | [], _, _, _ => intro c hc; cases hc
    | [b], _, h3, _ =>
      intro c hc
      obtain rfl := List.mem_singleton.1 hc
      have := (h3 (by simp)).2
      simp only [List.getD_cons_succ, List.getD_cons_zero] at this
      omega
    | [b, d], _, h3, h4 =>
      intro c hc
      have k3 := (h3 (by simp)).2
      have k4 := (h4 (by simp)).2
      simp only [List.getD_cons_succ, List.getD_cons_zero] at k3 k4
      rcases List.mem_cons.1 hc with rfl | hc
      · omega
      · obtain rfl := List.mem_singleton.1 hc
        omega
    | _ :: _ :: _ :: _, h2, _, _ => simp at h2; omega
theorem gF_loop : ∀ (k : Nat) {all : List Int} {out : List Int}, Byts all → all.length ≤ k → out.length + all.length ≤ most →
    ∃ rs rest, iter (fun s => glyph_Reader_Feed_in32_0_l1 s.1 s.2 : (List Int × List Int) → Option ((List Int × List Int) ⊕ (List Int × List Int))) (out, all) = some (out ++ rs, rest) ∧ (∀ x ys, Rn (rest ++ x) ys → Rn (all ++ x) (rs ++ ys)) ∧ (rest = [] ∨ ¬ fullR rest (rest.getD 0 0))
  | k, all, out, hb, hk, hm => by
    by_cases hne : all = []
    · refine ⟨[], all, ?_, fun x ys h => h, .inl hne⟩
      have ht : unicode_utf8_FullRune all = some false := by rw [hne]; decide +kernel
      rw [iter_inr (r := (out, all)) (by simp only [glyph_Reader_Feed_in32_0_l1, ht, Option.bind_some]; rfl), List.append_nil]
    obtain ⟨t, ht, hiff⟩ := full_is hb hne
    cases t with
    | false =>
      refine ⟨[], all, ?_, fun x ys h => h, .inr fun h => by cases hiff.2 h⟩
      rw [iter_inr (r := (out, all)) (by simp only [glyph_Reader_Feed_in32_0_l1, ht, Option.bind_some]; rfl), List.append_nil]
    | true =>
      have hf := hiff.1 rfl
      obtain ⟨r, n, hd, hn1, hn2⟩ := dec_some hb hne
      have hd' := hd
      rw [dec_is hb hne] at hd'
      have hd' := Option.some.inj hd'
      have hl : 0 < all.length := List.length_pos_iff.2 hne
      have hstep : glyph_Reader_Feed_in32_0_l1 out all = some (.inl (out ++ [r], all.drop n.toNat)) := by
        unfold glyph_Reader_Feed_in32_0_l1
        rw [ht]
        simp only [Option.bind_some, cond_true, hd]
        rw [app_some (by simp; omega)]
        simp only [Option.bind_some]
        unfold subA
        rw [if_pos ⟨by omega, hn2⟩]; rfl
      match k with
      | 0 => omega
      | k + 1 =>
        obtain ⟨rs, rest, e, e1, e2⟩ := gF_loop k (all := all.drop n.toNat) (out := out ++ [r]) (hb.drop _) (by simp; omega) (by simp; omega)
        refine ⟨r :: rs, rest, ?_, fun x ys h => ?_, e2⟩
        · rw [iter_inl (s' := (out ++ [r], all.drop n.toNat)) (by exact hstep), e]
          simp
        · exact head_is hne hf hd' (e1 x ys h)
theorem gF_rn {all : List Int} (hb : Byts all) (hl : all.length ≤ most) : (∀ x ys, Rn ((gF all).2 ++ x) ys → Rn (all ++ x) ((gF all).1 ++ ys)) ∧ ((gF all).2 = [] ∨ ¬ fullR (gF all).2 ((gF all).2.getD 0 0)) := by
  obtain ⟨rs, rest, e, h1, h2⟩ := gF_loop all.length (all := all) (out := []) hb (Nat.le_refl _) (by simpa using hl)
  have hg : gF all = (rs, rest) := by unfold gF; rw [e]; rfl
  rw [hg]
  exact ⟨h1, h2⟩
end Go.Proofs.YtggbcchebiedjaaDoor.Am.Esc

set_option linter.all false
namespace Go.Proofs.YtggbcchebiedjaaDoor.Am.Esc
open Go.Proofs.YtggbcchebiedjaaDoor.Am.T
theorem Rn.len {b rs : List Int} (h : Rn b rs) : rs.length ≤ b.length := by
  induction h with
  | nil => exact Nat.le_refl _
  | bad hn h hr ih =>
    have := List.length_pos_iff.2 hn
    rw [List.length_drop] at ih
    simp only [List.length_cons]; omega
  | good hn h1 hl h hr ih =>
    rw [List.length_drop] at ih
    simp only [List.length_cons]; omega
theorem runes_loop (b : List Int) (hb : Byts b) (hl : b.length ≤ most) {bs rs : List Int} (h : Rn bs rs) : ∀ (i : Nat) (out : List Int), b.drop i = bs → i ≤ b.length → out.length + rs.length ≤ most →
    iter (fun s => casementref01_Runes_l1 b s.1 s.2 : (List Int × Int) → Option ((List Int × Int) ⊕ List Int)) (out, (i : Int)) = some (out ++ rs) := by
  have hm := most_is
  induction h with
  | nil =>
    intro i out hd hi ho
    have : b.length ≤ i := by
      have := congrArg List.length hd
      rw [List.length_drop] at this
      simp at this; omega
    rw [List.append_nil]
    exact iter_inr (by
      simp only [casementref01_Runes_l1, letB]
      rw [decide_eq_false (by omega)]; rfl)
  | @bad bs rs hn h hr ih =>
    intro i out hd hi ho
    have hlt : i < b.length := by
      have := List.length_pos_iff.2 hn
      rw [← hd, List.length_drop] at this; omega
    simp only [List.length_cons] at ho
    rw [iter_inl (s' := (out ++ [65533], ((i + 1 : Nat) : Int))) (by
      simp only [casementref01_Runes_l1, letB]
      rw [decide_eq_true (by omega)]
      unfold subA
      rw [if_pos ⟨by omega, by omega⟩]
      simp only [cond_true, Option.bind_some, Int.toNat_natCast]
      rw [hd, whole_is (by rw [← hd]; exact hb.drop _) hn, h]
      simp only [Option.bind_some, decide_true, cond_true]
      rw [app_some (by simp; omega)]
      simp only [Option.bind_some]
      rw [w64_id (by omega) (by omega)]; rfl)]
    rw [ih (i + 1) (out ++ [65533]) (by rw [← hd, List.drop_drop]) (by omega) (by simp; omega)]
    simp
  | @good bs rs n v hn h1 hl2 h hr ih =>
    intro i out hd hi ho
    have hlt : i + n ≤ b.length := by
      rw [← hd, List.length_drop] at hl2; omega
    simp only [List.length_cons] at ho
    rw [iter_inl (s' := (out ++ [v], ((i + n : Nat) : Int))) (by
      simp only [casementref01_Runes_l1, letB]
      rw [decide_eq_true (by omega)]
      unfold subA
      rw [if_pos ⟨by omega, by omega⟩]
      simp only [cond_true, Option.bind_some, Int.toNat_natCast]
      rw [hd, whole_is (by rw [← hd]; exact hb.drop _) hn, h]
      simp only [Option.bind_some]
      rw [decide_eq_false (by omega)]
      simp only [cond_false]
      rw [app_some (by simp; omega)]
      simp only [Option.bind_some]
      rw [w64_id (by omega) (by omega)]; rfl)]
    rw [ih (i + n) (out ++ [v]) (by rw [← hd, List.drop_drop]) (by omega) (by simp; omega)]
    simp
theorem runes_is {b rs : List Int} (hb : Byts b) (hl : b.length ≤ most) (h : Rn b rs) : casementref01_Runes b = some rs := by
  unfold casementref01_Runes
  have := runes_loop b hb hl h 0 [] rfl (Nat.zero_le _) (by have := h.len; simp; omega)
  have e : iter (fun s => casementref01_Runes_l1 b s.1 s.2 : (List Int × Int) → Option ((List Int × Int) ⊕ List Int)) ([], 0) = some rs := this
  rw [e]; rfl
def Pl (l : List Int) : Prop := ∀ c ∈ l, 32 ≤ c ∧ c < 256 ∧ c ≠ 127
theorem Pl.byts {l : List Int} (h : Pl l) : Byts l := fun c hc => ⟨by have := (h c hc).1; omega, (h c hc).2.1⟩
def Wok (w : List Int) : Prop := Byts w ∧ w.length ≤ 3 ∧ (w = [] ∨ ¬ fullR w (w.getD 0 0))
theorem putE_put {p : ParserM} {a b : List Act} : putE (putE p a) b = putE p (a ++ b) := by unfold putE; simp
theorem ground_is {p : ParserM} {c : Int} (h0 : p.in_ = 0) (hc : 32 ≤ c ∧ c < 256 ∧ c ≠ 127) : byteE p c = plainE p c := by
  have hf : flushE p c = p := by unfold flushE; rw [if_neg (by omega)]
  unfold byteE
  rw [hf, if_neg (by omega), if_neg (by omega)]
  unfold outE onE
  rw [if_neg (by omega), if_neg (by omega), if_neg (by omega), if_pos hc.2.2, if_neg (by omega), if_neg (by omega)]
theorem text_run : ∀ {l : List Int} {p : ParserM}, p.in_ = 0 → Wok p.text.waits → Pl l → ∃ rs w, runE p l = putE { p with text := ⟨w⟩ } (rs.map pr) ∧ (∀ ys, Rn w ys → Rn (p.text.waits ++ l) (rs ++ ys)) ∧ Wok w
  | [], p, h0, hw, _ => ⟨[], p.text.waits, by show p = _; unfold putE; simp, fun ys h => by rw [List.append_nil]; exact h, hw⟩
  | c :: l, p, h0, hw, hp => by
    have hm := most_is
    have hc := hp c List.mem_cons_self
    have hb : Byts (p.text.waits ++ [c]) := hw.1.append (fun x hx => by simp at hx; subst hx; exact ⟨by omega, hc.2.1⟩)
    have hln : (p.text.waits ++ [c]).length ≤ most := by have := hw.2.1; simp; omega
    obtain ⟨g1, g2, g3, g4⟩ := gF_is hb hln
    obtain ⟨k1, k2⟩ := gF_rn hb hln
    obtain ⟨rs, w, e, e1, e2⟩ := text_run (l := l) (p := plainE p c) h0 ⟨g4, g2, k2⟩ (fun x hx => hp x (.tail _ hx))
    refine ⟨(gF (p.text.waits ++ [c])).1 ++ rs, w, ?_, fun ys h => ?_, e2⟩
    · rw [run_cons, ground_is h0 hc, e]
      have : ({ plainE p c with text := ⟨w⟩ } : ParserM) = putE { p with text := ⟨w⟩ } ((gF (p.text.waits ++ [c])).1.map pr) := rfl
      rw [this, putE_put, List.map_append]
    · have := k1 l (rs ++ ys) (e1 ys h)
      rw [List.append_assoc] at this
      rw [List.append_assoc]; exact this
theorem text_is {l : List Int} (h : Pl l) : ∃ rs, runE p0 (l ++ [24]) = { p0 with out := rs.map pr } ∧ Rn l rs := by
  obtain ⟨rs, w, e, e1, e2⟩ := text_run (l := l) (p := p0) rfl ⟨fun _ hx => (by cases hx), Nat.zero_le _, .inl rfl⟩ h
  refine ⟨rs ++ List.replicate w.length 65533, ?_, by simpa [p0] using e1 _ (waits_is e2.2.2)⟩
  rw [run_app, e]
  show byteE (putE { p0 with text := ⟨w⟩ } (rs.map pr)) 24 = _
  have hf : flushE (putE { p0 with text := ⟨w⟩ } (rs.map pr)) 24 = putE p0 ((rs ++ List.replicate w.length 65533).map pr) := by
    unfold flushE
    rw [if_pos (.inl (by omega)), List.map_append]
    unfold restE
    show putE (putE p0 (rs.map pr)) ((List.replicate w.length 65533).map pr) = _
    rw [putE_put]
  unfold byteE
  rw [hf]
  rw [if_neg (by show ¬((0 : Int) = 3); omega), if_neg (by show ¬((0 : Int) = 4); omega)]
  unfold outE
  rw [if_pos (.inl rfl)]
  rfl
def sE (s : Int) (pl : List Int) : ParserM := ⟨⟨[]⟩, 3, false, true, ⟨0, 0, s, 0, [], some [], []⟩, 0, pl, []⟩
theorem string_run {s : Int} : ∀ {l pl : List Int}, Pl l → pl.length ≤ 256 → runE (sE s pl) l = sE s (pl ++ l.take (256 - pl.length))
  | [], pl, _, _ => by simp [runE]
  | c :: l, pl, h, hl => by
    have hc := h c List.mem_cons_self
    have hf : flushE (sE s pl) c = sE s pl := by unfold flushE; rw [if_neg (by omega)]
    have hb : byteE (sE s pl) c = sE s (if pl.length < 256 then pl ++ [c] else pl) := by
      unfold byteE
      rw [hf, if_pos (by rfl)]
      unfold collectE
      rw [if_neg (by omega), if_neg (by omega), if_neg (by omega)]
      by_cases h2 : pl.length < 256
      · rw [if_pos ⟨by omega, h2⟩, if_pos h2]; rfl
      · rw [if_neg (fun hh => h2 hh.2), if_neg h2]
    rw [run_cons, hb]
    by_cases h2 : pl.length < 256
    · rw [if_pos h2, string_run (fun x hx => h x (.tail _ hx)) (by simp; omega)]
      rw [show 256 - pl.length = (256 - (pl ++ [c]).length) + 1 by simp; omega, List.take_succ_cons]
      simp
    · rw [if_neg h2, string_run (fun x hx => h x (.tail _ hx)) hl, show 256 - pl.length = 0 by omega]
      simp
theorem string_is {s : Int} {l : List Int} (hs : s ∈ ([93, 80, 88, 94, 95] : List Int)) (h : Pl l) : runE p0 ([27, s] ++ l ++ [27, 92]) = { sE s (l.take 256) with in_ := 0, out := [⟨5, 0, s, 0, [], [], l.take 256⟩] } := by
  rw [run_app, run_app]
  have h1 : runE p0 [27, s] = sE s [] := by
    have : s = 93 ∨ s = 80 ∨ s = 88 ∨ s = 94 ∨ s = 95 := by simpa using hs
    rcases this with h | h | h | h | h <;> rw [h] <;> decide +kernel
  rw [h1, string_run h (by simp)]
  rfl
def plainOf (b : List Int) : List Int := b.filter fun x => decide (32 ≤ x) && decide (x ≠ 127)
theorem plain_loop (b : List Int) (hl : b.length ≤ most) : ∀ (k i : Nat), i + k = b.length →
    iter (fun s => casementlaw04_EscText_l1 b s.1 s.2 : (List Int × Int) → Option ((List Int × Int) ⊕ List Int)) (plainOf (b.take i), (i : Int)) = some (plainOf b)
  | 0, i, hi => by
    rw [List.take_of_length_le (by omega)]
    exact iter_inr (by
      simp only [casementlaw04_EscText_l1, letB]
      rw [decide_eq_false (by omega)]; rfl)
  | k + 1, i, hi => by
    have hm := most_is
    rw [iter_inl (s' := (plainOf (b.take (i + 1)), ((i + 1 : Nat) : Int))) (by
      simp only [casementlaw04_EscText_l1, letB]
      rw [decide_eq_true (by omega), idx_is (d := 0) (by omega) (by omega)]
      simp only [cond_true, Option.bind_some, Int.toNat_natCast]
      rw [w64_id (n := (i : Int) + 1) (by omega) (by omega)]
      have ht : b.take (i + 1) = b.take i ++ [b.getD i 0] := by
        rw [List.take_add_one, List.getD_eq_getElem?_getD, List.getElem?_eq_getElem (by omega)]; rfl
      have hpl : (plainOf (b.take i)).length ≤ i := Nat.le_trans (List.length_filter_le _ _) (by rw [List.length_take]; omega)
      rw [ht]
      unfold plainOf at hpl ⊢
      rw [List.filter_append]
      generalize b.getD i 0 = c
      by_cases h1 : c ≥ 32
      · rw [decide_eq_true h1]
        by_cases h2 : c ≠ 127
        · simp only [cond_true, Option.bind_some, decide_eq_true h2]
          rw [app_some (by rw [List.length_singleton]; omega)]
          simp only [Option.bind_some]
          rw [List.filter_cons_of_pos (by rw [decide_eq_true (show 32 ≤ c from h1), decide_eq_true h2]; rfl), List.filter_nil]; rfl
        · simp only [cond_true, cond_false, Option.bind_some, decide_eq_false h2]
          rw [List.filter_cons_of_neg (by rw [decide_eq_false h2]; simp), List.filter_nil, List.append_nil]; rfl
      · rw [decide_eq_false h1]
        simp only [cond_false, Option.bind_some]
        rw [List.filter_cons_of_neg (by rw [decide_eq_false (show ¬ 32 ≤ c from h1)]; simp), List.filter_nil, List.append_nil]; rfl)]
    exact plain_loop b hl k (i + 1) (by omega)
theorem cmp_loop (rs : List Int) (p : ParserM) (hl : rs.length ≤ most) : ∀ (k i : Nat), i + k = rs.length →
    iter (fun s => casementlaw04_EscText_l2 (rs.map pr, p) rs s : Int → Option (Int ⊕ (Unit ⊕ Unit))) (i : Int) = some (.inr ())
  | 0, i, hi => iter_inr (by
      simp only [casementlaw04_EscText_l2, letB]
      rw [decide_eq_false (by omega)]; rfl)
  | k + 1, i, hi => by
    have hm := most_is
    rw [iter_inl (s' := ((i + 1 : Nat) : Int)) (by
      simp only [casementlaw04_EscText_l2, letB]
      have hx : idx (rs.map pr) (i : Int) = some (pr (rs.getD i 0)) := by
        unfold idx
        rw [if_pos (by omega), Int.toNat_natCast, List.getElem?_map, List.getD_eq_getElem?_getD, List.getElem?_eq_getElem (by omega)]; rfl
      rw [decide_eq_true (by omega), hx, idx_is (d := 0) (by omega) (by omega)]
      simp only [cond_true, Option.bind_some, Int.toNat_natCast]
      rw [decide_eq_false (show ¬ (pr (rs.getD i 0)).Kind ≠ 1 from fun h => h rfl), decide_eq_false (show ¬ (pr (rs.getD i 0)).R ≠ rs.getD i 0 from fun h => h rfl), w64_id (by omega) (by omega)]; rfl)]
    exact cmp_loop rs p hl k (i + 1) (by omega)
theorem and1023 (n : Int) : 0 ≤ iAnd .i64 n 1023 ∧ iAnd .i64 n 1023 ≤ 1023 := by
  have h : (BitVec.ofInt (IntKind.bits .i64) n &&& BitVec.ofInt (IntKind.bits .i64) 1023).toNat ≤ 1023 := by
    rw [BitVec.toNat_and]
    exact Nat.le_trans Nat.and_le_right (by decide)
  have e : iAnd .i64 n 1023 = ((BitVec.ofInt (IntKind.bits .i64) n &&& BitVec.ofInt (IntKind.bits .i64) 1023).toNat : Int) := w64_id (by omega) (by omega)
  rw [e]; omega
theorem text_pure {b : List Int} {n : Int} (hb : Byts b) (hl : b.length ≤ 1048576) : casementlaw04_EscText b n = some true := by
  have hm := most_is
  obtain ⟨pl, hpl⟩ : ∃ pl, pl = plainOf b := ⟨_, rfl⟩
  have hP : Pl pl := by
    intro c hc
    rw [hpl] at hc
    have := List.mem_filter.1 hc
    have h2 := this.2
    simp only [Bool.and_eq_true, decide_eq_true_eq] at h2
    exact ⟨h2.1, (hb c this.1).2, h2.2⟩
  have hlen : pl.length ≤ 1048576 := by rw [hpl]; exact Nat.le_trans (List.length_filter_le _ _) hl
  obtain ⟨rs, er, hr⟩ := text_is hP
  have hrl := hr.len
  obtain ⟨s, hs, hs2⟩ : ∃ s, idx ([93, 80, 88, 94, 95] : List Int) (Int.tmod (iAnd .i64 n 1023) 5) = some s ∧ s ∈ ([93, 80, 88, 94, 95] : List Int) := by
    have ha := and1023 n
    rw [Int.tmod_eq_emod_of_nonneg ha.1]
    have hz : 0 ≤ iAnd .i64 n 1023 % 5 ∧ iAnd .i64 n 1023 % 5 < 5 := ⟨by omega, by omega⟩
    refine ⟨_, idx_is (d := 0) hz.1 (by simp; omega), ?_⟩
    rw [List.getD_eq_getElem?_getD, List.getElem?_eq_getElem (by simp; omega)]
    exact List.getElem_mem _
  have e1 : iter (fun s => casementlaw04_EscText_l1 b s.1 s.2 : (List Int × Int) → Option ((List Int × Int) ⊕ List Int)) ([], 0) = some pl := by
    rw [hpl]; exact plain_loop b (by omega) b.length 0 (by omega)
  have b1 : Byts (pl ++ [24]) := hP.byts.append (byts_of rfl)
  obtain ⟨f1, s1⟩ := Feed_is St.zero b1 (by simp; omega) (by simp; omega)
  rw [show Z p0 = p0 from rfl, er] at f1 s1
  have hq : Z { p0 with out := rs.map pr } = p0 := rfl
  rw [hq] at f1
  have b2 : Byts ([27, s] ++ pl ++ [27, 92]) := by
    have hs3 : Byts [27, s] := by
      have : s = 93 ∨ s = 80 ∨ s = 88 ∨ s = 94 ∨ s = 95 := by simpa using hs2
      intro x hx
      simp at hx
      omega
    exact (hs3.append hP.byts).append (byts_of rfl)
  obtain ⟨f2, s2⟩ := Feed_is St.zero b2 (by simp; omega) (by simp; omega)
  rw [show Z p0 = p0 from rfl, string_is hs2 hP] at f2
  unfold casementlaw04_EscText
  rw [alive_is]
  simp only [Option.bind_some, Bool.not_true, cond_false]
  rw [e1]
  simp only [Option.bind_some]
  rw [app_some (a := []) (b := pl) (by simp; omega)]
  simp only [Option.bind_some, List.nil_append]
  rw [app_some (a := pl) (b := [24]) (by simp; omega)]
  simp only [Option.bind_some]
  rw [show (ParserM.mk (Reader.mk []) 0 false false (ActM.mk 0 0 0 0 [] (some []) []) 0 [] []) = p0 from rfl, f1]
  simp only [Option.bind_some]
  rw [runes_is hP.byts (by omega) hr]
  simp only [Option.bind_some, letB]
  rw [decide_eq_false (by simp)]
  simp only [cond_false]
  have e2 := cmp_loop rs p0 (by omega) rs.length 0 (by omega)
  have e2 : iter (fun s => casementlaw04_EscText_l2 (rs.map pr, p0) rs s : Int → Option (Int ⊕ (Unit ⊕ Unit))) 0 = some (.inr ()) := e2
  rw [e2]
  simp only [Option.bind_some, hs]
  rw [app_some (a := [27, s]) (b := pl) (by simp; omega)]
  simp only [Option.bind_some]
  rw [app_some (b := [27, 92]) (by simp; omega)]
  simp only [Option.bind_some]
  rw [f2]
  simp only [Option.bind_some]
  have hi : idx [Act.mk 5 0 s 0 [] [] (pl.take 256)] 0 = some ⟨5, 0, s, 0, [], [], pl.take 256⟩ := rfl
  have hsb : subB pl (min (pl.length : Int) 256) = some (pl.take 256) := by
    unfold subB
    rw [if_pos ⟨by omega, by omega⟩]
    by_cases h : pl.length ≤ 256
    · rw [show (min (pl.length : Int) 256).toNat = pl.length by omega, List.take_of_length_le (Nat.le_refl _), List.take_of_length_le h]
    · rw [show (min (pl.length : Int) 256).toNat = 256 by omega]
  have hbs : bstr (pl.take 256) = some (pl.take 256) := by
    unfold bstr
    rw [show ((pl.take 256).all fun b => decide (0 ≤ b ∧ b < 256)) = true from List.all_eq_true.2 fun x hx => decide_eq_true (hP.byts.take 256 x hx)]; rfl
  simp [Z, sE, hi, hsb, hbs, idle_is]
end Go.Proofs.YtggbcchebiedjaaDoor.Am.Esc

set_option linter.all false
namespace Go.Proofs.YtggbcchebiedjaaDoor.Am.Esc
open Go.Proofs.YtggbcchebiedjaaDoor.Am.T
theorem escText_ok {b : List Int} {n : Int} {x : V} (hx : Den [] (.sl false 1 (b.map by8)) x) (hb : Byts b) (hl : b.length ≤ 1048576) : ∃ m', RF ET 6 [x, .int .i64 n] [] = some (.bool true, m') :=
  CallT.law (casementlaw04_EscText_ok (text_pure hb hl)) (.cons hx (.cons (.base (.int _ _)) .nil))
end Go.Proofs.YtggbcchebiedjaaDoor.Am.Esc

/-
EscText answers true where the input is of bounded bulk; the input reads as it did.
-/
namespace Go.Proofs.YtggbcchebiedjaaDoor
open Go.Proofs.YtggbcchebiedjaaDoor.Am Go.Proofs.YtggbcchebiedjaaDoor.Am.Esc
open Go.ChangeShapes Go.WideShapes Go.ChangeAt Go.RowKit
namespace escTextUpto
theorem own : ownKnob Tryd.prog.godebug = none := by kernel_rfl
theorem laidB : laidOutB Tryd.prog = true := by kernel_rfl
theorem one_le {H : Type} (d : DataW H) : 1 ≤ Rows.uptoBulk d := by
  cases d with
  | lit l => cases l <;> simp [Rows.uptoBulk]
  | _ => simp [Rows.uptoBulk]
theorem part_le {H : Type} {d : DataW H} {l : List (DataW H)} (h : d ∈ l) : Rows.uptoBulk d ≤ Rows.uptoBulkAll l := by
  induction l with
  | nil => cases h
  | cons x r ih =>
    simp only [Rows.uptoBulkAll]
    cases List.mem_cons.1 h with
    | inl e => subst e; omega
    | inr e => have := ih e; omega
theorem append_le {H : Type} (l r : List (DataW H)) : Rows.uptoBulkAll l ≤ Rows.uptoBulkAll (l ++ r) := by
  induction l with
  | nil => exact Nat.zero_le _
  | cons x l ih => rw [List.cons_append]; simp only [Rows.uptoBulkAll]; omega
theorem len_le {H : Type} (l : List (DataW H)) : l.length ≤ Rows.uptoBulkAll l := by
  induction l with
  | nil => exact Nat.zero_le _
  | cons x l ih => simp only [Rows.uptoBulkAll, List.length_cons]; have := one_le x; omega
theorem slice_le {H : Type} {n : Nat} {d : DataW H} (h : n = 0 ∨ ∃ elems spare, d = .slice elems spare ∧ elems.length = n) (hb : Rows.uptoBulk d ≤ 1048576) : n ≤ 1048576 := by
  rcases h with rfl | ⟨elems, spare, rfl, rfl⟩
  · omega
  · have := len_le elems
    simp only [Rows.uptoBulk] at hb
    omega
theorem law {H : Type} (ds : List (DataW H)) (hk : Rows.uptoBulkAll ds ≤ 1048576) (hds : ds.length = Tryd.f6.params.toList.length) (l : List V) (hl : l.length = Tryd.f6.params.toList.length) (h : ∀ (j : Nat) (t : TypeId), Tryd.f6.params.toList[j]? = some t → FitsV Tryd.prog t (l.getD j .undef)) (hlong : ∀ (j : Nat) (d : DataW H), ds[j]? = some d → AsLong (l.getD j .undef) d) : ∃ m', RF ET 6 l [] = some (.bool true, m') := by
  have hln : l.length = 2 := hl
  have hdn : ds.length = 2 := hds
  match l, hln, ds, hdn with
  | [x0, x1], _, [d0, d1], _ =>
    have h0 := h 0 _ rfl
    have k0 := hlong 0 _ rfl
    have b0 : Rows.uptoBulk d0 ≤ 1048576 := Nat.le_trans (part_le (by simp)) hk
    have h1 := h 1 _ rfl
    have k1 := hlong 1 _ rfl
    have b1 : Rows.uptoBulk d1 ≤ 1048576 := Nat.le_trans (part_le (by simp)) hk
    have u5 : Tryd.prog.underlying 5 = some (.int .u8) := by kernel_rfl
    have t0 : Tryd.prog.underlying (Tryd.f6.params.toList.getD 0 0) = some (.slice 5) := by kernel_rfl
    have t1 : Tryd.prog.underlying (Tryd.f6.params.toList.getD 1 0) = some (.int .i64) := by kernel_rfl
    obtain ⟨b, hx, hb, _⟩ := fits_bytes t0 u5 (by kernel_rfl) (fitsV_leaf t0 h0 (fun _ e => by cases e) (fun _ _ e => by cases e))
    obtain ⟨n, e1, hw⟩ := fits_int t1 (fitsV_leaf t1 h1 (fun _ e => by cases e) (fun _ _ e => by cases e))
    have e0 := slice_le (den_long hx k0) b0
    rw [List.length_map] at e0
    cases e1
    exact escText_ok hx hb e0
noncomputable def laidWorld (os : Os) : World :=
  { World.holding Tryd.prog os ⟨#[], #[], []⟩ with heap := ((((((World.holding Tryd.prog os ⟨#[], #[], []⟩).heap.modify 0 fun
      | .cells _ t frozen => .cells #[.int .u64 1, .int .u64 10, .int .u64 100, .int .u64 1000, .int .u64 10000, .int .u64 100000, .int .u64 1000000, .int .u64 10000000, .int .u64 100000000, .int .u64 1000000000, .int .u64 10000000000, .int .u64 100000000000, .int .u64 1000000000000, .int .u64 10000000000000, .int .u64 100000000000000, .int .u64 1000000000000000, .int .u64 10000000000000000, .int .u64 100000000000000000, .int .u64 1000000000000000000, .int .u64 10000000000000000000] t frozen
      | o => o).modify 1 fun
      | .cells _ t frozen => .cells ((Go.Pinned.utf8FirstZ.map fun (n : Nat) => Value.int .u8 n).toArray) t frozen
      | o => o).modify 2 fun
      | .cells _ t frozen => .cells #[.int .u8 128, .int .u8 191, .int .u8 160, .int .u8 191, .int .u8 128, .int .u8 159, .int .u8 144, .int .u8 191, .int .u8 128, .int .u8 143, .int .u8 0, .int .u8 0, .int .u8 0, .int .u8 0, .int .u8 0, .int .u8 0, .int .u8 0, .int .u8 0, .int .u8 0, .int .u8 0, .int .u8 0, .int .u8 0, .int .u8 0, .int .u8 0, .int .u8 0, .int .u8 0, .int .u8 0, .int .u8 0, .int .u8 0, .int .u8 0, .int .u8 0, .int .u8 0] t frozen
      | o => o).modify 3 fun
      | .cells _ t frozen => .cells #[.int .u8 0, .int .u8 1, .int .u8 28, .int .u8 2, .int .u8 29, .int .u8 14, .int .u8 24, .int .u8 3, .int .u8 30, .int .u8 22, .int .u8 20, .int .u8 15, .int .u8 25, .int .u8 17, .int .u8 4, .int .u8 8, .int .u8 31, .int .u8 27, .int .u8 13, .int .u8 23, .int .u8 21, .int .u8 19, .int .u8 16, .int .u8 7, .int .u8 26, .int .u8 12, .int .u8 18, .int .u8 6, .int .u8 11, .int .u8 5, .int .u8 10, .int .u8 9] t frozen
      | o => o).modify 4 fun
      | .cells _ t frozen => .cells #[.int .u8 0, .int .u8 1, .int .u8 56, .int .u8 2, .int .u8 57, .int .u8 49, .int .u8 28, .int .u8 3, .int .u8 61, .int .u8 58, .int .u8 42, .int .u8 50, .int .u8 38, .int .u8 29, .int .u8 17, .int .u8 4, .int .u8 62, .int .u8 47, .int .u8 59, .int .u8 36, .int .u8 45, .int .u8 43, .int .u8 51, .int .u8 22, .int .u8 53, .int .u8 39, .int .u8 33, .int .u8 30, .int .u8 24, .int .u8 18, .int .u8 12, .int .u8 5, .int .u8 63, .int .u8 55, .int .u8 48, .int .u8 27, .int .u8 60, .int .u8 41, .int .u8 37, .int .u8 16, .int .u8 46, .int .u8 35, .int .u8 44, .int .u8 21, .int .u8 52, .int .u8 32, .int .u8 23, .int .u8 11, .int .u8 54, .int .u8 26, .int .u8 40, .int .u8 15, .int .u8 34, .int .u8 20, .int .u8 31, .int .u8 10, .int .u8 25, .int .u8 14, .int .u8 19, .int .u8 9, .int .u8 13, .int .u8 8, .int .u8 7, .int .u8 6] t frozen
      | o => o) }
theorem laid_met (os : Os) : laidMet Tryd.prog Rows.escTextUptoRow.laid ((laidWorld os).forCall (fun _ _ => 0) ⟨#[], #[.slice none 0 0, .int .i64 0], []⟩).memory :=
  laidMet_of_run' 8 (by kernel_rfl) (by kernel_rfl)
theorem reads (os : Os) {H : Type} (enc : TypeId × Value → H) : ∃ places, DataW.whole enc Tryd.prog ((laidWorld os).forCall (fun _ _ => 0) ⟨#[], #[.slice none 0 0, .int .i64 0], []⟩).memory Tryd.f6.params.toList Rows.escTextSpec.vars false (#[.slice none 0 0, .int .i64 0] : Array Value).toList 8 = some ([.nil, .lit (.int .i64 0)], [], places) :=
  ⟨[], by kernel_rfl⟩
set_option maxRecDepth 100000 in
theorem lifted (os : Os) (started : os.Started) (H : Type) (enc : TypeId × Value → H) (F : Stop.Interp) :
    ReturnsInHanded {} Tryd.checked os 6 .any ((Rows.OpenSpec.upto Rows.escTextSpec).preRow enc Tryd.prog Tryd.f6 Rows.escTextUptoRow.domain false Rows.escTextUptoRow.laid) (((Rows.OpenSpec.upto Rows.escTextSpec).at F).post enc Tryd.prog Tryd.f6 false true false false) := by
  obtain ⟨places, hx⟩ := reads os enc
  refine returnsInHanded_of_row (C := Tryd.checked) (s := (Rows.OpenSpec.upto Rows.escTextSpec)) own started (by kernel_rfl) Tryd.func6
    (witness_row_at (enc := enc) (C := Tryd.checked) false (laidWorld os) #[.slice none 0 0, .int .i64 0] rfl (by kernel_rfl) (by kernel_rfl) (by kernel_rfl)
      (OpenSpec.preRow_of_cond 8 hx (by kernel_rfl) (fun k hk => by cases hk; kernel_rfl) (by kernel_rfl) (laid_met os))) ?_
  intro W base args ds gs before hval hW _ hk _ hlaid _ _
  have hk2 : Rows.uptoBulkAll ds ≤ 1048576 := Nat.le_trans (append_le ds gs) (of_decide_eq_true (hk Rows.uptoSmall rfl))
  exact law_contractU (laid_of hlaid (by kernel_rfl) (by kernel_rfl)) ET_ok (tb := 4) (d := 8) (by kernel_rfl) (by kernel_rfl) rfl
    (fun ds hd => by
      have hdn : ds.length = 2 := hd
      match ds, hdn with
      | [_, _], _ => rfl) laidB (by kernel_rfl) (by kernel_rfl) (law ds hk2) hval hW
theorem said : Rows.EscTextUptoSaid :=
  OpenClaim.holds_of_cond 6 Tryd.f6 rfl rfl rfl rfl rfl rfl rfl ⟨rfl, rfl, rfl, rfl, rfl⟩ rfl rfl rfl rfl rfl (by kernel_rfl) Tryd.func6 (by kernel_rfl)
    (of_decide_eq_true (by kernel_rfl)) (by unfold Func.isWrapper; first | (rw [if_pos (by decide +kernel)]; kernel_rfl) | (rw [if_neg (by decide +kernel)]; exact ⟨rfl, rfl⟩))
    (fun os started H enc _ F => by rw [OpenClaim.pre_eq_preRow]; exact lifted os started H enc F)
theorem nowant : (Tryd.f6.params.toList.all fun t => Tryd.prog.wantsStandIn t == false) = true := by kernel_rfl
theorem plain (f : FuncId) (fn : Func) (hf : Tryd.pinned.checked.prog.funcNamed "casement/casementlaw04.EscText" = some f) (hfn : Tryd.pinned.checked.prog.funcs[f]? = some fn) :
    false = Tryd.pinned.checked.prog.looks [] ∧ ∀ (j : Nat) t, fn.params[j]? = some t → Tryd.pinned.checked.prog.wantsStandIn t = false := by
  obtain rfl : f = 6 := Option.some.inj ((show Tryd.prog.funcNamed "casement/casementlaw04.EscText" = some 6 by kernel_rfl).symm.trans hf) |>.symm
  obtain rfl : fn = Tryd.f6 := (Option.some.inj (Tryd.func6.symm.trans hfn)).symm
  refine ⟨by kernel_rfl, fun j t ht => ?_⟩
  exact beq_iff_eq.1 (List.all_eq_true.1 nowant t (Array.mem_toList_iff.2 (Array.mem_of_getElem? ht)))
theorem holds : Rows.EscTextUptoCardSaid :=
  Claim7.holds_tied_plain_at .later [] _ _ _ _ said (fun _ h => by cases h) (by kernel_rfl) (fun _ h => by cases h) escTextUpto_row_tie rfl ⟨rfl, rfl⟩ (by kernel_rfl) rfl plain (by kernel_rfl)
#print axioms holds
end escTextUpto
end Go.Proofs.YtggbcchebiedjaaDoor
