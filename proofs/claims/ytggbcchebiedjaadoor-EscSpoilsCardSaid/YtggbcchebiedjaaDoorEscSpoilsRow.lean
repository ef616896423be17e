/-
EscSpoils answers true whatever its input; the input reads as it did.
-/
import Derived.Test.YtggbcchebiedjaaDoorAmEscSpoilsRow5
import Derived.Carry
import Derived.OpenShut
import Derived.ChangeSame
import Derived.RowKit
import Derived.Test.YtggbcchebiedjaaDoorRows
import Derived.LaidSub
import Derived.Lib.LaidTab
import Derived.Lib.ItoaLen
import Derived.Test.YtggbcchebiedjaaDoorCards
import Derived.Test.YtggbcchebiedjaaDoorTie
import Derived.WalkKit
import Derived.ProofKit
import Derived.Deep.DeepHandedRow
set_option linter.all false
namespace Go.Proofs.YtggbcchebiedjaaDoor.Am.Esc
open Go.Proofs.YtggbcchebiedjaaDoor.Am.T
theorem w64_id {n : Int} (h1 : -9223372036854775808 ≤ n) (h2 : n ≤ 9223372036854775807) : w64 n = n := by
  show IntKind.wrap .i64 n = n
  rw [IntKind.wrap_i64]; omega
def Byts (l : List Int) : Prop := ∀ x ∈ l, 0 ≤ x ∧ x < 256
theorem Byts.get {l : List Int} (h : Byts l) (i : Nat) : 0 ≤ l.getD i 0 ∧ l.getD i 0 < 256 := by
  rw [List.getD_eq_getElem?_getD]
  cases hi : l[i]? with
  | none => exact ⟨Int.le_refl _, by decide⟩
  | some x => exact h x (List.mem_of_getElem? hi)
theorem Byts.drop {l : List Int} (h : Byts l) (n : Nat) : Byts (l.drop n) := fun x hx => h x (List.mem_of_mem_drop hx)
theorem Byts.append {l l' : List Int} (h : Byts l) (h' : Byts l') : Byts (l ++ l') := fun x hx => by
  rcases List.mem_append.1 hx with h1 | h1
  · exact h x h1
  · exact h' x h1
theorem idx_is {α : Type} {d : α} {l : List α} {i : Int} (h0 : 0 ≤ i) (h : i < l.length) : idx l i = some (l.getD i.toNat d) := by
  unfold idx
  rw [if_pos h0, List.getD_eq_getElem?_getD, List.getElem?_eq_getElem (by omega)]; rfl
def firstOk (x : Int) : Bool := decide (0 ≤ iAnd .u8 x 7) && decide (iAnd .u8 x 7 ≤ 4) && decide (0 ≤ iShr .u8 x 4) && decide (iShr .u8 x 4 < 16) && (decide (x ≥ 240) || decide (2 ≤ iAnd .u8 x 7))
theorem first_all : tab1L.all firstOk = true := by decide +kernel
theorem first_len : tab1L.length = 256 := by decide +kernel
theorem second_len : tab2L.length = 16 := by decide +kernel
theorem first_at {b : Int} (h : 0 ≤ b ∧ b < 256) : ∃ x, idx tab1L b = some x ∧ (0 ≤ iAnd .u8 x 7 ∧ iAnd .u8 x 7 ≤ 4) ∧ (0 ≤ iShr .u8 x 4 ∧ iShr .u8 x 4 < 16) ∧ (x ≥ 240 ∨ 2 ≤ iAnd .u8 x 7) := by
  refine ⟨_, idx_is (d := 0) h.1 (by have := first_len; omega), ?_⟩
  have hm : tab1L.getD b.toNat 0 ∈ tab1L := by
    rw [List.getD_eq_getElem?_getD, List.getElem?_eq_getElem (by rw [first_len]; omega)]
    exact List.getElem_mem _
  have := List.all_eq_true.1 first_all _ hm
  clear hm
  generalize tab1L.getD b.toNat 0 = x at this ⊢
  simp only [firstOk, Bool.and_eq_true, Bool.or_eq_true, decide_eq_true_eq] at this
  obtain ⟨⟨⟨⟨h1, h2⟩, h3⟩, h4⟩, h5⟩ := this
  exact ⟨⟨h1, h2⟩, ⟨h3, h4⟩, h5⟩
theorem second_at {i : Int} (h : 0 ≤ i ∧ i < 16) : ∃ x, idx tab2L i = some x := ⟨_, idx_is (d := ⟨0, 0⟩) h.1 (by have := second_len; omega)⟩
theorem full_some {b : List Int} (hb : Byts b) : ∃ t, unicode_utf8_FullRune b = some t ∧ (t = true → b ≠ []) ∧ (t = false → b.length ≤ 3) := by
  unfold unicode_utf8_FullRune
  simp only [letB]
  by_cases h0 : b.length = 0
  · refine ⟨false, ?_, by simp, fun _ => by omega⟩
    rw [show decide ((b.length : Int) = 0) = true from decide_eq_true (by omega)]; rfl
  · rw [show decide ((b.length : Int) = 0) = false from decide_eq_false (by omega)]
    have hn : b ≠ [] := fun h => h0 (by rw [h]; rfl)
    obtain ⟨x, hx, hs, hr, _⟩ := first_at (hb.get 0)
    obtain ⟨y, hy⟩ := second_at hr
    simp only [cond_false]
    rw [idx_is (d := 0) (Int.le_refl 0) (by omega)]
    simp only [Option.bind_some, Int.toNat_zero]
    rw [hx]
    simp only [Option.bind_some]
    rw [w64_id (by omega) (by omega)]
    by_cases hl : (b.length : Int) ≥ iAnd .u8 x 7
    · exact ⟨true, by rw [decide_eq_true hl]; rfl, fun _ => hn, fun h => by cases h⟩
    · rw [decide_eq_false hl, hy]
      simp only [cond_false, Option.bind_some]
      have hl3 : b.length ≤ 3 := by omega
      have key : ∀ o : Option Bool, (∃ t, o = some t) → ∃ t, o = some t ∧ (t = true → b ≠ []) ∧ (t = false → b.length ≤ 3) := fun o ⟨t, h⟩ => ⟨t, h, fun _ => hn, fun _ => hl3⟩
      apply key
      by_cases h1 : (b.length : Int) > 1
      · rw [decide_eq_true h1, idx_is (d := 0) (i := 1) (by omega) (by omega)]
        simp only [cond_true, Option.bind_some]
        cases decide (b.getD (Int.toNat 1) 0 < y.lo) <;> cases decide (y.hi < b.getD (Int.toNat 1) 0) <;> simp only [cond_true, cond_false, Option.bind_some] <;> first | exact ⟨_, rfl⟩ | skip
        by_cases h2 : (b.length : Int) > 2
        · rw [decide_eq_true h2, idx_is (d := 0) (i := 2) (by omega) (by omega)]
          simp only [cond_true, Option.bind_some]
          cases decide (b.getD (Int.toNat 2) 0 < 128) <;> cases decide (191 < b.getD (Int.toNat 2) 0) <;> exact ⟨_, rfl⟩
        · rw [decide_eq_false h2]; exact ⟨_, rfl⟩
      · rw [decide_eq_false h1]
        simp only [cond_false, Option.bind_some]
        rw [decide_eq_false (show ¬ (b.length : Int) > 2 by omega)]; exact ⟨_, rfl⟩
theorem dec_some {b : List Int} (hb : Byts b) (hn : b ≠ []) : ∃ r n, unicode_utf8_DecodeRune b = some (r, n) ∧ 1 ≤ n ∧ n ≤ (b.length : Int) := by
  have h0 : 0 < b.length := List.length_pos_iff.2 hn
  have slow : ∃ r n, unicode_utf8_decodeRuneSlow b = some (r, n) ∧ 1 ≤ n ∧ n ≤ (b.length : Int) := by
    unfold unicode_utf8_decodeRuneSlow
    simp only [letB]
    rw [show decide ((b.length : Int) < 1) = false from decide_eq_false (by omega)]
    simp only [cond_false]
    obtain ⟨x, hx, hs, hr, hh⟩ := first_at (hb.get 0)
    obtain ⟨y, hy⟩ := second_at hr
    rw [idx_is (d := 0) (i := 0) (by omega) (by omega)]
    simp only [Option.bind_some, Int.toNat_zero]
    rw [hx]
    simp only [Option.bind_some]
    by_cases h240 : x ≥ 240
    · rw [decide_eq_true h240]; exact ⟨_, _, rfl, by omega, by omega⟩
    · rw [decide_eq_false h240, hy]
      have h2 : 2 ≤ iAnd .u8 x 7 := hh.resolve_left h240
      simp only [cond_false, Option.bind_some]
      rw [w64_id (n := iAnd .u8 x 7) (by omega) (by omega)]
      by_cases hl : (b.length : Int) < iAnd .u8 x 7
      · rw [decide_eq_true hl]; exact ⟨_, _, rfl, by omega, by omega⟩
      · rw [decide_eq_false hl, idx_is (d := 0) (i := 1) (by omega) (by omega)]
        simp only [cond_false, Option.bind_some]
        have bad : ∃ r n, (some (65533, 1) : Option (Int × Int)) = some (r, n) ∧ 1 ≤ n ∧ n ≤ (b.length : Int) := ⟨_, _, rfl, by omega, by omega⟩
        cases decide (b.getD (Int.toNat 1) 0 < y.lo) <;> cases decide (y.hi < b.getD (Int.toNat 1) 0) <;> simp only [cond_true, cond_false, Option.bind_some] <;> first | exact bad | skip
        by_cases hs2 : iAnd .u8 x 7 ≤ 2
        · rw [decide_eq_true hs2]; exact ⟨_, _, rfl, by omega, by omega⟩
        · rw [decide_eq_false hs2, idx_is (d := 0) (i := 2) (by omega) (by omega)]
          simp only [cond_false, Option.bind_some]
          cases decide (b.getD (Int.toNat 2) 0 < 128) <;> cases decide (191 < b.getD (Int.toNat 2) 0) <;> simp only [cond_true, cond_false, Option.bind_some] <;> first | exact bad | skip
          by_cases hs3 : iAnd .u8 x 7 ≤ 3
          · rw [decide_eq_true hs3]; exact ⟨_, _, rfl, by omega, by omega⟩
          · rw [decide_eq_false hs3, idx_is (d := 0) (i := 3) (by omega) (by omega)]
            simp only [cond_false, Option.bind_some]
            cases decide (b.getD (Int.toNat 3) 0 < 128) <;> cases decide (191 < b.getD (Int.toNat 3) 0) <;> simp only [cond_true, cond_false, Option.bind_some] <;> first | exact bad | exact ⟨_, _, rfl, by omega, by omega⟩
  unfold unicode_utf8_DecodeRune
  have hl : unicode_utf8_DecodeRune_l2 b = some (.inr (if b.getD 0 0 < 128 then .inl (w32 (b.getD 0 0)) else .inr ())) := by
    unfold unicode_utf8_DecodeRune_l2
    simp only [letB]
    rw [show decide (0 < (b.length : Int)) = true from decide_eq_true (by omega), idx_is (d := 0) (i := 0) (by omega) (by omega)]
    simp only [cond_true, Option.bind_some, Int.toNat_zero]
    by_cases h : b.getD 0 0 < 128
    · rw [decide_eq_true h, if_pos h]; rfl
    · rw [decide_eq_false h, if_neg h]; rfl
  rw [iter_inr hl]
  simp only [Option.bind_some]
  by_cases h : b.getD 0 0 < 128
  · rw [if_pos h]; exact ⟨_, _, rfl, by omega, by omega⟩
  · rw [if_neg h]
    obtain ⟨r, n, h1, h2, h3⟩ := slow
    exact ⟨r, n, by simp only [Option.bind_some, h1], h2, h3⟩
theorem feed_some : ∀ (k : Nat) {all : List Int} {out : List Int}, Byts all → all.length ≤ k → out.length + all.length ≤ most →
    ∃ rs rest, iter (fun s => glyph_Reader_Feed_in32_0_l1 s.1 s.2 : (List Int × List Int) → Option ((List Int × List Int) ⊕ (List Int × List Int))) (out, all) = some (out ++ rs, rest) ∧ rest.length ≤ 3 ∧ rs.length + rest.length ≤ all.length ∧ Byts rest
  | k, all, out, hb, hk, hm => by
    obtain ⟨t, ht, h1, h2⟩ := full_some hb
    cases t with
    | false =>
      refine ⟨[], all, ?_, h2 rfl, by simp, hb⟩
      rw [iter_inr (r := (out, all)) (by simp only [glyph_Reader_Feed_in32_0_l1, ht, Option.bind_some]; rfl), List.append_nil]
    | true =>
      obtain ⟨r, n, hd, hn1, hn2⟩ := dec_some hb (h1 rfl)
      have hl : 0 < all.length := List.length_pos_iff.2 (h1 rfl)
      have hstep : glyph_Reader_Feed_in32_0_l1 out all = some (.inl (out ++ [r], all.drop n.toNat)) := by
        unfold glyph_Reader_Feed_in32_0_l1
        rw [ht]
        simp only [Option.bind_some, cond_true, hd]
        rw [app_some (by simp; omega)]
        simp only [Option.bind_some]
        unfold subA
        rw [if_pos ⟨by omega, hn2⟩]; rfl
      match k with
      | 0 => omega
      | k + 1 =>
        obtain ⟨rs, rest, e, e1, e2, e3⟩ := feed_some k (all := all.drop n.toNat) (out := out ++ [r]) (hb.drop _) (by simp; omega) (by simp; omega)
        refine ⟨r :: rs, rest, ?_, e1, by simp at e2 ⊢; omega, e3⟩
        rw [iter_inl (s' := (out ++ [r], all.drop n.toNat)) (by exact hstep), e]
        simp
end Go.Proofs.YtggbcchebiedjaaDoor.Am.Esc

set_option linter.all false
namespace Go.Proofs.YtggbcchebiedjaaDoor.Am.Esc
open Go.Proofs.YtggbcchebiedjaaDoor.Am.T
def pr (r : Int) : Act := ⟨1, r, 0, 0, [], [], []⟩
def putE (p : ParserM) (zs : List Act) : ParserM := { p with out := p.out ++ zs }
theorem print_loop (rs : List Int) (hr : rs.length ≤ most) : ∀ (k : Nat) (i : Nat) (p : ParserM), i + k = rs.length → p.out.length + k ≤ most →
    iter (fun s => esc_Parser_print_l1 rs s.1 s.2 : (Int × ParserM) → Option ((Int × ParserM) ⊕ ParserM)) ((i : Int), p) = some (putE p ((rs.drop i).map pr))
  | 0, i, p, hi, ho => by
    have hm : most = 4294967296 := rfl
    rw [iter_inr (r := p) (by
      simp only [esc_Parser_print_l1, letB]
      rw [decide_eq_false (by omega)]; rfl)]
    rw [List.drop_of_length_le (by omega)]
    simp [putE]
  | k + 1, i, p, hi, ho => by
    have hm : most = 4294967296 := rfl
    have hd : rs.drop i = rs.getD i 0 :: rs.drop (i + 1) := by
      rw [List.getD_eq_getElem?_getD, List.getElem?_eq_getElem (by omega)]; exact List.drop_eq_getElem_cons (by omega)
    rw [iter_inl (s' := (((i + 1 : Nat) : Int), putE p [pr (rs.getD i 0)])) (by
      simp only [esc_Parser_print_l1, letB]
      rw [decide_eq_true (by omega), idx_is (d := 0) (by omega) (by omega)]
      simp only [cond_true, Option.bind_some, Int.toNat_natCast, esc_Parser_say]
      rw [app_some (by simp; omega)]
      simp only [Option.bind_some]
      rw [w64_id (by omega) (by omega)]; rfl)]
    rw [print_loop rs hr k (i + 1) _ (by omega) (by simp [putE]; omega), hd]
    simp [putE]
theorem print_is {p : ParserM} {rs : List Int} (h : p.out.length + rs.length ≤ most) : esc_Parser_print p rs = some (putE p (rs.map pr)) := by
  unfold esc_Parser_print
  have := print_loop rs (by omega) rs.length 0 p (by omega) h
  rw [List.drop_zero] at this
  have e : iter (fun s => esc_Parser_print_l1 rs s.1 s.2 : (Int × ParserM) → Option ((Int × ParserM) ⊕ ParserM)) (0, p) = some (putE p (rs.map pr)) := this
  rw [e]; rfl
noncomputable def gF (all : List Int) : List Int × List Int := (iter (fun s => glyph_Reader_Feed_in32_0_l1 s.1 s.2 : (List Int × List Int) → Option ((List Int × List Int) ⊕ (List Int × List Int))) ([], all)).getD ([], all)
theorem gF_is {all : List Int} (hb : Byts all) (hl : all.length ≤ most) :
    iter (fun s => glyph_Reader_Feed_in32_0_l1 s.1 s.2 : (List Int × List Int) → Option ((List Int × List Int) ⊕ (List Int × List Int))) ([], all) = some (gF all) ∧ (gF all).2.length ≤ 3 ∧ (gF all).1.length + (gF all).2.length ≤ all.length ∧ Byts (gF all).2 := by
  obtain ⟨rs, rest, e, h1, h2, h3⟩ := feed_some all.length (all := all) (out := []) hb (Nat.le_refl _) (by simpa using hl)
  have hg : gF all = (rs, rest) := by unfold gF; rw [e]; rfl
  rw [hg]
  exact ⟨by rw [e]; rfl, h1, h2, h3⟩
noncomputable def plainE (p : ParserM) (c : Int) : ParserM := putE { p with text := ⟨(gF (p.text.waits ++ [c])).2⟩ } ((gF (p.text.waits ++ [c])).1.map pr)
def restE (p : ParserM) : ParserM := putE { p with text := ⟨[]⟩ } ((List.replicate p.text.waits.length 65533).map pr)
def beginE (p : ParserM) (s : Int) : ParserM := ⟨p.text, s, false, true, ⟨0, 0, 0, 0, [], some [], []⟩, 0, [], p.out⟩
def interE (p : ParserM) (c : Int) : ParserM := if p.act.Inter.length = 2 then { p with spoiled := true } else { p with act := { p.act with Inter := p.act.Inter ++ [c] } }
def behindE (p : ParserM) (c : Int) : ParserM :=
  if c < 48 then interE p c else if c = 91 ∧ p.act.Inter = [] then beginE p 2
  else if p.act.Inter = [] ∧ c ∈ [93, 80, 88, 94, 95] then { beginE p 3 with act := { (beginE p 3).act with Final := c } }
  else { (if c < 127 ∧ p.spoiled = false then putE p [⟨3, 0, c, 0, p.act.Inter, [], []⟩] else p) with in_ := 0 }
def endE (p : ParserM) (c : Int) : ParserM :=
  if p.spoiled = false then putE { p with in_ := 0, act := { p.act with Kind := 4, Final := c, Params := none } } [{ p.act with Kind := 4, Final := c, Params := p.act.Params.getD [] }] else { p with in_ := 0 }
def num1 (p : ParserM) : ParserM := if p.count = 0 then { p with act := { p.act with Params := some [-1] }, count := 1 } else p
def numberE (p : ParserM) (c : Int) : ParserM :=
  let q := num1 p
  let ps := q.act.Params.getD []
  if c = 59 then { q with act := { q.act with Params := some (if q.count + 1 ≤ 16 then ps ++ [-1] else ps) }, count := q.count + 1 }
  else { q with act := { q.act with Params := some (if q.count ≤ 16 then upI ps (q.count - 1) (min (w64 ((w64 ((max (ps.getD (q.count - 1).toNat 0) 0) * 10)) + (w64 (w8 (c - 48))))) 9999) else ps) } }
def sequenceE (p : ParserM) (c : Int) : ParserM :=
  if c ≥ 128 then { p with in_ := 0, first := false } else if c < 48 then interE { p with first := false } c else if c ≥ 64 then endE { p with first := false } c
  else if c ≥ 60 ∧ p.first = true then { p with first := false, act := { p.act with Priv := c } }
  else if c = 58 ∨ c ≥ 60 ∨ p.act.Inter ≠ [] then { p with spoiled := true, first := false } else numberE { p with first := false } c
def endStringE (p : ParserM) : ParserM := putE { p with in_ := 0 } [⟨5, 0, p.act.Final, 0, [], [], p.payload⟩]
def collectE (p : ParserM) (c : Int) : ParserM :=
  if c = 7 then endStringE p else if c = 27 then { p with in_ := 4 } else if c = 24 ∨ c = 26 then { p with in_ := 0 }
  else if c ≥ 32 ∧ p.payload.length < 256 then { p with payload := p.payload ++ [c] } else p
noncomputable def onE (p : ParserM) (c : Int) : ParserM := if p.in_ = 1 then behindE p c else if p.in_ = 2 then sequenceE p c else plainE p c
def flushE (p : ParserM) (c : Int) : ParserM := if c < 32 ∨ c = 127 then restE p else p
noncomputable def outE (q : ParserM) (c : Int) : ParserM :=
  if c = 24 ∨ c = 26 then { q with in_ := 0 } else if c = 27 then beginE q 1 else if c < 32 then putE q [⟨2, 0, c, 0, [], [], []⟩] else if c ≠ 127 then onE q c else q
noncomputable def endsE (q : ParserM) (c : Int) : ParserM := if c = 92 then endStringE q else outE (flushE (beginE q 1) c) c
noncomputable def byteE (p : ParserM) (c : Int) : ParserM :=
  if (flushE p c).in_ = 3 then collectE (flushE p c) c else if (flushE p c).in_ = 4 then endsE (flushE p c) c else outE (flushE p c) c
structure Ok (n : Nat) (p : ParserM) : Prop where
  inn : 0 ≤ p.in_ ∧ p.in_ ≤ 4
  wts : Byts p.text.waits ∧ p.text.waits.length ≤ 3
  pay : Byts p.payload ∧ p.payload.length ≤ 256
  int : p.act.Inter.length ≤ 2
  num : p.in_ = 2 → ∃ ps, p.act.Params = some ps ∧ 0 ≤ p.count ∧ p.count ≤ n ∧ ps.length = min p.count.toNat 16
theorem flush_in {p : ParserM} {c : Int} : (flushE p c).in_ = p.in_ := by unfold flushE restE putE; split <;> rfl
theorem Ok.flush {n : Nat} {p : ParserM} {c : Int} (h : Ok n p) : Ok n (flushE p c) := by
  unfold flushE restE putE
  split
  · exact ⟨h.inn, ⟨fun _ hx => (by cases hx), Nat.zero_le _⟩, h.pay, h.int, h.num⟩
  · exact h
theorem flush_out {n : Nat} {p : ParserM} {c : Int} (h : Ok n p) : (flushE p c).out.length ≤ p.out.length + 3 := by
  unfold flushE restE putE
  split
  · simp; exact h.wts.2
  · omega
theorem most_is : most = 4294967296 := rfl
theorem rest_is {n : Nat} {p : ParserM} (h : Ok n p) (ho : p.out.length + 3 ≤ most) : ((glyph_Reader_Rest_in32_0 p).bind fun y6 => (esc_Parser_print y6.2 y6.1).bind fun y7 => some y7) = some (restE p) := by
  have hw := h.wts.2
  have hr : slices_Repeat_31 [65533] (p.text.waits.length : Int) = some (List.replicate p.text.waits.length 65533) := by
    show (if 0 ≤ (p.text.waits.length : Int) ∧ (p.text.waits.length : Int) ≤ 3 then some (List.replicate (p.text.waits.length : Int).toNat 65533) else none) = _
    rw [if_pos ⟨by omega, by omega⟩]; rfl
  unfold glyph_Reader_Rest_in32_0
  rw [hr]
  simp only [Option.bind_some, Int.toNat_natCast]
  rw [print_is (by simp; omega)]; rfl
end Go.Proofs.YtggbcchebiedjaaDoor.Am.Esc

set_option linter.all false
namespace Go.Proofs.YtggbcchebiedjaaDoor.Am.Esc
open Go.Proofs.YtggbcchebiedjaaDoor.Am.T
theorem rune_small : ∀ k : Nat, k < 16 → runeT (w32 ((32 + k : Nat) : Int)) = [((32 + k : Nat) : Int)] := by decide +kernel
theorem inter_is {p : ParserM} {c : Int} (hi : p.act.Inter.length ≤ 2) (hc : 32 ≤ c ∧ c < 48) : esc_Parser_inter p c = some (interE p c) := by
  have hr : runeT (w32 c) = [c] := by
    have := rune_small (c - 32).toNat (by omega)
    rwa [show ((32 + (c - 32).toNat : Nat) : Int) = c by omega] at this
  unfold interE
  simp only [esc_Parser_inter, letB, hr]
  by_cases h : p.act.Inter.length = 2
  · rw [if_pos h, decide_eq_true (by omega)]; rfl
  · rw [if_neg h, decide_eq_false (by omega)]
    simp only [cond_false, sadd]
    rw [if_pos (by simp; omega)]; rfl
theorem index_loop (l : List Int) (v : Int) (hl : l.length ≤ most) : ∀ (k i : Nat), i + k = l.length →
    ∃ j, iter (fun s => slices_Index_51_l1 l v s : Int → Option (Int ⊕ (Int ⊕ Unit))) (i : Int) = some j ∧ (match j with | .inl n => 0 ≤ n ∧ v ∈ l.drop i | .inr _ => v ∉ l.drop i)
  | 0, i, hi => by
    refine ⟨.inr (), iter_inr ?_, ?_⟩
    · simp only [slices_Index_51_l1, letB]
      rw [decide_eq_false (by omega)]; rfl
    · rw [List.drop_of_length_le (by omega)]; simp
  | k + 1, i, hi => by
    have hm := most_is
    have hd : l.drop i = l.getD i 0 :: l.drop (i + 1) := by
      rw [List.getD_eq_getElem?_getD, List.getElem?_eq_getElem (by omega)]; exact List.drop_eq_getElem_cons (by omega)
    by_cases he : v = l.getD i 0
    · refine ⟨.inl (i : Int), iter_inr ?_, ?_⟩
      · simp only [slices_Index_51_l1, letB]
        rw [decide_eq_true (by omega), idx_is (d := 0) (by omega) (by omega)]
        simp only [cond_true, Option.bind_some, Int.toNat_natCast]
        rw [decide_eq_true he]; rfl
      · exact ⟨by omega, by rw [hd, he]; exact List.mem_cons_self⟩
    · obtain ⟨j, e, hj⟩ := index_loop l v hl k (i + 1) (by omega)
      refine ⟨j, ?_, ?_⟩
      · rw [iter_inl (s' := ((i + 1 : Nat) : Int)) (by
          simp only [slices_Index_51_l1, letB]
          rw [decide_eq_true (by omega), idx_is (d := 0) (by omega) (by omega)]
          simp only [cond_true, Option.bind_some, Int.toNat_natCast]
          rw [decide_eq_false he, w64_id (by omega) (by omega)]; rfl), e]
      · rw [hd]
        cases j with
        | inl n => exact ⟨hj.1, .tail _ hj.2⟩
        | inr _ => intro hh; rcases List.mem_cons.1 hh with h | h; exact he h; exact hj h
theorem contains_is {l : List Int} {v : Int} (hl : l.length ≤ most) : slices_Contains_40 l v = some (decide (v ∈ l)) := by
  obtain ⟨j, e, hj⟩ := index_loop l v hl l.length 0 (by omega)
  have e : iter (fun s => slices_Index_51_l1 l v s : Int → Option (Int ⊕ (Int ⊕ Unit))) 0 = some j := e
  simp only [slices_Contains_40, slices_Index_51, e, Option.bind_some, letB]
  cases j with
  | inl n =>
    have hj : 0 ≤ n ∧ v ∈ l := hj
    simp only [Option.bind_some]
    rw [decide_eq_true (by omega : n ≥ 0), decide_eq_true hj.2]
  | inr _ =>
    have hj : v ∉ l := hj
    simp only [Option.bind_some]
    rw [decide_eq_false hj]; rfl
theorem say_is {p : ParserM} {a : Act} (h : p.out.length + 1 ≤ most) : esc_Parser_say p a = some (putE p [a]) := by
  unfold esc_Parser_say
  rw [app_some (by simpa using h)]; rfl
theorem begin_is {p : ParserM} {s : Int} : esc_Parser_begin p s = some (beginE p s) := rfl
theorem behind_is {p : ParserM} {c : Int} (hi : p.act.Inter.length ≤ 2) (hc : 32 ≤ c) (ho : p.out.length + 1 ≤ most) : esc_Parser_behind p c = some (behindE p c) := by
  unfold esc_Parser_behind behindE
  simp only [letB]
  by_cases h1 : c < 48
  · rw [decide_eq_true h1, if_pos h1, inter_is hi ⟨hc, h1⟩]; rfl
  rw [decide_eq_false h1, if_neg h1, contains_is (by simp [most_is])]
  simp only [cond_false, Option.bind_some, begin_is]
  by_cases h2 : c = 91
  · rw [decide_eq_true h2]
    by_cases h3 : p.act.Inter = []
    · rw [decide_eq_true h3, if_pos ⟨h2, h3⟩]; rfl
    · rw [decide_eq_false h3, if_neg (by simp [h3]), if_neg (by simp [h3])]
      simp only [cond_true, cond_false, Option.bind_some]
      by_cases h4 : c < 127
      · rw [decide_eq_true h4]
        cases h5 : p.spoiled with
        | true => rw [if_neg (by simp)]; rfl
        | false =>
          rw [if_pos ⟨h4, rfl⟩]
          simp only [cond_true, Option.bind_some, Bool.not_false, say_is ho]
      · rw [decide_eq_false h4, if_neg (by simp [h4])]; rfl
  · rw [decide_eq_false h2, if_neg (by simp [h2])]
    simp only [cond_false, Option.bind_some]
    by_cases h3 : p.act.Inter = []
    · rw [decide_eq_true h3]
      by_cases h6 : c ∈ ([93, 80, 88, 94, 95] : List Int)
      · rw [decide_eq_true h6, if_pos ⟨h3, h6⟩]; rfl
      · rw [decide_eq_false h6, if_neg (by simp [h6])]
        simp only [cond_true, cond_false, Option.bind_some]
        by_cases h4 : c < 127
        · rw [decide_eq_true h4]
          cases h5 : p.spoiled with
          | true => rw [if_neg (by simp)]; rfl
          | false =>
            rw [if_pos ⟨h4, rfl⟩]
            simp only [cond_true, Option.bind_some, Bool.not_false, say_is ho]
        · rw [decide_eq_false h4, if_neg (by simp [h4])]; rfl
    · rw [decide_eq_false h3, if_neg (by simp [h3])]
      simp only [cond_false, Option.bind_some]
      by_cases h4 : c < 127
      · rw [decide_eq_true h4]
        cases h5 : p.spoiled with
        | true => rw [if_neg (by simp)]; rfl
        | false =>
          rw [if_pos ⟨h4, rfl⟩]
          simp only [cond_true, Option.bind_some, Bool.not_false, say_is ho]
      · rw [decide_eq_false h4, if_neg (by simp [h4])]; rfl
theorem end_is {p : ParserM} {c : Int} {ps : List Int} (hp : p.act.Params = some ps) (ho : p.out.length + 1 ≤ most) : esc_Parser_end p c = some (endE p c) := by
  unfold esc_Parser_end endE
  rw [hp]
  simp only [Option.bind_some, Option.getD_some]
  cases h5 : p.spoiled with
  | true =>
    rw [if_neg (by simp)]
    simp only [Bool.not_true, cond_false, Option.bind_some, ← hp]
  | false =>
    rw [if_pos rfl]
    simp only [Bool.not_false, cond_true]
    rw [say_is (by exact ho)]
    simp only [Option.bind_some]
theorem endString_is {p : ParserM} (hp : Byts p.payload) (ho : p.out.length + 1 ≤ most) : esc_Parser_endString p = some (endStringE p) := by
  unfold esc_Parser_endString endStringE bstr
  rw [show (p.payload.all fun b => decide (0 ≤ b ∧ b < 256)) = true from List.all_eq_true.2 fun x hx => decide_eq_true (hp x hx)]
  simp only [cond_true, Option.bind_some]
  rw [say_is (by exact ho)]; rfl
theorem collect_is {p : ParserM} {c : Int} (hp : Byts p.payload) (hl : p.payload.length ≤ 256) (ho : p.out.length + 1 ≤ most) : esc_Parser_collect p c = some (collectE p c) := by
  unfold esc_Parser_collect collectE
  simp only [letB]
  by_cases h1 : c = 7
  · rw [decide_eq_true h1, if_pos h1, endString_is hp ho]; rfl
  rw [decide_eq_false h1, if_neg h1]
  by_cases h2 : c = 27
  · rw [decide_eq_true h2, if_pos h2]; rfl
  rw [decide_eq_false h2, if_neg h2]
  simp only [cond_false]
  by_cases h3 : c = 24
  · rw [decide_eq_true h3, if_pos (.inl h3)]; rfl
  rw [decide_eq_false h3]
  simp only [cond_false]
  by_cases h4 : c = 26
  · rw [decide_eq_true h4, if_pos (.inr h4)]; rfl
  rw [decide_eq_false h4, if_neg (by simp [h3, h4])]
  simp only [cond_false, Option.bind_some]
  by_cases h5 : c ≥ 32
  · rw [decide_eq_true h5]
    simp only [cond_true, Option.bind_some]
    by_cases h6 : p.payload.length < 256
    · rw [decide_eq_true (by omega), if_pos ⟨h5, h6⟩]
      simp only [cond_true, Option.bind_some]
      rw [app_some (by simp [most_is]; omega)]; rfl
    · rw [decide_eq_false (by omega), if_neg (by simp [h6])]; rfl
  · rw [decide_eq_false h5, if_neg (by simp [h5])]; rfl
theorem number_is {n : Nat} {p : ParserM} {c : Int} {ps : List Int} (hp : p.act.Params = some ps) (h0 : 0 ≤ p.count) (hn : p.count ≤ n) (hN : n ≤ 4611686018427387904) (hl : ps.length = min p.count.toNat 16) :
    esc_Parser_number p c = some (numberE p c) ∧ (numberE p c).out = p.out ∧ (numberE p c).text = p.text ∧ (numberE p c).payload = p.payload ∧ (numberE p c).in_ = p.in_ ∧ (numberE p c).act.Inter = p.act.Inter ∧
      ∃ qs, (numberE p c).act.Params = some qs ∧ 0 ≤ (numberE p c).count ∧ (numberE p c).count ≤ (n + 1 + 1 : Nat) ∧ qs.length = min (numberE p c).count.toNat 16 := by
  obtain ⟨q, hq⟩ : ∃ q, q = num1 p := ⟨_, rfl⟩
  have hq1 : ∃ qs, q.act.Params = some qs ∧ 1 ≤ q.count ∧ q.count ≤ (n + 1 : Nat) ∧ qs.length = min q.count.toNat 16 ∧ q.out = p.out ∧ q.text = p.text ∧ q.payload = p.payload ∧ q.in_ = p.in_ ∧ q.act.Inter = p.act.Inter := by
    rw [hq]
    unfold num1
    by_cases h : p.count = 0
    · rw [if_pos h]; exact ⟨[-1], rfl, by show (1 : Int) ≤ 1; omega, by show (1 : Int) ≤ _; omega, rfl, rfl, rfl, rfl, rfl, rfl⟩
    · rw [if_neg h]; exact ⟨ps, hp, by omega, by omega, hl, rfl, rfl, rfl, rfl, rfl⟩
  have hj : (bif decide (p.count = 0) then some ({ p with act := { p.act with Params := some [(-1)] }, count := 1 }) else some p : Option ParserM) = some q := by
    rw [hq]; unfold num1
    by_cases h : p.count = 0
    · rw [decide_eq_true h, if_pos h]; rfl
    · rw [decide_eq_false h, if_neg h]; rfl
  obtain ⟨qs, h1, h2, h3, h4, h5, h6, h7, h8, h9⟩ := hq1
  have hm := most_is
  unfold esc_Parser_number numberE
  simp only [letB]
  rw [hj, ← hq]
  simp only [Option.bind_some, h1, Option.getD_some]
  by_cases c1 : c = 59
  · rw [decide_eq_true c1, if_pos c1, w64_id (by omega) (by omega)]
    simp only [cond_true]
    by_cases c2 : q.count + 1 ≤ 16
    · rw [decide_eq_true c2, if_pos c2]
      simp only [cond_true]
      rw [app_some (by simp; omega)]
      exact ⟨rfl, h5, h6, h7, h8, h9, _, rfl, by (try simp only); omega, by (try simp only); omega, by (try simp only); simp only [List.length_append, List.length_cons, List.length_nil]; omega⟩
    · rw [decide_eq_false c2, if_neg c2]
      exact ⟨rfl, h5, h6, h7, h8, h9, _, rfl, by (try simp only); omega, by (try simp only); omega, by (try simp only); omega⟩
  · rw [decide_eq_false c1, if_neg c1]
    simp only [cond_false]
    by_cases c2 : q.count ≤ 16
    · rw [decide_eq_true c2, if_pos c2]
      simp only [cond_true]
      rw [w64_id (n := q.count - 1) (by omega) (by omega), idx_is (d := 0) (by omega) (by omega)]
      exact ⟨rfl, h5, h6, h7, h8, h9, _, rfl, by (try simp only); omega, by (try simp only); omega, by simp only [upI, List.length_set]; omega⟩
    · rw [decide_eq_false c2, if_neg c2]
      exact ⟨rfl, h5, h6, h7, h8, h9, _, rfl, by (try simp only); omega, by (try simp only); omega, by (try simp only); omega⟩
theorem sequence_is {n : Nat} {p : ParserM} {c : Int} (hk : Ok n p) (h2 : p.in_ = 2) (hN : n ≤ 4611686018427387904) (hc : 32 ≤ c) (ho : p.out.length + 1 ≤ most) : esc_Parser_sequence p c = some (sequenceE p c) := by
  obtain ⟨ps, hp, k0, k1, k2⟩ := hk.num h2
  unfold esc_Parser_sequence sequenceE
  simp only [letB]
  by_cases c1 : c ≥ 128
  · rw [decide_eq_true c1, if_pos c1]; rfl
  rw [decide_eq_false c1, if_neg c1]
  by_cases c2 : c < 48
  · rw [decide_eq_true c2, if_pos c2, inter_is (p := { p with first := false }) hk.int ⟨hc, c2⟩]; rfl
  rw [decide_eq_false c2, if_neg c2]
  by_cases c3 : c ≥ 64
  · rw [decide_eq_true c3, if_pos c3, end_is (p := { p with first := false }) hp ho]; rfl
  rw [decide_eq_false c3, if_neg c3]
  simp only [cond_false]
  have hnum := (number_is (p := { p with first := false }) (c := c) hp k0 k1 hN k2).1
  by_cases c4 : c ≥ 60
  · rw [decide_eq_true c4]
    cases hf : p.first with
    | true => rw [if_pos ⟨c4, rfl⟩]; rfl
    | false =>
      rw [if_neg (by simp), if_pos (.inr (.inl c4))]
      simp only [cond_true, cond_false, Option.bind_some]
      by_cases c5 : c = 58
      · rw [decide_eq_true c5]; rfl
      · rw [decide_eq_false c5]; rfl
  · rw [decide_eq_false c4, if_neg (by simp [c4])]
    simp only [cond_false, Option.bind_some]
    by_cases c5 : c = 58
    · rw [decide_eq_true c5, if_pos (.inl c5)]; rfl
    · rw [decide_eq_false c5]
      simp only [cond_false, Option.bind_some]
      by_cases c6 : p.act.Inter = []
      · rw [decide_eq_false (by simpa using c6), if_neg (by simp [c4, c5, c6]), hnum]; rfl
      · rw [decide_eq_true c6, if_pos (.inr (.inr c6))]; rfl
theorem plain_is {n : Nat} {p : ParserM} {c : Int} (hk : Ok n p) (hc : 0 ≤ c ∧ c < 256) (ho : p.out.length + 4 ≤ most) : esc_Parser_plain p c = some (plainE p c) := by
  have hm := most_is
  have hw := hk.wts
  have hb : Byts (p.text.waits ++ [c]) := hw.1.append (fun x hx => by simp at hx; subst hx; exact hc)
  obtain ⟨e, e1, e2, e3⟩ := gF_is hb (by simp; omega)
  have h1 : slices_Clone_52 p.text.waits = some p.text.waits := by unfold slices_Clone_52; rw [app_some (by simp; omega)]; rfl
  have h2 : slices_Clone_52 (gF (p.text.waits ++ [c])).2 = some (gF (p.text.waits ++ [c])).2 := by unfold slices_Clone_52; rw [app_some (by simp; omega)]; rfl
  unfold esc_Parser_plain glyph_Reader_Feed_in32_0
  rw [h1]
  simp only [Option.bind_some]
  rw [app_some (by simp; omega)]
  simp only [Option.bind_some]
  rw [e]
  simp only [Option.bind_some]
  rw [h2]
  simp only [Option.bind_some]
  rw [print_is (by simp at e2 ⊢; omega)]; rfl
end Go.Proofs.YtggbcchebiedjaaDoor.Am.Esc

set_option linter.all false
namespace Go.Proofs.YtggbcchebiedjaaDoor.Am.Esc
open Go.Proofs.YtggbcchebiedjaaDoor.Am.T
theorem on_is {s : Int} : esc_state_on s = some (if s = 1 then 32 else if s = 2 then 33 else if s = 3 then 34 else if s = 4 then 35 else 36) := by
  unfold esc_state_on
  simp only [letB]
  by_cases h1 : s = 1
  · rw [decide_eq_true h1, if_pos h1]; rfl
  rw [decide_eq_false h1, if_neg h1]
  by_cases h2 : s = 2
  · rw [decide_eq_true h2, if_pos h2]; rfl
  rw [decide_eq_false h2, if_neg h2]
  by_cases h3 : s = 3
  · rw [decide_eq_true h3, if_pos h3]; rfl
  rw [decide_eq_false h3, if_neg h3]
  by_cases h4 : s = 4
  · rw [decide_eq_true h4, if_pos h4]; rfl
  rw [decide_eq_false h4, if_neg h4]; rfl
noncomputable def dispE (rec35 : ParserM → Int → Option ParserM) (q : ParserM) (c : Int) : Option ParserM :=
  (esc_state_on q.in_).bind fun y => ((bif decide (y = 32) then esc_Parser_behind q c else bif decide (y = 33) then esc_Parser_sequence q c else bif decide (y = 34) then esc_Parser_collect q c else bif decide (y = 35) then rec35 q c else bif decide (y = 36) then esc_Parser_plain q c else none : Option ParserM)).bind fun y15 => some (y15)
theorem disp_is {rec35 : ParserM → Int → Option ParserM} {n : Nat} {q : ParserM} {c : Int} (hk : Ok n q) (hN : n ≤ 4611686018427387904) (hc : 32 ≤ c ∧ c < 256) (h3 : q.in_ ≠ 3) (h4 : q.in_ ≠ 4) (ho : q.out.length + 4 ≤ most) :
    dispE rec35 q c = some (onE q c) := by
  unfold dispE onE
  rw [on_is]
  by_cases h1 : q.in_ = 1
  · rw [if_pos h1, if_pos h1]
    simp only [Option.bind_some]
    show ((esc_Parser_behind q c).bind fun y => some y) = _
    rw [behind_is hk.int hc.1 (by omega)]; rfl
  rw [if_neg h1, if_neg h1]
  by_cases h2 : q.in_ = 2
  · rw [if_pos h2, if_pos h2]
    show ((esc_Parser_sequence q c).bind fun y => some y) = _
    rw [sequence_is hk h2 hN hc.1 (by omega)]; rfl
  rw [if_neg h2, if_neg h2, if_neg h3, if_neg h4]
  show ((esc_Parser_plain q c).bind fun y => some y) = _
  rw [plain_is hk ⟨by omega, hc.2⟩ ho]; rfl
theorem byteF_is {rec18 rec35 : ParserM → Int → Option ParserM} {n : Nat} {p : ParserM} {c : Int} (hk : Ok n p) (hN : n ≤ 4611686018427387904) (hc : 0 ≤ c ∧ c < 256) (ho : p.out.length + 8 ≤ most) {r : ParserM}
    (h4 : p.in_ = 4 → rec35 (flushE p c) c = some r) : esc_Parser_byteF rec18 rec35 p c = some (if p.in_ = 4 then r else byteE p c) := by
  have hq := hk.flush (c := c)
  have hqo := flush_out (c := c) hk
  have hqi := flush_in (p := p) (c := c)
  have first : (((bif decide (c < 32) then some true else some (decide (c = 127)) : Option Bool).bind fun g2 =>
      (bif g2 then ((glyph_Reader_Rest_in32_0 p).bind fun y6 => (esc_Parser_print y6.2 y6.1).bind fun y7 => some y7) else some p : Option ParserM)) : Option ParserM) = some (flushE p c) := by
    unfold flushE
    by_cases h1 : c < 32
    · rw [decide_eq_true h1, if_pos (.inl h1)]
      exact rest_is hk (by omega)
    · rw [decide_eq_false h1]
      by_cases h2 : c = 127
      · rw [decide_eq_true h2, if_pos (.inr h2)]
        exact rest_is hk (by omega)
      · rw [decide_eq_false h2, if_neg (by simp [h1, h2])]; rfl
  have second : ∀ q : ParserM, Ok n q → q.in_ = p.in_ → q.out.length + 5 ≤ most → (p.in_ = 4 → rec35 q c = some r) → (Option.bind (
    letB (decide (q.in_ = 3)) fun c9 =>
    (bif c9 then some true else (
      letB (decide (q.in_ = 4)) fun c11 =>
      some (c11))).bind fun g10 =>
    Option.bind (
      bif g10 then (dispE rec35 q c)
      else (
        letB (decide (c = 24)) fun c17 =>
        (bif c17 then some true else (
          letB (decide (c = 26)) fun c19 =>
          some (c19))).bind fun g18 =>
        Option.bind (
          bif g18 then (
            some ({ q with in_ := 0 }))
          else (
            letB (decide (c = 27)) fun c22 =>
            Option.bind (
              bif c22 then (
                (esc_Parser_begin q 1).bind fun y24 =>
                some (y24))
              else (
                letB (decide (c < 32)) fun c25 =>
                Option.bind (
                  bif c25 then (
                    (esc_Parser_say q (Act.mk 2 0 c 0 [] [] [])).bind fun y27 =>
                    some (y27))
                  else (
                    letB (decide (c ≠ 127)) fun c28 =>
                    Option.bind (
                      bif c28 then (dispE rec35 q c)
                      else (
                        some (q)) : Option ParserM) fun j33 =>
                    some (j33)) : Option ParserM) fun j34 =>
                some (j34)) : Option ParserM) fun j35 =>
            some (j35)) : Option ParserM) fun j36 =>
        some (j36)) : Option ParserM) fun j37 =>
    some (j37) : Option ParserM) fun j38 =>
      some j38) = some (if q.in_ = 4 then r else if q.in_ = 3 then collectE q c else outE q c) := by
    intro q hq hqi hqo h4
    by_cases i3 : q.in_ = 3
    · have hd : dispE rec35 q c = some (collectE q c) := by
        unfold dispE
        rw [on_is, i3]
        show ((esc_Parser_collect q c).bind fun y => some y) = _
        rw [collect_is hq.pay.1 hq.pay.2 (by omega)]; rfl
      rw [hd, if_neg (by omega), if_pos i3, i3]; rfl
    by_cases i4 : q.in_ = 4
    · have hd : dispE rec35 q c = some r := by
        unfold dispE
        rw [on_is, i4]
        show ((rec35 q c).bind fun y => some y) = _
        rw [h4 (by omega)]; rfl
      rw [hd, if_pos i4, i4]; rfl
    rw [if_neg i4, if_neg i3]
    simp only [letB]
    rw [decide_eq_false i3, decide_eq_false i4]
    unfold outE
    by_cases c24 : c = 24
    · rw [if_pos (.inl c24), decide_eq_true c24]; rfl
    by_cases c26 : c = 26
    · rw [if_pos (.inr c26), decide_eq_false c24, decide_eq_true c26]; rfl
    rw [if_neg (by omega), decide_eq_false c24, decide_eq_false c26]
    by_cases c27 : c = 27
    · rw [if_pos c27, decide_eq_true c27]; rfl
    rw [if_neg c27, decide_eq_false c27]
    by_cases c32 : c < 32
    · rw [if_pos c32, decide_eq_true c32, say_is (by omega)]; rfl
    rw [if_neg c32, decide_eq_false c32]
    by_cases c127 : c = 127
    · rw [if_neg (by omega), decide_eq_false (by omega)]; rfl
    · rw [if_pos c127, decide_eq_true c127, disp_is hq hN (by omega) i3 i4 (by omega)]; rfl
  have e := second (flushE p c) hq hqi (by omega) h4
  have e' : esc_Parser_byteF rec18 rec35 p c = some (if (flushE p c).in_ = 4 then r else if (flushE p c).in_ = 3 then collectE (flushE p c) c else outE (flushE p c) c) := by
    rw [← e]
    unfold esc_Parser_byteF
    simp only [letB] at first ⊢
    rw [← Option.bind_assoc]
    rw [first]
    rfl
  rw [e', hqi]
  unfold byteE
  by_cases i4 : p.in_ = 4
  · rw [if_pos i4, if_pos i4]
  · rw [if_neg i4, if_neg i4, hqi]
    by_cases i3 : p.in_ = 3
    · rw [if_pos i3, if_pos i3]
    · rw [if_neg i3, if_neg i3, if_neg i4]
end Go.Proofs.YtggbcchebiedjaaDoor.Am.Esc

set_option linter.all false
namespace Go.Proofs.YtggbcchebiedjaaDoor.Am.Esc
open Go.Proofs.YtggbcchebiedjaaDoor.Am.T
structure St (n m : Nat) (p : ParserM) : Prop where
  ok : Ok n p
  len : p.out.length ≤ m
  par : ∀ a ∈ p.out, a.Params.length ≤ 16
theorem Ok.mono {n n' : Nat} {p : ParserM} (h : Ok n p) (hn : n ≤ n') : Ok n' p :=
  ⟨h.inn, h.wts, h.pay, h.int, fun e => let ⟨ps, a, b, c, d⟩ := h.num e; ⟨ps, a, b, by omega, d⟩⟩
theorem St.mono {n n' m m' : Nat} {p : ParserM} (h : St n m p) (hn : n ≤ n') (hm : m ≤ m') : St n' m' p :=
  ⟨h.ok.mono hn, Nat.le_trans h.len hm, h.par⟩
theorem St.put {n m k : Nat} {p : ParserM} {zs : List Act} (h : St n m p) (hz : zs.length ≤ k) (hp : ∀ a ∈ zs, a.Params.length ≤ 16) : St n (m + k) (putE p zs) :=
  ⟨⟨h.ok.inn, h.ok.wts, h.ok.pay, h.ok.int, h.ok.num⟩, by have := h.len; simp [putE]; omega, fun a ha => by
    rcases List.mem_append.1 ha with ha | ha
    · exact h.par a ha
    · exact hp a ha⟩
theorem pr_par {rs : List Int} : ∀ a ∈ rs.map pr, a.Params.length ≤ 16 := by
  intro a ha
  obtain ⟨r, _, e⟩ := List.mem_map.1 ha
  subst e; exact Nat.zero_le _
theorem St.flush {n m : Nat} {p : ParserM} {c : Int} (h : St n m p) : St n (m + 3) (flushE p c) := by
  unfold flushE restE
  split
  · refine St.put (p := { p with text := ⟨[]⟩ }) ⟨⟨h.ok.inn, ⟨fun _ hx => (by cases hx), Nat.zero_le _⟩, h.ok.pay, h.ok.int, h.ok.num⟩, h.len, h.par⟩ ?_ pr_par
    simp; exact h.ok.wts.2
  · exact h.mono (Nat.le_refl _) (by omega)
theorem St.begin {n m : Nat} {p : ParserM} {s : Int} (h : St n m p) (hs : 0 ≤ s ∧ s ≤ 4) : St n m (beginE p s) :=
  ⟨⟨hs, h.ok.wts, ⟨fun _ hx => (by cases hx), Nat.zero_le _⟩, Nat.zero_le _, fun _ => ⟨[], rfl, Int.le_refl _, by show (0 : Int) ≤ _; omega, rfl⟩⟩, h.len, h.par⟩
theorem St.ground {n m : Nat} {p : ParserM} (h : St n m p) : St n m { p with in_ := 0 } :=
  ⟨⟨⟨Int.le_refl _, by show (0 : Int) ≤ 4; omega⟩, h.ok.wts, h.ok.pay, h.ok.int, fun e => by exact absurd e (show ¬((0 : Int) = 2) by omega)⟩, h.len, h.par⟩
theorem St.inter {n m : Nat} {p : ParserM} {c : Int} (h : St n m p) : St n m (interE p c) := by
  unfold interE
  split
  · exact ⟨⟨h.ok.inn, h.ok.wts, h.ok.pay, h.ok.int, h.ok.num⟩, h.len, h.par⟩
  · refine ⟨⟨h.ok.inn, h.ok.wts, h.ok.pay, ?_, h.ok.num⟩, h.len, h.par⟩
    have := h.ok.int
    simp; omega
theorem one_par {a : Act} (h : a.Params.length ≤ 16) : ∀ b ∈ [a], b.Params.length ≤ 16 := by
  intro b hb; simp at hb; subst hb; exact h
theorem St.behind {n m : Nat} {p : ParserM} {c : Int} (h : St n m p) : St n (m + 1) (behindE p c) := by
  unfold behindE
  split
  · exact h.inter.mono (Nat.le_refl _) (by omega)
  split
  · exact (h.begin ⟨by omega, by omega⟩).mono (Nat.le_refl _) (by omega)
  split
  · have := h.begin (s := 3) ⟨by omega, by omega⟩
    exact ⟨⟨this.ok.inn, this.ok.wts, this.ok.pay, this.ok.int, this.ok.num⟩, Nat.le_succ_of_le this.len, this.par⟩
  refine St.ground ?_
  split
  · exact h.put (by simp) (one_par (Nat.zero_le _))
  · exact h.mono (Nat.le_refl _) (by omega)
theorem St.end_ {n m : Nat} {p : ParserM} {c : Int} (h : St n m p) (h2 : p.in_ = 2) : St n (m + 1) (endE p c) := by
  unfold endE
  obtain ⟨ps, hp, _, _, hl⟩ := h.ok.num h2
  split
  · refine St.put (p := { p with in_ := 0, act := { p.act with Kind := 4, Final := c, Params := none } }) ⟨⟨h.ground.ok.inn, h.ok.wts, h.ok.pay, h.ok.int, fun e => by exact absurd e (show ¬((0 : Int) = 2) by omega)⟩, h.len, h.par⟩ (by simp) (one_par ?_)
    rw [hp]; simp; omega
  · exact h.ground.mono (Nat.le_refl _) (by omega)
theorem St.sequence {n m : Nat} {p : ParserM} {c : Int} (h : St n m p) (h2 : p.in_ = 2) (hN : n ≤ 4611686018427387904) : St (n + 2) (m + 1) (sequenceE p c) := by
  have h' : St n m { p with first := false } := ⟨⟨h.ok.inn, h.ok.wts, h.ok.pay, h.ok.int, h.ok.num⟩, h.len, h.par⟩
  unfold sequenceE
  split
  · exact h'.ground.mono (by omega) (by omega)
  split
  · exact h'.inter.mono (by omega) (by omega)
  split
  · exact (h'.end_ h2).mono (by omega) (by omega)
  split
  · exact ⟨⟨h.ok.inn, h.ok.wts, h.ok.pay, h.ok.int, (h'.ok.mono (by omega : n ≤ n + 2)).num⟩, Nat.le_succ_of_le h.len, h.par⟩
  split
  · exact ⟨⟨h.ok.inn, h.ok.wts, h.ok.pay, h.ok.int, (h'.ok.mono (by omega : n ≤ n + 2)).num⟩, Nat.le_succ_of_le h.len, h.par⟩
  · obtain ⟨ps, hp, k0, k1, k2⟩ := h'.ok.num h2
    obtain ⟨_, e1, e2, e3, e4, e5, qs, q1, q2, q3, q4⟩ := number_is (p := { p with first := false }) (c := c) hp k0 k1 hN k2
    refine ⟨⟨by rw [e4]; exact h.ok.inn, by rw [e2]; exact h.ok.wts, by rw [e3]; exact h.ok.pay, by rw [e5]; exact h.ok.int, fun _ => ⟨qs, q1, q2, q3, q4⟩⟩, by rw [e1]; exact Nat.le_succ_of_le h.len, by rw [e1]; exact h.par⟩
theorem St.endString {n m : Nat} {p : ParserM} (h : St n m p) : St n (m + 1) (endStringE p) := by
  unfold endStringE
  exact St.put h.ground (by simp) (one_par (Nat.zero_le _))
theorem St.collect {n m : Nat} {p : ParserM} {c : Int} (h : St n m p) (h3 : p.in_ = 3) (hc : 0 ≤ c ∧ c < 256) : St n (m + 1) (collectE p c) := by
  unfold collectE
  split
  · exact h.endString
  split
  · exact ⟨⟨⟨by show (0 : Int) ≤ 4; omega, by show (4 : Int) ≤ 4; omega⟩, h.ok.wts, h.ok.pay, h.ok.int, fun e => by exact absurd e (show ¬((4 : Int) = 2) by omega)⟩, Nat.le_succ_of_le h.len, h.par⟩
  split
  · exact h.ground.mono (Nat.le_refl _) (by omega)
  split
  · rename_i hh
    refine ⟨⟨h.ok.inn, h.ok.wts, ⟨h.ok.pay.1.append (fun x hx => by simp at hx; subst hx; exact hc), ?_⟩, h.ok.int, h.ok.num⟩, Nat.le_succ_of_le h.len, h.par⟩
    simp; omega
  · exact h.mono (Nat.le_refl _) (by omega)
theorem St.plain {n m : Nat} {p : ParserM} {c : Int} (h : St n m p) (hc : 0 ≤ c ∧ c < 256) : St n (m + 4) (plainE p c) := by
  unfold plainE
  have hm := most_is
  have hw := h.ok.wts
  have hb : Byts (p.text.waits ++ [c]) := hw.1.append (fun x hx => by simp at hx; subst hx; exact hc)
  obtain ⟨e, e1, e2, e3⟩ := gF_is hb (by simp; omega)
  refine St.put (p := { p with text := ⟨(gF (p.text.waits ++ [c])).2⟩ }) ⟨⟨h.ok.inn, ⟨e3, e1⟩, h.ok.pay, h.ok.int, h.ok.num⟩, h.len, h.par⟩ ?_ pr_par
  simp at e2 ⊢; omega
theorem St.on {n m : Nat} {p : ParserM} {c : Int} (h : St n m p) (hc : 0 ≤ c ∧ c < 256) (hN : n ≤ 4611686018427387904) : St (n + 2) (m + 4) (onE p c) := by
  unfold onE
  split
  · exact h.behind.mono (by omega) (by omega)
  split
  · rename_i h2; exact (h.sequence h2 hN).mono (by omega) (by omega)
  · exact (h.plain hc).mono (by omega) (by omega)
theorem St.outer {n m : Nat} {p : ParserM} {c : Int} (h : St n m p) (hc : 0 ≤ c ∧ c < 256) (hN : n ≤ 4611686018427387904) : St (n + 2) (m + 4) (outE p c) := by
  unfold outE
  split
  · exact h.ground.mono (by omega) (by omega)
  split
  · exact (h.begin ⟨by omega, by omega⟩).mono (by omega) (by omega)
  split
  · exact (h.put (k := 1) (by simp) (one_par (Nat.zero_le _))).mono (by omega) (by omega)
  split
  · exact h.on hc hN
  · exact h.mono (by omega) (by omega)
theorem St.ends {n m : Nat} {p : ParserM} {c : Int} (h : St n m p) (hc : 0 ≤ c ∧ c < 256) (hN : n ≤ 4611686018427387904) : St (n + 2) (m + 7) (endsE p c) := by
  unfold endsE
  split
  · exact h.endString.mono (by omega) (by omega)
  · exact ((h.begin (s := 1) ⟨by omega, by omega⟩).flush (c := c)).outer hc hN
theorem St.byte {n m : Nat} {p : ParserM} {c : Int} (h : St n m p) (hc : 0 ≤ c ∧ c < 256) (hN : n ≤ 4611686018427387904) : St (n + 2) (m + 10) (byteE p c) := by
  have hf := h.flush (c := c)
  unfold byteE
  split
  · rename_i h3; exact (hf.collect h3 hc).mono (by omega) (by omega)
  split
  · exact hf.ends hc hN
  · exact (hf.outer hc hN).mono (by omega) (by omega)
theorem byte_is {n m : Nat} {p : ParserM} {c : Int} (h : St n m p) (hc : 0 ≤ c ∧ c < 256) (hN : n ≤ 4611686018427387904) (hm : m + 20 ≤ most) : esc_Parser_byte p c = some (byteE p c) := by
  have base : ∀ (k : Nat) (q : ParserM) (m' : Nat), St n m' q → m' + 8 ≤ most → q.in_ ≠ 4 → (esc_Parser_byteG (k + 1)).1 q c = some (byteE q c) := by
    intro k q m' hq hm' h4
    have hlen := hq.len
    have := byteF_is (rec18 := (esc_Parser_byteG k).1) (rec35 := (esc_Parser_byteG k).2) (r := q) hq.ok hN hc (by omega) (fun e => absurd e h4)
    rw [if_neg h4] at this
    exact this
  have hlen := h.len
  by_cases h4 : p.in_ = 4
  · have hf := h.flush (c := c)
    have hflen := hf.len
    have e1 : (esc_Parser_byteG 2).2 (flushE p c) c = some (endsE (flushE p c) c) := by
      show esc_Parser_endsF ((esc_Parser_byteG 1).1) ((esc_Parser_byteG 1).2) (flushE p c) c = _
      unfold esc_Parser_endsF endsE
      simp only [letB]
      by_cases h92 : c = 92
      · rw [decide_eq_true h92, if_pos h92, endString_is hf.ok.pay.1 (by omega)]; rfl
      · rw [decide_eq_false h92, if_neg h92]
        simp only [cond_false, begin_is, Option.bind_some]
        rw [base 0 (beginE (flushE p c) 1) (m + 3) (hf.begin ⟨by omega, by omega⟩) (by omega) (by show ¬((1 : Int) = 4); omega)]
        simp only [Option.bind_some]
        congr 1
        unfold byteE
        have hi : (flushE (beginE (flushE p c) 1) c).in_ = 1 := flush_in
        rw [if_neg (by rw [hi]; omega), if_neg (by rw [hi]; omega)]
    have := byteF_is (rec18 := (esc_Parser_byteG 2).1) (rec35 := (esc_Parser_byteG 2).2) (r := endsE (flushE p c) c) h.ok hN hc (by omega) (fun _ => e1)
    rw [if_pos h4] at this
    have e2 : byteE p c = endsE (flushE p c) c := by
      unfold byteE
      rw [if_neg (by rw [flush_in, h4]; omega), if_pos (by rw [flush_in, h4])]
    rw [e2]; exact this
  · exact base 2 p m h (by omega) h4
def S (x : List Act) (p : ParserM) : ParserM := { p with out := x ++ p.out }
end Go.Proofs.YtggbcchebiedjaaDoor.Am.Esc

set_option linter.all false
namespace Go.Proofs.YtggbcchebiedjaaDoor.Am.Esc
open Go.Proofs.YtggbcchebiedjaaDoor.Am.T
noncomputable def runE (p : ParserM) (b : List Int) : ParserM := b.foldl byteE p
def Z (p : ParserM) : ParserM := { p with out := [] }
theorem St.Z {n m : Nat} {p : ParserM} (h : St n m p) : St n 0 (Z p) :=
  ⟨⟨h.ok.inn, h.ok.wts, h.ok.pay, h.ok.int, h.ok.num⟩, Nat.le_refl _, fun a ha => by cases ha⟩
theorem feed_loop (b : List Int) (hb : Byts b) (hl : b.length ≤ 100000000) : ∀ (k i : Nat) (p : ParserM) (n m : Nat), i + k = b.length → St n m p → n + 2 * k ≤ 4611686018427387904 → m + 10 * k + 20 ≤ most →
    iter (fun s => esc_Parser_Feed_l1 b s.1 s.2 : (Int × ParserM) → Option ((Int × ParserM) ⊕ ParserM)) ((i : Int), p) = some (runE p (b.drop i)) ∧ St (n + 2 * k) (m + 10 * k) (runE p (b.drop i))
  | 0, i, p, n, m, hi, h, hN, hm => by
    rw [List.drop_of_length_le (by omega)]
    refine ⟨iter_inr ?_, h⟩
    simp only [esc_Parser_Feed_l1, letB]
    rw [decide_eq_false (by omega)]; rfl
  | k + 1, i, p, n, m, hi, h, hN, hm => by
    have hd : b.drop i = b.getD i 0 :: b.drop (i + 1) := by
      rw [List.getD_eq_getElem?_getD, List.getElem?_eq_getElem (by omega)]; exact List.drop_eq_getElem_cons (by omega)
    obtain ⟨e, s⟩ := feed_loop b hb hl k (i + 1) (byteE p (b.getD i 0)) (n + 2) (m + 10) (by omega) (h.byte (hb.get i) (by omega)) (by omega) (by omega)
    rw [hd]
    refine ⟨?_, s.mono (by omega) (by omega)⟩
    rw [iter_inl (s' := (((i + 1 : Nat) : Int), byteE p (b.getD i 0))) (by
      simp only [esc_Parser_Feed_l1, letB]
      rw [decide_eq_true (by omega), idx_is (d := 0) (by omega) (by omega)]
      simp only [cond_true, Option.bind_some, Int.toNat_natCast]
      rw [byte_is h (hb.get i) (by omega) (by omega), w64_id (by omega) (by omega)]; rfl), e]
    rfl
theorem Feed_is {n m : Nat} {p : ParserM} {b : List Int} (h : St n m p) (hb : Byts b) (hl : b.length ≤ 100000000) (hN : n + 2 * b.length ≤ 4611686018427387904) :
    esc_Parser_Feed p b = some ((runE (Z p) b).out, Z (runE (Z p) b)) ∧ St (n + 2 * b.length) (10 * b.length) (runE (Z p) b) := by
  have hmost := most_is
  obtain ⟨e, s⟩ := feed_loop b hb hl b.length 0 (Z p) n 0 (by omega) h.Z (by omega) (by omega)
  rw [List.drop_zero] at e s
  refine ⟨?_, s.mono (by omega) (by omega)⟩
  unfold esc_Parser_Feed
  have e' : iter (fun s => esc_Parser_Feed_l1 b s.1 s.2 : (Int × ParserM) → Option ((Int × ParserM) ⊕ ParserM)) (0, { p with out := [] }) = some (runE (Z p) b) := e
  rw [e']; rfl
theorem idle_is {p : ParserM} : esc_Parser_Idle p = some (decide (p.in_ = 0) && decide (p.text.waits.length = 0)) := by
  unfold esc_Parser_Idle glyph_Reader_Waits_in32_0
  simp only [letB, Option.bind_some]
  by_cases h : p.in_ = 0
  · rw [decide_eq_true h]
    by_cases h2 : p.text.waits.length = 0
    · rw [decide_eq_true h2, decide_eq_true (by omega : (p.text.waits.length : Int) = 0)]; rfl
    · rw [decide_eq_false h2, decide_eq_false (by omega : ¬ (p.text.waits.length : Int) = 0)]; rfl
  · rw [decide_eq_false h]; rfl
theorem sameInts_loop (a : List Int) (hl : a.length ≤ most) : ∀ (k i : Nat), i + k = a.length →
    iter (fun s => casementref01_SameInts_l1 a a s : Int → Option (Int ⊕ (Unit ⊕ Unit))) (i : Int) = some (.inr ())
  | 0, i, hi => iter_inr (by
      simp only [casementref01_SameInts_l1, letB]
      rw [decide_eq_false (by omega)]; rfl)
  | k + 1, i, hi => by
    have hm := most_is
    rw [iter_inl (s' := ((i + 1 : Nat) : Int)) (by
      simp only [casementref01_SameInts_l1, letB]
      rw [decide_eq_true (by omega), idx_is (d := 0) (by omega) (by omega)]
      simp only [cond_true, Option.bind_some, Int.toNat_natCast]
      rw [decide_eq_false (by simp), w64_id (by omega) (by omega)]; rfl)]
    exact sameInts_loop a hl k (i + 1) (by omega)
theorem sameInts_self {a : List Int} (hl : a.length ≤ most) : casementref01_SameInts a a = some true := by
  unfold casementref01_SameInts
  simp only [letB]
  rw [decide_eq_false (by simp)]
  have := sameInts_loop a hl a.length 0 (by omega)
  simp only [cond_false]
  have e : iter (fun s => casementref01_SameInts_l1 a a s : Int → Option (Int ⊕ (Unit ⊕ Unit))) 0 = some (.inr ()) := this
  rw [e]; rfl
def p0 : ParserM := ParserM.mk (Reader.mk []) 0 false false (ActM.mk 0 0 0 0 [] (some []) []) 0 [] []
theorem St.zero : St 0 0 p0 :=
  ⟨⟨⟨Int.le_refl _, by decide⟩, ⟨fun _ hx => (by cases hx), Nat.zero_le _⟩, ⟨fun _ hx => (by cases hx), Nat.zero_le _⟩, Nat.zero_le _, fun e => by exact absurd e (show ¬((0 : Int) = 2) by omega)⟩, Nat.le_refl _, fun _ ha => by cases ha⟩
theorem gF_97 : gF [97] = ([97], []) := by
  have h1 : unicode_utf8_FullRune [97] = some true := by decide +kernel
  have h2 : unicode_utf8_DecodeRune [97] = some (97, 1) := by
    unfold unicode_utf8_DecodeRune
    rw [iter_inr (r := .inl 97) (by decide +kernel)]; rfl
  have h3 : unicode_utf8_FullRune [] = some false := by decide +kernel
  unfold gF
  rw [iter_inl (s' := ([97], [])) (by simp only [glyph_Reader_Feed_in32_0_l1, h1, h2, Option.bind_some]; rfl)]
  rw [iter_inr (r := ([97], [])) (by simp only [glyph_Reader_Feed_in32_0_l1, h3, Option.bind_some]; rfl)]; rfl
theorem gF_195 : gF [195] = ([], [195]) := by
  have h3 : unicode_utf8_FullRune [195] = some false := by decide +kernel
  unfold gF
  rw [iter_inr (r := ([], [195])) (by simp only [glyph_Reader_Feed_in32_0_l1, h3, Option.bind_some]; rfl)]; rfl
theorem byts_of {l : List Int} (h : (l.all fun x => decide (0 ≤ x ∧ x < 256)) = true) : Byts l := fun x hx => of_decide_eq_true (List.all_eq_true.1 h x hx)
theorem plain_of {p : ParserM} {c : Int} {rs w : List Int} (h : gF (p.text.waits ++ [c]) = (rs, w)) : plainE p c = putE { p with text := ⟨w⟩ } (rs.map pr) := by
  unfold plainE; rw [h]
end Go.Proofs.YtggbcchebiedjaaDoor.Am.Esc

set_option linter.all false
namespace Go.Proofs.YtggbcchebiedjaaDoor.Am.Esc
open Go.Proofs.YtggbcchebiedjaaDoor.Am.T
deriving instance DecidableEq for Reader, ActM, Act, ParserM
def q1 : ParserM := ⟨⟨[]⟩, 0, false, false, ⟨4, 0, 72, 0, [], none, []⟩, 3, [], []⟩
def q2 : ParserM := ⟨⟨[]⟩, 0, false, true, ⟨0, 0, 93, 0, [], some [], []⟩, 0, [48, 59, 104, 105], []⟩
def q3 : ParserM := ⟨⟨[]⟩, 0, false, true, ⟨0, 0, 0, 0, [40], some [], []⟩, 0, [], []⟩
def q4 : ParserM := ⟨⟨[]⟩, 0, false, false, ⟨4, 0, 109, 0, [], none, []⟩, 0, [], []⟩
def as1 : List Act := [⟨1, 97, 0, 0, [], [], []⟩, ⟨4, 0, 72, 0, [], [1, -1, 5], []⟩]
def as2 : List Act := [⟨5, 0, 93, 0, [], [], [48, 59, 104, 105]⟩]
def as3 : List Act := [⟨3, 0, 66, 0, [40], [], []⟩]
def as4 : List Act := [⟨1, 65533, 0, 0, [], [], []⟩, ⟨4, 0, 109, 0, [], [], []⟩]
theorem run_cons {p : ParserM} {c : Int} {l : List Int} : runE p (c :: l) = runE (byteE p c) l := rfl
theorem run1 : runE (Z p0) [97, 27, 91, 49, 59, 59, 53, 72] = { q1 with out := as1 } := by
  have h : byteE (Z p0) 97 = putE p0 [pr 97] := by
    show plainE (Z p0) 97 = _
    rw [plain_of (p := Z p0) (c := 97) (rs := [97]) (w := []) gF_97]; rfl
  rw [run_cons, h]; decide +kernel
theorem run2 : runE (Z q1) [27, 93, 48, 59, 104, 105, 7] = { q2 with out := as2 } := by decide +kernel
theorem run3 : runE (Z q2) [27, 40, 66] = { q3 with out := as3 } := by decide +kernel
theorem run4 : runE (Z q3) [195, 27, 91, 109] = { q4 with out := as4 } := by
  have h : byteE (Z q3) 195 = { q3 with text := ⟨[195]⟩ } := by
    show plainE (Z q3) 195 = _
    rw [plain_of (p := Z q3) (c := 195) (rs := []) (w := [195]) gF_195]; rfl
  rw [run_cons, h]; decide +kernel
theorem feed_ex {n m : Nat} {p q : ParserM} {b : List Int} {zs : List Act} (h : St n m p) (hn : n ≤ 1000) (hb : (b.all fun x => decide (0 ≤ x ∧ x < 256)) = true) (hl : b.length ≤ 1000) (hq : runE (Z p) b = { q with out := zs }) (hz : q.out = []) :
    esc_Parser_Feed p b = some (zs, q) ∧ St (n + 2 * b.length) (10 * b.length) q := by
  obtain ⟨e, s⟩ := Feed_is h (byts_of hb) (by omega) (by omega)
  rw [hq] at e s
  have hq' : Z { q with out := zs } = q := by
    show { q with out := [] } = q
    rw [← hz]
  refine ⟨by rw [e, hq'], ?_⟩
  have := s.Z
  rw [hq'] at this
  exact this.mono (Nat.le_refl _) (by omega)
theorem csi_ex : esc_Csi 63 [25] 104 = some [27, 91, 63, 50, 53, 104] := by
  have h1 : app ([27, 91] : List Int) [63] = some [27, 91, 63] := app_some (by simp [most_is])
  have h2 : subB ([25] : List Int) (min (([25] : List Int).length : Int) 16) = some [25] := by decide +kernel
  have h3 : esc_Csi_l1 [25] [27, 91, 63] 0 = some (.inl ([27, 91, 63, 50, 53], 1)) := by decide +kernel
  have h4 : esc_Csi_l1 [25] [27, 91, 63, 50, 53] 1 = some (.inr [27, 91, 63, 50, 53]) := by decide +kernel
  have h5 : iter (fun s => esc_Csi_l1 [25] s.1 s.2 : (List Int × Int) → Option ((List Int × Int) ⊕ List Int)) ([27, 91, 63], 0) = some [27, 91, 63, 50, 53] := by
    revert h3 h4
    generalize esc_Csi_l1 [25] = f
    intro h3 h4
    rw [iter_inl (s' := ([27, 91, 63, 50, 53], 1)) (by exact h3), iter_inr (by exact h4)]
  have h6 : app ([27, 91, 63, 50, 53] : List Int) [104] = some [27, 91, 63, 50, 53, 104] := app_some (by simp [most_is])
  unfold esc_Csi
  simp only [letB]
  show ((app [27, 91] [63]).bind fun x3 => some x3).bind _ = _
  rw [h1]
  simp only [Option.bind_some, h2, h5, h6]
theorem alive_is : casementlaw04_alive = some true := by
  obtain ⟨e1, s1⟩ := feed_ex (q := q1) (zs := as1) St.zero (by omega) (by decide) (by decide) run1 rfl
  obtain ⟨e2, s2⟩ := feed_ex (q := q2) (zs := as2) s1 (by decide) (by decide) (by decide) run2 rfl
  obtain ⟨e3, s3⟩ := feed_ex (q := q3) (zs := as3) s2 (by decide) (by decide) (by decide) run3 rfl
  obtain ⟨e4, s4⟩ := feed_ex (q := q4) (zs := as4) s3 (by decide) (by decide) (by decide) run4 rfl
  unfold casementlaw04_alive
  rw [show (ParserM.mk (Reader.mk []) 0 false false (ActM.mk 0 0 0 0 [] (some []) []) 0 [] []) = p0 from rfl, e1]
  simp only [Option.bind_some]
  rw [e2]
  simp only [Option.bind_some]
  rw [e3]
  simp only [Option.bind_some]
  rw [e4]
  simp only [Option.bind_some]
  have i1 : idx as1 0 = some ⟨1, 97, 0, 0, [], [], []⟩ := rfl
  have i2 : idx as1 1 = some ⟨4, 0, 72, 0, [], [1, -1, 5], []⟩ := rfl
  have i3 : idx as2 0 = some ⟨5, 0, 93, 0, [], [], [48, 59, 104, 105]⟩ := rfl
  have i4 : idx as3 0 = some ⟨3, 0, 66, 0, [40], [], []⟩ := rfl
  have i5 : idx as4 0 = some ⟨1, 65533, 0, 0, [], [], []⟩ := rfl
  have i6 : idx as4 1 = some ⟨4, 0, 109, 0, [], [], []⟩ := rfl
  have hs : casementref01_SameInts [1, -1, 5] [1, -1, 5] = some true := sameInts_self (by decide)
  have hb : bstr [27, 91, 63, 50, 53, 104] = some [27, 91, 63, 50, 53, 104] := rfl
  simp only [i1, i2, i3, i4, i5, i6, Option.bind_some, hs, csi_ex, hb, idle_is, letB]
  decide +kernel
end Go.Proofs.YtggbcchebiedjaaDoor.Am.Esc

set_option linter.all false
namespace Go.Proofs.YtggbcchebiedjaaDoor.Am.Esc
open Go.Proofs.YtggbcchebiedjaaDoor.Am.T
theorem run_app {p : ParserM} {a b : List Int} : runE p (a ++ b) = runE (runE p a) b := List.foldl_append
theorem St.run {b : List Int} : ∀ {p : ParserM} {n m : Nat}, St n m p → Byts b → n + 2 * b.length ≤ 4611686018427387904 → St (n + 2 * b.length) (m + 10 * b.length) (runE p b) := by
  induction b with
  | nil => intro p n m h _ _; exact h
  | cons c b ih =>
    intro p n m h hb hN
    rw [List.length_cons] at hN ⊢
    rw [run_cons]
    exact (ih (h.byte (hb c List.mem_cons_self) (by omega)) (fun x hx => hb x (.tail _ hx)) (by omega)).mono (by omega) (by omega)
theorem Byts.take {l : List Int} (h : Byts l) (n : Nat) : Byts (l.take n) := fun x hx => h x (List.mem_of_mem_take hx)
def Sim (p q : ParserM) : Prop := p.text = q.text ∧ p.in_ = q.in_ ∧ p.out = q.out ∧ (p.in_ ≠ 0 → p = q)
theorem Sim.refl {p : ParserM} : Sim p p := ⟨rfl, rfl, rfl, fun _ => rfl⟩
theorem Sim.byte {p q : ParserM} {c : Int} (h : Sim p q) : Sim (byteE p c) (byteE q c) := by
  by_cases h0 : p.in_ = 0
  case neg => rw [h.2.2.2 h0]; exact .refl
  have hf : Sim (flushE p c) (flushE q c) ∧ (flushE p c).in_ = 0 := by
    unfold flushE restE putE
    split
    · exact ⟨⟨rfl, h.2.1, by show _ ++ _ = _ ++ _; rw [h.1, h.2.2.1], fun hn => absurd h0 hn⟩, h0⟩
    · exact ⟨h, h0⟩
  obtain ⟨hf, h0⟩ := hf
  have h0' : (flushE q c).in_ = 0 := by rw [← hf.2.1]; exact h0
  unfold byteE
  rw [if_neg (by omega), if_neg (by omega), if_neg (by omega), if_neg (by omega)]
  revert hf h0 h0'
  generalize flushE p c = p
  generalize flushE q c = q
  intro h h0 h0'
  unfold outE
  split
  · exact ⟨h.1, rfl, h.2.2.1, fun hn => absurd rfl hn⟩
  split
  · have : beginE p 1 = beginE q 1 := by unfold beginE; rw [h.1, h.2.2.1]
    rw [this]; exact .refl
  split
  · exact ⟨h.1, h.2.1, by show _ ++ _ = _ ++ _; rw [h.2.2.1], fun hn => absurd h0 hn⟩
  split
  · unfold onE
    rw [if_neg (by omega), if_neg (by omega), if_neg (by omega), if_neg (by omega)]
    unfold plainE putE
    exact ⟨by show Reader.mk _ = Reader.mk _; rw [h.1], h.2.1, by show _ ++ _ = _ ++ _; rw [h.1, h.2.2.1], fun hn => absurd h0 hn⟩
  · exact h
theorem Sim.run {b : List Int} : ∀ {p q : ParserM}, Sim p q → Sim (runE p b) (runE q b) := by
  induction b with
  | nil => intro p q h; exact h
  | cons c b ih => intro p q h; rw [run_cons, run_cons]; exact ih h.byte
end Go.Proofs.YtggbcchebiedjaaDoor.Am.Esc

set_option linter.all false
namespace Go.Proofs.YtggbcchebiedjaaDoor.Am.Esc
open Go.Proofs.YtggbcchebiedjaaDoor.Am.T
def low (x : Int) : Int := w8 (32 + (iAnd .u8 x 15))
end Go.Proofs.YtggbcchebiedjaaDoor.Am.Esc

namespace Go.Proofs.YtggbcchebiedjaaDoor.Am
section
variable {P : Program} {W : World}
inductive ArgOK (W : World) : V → Value → Prop
  | leaf {x : V} {v : Value} (h : RB (blocksOf W) W x v) : ArgOK W x v
  | agg (cs : List V) (arr : Array Value) (hs : arr.size = cs.length) (h : ∀ k, k < cs.length → RB (blocksOf W) W (cs.getD k .undef) (arr.getD k undef)) : ArgOK W (.agg cs) (.agg arr)
def g0 (W : World) : G := ⟨id, id, fun _ => False, blocksOf W⟩
theorem RB.toR1 {x : V} {v : Value} (h : RB (blocksOf W) W x v) : R1 (g0 W) W 0 x v := by
  cases h with
  | func f => exact ⟨#[], rfl, rfl, fun k hk => absurd hk (by simp)⟩
  | bool b => exact RB.bool b
  | int k n => exact RB.int k n
  | str b => exact RB.str b
  | nilp => exact RB.nilp
  | nils => exact RB.nils
  | nilf => exact RB.nilf
  | nili => exact RB.nili
  | slice sz xs a cap vs hs hp hc hz hv hr => exact RB.slice sz xs a cap vs hs hp hc hz hv hr
theorem RB.ok0 {x : V} {v : Value} (h : RB (blocksOf W) W x v) : x.ok0 = true := by
  cases h <;> rfl
theorem RB.cnt {x : V} {v : Value} (h : RB (blocksOf W) W x v) (c : Nat) : cnt0 c x v = 0 := by
  cases h <;> rfl
theorem ArgOK.r3 {x : V} {v : Value} (h : ArgOK W x v) (τ : Nat → Value) : R3 (g0 W) W 0 τ x v := by
  cases h with
  | leaf h =>
    have h1 := h.toR1
    cases h <;> exact h1
  | agg cs arr hs h => exact ⟨arr, rfl, hs, fun k hk => ⟨.inl (h k hk).ok0, (h k hk).toR1⟩⟩
theorem ArgOK.okArg {x : V} {v : Value} (h : ArgOK W x v) : x.okArg = true := by
  cases h with
  | leaf h => cases h <;> rfl
  | agg cs arr hs h =>
    simp only [V.okArg, List.all_eq_true]
    intro y hy
    obtain ⟨k, hk, rfl⟩ := List.getElem_of_mem hy
    have := (h k hk).ok0
    rwa [List.getD_eq_getElem?_getD, List.getElem?_eq_getElem hk] at this
theorem ArgOK.cnt {x : V} {v : Value} (h : ArgOK W x v) (c : Nat) : cnt2 c x v = 0 := by
  cases h with
  | leaf h =>
    have h1 := h.cnt c
    cases h <;> exact h1
  | agg cs arr hs h => exact sumTo_zero fun k hk => (h k hk).cnt c
theorem start {args : List V} {vs : Array Value} (hl : args.length = vs.toList.length) (ha : ∀ k, k < args.length → ArgOK W (args.getD k .undef) (vs.toList.getD k undef)) :
    SR (g0 W) W 0 (fun _ => 0) (fun _ => false) ⟨fun _ => .undef, fun _ => [], []⟩ #[] (args.zip vs.toList) := by
  have hmem : ∀ p ∈ args.zip vs.toList, ArgOK W p.1 p.2 := fun p hp => by
    obtain ⟨k, hk, rfl⟩ := List.getElem_of_mem hp
    have hk' : k < args.length := by simp at hk; omega
    have h1 := ha k hk'
    simp only [List.getElem_zip]
    rw [List.getD_eq_getElem?_getD, List.getElem?_eq_getElem hk', List.getD_eq_getElem?_getD, List.getElem?_eq_getElem (by omega)] at h1
    exact h1
  have hcP : ∀ c, cntP c (args.zip vs.toList) = 0 := fun c => by
    rw [cntP_zip hl]; exact sumTo_zero fun k hk => (ha k hk).cnt c
  have hT : ∀ c, total (g0 W) W 0 (fun _ => 0) ⟨fun _ => .undef, fun _ => [], []⟩ #[] (args.zip vs.toList) c = persOf (g0 W) c := fun c => by
    have e1 : cntT c (fun _ => V.undef) #[] = 0 := rfl
    have e2 : cntB (g0 W) W c 0 (fun _ => []) = 0 := rfl
    have e3 : cntM (g0 W) W c [] = 0 := rfl
    unfold total
    simp only [e1, e2, e3, hcP]
    omega
  refine ⟨fun s => trivial, fun s _ => rfl, fun s d hd => (by cases hd), fun p hp => (hmem p hp).r3 _, fun p hp d hd => ?_, fun j => by simp [g0], fun j hj => absurd rfl hj, fun b hb => absurd hb (by simp), fun c => ?_, fun c hc => ?_⟩
  · obtain ⟨b, o, e⟩ := okArg_root (hmem p hp).okArg hd; cases e
  · rw [hT]; unfold persOf; split <;> omega
  · rw [hT]; unfold persOf
    rw [if_neg]
    show ¬ (c < W.heap.size)
    omega
theorem law_calls [Lay P] {T : Table} (hLd : Laid P (g0 W) W) (hT : TableOK P T) {f : Nat} {args : List V} {m' : List (List V)} {vs : Array Value} {b : Bool} (hret : RF T f args [] = some (.bool b, m')) (hl : args.length = vs.toList.length)
    (ha : ∀ k, k < args.length → ArgOK W (args.getD k .undef) (vs.toList.getD k undef)) : Calls P f vs W fun e W' => e = .returned (.bool b) ∧ RowKit.Below W.heap.size W W' := by
  obtain ⟨_, hcall⟩ := ret_sound hT (RF_ret.1 hret)
  have hok : args.all V.okArg = true := List.all_eq_true.2 fun y hy => by
    obtain ⟨k, hk, rfl⟩ := List.getElem_of_mem hy
    have := (ha k hk).okArg
    rwa [List.getD_eq_getElem?_getD, List.getElem?_eq_getElem hk] at this
  refine (hcall (g0 W) W (fun _ => 0) vs (by simpa using hl.symm) hok hLd (start hl ha)).mono fun e W' ⟨v, g', he, hS, hE, _⟩ => ?_
  have hv : v = .bool b := R3.bool (hS.pend _ (.head _))
  exact ⟨by rw [he, hv], hE.os, hE.tape, hE.output, hE.size, fun k hk => (hE.pers k hk).2⟩
def FitsV (P : Program) (t : TypeId) (x : V) : Prop :=
  match P.underlying t with
  | some (.struct _) | some (.array _ _) => ∃ cs, x = .agg cs ∧ Fits P t cs
  | _ => Fits P t [x]
section
variable {H : Type} {enc : TypeId × Value → H}
theorem arg_of {d : Nat} {t : TypeId} (hsup : supT P d t = true) {v : Value} {dd : DataW H} {ps : List MemPlace} {base : Nat} (hval : Value.okWide P W .any base t v) (h : DataW.Trod enc P W 0 (fun _ => true) true t v dd ps) :
    ∃ x, FitsV P t x ∧ ArgOK W x v := by
  obtain ⟨fuel, h⟩ := h
  obtain ⟨cs, hfit, hr⟩ := reads_iff.1 (reads_of hsup h)
  have agg : ∀ arr : Array Value, v = .agg arr → ArgOK W (.agg cs) v := fun arr e => by
    subst e
    have hc : (Value.agg arr).cells = arr := rfl
    rw [hc] at hr
    refine .agg cs arr (by have := hr.1; simpa using this.symm) fun k hk => ?_
    have := hr.2 k (by rw [← hr.1]; exact hk)
    rwa [array_toList_getD] at this
  have leaf : (∀ arr, v ≠ .agg arr) → cs.length = 1 → ∃ x, cs = [x] ∧ ArgOK W x v := fun hv h1 => by
    match cs, h1 with
    | [x], _ =>
      refine ⟨x, rfl, .leaf ?_⟩
      rw [cells_leaf hv] at hr
      exact hr.2 0 (by simp)
  unfold FitsV
  unfold Value.okWide at hval
  cases hu : P.underlying t with
  | none => cases hfit <;> simp_all
  | some ud =>
    rw [hu] at hval
    cases ud with
    | struct fs => obtain ⟨arr, e, _⟩ := hval; exact ⟨.agg cs, ⟨cs, rfl, hfit⟩, agg arr e⟩
    | array n e => obtain ⟨arr, e, _⟩ := hval; exact ⟨.agg cs, ⟨cs, rfl, hfit⟩, agg arr e⟩
    | _ =>
      simp only at hval ⊢
      have h1 : cs.length = 1 := by cases hfit <;> first | rfl | simp_all
      have h2 : ∀ arr, v ≠ .agg arr := fun arr e => by
        subst e
        simp only [Cell.okWide, Cell.ok, hu] at hval
      obtain ⟨x, rfl, hx⟩ := leaf h2 h1
      exact ⟨x, hfit, hx⟩
theorem args_of {d : Nat} : ∀ {ts : List TypeId} {vs : List Value} {ds : List (DataW H)} {ps : List MemPlace} {base : Nat}, ts.all (supT P d) = true → (∀ (j : Nat) (t : TypeId) (v : Value), ts[j]? = some t → vs[j]? = some v → Value.okWide P W .any base t v) →
    DataW.TrodAll enc P W 0 (fun _ => true) true ts vs ds ps → ∃ args : List V, args.length = vs.length ∧ ts.length = vs.length ∧ (∀ (j : Nat) (t : TypeId), ts[j]? = some t → FitsV P t (args.getD j .undef)) ∧ ∀ k, k < args.length → ArgOK W (args.getD k .undef) (vs.getD k undef)
  | [], vs, ds, ps, base, _, _, h => by
    obtain ⟨rfl, rfl, rfl⟩ := ChangeShapes.trodAll_nil h
    exact ⟨[], rfl, rfl, fun j t hj => by simp at hj, fun k hk => absurd hk (by simp)⟩
  | t :: ts, vs, ds, ps, base, hsup, hval, h => by
    obtain ⟨v, vs', dd, ds', p, q, rfl, rfl, rfl, h0, r0⟩ := ChangeShapes.trodAll_cons h
    simp only [List.all_cons, Bool.and_eq_true] at hsup
    obtain ⟨x, hx1, hx2⟩ := arg_of hsup.1 (hval 0 t v rfl rfl) h0
    obtain ⟨args, h1, h2, h3, h4⟩ := args_of hsup.2 (fun j t v hj hv => hval (j + 1) t v hj hv) r0
    refine ⟨x :: args, by simp [h1], by simp [h2], fun j t' hj => ?_, fun k hk => ?_⟩
    · cases j with
      | zero => simp only [List.getElem?_cons_zero, Option.some.injEq] at hj; subst hj; exact hx1
      | succ j => exact h3 j t' hj
    · cases k with
      | zero => exact hx2
      | succ k => exact h4 k (by simpa using hk)
theorem args_stay (hl : laidOutB P = true) {W' : World} {sp : Nat → Bool} : ∀ {ts : List TypeId} {vs : List Value} {ds : List (DataW H)} {ps : List MemPlace}, (ts.all fun t => P.readableRec t && decide (t < P.types.size)) = true →
    DataW.TrodAll enc P W 0 (fun _ => true) true ts vs ds ps → (∀ p ∈ ps, W.sameAt W' p) → (∀ p ∈ ps, sp p.block = true) → DataW.TrodAll enc P W' 0 sp true ts vs ds ps
  | [], vs, ds, ps, _, h, _, _ => by
    obtain ⟨rfl, rfl, rfl⟩ := ChangeShapes.trodAll_nil h
    exact rfl
  | t :: ts, vs, ds, ps, hr, h, hs, hsp => by
    obtain ⟨v, vs', dd, ds', p, q, rfl, rfl, rfl, h0, r0⟩ := ChangeShapes.trodAll_cons h
    simp only [List.all_cons, Bool.and_eq_true, decide_eq_true_eq] at hr
    exact trodAll_cons_mk (WideElems.Trod_stays hl hr.1.1 hr.1.2 h0 (fun x hx => hs x (List.mem_append_left _ hx)) (fun x hx => hsp x (List.mem_append_left _ hx)))
      (args_stay hl hr.2 r0 (fun x hx => hs x (List.mem_append_right _ hx)) (fun x hx => hsp x (List.mem_append_right _ hx)))
theorem trodAll_len : ∀ {ts : List TypeId} {vs : List Value} {ds : List (DataW H)} {ps : List MemPlace}, DataW.TrodAll enc P W 0 (fun _ => true) true ts vs ds ps → ds.length = ts.length
  | [], vs, ds, ps, h => by obtain ⟨rfl, rfl, rfl⟩ := ChangeShapes.trodAll_nil h; rfl
  | t :: ts, vs, ds, ps, h => by
    obtain ⟨v, vs', dd, ds', p, q, rfl, rfl, rfl, h0, r0⟩ := ChangeShapes.trodAll_cons h
    simp [trodAll_len r0]
open ChangeShapes in
theorem post_of_below {f : Func} {s : ChangeSpec} {apart fresh handsOn again : Bool} {W W' : World} {args : Array Value} {v : Value} {ds gs : List (DataW H)} {before pa pv : List MemPlace}
    (hW : DataW.Whole enc P f.params.toList s.vars apart W args.toList ds gs before)
    (hres : ∀ (b : Nat) (sp : Nat → Bool) (hd : Bool), DataW.TrodAll enc P W' b sp hd f.resultTypes.toList (v.resultList f.resultTypes.size) (s.fn H (ds ++ gs)).results [])
    (hargs : ∀ sp : Nat → Bool, (∀ p ∈ before, sp p.block = true) → DataW.TrodAll enc P W' 0 sp true f.params.toList args.toList (s.fn H (ds ++ gs)).args pa)
    (hvars : ∀ sp : Nat → Bool, (∀ p ∈ before, sp p.block = true) → DataW.TrodVars enc P W' sp s.vars (s.fn H (ds ++ gs)).vars pv)
    (hps : before = pa ++ pv) (hb : RowKit.Below W.heap.size W W')
    (hok : ∀ (j : Nat) (t : TypeId) (r : Value), f.resultTypes[j]? = some t → (v.resultList f.resultTypes.size)[j]? = some r → Value.okWide P W' .any 0 t r) :
    s.post enc P f apart fresh handsOn again W args v W' := by
  have hlt : ∀ p ∈ before, p.block < W.heap.size := fun p hp => hW.lt p hp
  have hold : ∀ p ∈ before, (fun b => decide (b < W.heap.size)) p.block = true := fun p hp => by simpa using hlt p hp
  refine ⟨ds, gs, before, [], pa, pv, hW, hres _ _ _, hargs _ hold, hvars _ hold, World.keptBut_mono (fun p hp => ⟨hp, ?_⟩) (hb.frame (· ∈ before)), fun _ => ?_⟩
  · rw [hps, List.mem_append] at hp
    exact Or.inr hp
  · obtain ⟨_, _, _, _, _, hz, hn⟩ := hW
    refine ⟨hok, _, _, ([] ++ pa) ++ pv, ⟨[] ++ pa, pv, trodAll_append (hargs _ (fun _ _ => rfl)) (hres _ _ _), hvars _ (fun _ _ => rfl), rfl, ?_, ?_⟩, ?_⟩
    · intro b off hp
      have hp' : MemPlace.cell b off ∈ before := by rw [hps]; simpa using hp
      rw [hb.frozen (p := ⟨b, off, none⟩) (hlt _ hp')]
      exact hz b off hp'
    · intro ha
      have := hn ha
      rw [hps] at this
      simpa using this
    · intro p hp _
      rw [hps]
      simpa using hp
theorem law_contract [Lay P] {T : Table} (hLd : Laid P (g0 W) W) (hT : TableOK P T) {f : Nat} {fn : Func} {tb : TypeId} {s : ChangeSpec} {apart fresh handsOn again : Bool} {d : Nat} (hbool : P.underlying tb = some .bool) (hres : fn.resultTypes = #[tb]) (hvars : s.vars = [])
    (hspec : ∀ ds : List (DataW H), ds.length = fn.params.toList.length → s.fn H ds = { results := [.lit (.bool true)], args := ds }) (hl : laidOutB P = true) (hr : (fn.params.toList.all fun t => P.readableRec t && decide (t < P.types.size)) = true)
    (hsup : fn.params.toList.all (supT P d) = true) {base : Nat} {args : Array Value} {ds gs : List (DataW H)} {before : List MemPlace}
    (law : ∀ zs9 : List V, zs9.length = fn.params.toList.length → (∀ (j : Nat) (t : TypeId), fn.params.toList[j]? = some t → FitsV P t (zs9.getD j .undef)) → ∃ m', RF T f zs9 [] = some (.bool true, m'))
    (hval : ∀ (j : Nat) t v, fn.params[j]? = some t → args[j]? = some v → Value.okWide P W .any base t v) (hW : DataW.Whole enc P fn.params.toList s.vars apart W args.toList ds gs before) :
    Calls P f args W fun e W' => ∃ v, e = .returned v ∧ s.post enc P fn apart fresh handsOn again W args v W' := by
  have hW' := hW
  obtain ⟨p, q, hA, hV, rfl, hfz, hnd⟩ := hW
  rw [hvars] at hV
  obtain ⟨rfl, rfl⟩ := ChangeShapes.trodVars_none hV
  obtain ⟨zs9, h1, h2, h3, h4⟩ := args_of (base := base) hsup (fun j t v hj hv => hval j t v (by simpa using hj) (by simpa using hv)) hA
  obtain ⟨m', hm⟩ := law zs9 (by rw [h1, h2]) h3
  have hds : ds.length = fn.params.toList.length := trodAll_len hA
  refine (law_calls hLd hT hm h1 h4).mono fun e W' ⟨he, hb⟩ => ?_
  subst he
  have hsp : s.fn H (ds ++ []) = { results := [.lit (.bool true)], args := ds } := by rw [List.append_nil]; exact hspec ds hds
  refine ⟨_, rfl, post_of_below (pa := p) (pv := []) hW' (fun b sp hd => ?_) (fun sp hspb => ?_) (fun sp _ => ?_) rfl hb (RowKit.ok_one hres rfl (RowKit.okWide_bool_mk hbool _))⟩
  · rw [hsp, hres]
    exact trodAll_cons_mk (RowKit.shut_bool hbool true) rfl
  · rw [hsp]
    exact args_stay hl hr hA (fun x hx => hb.same (hW'.lt x (by simpa using hx))) (fun x hx => hspb x (by simpa using hx))
  · rw [hsp, hvars]; exact rfl
end
end
end Go.Proofs.YtggbcchebiedjaaDoor.Am

set_option linter.all false
namespace Go.Proofs.YtggbcchebiedjaaDoor.Am.Esc
open Go.Proofs
theorem gl2 : Tryd.prog.globalNamed "unicode/utf8.acceptRanges" = some 2 := by kernel_rfl
theorem gl1 : Tryd.prog.globalNamed "unicode/utf8.first" = some 1 := by kernel_rfl
theorem gt2 : (Tryd.prog.globals[2]?).map (·.type) = some 95 := by kernel_rfl
theorem gt1 : (Tryd.prog.globals[1]?).map (·.type) = some 92 := by kernel_rfl
noncomputable def eT (t : TypeId) : TypeId := match Tryd.prog.underlying t with | some (.array _ e) => e | _ => 0
noncomputable def fsT (t : TypeId) : Array Field := match Tryd.prog.underlying t with | some (.struct fs) => fs | _ => #[]
theorem ut1 : Tryd.prog.underlying 92 = some (.array 256 (eT 92)) := by kernel_rfl
theorem ut2 : Tryd.prog.underlying 95 = some (.array 16 (eT 95)) := by kernel_rfl
theorem ue1 : Tryd.prog.underlying (eT 92) = some (.int .u8) := by kernel_rfl
theorem ue2 : Tryd.prog.underlying (eT 95) = some (.struct (fsT (eT 95))) := by kernel_rfl
theorem uf0 : ((fsT (eT 95))[0]?.map fun f => (f.type, f.offset)) = some (5, 0) := by kernel_rfl
theorem uf1 : ((fsT (eT 95))[1]?.map fun f => (f.type, f.offset)) = some (5, 1) := by kernel_rfl
theorem u5 : Tryd.prog.underlying 5 = some (.int .u8) := by kernel_rfl
theorem kc1 : Tryd.prog.cellsOf (eT 92) = 1 := by kernel_rfl
theorem kc2 : Tryd.prog.cellsOf (eT 95) = 2 := by kernel_rfl
theorem kc5 : Tryd.prog.cellsOf 5 = 1 := by kernel_rfl
theorem gl0 : Tryd.prog.globalNamed "internal/strconv.uint64pow10" = some 0 := by kernel_rfl
noncomputable def gT (g : Nat) : TypeId := ((Tryd.prog.globals[g]?).map (·.type)).getD 0
theorem gt0 : (Tryd.prog.globals[0]?).map (·.type) = some (gT 0) := by kernel_rfl
theorem ut0 : Tryd.prog.underlying (gT 0) = some (.array 20 (eT (gT 0))) := by kernel_rfl
theorem ue0 : Tryd.prog.underlying (eT (gT 0)) = some (.int .u64) := by kernel_rfl
theorem kc0 : Tryd.prog.cellsOf (eT (gT 0)) = 1 := by kernel_rfl
theorem kc0' : Tryd.prog.cellsOf (gT 0) = 20 := by kernel_rfl
theorem laid_one {l : List (String × DataW Unit)} {W : World} {n : String} {d : DataW Unit} {g : Nat} {t : TypeId} (h : laidMetH Tryd.prog l W)
    (hf : (l.filter fun x => x.2.handleName?.isNone).filter (fun x => x.1 == n) = [(n, d)]) (hg : Tryd.prog.globalNamed n = some g) (hty : (Tryd.prog.globals[g]?).map (·.type) = some t) :
    ∃ (cs : Array Value) (fuel : Nat) (p : List MemPlace), (∀ i, W.cell? ⟨g, i, none⟩ = cs[i]?) ∧ g < W.heap.size ∧ DataW.trod (fun _ => ()) Tryd.prog W 0 (fun _ => true) false fuel t cs.toList = some (d, p) ∧ W.var? Tryd.prog n = some cs := by
  have h2 := (laidMetH_iff.1 h).1.filter (fun x => x.1 == n)
  rw [hf] at h2
  obtain ⟨ps, ⟨g', t', cs, fuel, p, q, hg', ht', hvar, hd, _, _⟩, _⟩ := h2
  obtain rfl := Option.some.inj (hg.symm.trans hg')
  obtain rfl := Option.some.inj (hty.symm.trans ht')
  have hv := hvar
  refine ⟨cs, fuel, p, fun i => World.var?_cell hg hvar i, ?_, hd, hv⟩
  clear hv
  unfold World.var? at hvar
  rw [hg] at hvar
  simp only [Option.bind_some] at hvar
  cases hh : W.heap[g]? with
  | none => rw [hh] at hvar; cases hvar
  | some o => exact (Array.getElem?_eq_some_iff.1 hh).1
noncomputable def lst (x : List V) : DataW Unit := match x with
  | [.int k n] => .lit (.int k n)
  | [.int k n, .int k' n'] => .agg [.lit (.int k n), .lit (.int k' n')]
  | _ => .nil
theorem first_rows {W : World} {cs : Array Value} {fuel : Nat} {p : List MemPlace} (h : DataW.trod (fun _ => ()) Tryd.prog W 0 (fun _ => true) false fuel 92 cs.toList = some (.agg (tab1.map lst), p)) (i : Nat) (hi : i < 256) :
    ∃ n, tab1[i]? = some [.int .u8 n] ∧ cs[i]? = some (.int .u8 n) := by
  obtain ⟨xs, m, _, hx, hl, hlen, hr⟩ := DataW.trod_array ut1 h
  have hxs : tab1.map lst = xs.map (·.1) := by
    have := congrArg Prod.fst hx
    simpa using this
  have h1 := hr i hi
  rw [kc1, List.getElem?_eq_getElem (by omega)] at h1
  obtain ⟨n, hc, hy, _⟩ := DataW.trod_int ue1 h1
  have h2 : (tab1.map lst)[i]? = some (.lit (.int .u8 n)) := by
    rw [hxs, List.getElem?_map, List.getElem?_eq_getElem (by omega), hy]; rfl
  refine ⟨n, ?_, ?_⟩
  · rw [List.getElem?_map] at h2
    obtain ⟨x, hx1, hx2⟩ := Option.map_eq_some_iff.1 h2
    rw [hx1]
    have hk : ∀ y ∈ tab1, ∃ z, y = [.int .u8 z] := by
      have : tab1.all (fun y => match y with | [.int .u8 _] => true | _ => false) = true := by decide +kernel
      intro y hy
      have := List.all_eq_true.1 this y hy
      split at this
      · exact ⟨_, rfl⟩
      · cases this
    obtain ⟨z, rfl⟩ := hk x (List.mem_of_getElem? hx1)
    simp only [lst, DataW.lit.injEq, Lit.int.injEq, true_and] at hx2
    rw [hx2]
  · have := congrArg (·[0]?) hc
    simpa [List.getElem?_take, List.getElem?_drop] using this
theorem second_rows {W : World} {cs : Array Value} {fuel : Nat} {p : List MemPlace} (h : DataW.trod (fun _ => ()) Tryd.prog W 0 (fun _ => true) false fuel 95 cs.toList = some (.agg (tab2.map lst), p)) (i : Nat) (hi : i < 16) :
    ∃ a b, tab2[i]? = some [.int .u8 a, .int .u8 b] ∧ cs[i * 2]? = some (.int .u8 a) ∧ cs[i * 2 + 1]? = some (.int .u8 b) := by
  obtain ⟨xs, m, _, hx, hl, hlen, hr⟩ := DataW.trod_array ut2 h
  have hxs : tab2.map lst = xs.map (·.1) := by
    have := congrArg Prod.fst hx
    simpa using this
  have h1 := hr i hi
  rw [kc2, List.getElem?_eq_getElem (by omega)] at h1
  obtain ⟨ys, m2, _, hy, hl2, hlen2, hr2⟩ := DataW.trod_struct ue2 h1
  have hsz : (fsT (eT 95)).size = 2 := by kernel_rfl
  obtain ⟨g0, hg0, hq0⟩ := Option.map_eq_some_iff.1 uf0
  obtain ⟨g1, hg1, hq1⟩ := Option.map_eq_some_iff.1 uf1
  have f0 := hr2 0 _ hg0
  have f1 := hr2 1 _ hg1
  rw [show g0.type = 5 from congrArg Prod.fst hq0, show g0.offset = 0 from congrArg Prod.snd hq0, kc5] at f0
  rw [show g1.type = 5 from congrArg Prod.fst hq1, show g1.offset = 1 from congrArg Prod.snd hq1, kc5] at f1
  rw [List.getElem?_eq_getElem (by omega)] at f0 f1
  obtain ⟨a, ha, hya, _⟩ := DataW.trod_int u5 f0
  obtain ⟨b, hb, hyb, _⟩ := DataW.trod_int u5 f1
  have hys : ys.map (·.1) = [.lit (.int .u8 a), .lit (.int .u8 b)] := by
    match ys, hlen2.trans hsz with
    | [y0, y1], _ =>
      simp only [List.getElem_cons_zero, List.getElem_cons_succ] at hya hyb
      rw [hya, hyb]; rfl
  have h2 : (tab2.map lst)[i]? = some (.agg [.lit (.int .u8 a), .lit (.int .u8 b)]) := by
    rw [hxs, List.getElem?_map, List.getElem?_eq_getElem (by omega), hy, ← hys]; rfl
  refine ⟨a, b, ?_, ?_, ?_⟩
  · rw [List.getElem?_map] at h2
    obtain ⟨x, hx1, hx2⟩ := Option.map_eq_some_iff.1 h2
    rw [hx1]
    have hk : ∀ y ∈ tab2, ∃ z z', y = [.int .u8 z, .int .u8 z'] := by
      have : tab2.all (fun y => match y with | [.int .u8 _, .int .u8 _] => true | _ => false) = true := by decide +kernel
      intro y hy
      have := List.all_eq_true.1 this y hy
      split at this
      · exact ⟨_, _, rfl⟩
      · cases this
    obtain ⟨z, z', rfl⟩ := hk x (List.mem_of_getElem? hx1)
    simp only [lst, DataW.agg.injEq, List.cons.injEq, DataW.lit.injEq, Lit.int.injEq, true_and, and_true] at hx2
    rw [hx2.1, hx2.2]
  · have := congrArg (·[0]?) ha
    simpa [List.getElem?_take, List.getElem?_drop] using this
  · have := congrArg (·[0]?) hb
    simpa [List.getElem?_take, List.getElem?_drop] using this
theorem laid_of {l : List (String × DataW Unit)} {W : World} (h : laidMetH Tryd.prog l W)
    (h0 : (l.filter fun x => x.2.handleName?.isNone).filter (fun x => x.1 == "internal/strconv.uint64pow10") = [("internal/strconv.uint64pow10", Lib.tabData .u64 Lib.pow10Tab)])
    (h1 : (l.filter fun x => x.2.handleName?.isNone).filter (fun x => x.1 == "unicode/utf8.first") = [("unicode/utf8.first", .agg (tab1.map lst))])
    (h2 : (l.filter fun x => x.2.handleName?.isNone).filter (fun x => x.1 == "unicode/utf8.acceptRanges") = [("unicode/utf8.acceptRanges", .agg (tab2.map lst))]) : Laid Tryd.prog (g0 W) W := by
  obtain ⟨cs0, f0, p0, _, s0, t0, v0⟩ := laid_one h h0 gl0 gt0
  obtain ⟨cs1, f1, p1, e1, s1, t1, _⟩ := laid_one h h1 gl1 gt1
  obtain ⟨cs2, f2, p2, e2, s2, t2, _⟩ := laid_one h h2 gl2 gt2
  have len1 : tab1.length = 256 := by decide +kernel
  have len2 : tab2.length = 16 := by decide +kernel
  refine ⟨fun t ht => ?_, fun t ht => ?_⟩
  case refine_2 =>
    have ht : t ∈ [(0, "internal/strconv.uint64pow10", IntKind.u64, Lib.pow10Tab)] := ht
    obtain rfl := List.mem_singleton.1 ht
    refine ⟨s0, gl0, ?_⟩
    have e0 := Lib.cells_of_tab ut0 ue0 kc0 kc0' t0
    show W.var? Tryd.prog "internal/strconv.uint64pow10" = some (Lib.pow10Tab.map fun z => Value.int .u64 z).toArray
    rw [v0, ← e0]
  have ht : t ∈ [(1, 1, tab1), (2, 2, tab2)] := ht
  rcases List.mem_cons.1 ht with rfl | ht
  · refine ⟨s1, fun i hi => ?_, fun i k hi hk => ?_⟩
    · have hi : i < tab1.length := hi
      obtain ⟨n, a, _⟩ := first_rows t1 i (by omega)
      show (tab1.getD i []).length = 1
      rw [List.getD_eq_getElem?_getD, a]; rfl
    · have hi : i < tab1.length := hi
      have hk : k < 1 := hk
      obtain ⟨n, a, b⟩ := first_rows t1 i (by omega)
      obtain rfl : k = 0 := by omega
      refine ⟨.int .u8 n, ?_, ?_⟩
      · show W.cell? ⟨1, 0 + (i * 1 + 0), none⟩ = _
        rw [show 0 + (i * 1 + 0) = i by omega, e1, b]
      · show RB _ W ((tab1.getD i []).getD 0 .undef) _
        rw [show tab1.getD i [] = _ from List.getD_eq_getElem?_getD, a]; exact RB.int _ _
  · obtain rfl := List.mem_singleton.1 ht
    refine ⟨s2, fun i hi => ?_, fun i k hi hk => ?_⟩
    · have hi : i < tab2.length := hi
      obtain ⟨n, n', a, _⟩ := second_rows t2 i (by omega)
      show (tab2.getD i []).length = 2
      rw [List.getD_eq_getElem?_getD, a]; rfl
    · have hi : i < tab2.length := hi
      have hk : k < 2 := hk
      obtain ⟨n, n', a, b, c⟩ := second_rows t2 i (by omega)
      match k, hk with
      | 0, _ =>
        refine ⟨.int .u8 n, ?_, ?_⟩
        · show W.cell? ⟨2, 0 + (i * 2 + 0), none⟩ = _
          rw [show 0 + (i * 2 + 0) = i * 2 by omega, e2, b]
        · show RB _ W ((tab2.getD i []).getD 0 .undef) _
          rw [show tab2.getD i [] = _ from List.getD_eq_getElem?_getD, a]; exact RB.int _ _
      | 1, _ =>
        refine ⟨.int .u8 n', ?_, ?_⟩
        · show W.cell? ⟨2, 0 + (i * 2 + 1), none⟩ = _
          rw [show 0 + (i * 2 + 1) = i * 2 + 1 by omega, e2, c]
        · show RB _ W ((tab2.getD i []).getD 1 .undef) _
          rw [show tab2.getD i [] = _ from List.getD_eq_getElem?_getD, a]; exact RB.int _ _
end Go.Proofs.YtggbcchebiedjaaDoor.Am.Esc

namespace Go.Proofs.YtggbcchebiedjaaDoor.Am
def ints (xs : List Int) : List (List V) := xs.map fun n => [.int .i64 n]
inductive IV : V → List Int → Prop
  | nil : IV .nils []
  | sl (xs : List Int) : IV (.slice false 1 (ints xs)) xs
def boolL (xs : List Bool) : List (List V) := xs.map fun b => [.bool b]
inductive BV : V → List Bool → Prop
  | nil : BV .nils []
  | sl (xs : List Bool) : BV (.slice false 1 (boolL xs)) xs
section
variable {P : Program}
theorem fits_int {t : TypeId} {k : IntKind} (ht : P.underlying t = some (.int k)) {vs : List V} (h : Fits P t vs) : ∃ n, vs = [.int k n] ∧ (Lit.int k n).wf = true := by
  cases h <;> simp_all
theorem fits_slice {t e : TypeId} (ht : P.underlying t = some (.slice e)) {vs : List V} (h : Fits P t vs) : vs = [.nils] ∨ ∃ xs, vs = [.slice false (P.cellsOf e) xs] ∧ xs.length ≤ maxLen ∧ ∀ x ∈ xs, Fits P e x := by
  cases h with
  | nils => exact .inl rfl
  | slice xs h hl hx =>
    rw [ht] at h
    cases h
    refine .inr ⟨xs, rfl, hl, fun x hm => ?_⟩
    obtain ⟨i, hi, rfl⟩ := List.getElem_of_mem hm
    have := hx i hi
    rwa [List.getD_eq_getElem?_getD, List.getElem?_eq_getElem hi] at this
  | _ => simp_all
theorem list_of {α β : Type} {f : α → β} {Q : α → Prop} : ∀ {xs : List β}, (∀ x ∈ xs, ∃ a, f a = x ∧ Q a) → ∃ l : List α, xs = l.map f ∧ ∀ a ∈ l, Q a
  | [], _ => ⟨[], rfl, fun a h => (nomatch h)⟩
  | x :: xs, h => by
    obtain ⟨a, ha, hq⟩ := h x (.head _)
    obtain ⟨l, has, hqs⟩ := list_of (f := f) (Q := Q) fun y hy => h y (.tail _ hy)
    exact ⟨a :: l, by rw [List.map_cons, ha, has], fun b hb => by cases hb with | head => exact hq | tail _ hb => exact hqs b hb⟩
theorem fitsV_leaf {t : TypeId} {x : V} {d : TypeDesc} (ht : P.underlying t = some d) (h : FitsV P t x) (hs : ∀ fs, d ≠ .struct fs) (ha : ∀ n e, d ≠ .array n e) : Fits P t [x] := by
  unfold FitsV at h
  rw [ht] at h
  cases d <;> first | exact h | exact absurd rfl (hs _) | exact absurd rfl (ha _ _)
end
end Go.Proofs.YtggbcchebiedjaaDoor.Am

namespace Go.Proofs.YtggbcchebiedjaaDoor.Am
inductive LT where
  | bool
  | int (k : IntKind)
  | str
  | slice (e : TypeId)
  deriving DecidableEq
def LV (P : Program) (l : LT) (v : V) : Prop :=
  match l with
  | .bool => ∃ b, v = .bool b
  | .int k => ∃ n, v = .int k n ∧ (Lit.int k n).wf = true
  | .str => ∃ s, v = .str s ∧ s.length ≤ maxLen
  | .slice e => v = .nils ∨ ∃ xs, v = .slice false (P.cellsOf e) xs ∧ xs.length ≤ maxLen ∧ ∀ x ∈ xs, Fits P e x
def LVs (P : Program) : List LT → List V → Prop
  | [], [] => True
  | l :: ls, v :: vs => LV P l v ∧ LVs P ls vs
  | _, _ => False
section
variable {P : Program}
theorem LVs.append : ∀ {ls ks : List LT} {vs us : List V}, LVs P ls vs → LVs P ks us → LVs P (ls ++ ks) (vs ++ us)
  | [], _, [], _, _, h => h
  | _ :: _, _, _ :: _, _, h, k => ⟨h.1, LVs.append h.2 k⟩
  | [], _, _ :: _, _, h, _ => h.elim
  | _ :: _, _, [], _, h, _ => h.elim
theorem LVs.len : ∀ {ls : List LT} {vs : List V}, LVs P ls vs → vs.length = ls.length
  | [], [], _ => rfl
  | _ :: _, _ :: _, h => by rw [List.length_cons, List.length_cons, LVs.len h.2]
  | [], _ :: _, h => h.elim
  | _ :: _, [], h => h.elim
end
end Go.Proofs.YtggbcchebiedjaaDoor.Am

namespace Go.Proofs.YtggbcchebiedjaaDoor.Am
section
variable {P : Program} {W : World} {H : Type} {enc : TypeId × Value → H}
end
end Go.Proofs.YtggbcchebiedjaaDoor.Am

set_option linter.all false
namespace Go.Proofs.YtggbcchebiedjaaDoor.Am.Esc
open Go.Proofs.YtggbcchebiedjaaDoor.Am.T
theorem wf8 {n : Int} (h : (Lit.int .u8 n).wf = true) : 0 ≤ n ∧ n < 256 := by
  simp [Lit.wf, IntKind.min, IntKind.max, IntKind.signed, IntKind.bits] at h
  omega
theorem den_one {k : IntKind} (l : List Int) : Pw (Pw Den0) (l.map fun n => [TV.int k n]) (l.map fun n => [V.int k n]) := by
  induction l with
  | nil => exact .nil
  | cons x l ih => exact .cons (.cons (.int _ _) .nil) ih
theorem fits_ints64 {P : Program} {t e : TypeId} (ht : P.underlying t = some (.slice e)) (he : P.underlying e = some (.int .i64)) (hc : P.cellsOf e = 1) {x : V} (h : Fits P t [x]) :
    ∃ l : List Int, Den [] (.sl false 1 (l.map ei64)) x := by
  rcases fits_slice ht h with h | ⟨xs, h, hl, hx⟩
  · injection h with h _; subst h; exact ⟨[], .base (.sln false 1)⟩
  · injection h with h _; subst h
    obtain ⟨l, rfl, _⟩ := list_of (f := fun n : Int => [V.int .i64 n]) (Q := fun _ => True) fun x hm => by
      obtain ⟨n, rfl, _⟩ := fits_int he (hx x hm)
      exact ⟨n, rfl, trivial⟩
    rw [hc]
    exact ⟨l, .base (.sl false 1 (den_one l))⟩
end Go.Proofs.YtggbcchebiedjaaDoor.Am.Esc

set_option linter.all false
namespace Go.Proofs.YtggbcchebiedjaaDoor.Am.Esc
open Go.Proofs.YtggbcchebiedjaaDoor.Am.T
open Go
theorem digL_len {n : Int} (h : 0 ≤ n ∧ n ≤ 9999) : 0 < (digL n).length ∧ (digL n).length ≤ 20 := by
  unfold digL
  rw [List.length_map, Lib.decDigits_length]
  exact ⟨Lib.nDigits_pos _, Lib.nDigits_le20 _ (by omega)⟩
def num1L (n : Int) : List Int := if 0 ≤ n then digL (min n 9999) else []
theorem num1L_len (n : Int) : (num1L n).length ≤ 20 := by
  unfold num1L; split
  · exact (digL_len ⟨by omega, by omega⟩).2
  · exact Nat.zero_le _
def sepL : Nat → List Int → List Int
  | _, [] => []
  | i, n :: ns => (if i = 0 then [] else [59]) ++ num1L n ++ sepL (i + 1) ns
theorem sepL_len : ∀ (ps : List Int) (i : Nat), (sepL i ps).length ≤ 21 * ps.length
  | [], _ => Nat.zero_le _
  | n :: ns, i => by
    have h1 := sepL_len ns (i + 1)
    have h2 := num1L_len n
    unfold sepL
    rw [List.length_append, List.length_append, List.length_cons]
    split <;> simp <;> omega
theorem appendInt_is {dst : List Int} {n : Int} (h : 0 ≤ n ∧ n ≤ 9999) (hl : dst.length ≤ 10000) : strconv_AppendInt dst n 10 = some (dst ++ digL n) := by
  have hm := most_is
  unfold strconv_AppendInt internal_strconv_AppendInt strconv_AppendUint
  simp only [letB]
  rw [decide_eq_false (by omega)]
  simp only [cond_false, Option.bind_some]
  have hw : wu64 n = n := by
    show IntKind.wrap .u64 n = n
    simp [IntKind.wrap, IntKind.signed, IntKind.bits]
    omega
  rw [hw, if_pos ⟨trivial, ⟨by omega, by omega⟩, by omega⟩]
  rfl
theorem drop_cons {l : List Int} {i : Nat} (h : i < l.length) : l.drop i = l.getD i 0 :: l.drop (i + 1) := by
  rw [List.getD_eq_getElem?_getD, List.getElem?_eq_getElem h]; exact List.drop_eq_getElem_cons h
theorem csi_loop (x5 : List Int) (h16 : x5.length ≤ 16) : ∀ (k i : Nat) (out : List Int), i + k = x5.length → out.length + 21 * k ≤ 1000 →
    iter (fun s => esc_Csi_l1 x5 s.1 s.2 : (List Int × Int) → Option ((List Int × Int) ⊕ List Int)) (out, (i : Int)) = some (out ++ sepL i (x5.drop i))
  | 0, i, out, hi, ho => by
    rw [iter_inr (r := out) (by
      simp only [esc_Csi_l1, letB]
      rw [decide_eq_false (by omega)]; rfl)]
    rw [List.drop_of_length_le (by omega)]
    simp [sepL]
  | k + 1, i, out, hi, ho => by
    have hm := most_is
    have hd := drop_cons (l := x5) (i := i) (by omega)
    have hnl := num1L_len (x5.getD i 0)
    rw [iter_inl (s' := (out ++ (if i = 0 then [] else [59]) ++ num1L (x5.getD i 0), ((i + 1 : Nat) : Int))) (by
      simp only [esc_Csi_l1, letB]
      rw [decide_eq_true (by omega), idx_is (d := 0) (by omega) (by omega)]
      simp only [cond_true, Option.bind_some, Int.toNat_natCast]
      rw [w64_id (n := (i : Int) + 1) (by omega) (by omega)]
      have hj : (Option.bind (bif decide ((i : Int) > 0) then (app out [59]).bind fun x11 => some x11 else some out) fun j12 => some j12) = some (out ++ (if i = 0 then [] else [59])) := by
        by_cases h0 : i = 0
        · rw [if_pos h0, decide_eq_false (by omega)]; simp
        · rw [if_neg h0, decide_eq_true (by omega), app_some (by simp; omega)]; rfl
      rw [Option.bind_fun_some] at hj
      rw [hj]
      simp only [Option.bind_some]
      generalize hoo : out ++ (if i = 0 then [] else [59]) = oo
      have hol : oo.length ≤ out.length + 1 := by rw [← hoo]; split <;> simp
      unfold num1L
      by_cases hn : 0 ≤ x5.getD i 0
      · rw [decide_eq_true (by omega), if_pos hn]
        simp only [cond_true]
        rw [appendInt_is ⟨by omega, by omega⟩ (by omega)]
        rfl
      · rw [decide_eq_false (by omega), if_neg hn, List.append_nil]
        rfl)]
    rw [csi_loop x5 h16 k (i + 1) _ (by omega) (by
      rw [List.length_append, List.length_append]
      have : (if i = 0 then [] else [59] : List Int).length ≤ 1 := by split <;> simp
      omega), hd]
    simp only [sepL, List.append_assoc]
def csiL (priv : Int) (ps : List Int) (final : Int) : List Int := (if priv = 0 then [27, 91] else [27, 91, priv]) ++ sepL 0 (ps.take 16) ++ [final]
theorem csi_is {priv : Int} {ps : List Int} {final : Int} : esc_Csi priv ps final = some (csiL priv ps final) := by
  have hm := most_is
  have hs : subB ps (min (ps.length : Int) 16) = some (ps.take 16) := by
    unfold subB
    rw [if_pos ⟨by omega, by omega⟩]
    congr 1
    by_cases h : ps.length ≤ 16
    · rw [List.take_of_length_le (l := ps) (i := 16) h, List.take_of_length_le (by omega)]
    · rw [show (min (ps.length : Int) 16).toNat = 16 by omega]
  have h16 : (ps.take 16).length ≤ 16 := by rw [List.length_take]; omega
  have hj : (Option.bind (bif decide (priv ≠ 0) then (app [27, 91] [priv]).bind fun x3 => some x3 else some [27, 91]) fun j => some j) = some (if priv = 0 then [27, 91] else [27, 91, priv]) := by
    by_cases h : priv = 0
    · rw [if_pos h, decide_eq_false (by simp [h])]; rfl
    · rw [if_neg h, decide_eq_true h, app_some (by simp [hm])]; rfl
  rw [Option.bind_fun_some] at hj
  unfold esc_Csi
  simp only [letB]
  rw [hj]
  simp only [Option.bind_some, hs]
  have hl2 : (if priv = 0 then [27, 91] else [27, 91, priv] : List Int).length ≤ 3 := by split <;> simp
  have e := csi_loop (ps.take 16) h16 (ps.take 16).length 0 (if priv = 0 then [27, 91] else [27, 91, priv]) (by omega) (by omega)
  rw [List.drop_zero] at e
  have e' : iter (fun s => esc_Csi_l1 (ps.take 16) s.1 s.2 : (List Int × Int) → Option ((List Int × Int) ⊕ List Int)) ((if priv = 0 then [27, 91] else [27, 91, priv]), 0) = _ := e
  rw [e']
  simp only [Option.bind_some]
  have := sepL_len (ps.take 16) 0
  rw [app_some (by rw [List.length_append]; simp only [List.length_cons, List.length_nil]; omega)]
  rfl
end Go.Proofs.YtggbcchebiedjaaDoor.Am.Esc

set_option linter.all false
namespace Go.Proofs.YtggbcchebiedjaaDoor.Am.Esc
open Go.Proofs.YtggbcchebiedjaaDoor.Am.T
open Go
def cs (f : Bool) (pv : Int) (ps : List Int) (n : Int) : ParserM := ⟨⟨[]⟩, 2, false, f, ⟨0, 0, 0, pv, [], some ps, []⟩, n, [], []⟩
theorem flush_no {p : ParserM} {c : Int} (h1 : 32 ≤ c) (h2 : c ≠ 127) : flushE p c = p := by unfold flushE; rw [if_neg (by omega)]
theorem byte_seq {p : ParserM} {c : Int} (h1 : 32 ≤ c) (h2 : c ≠ 127) (hp : p.in_ = 2) : byteE p c = sequenceE p c := by
  unfold byteE
  rw [flush_no h1 h2, if_neg (by omega), if_neg (by omega)]
  unfold outE
  rw [if_neg (by omega), if_neg (by omega), if_neg (by omega), if_pos h2]
  unfold onE
  rw [if_neg (by omega), if_pos hp]
def fd (v c : Int) : Int := min (max v 0 * 10 + (c - 48)) 9999
theorem and1023 (n : Int) : 0 ≤ iAnd .i64 n 1023 := by
  have h : (BitVec.ofInt (IntKind.bits .i64) n &&& BitVec.ofInt (IntKind.bits .i64) 1023).toNat ≤ 1023 := by
    rw [BitVec.toNat_and]
    exact Nat.le_trans Nat.and_le_right (by decide)
  have e : iAnd .i64 n 1023 = ((BitVec.ofInt (IntKind.bits .i64) n &&& BitVec.ofInt (IntKind.bits .i64) 1023).toNat : Int) := w64_id (by omega) (by omega)
  rw [e]; omega
structure Spoiled (p : ParserM) : Prop where
  inn : p.in_ = 2
  sp : p.spoiled = true
  txt : p.text = ⟨[]⟩
  out : p.out = []
theorem gF_120 : gF [120] = ([120], []) := by
  have h1 : unicode_utf8_FullRune [120] = some true := by decide +kernel
  have h2 : unicode_utf8_DecodeRune [120] = some (120, 1) := by
    unfold unicode_utf8_DecodeRune
    rw [iter_inr (r := .inl 120) (by decide +kernel)]; rfl
  have h3 : unicode_utf8_FullRune [] = some false := by decide +kernel
  unfold gF
  rw [iter_inl (s' := ([120], [])) (by simp only [glyph_Reader_Feed_in32_0_l1, h1, h2, Option.bind_some]; rfl)]
  rw [iter_inr (r := ([120], [])) (by simp only [glyph_Reader_Feed_in32_0_l1, h3, Option.bind_some]; rfl)]; rfl
theorem spoil_end {p : ParserM} {c : Int} (hi : p.in_ = 2) (hs : p.spoiled = true) (ht : p.text = ⟨[]⟩) (hc : 64 ≤ c ∧ c ≤ 126) :
    (runE p [c, 120]).out = p.out ++ [pr 120] ∧ (runE p [c, 120]).in_ = 0 ∧ (runE p [c, 120]).text = ⟨[]⟩ := by
  have h1 : byteE p c = { p with in_ := 0, first := false } := by
    rw [byte_seq (by omega) (by omega) hi]
    unfold sequenceE
    rw [if_neg (by omega), if_neg (by omega), if_pos (by omega)]
    unfold endE
    rw [if_neg (by rw [hs]; decide)]
  show (byteE (byteE p c) 120).out = _ ∧ (byteE (byteE p c) 120).in_ = 0 ∧ (byteE (byteE p c) 120).text = _
  rw [h1]
  have h2 : byteE { p with in_ := 0, first := false } 120 = plainE { p with in_ := 0, first := false } 120 := by
    unfold byteE
    rw [flush_no (by omega) (by omega), if_neg (by simp), if_neg (by simp)]
    unfold outE
    rw [if_neg (by omega), if_neg (by omega), if_neg (by omega), if_pos (by omega)]
    rfl
  rw [h2, plain_of (rs := [120]) (w := []) (by show gF (p.text.waits ++ [120]) = _; rw [ht]; exact gF_120)]
  exact ⟨rfl, rfl, rfl⟩
theorem spoil_ctrl {p : ParserM} {c : Int} (hi : p.in_ = 2) (ht : p.text = ⟨[]⟩) (hc : c < 32 ∧ c ≠ 24 ∧ c ≠ 26 ∧ c ≠ 27) :
    byteE p c = { p with out := p.out ++ [⟨2, 0, c, 0, [], [], []⟩] } := by
  have hf : flushE p c = p := by
    unfold flushE
    rw [if_pos (.inl hc.1)]
    unfold restE putE
    rw [ht]
    simp
    rw [← ht]
  unfold byteE
  rw [hf, if_neg (by omega), if_neg (by omega)]
  unfold outE
  rw [if_neg (by omega), if_neg (by omega), if_pos hc.1]
  rfl
def waysL : List (List Int) := [[49, 58, 50], [49, 60], [63, 49, 63], [32, 49], [33, 33, 33], [49, 32, 59]]
noncomputable def spOk (w : List Int) : Bool := decide ((runE p0 ([27, 91] ++ w)).in_ = 2) && (runE p0 ([27, 91] ++ w)).spoiled && decide ((runE p0 ([27, 91] ++ w)).text.waits = []) && decide ((runE p0 ([27, 91] ++ w)).out = []) && decide (w.length ≤ 3) && w.all fun x => decide (0 ≤ x ∧ x < 256)
theorem ways_all : waysL.all spOk = true := by decide +kernel
theorem spoils_pure {ps : List Int} {which c f : Int} (hc : 0 ≤ c ∧ c < 256) (hf : 0 ≤ f ∧ f < 256) : casementlaw04_EscSpoils ps which c f = some true := by
  have hm := most_is
  obtain ⟨w, hw, hwm⟩ : ∃ w, idx waysL (Int.tmod (iAnd .i64 which 1023) 6) = some w ∧ w ∈ waysL := by
    have h0 := and1023 which
    have h1 : 0 ≤ Int.tmod (iAnd .i64 which 1023) 6 := Int.tmod_nonneg _ h0
    have h2 : Int.tmod (iAnd .i64 which 1023) 6 < 6 := Int.tmod_lt_of_pos _ (by omega)
    have h3 : (waysL.length : Int) = 6 := rfl
    refine ⟨_, idx_is (d := []) h1 (by omega), ?_⟩
    rw [List.getD_eq_getElem?_getD, List.getElem?_eq_getElem (by omega)]
    exact List.getElem_mem _
  have hok := List.all_eq_true.1 ways_all w hwm
  unfold spOk at hok
  simp only [Bool.and_eq_true, decide_eq_true_eq] at hok
  obtain ⟨⟨⟨⟨⟨k1, k2⟩, k3⟩, k4⟩, k5⟩, k6⟩ := hok
  obtain ⟨q, hq⟩ : ∃ q, q = runE p0 ([27, 91] ++ w) := ⟨_, rfl⟩
  rw [← hq] at k1 k2 k3 k4
  have k3 : q.text = ⟨[]⟩ := by
    have : q.text = ⟨q.text.waits⟩ := rfl
    rw [this, k3]
  obtain ⟨fin, hfin, hfr⟩ : ∃ fin, fin = (if f < 64 ∨ f > 126 then 109 else f) ∧ 64 ≤ fin ∧ fin ≤ 126 := by
    refine ⟨_, rfl, ?_⟩
    split <;> omega
  unfold casementlaw04_EscSpoils
  rw [alive_is]
  simp only [Option.bind_some, Bool.not_true, cond_false, letB]
  have e1 : (req (decide ((([[49, 58, 50], [49, 60], [63, 49, 63], [32, 49], [33, 33, 33], [49, 32, 59]] : List (List Nat)).length : Int) ≠ 0))) = some () := rfl
  have e2 : idx ([[49, 58, 50], [49, 60], [63, 49, 63], [32, 49], [33, 33, 33], [49, 32, 59]] : List (List Int)) (Int.tmod (iAnd .i64 which 1023) (([[49, 58, 50], [49, 60], [63, 49, 63], [32, 49], [33, 33, 33], [49, 32, 59]] : List (List Nat)).length : Int)) = some w := hw
  rw [e1]
  simp only [Option.bind_some]
  rw [e2]
  simp only [Option.bind_some]
  rw [csi_is]
  simp only [Option.bind_some]
  have hsub : subB (csiL 0 ps 32) 2 = some [27, 91] := by
    have hl : 2 ≤ (csiL 0 ps 32).length := by unfold csiL; simp
    unfold subB
    refine (if_pos ⟨by omega, by omega⟩).trans ?_
    rfl
  rw [hsub]
  simp only [Option.bind_some]
  rw [app_some (by simp; omega)]
  simp only [Option.bind_some]
  have hj : (Option.bind (bif decide (f < 64) then some true else some (decide (f > 126))) fun g9 => (bif g9 then some 109 else some f)) = some fin := by
    rw [hfin]
    by_cases h1 : f < 64
    · rw [decide_eq_true h1, if_pos (.inl h1)]; rfl
    · rw [decide_eq_false h1]
      by_cases h2 : f > 126
      · rw [decide_eq_true h2, if_pos (.inr h2)]; rfl
      · rw [decide_eq_false h2, if_neg (by omega)]; rfl
  rw [← Option.bind_assoc, hj]
  simp only [Option.bind_some]
  obtain ⟨ct, hct⟩ : ∃ ct, ct = (decide (c < 32) && decide (c ≠ 24) && decide (c ≠ 26) && decide (c ≠ 27)) := ⟨_, rfl⟩
  have hcc : ∀ (k : Bool → Option Bool), ((bif decide (c < 32) then some (decide (c ≠ 24)) else some false).bind fun g15 => (bif g15 then some (decide (c ≠ 26)) else some false).bind fun g18 => (bif g18 then some (decide (c ≠ 27)) else some false).bind k) = k ct := fun k => by
    rw [hct]
    cases decide (c < 32) <;> cases decide (c ≠ 24) <;> cases decide (c ≠ 26) <;> cases decide (c ≠ 27) <;> rfl
  rw [hcc]
  have hrun : ∀ l, runE p0 ([27, 91] ++ w ++ l) = runE q l := fun l => by rw [run_app, ← hq]
  have hby : Byts ([27, 91] ++ w) := (byts_of rfl : Byts [27, 91]).append (byts_of k6)
  have hz0 : Z p0 = p0 := rfl
  cases ct with
  | true =>
    have hc4 := hct.symm
    simp only [Bool.and_eq_true, decide_eq_true_eq] at hc4
    obtain ⟨⟨⟨c1, c2⟩, c3⟩, c4⟩ := hc4
    simp only [cond_true]
    rw [app_some (by simp; omega)]
    simp only [Option.bind_some]
    rw [app_some (by simp; omega)]
    simp only [Option.bind_some]
    rw [app_some (by simp; omega)]
    simp only [Option.bind_some]
    have hl : [27, 91] ++ w ++ [c] ++ [fin] ++ [120] = [27, 91] ++ w ++ [c, fin, 120] := by simp
    rw [hl]
    obtain ⟨f1, s1⟩ := Feed_is St.zero (hby.append (fun x hx => by simp at hx; omega : Byts [c, fin, 120])) (by simp; omega) (by simp; omega)
    rw [hz0, hrun] at f1
    have hr : runE q [c, fin, 120] = runE { q with out := q.out ++ [⟨2, 0, c, 0, [], [], []⟩] } [fin, 120] := by
      rw [run_cons, spoil_ctrl k1 k3 ⟨c1, c2, c3, c4⟩]
    obtain ⟨o1, o2, o3⟩ := spoil_end (p := { q with out := q.out ++ [⟨2, 0, c, 0, [], [], []⟩] }) k1 k2 k3 hfr
    rw [← hr] at o1 o2 o3
    rw [show (ParserM.mk (Reader.mk []) 0 false false (ActM.mk 0 0 0 0 [] (some []) []) 0 [] []) = p0 from rfl, f1]
    have o1 : (runE q [c, fin, 120]).out = [⟨2, 0, c, 0, [], [], []⟩, pr 120] := by rw [o1]; simp [k4]
    simp only [Option.bind_some, o1]
    have hi0 : idx [Act.mk 2 0 c 0 [] [] [], pr 120] 0 = some ⟨2, 0, c, 0, [], [], []⟩ := rfl
    have hi1 : idx [Act.mk 2 0 c 0 [] [] [], pr 120] 1 = some (pr 120) := rfl
    have z1 : (Z (runE q [c, fin, 120])).in_ = 0 := o2
    have z2 : (Z (runE q [c, fin, 120])).text = ⟨[]⟩ := o3
    have q1 : (pr 120).Kind = 1 := rfl
    have q2 : (pr 120).R = 120 := rfl
    simp [hi0, hi1, q1, q2, idle_is, z1, z2]
  | false =>
    simp only [cond_false, Option.bind_some]
    rw [app_some (by simp; omega)]
    simp only [Option.bind_some]
    rw [app_some (by simp; omega)]
    simp only [Option.bind_some]
    have hl : [27, 91] ++ w ++ [fin] ++ [120] = [27, 91] ++ w ++ [fin, 120] := by simp
    rw [hl]
    obtain ⟨f1, s1⟩ := Feed_is St.zero (hby.append (fun x hx => by simp at hx; omega : Byts [fin, 120])) (by simp; omega) (by simp; omega)
    rw [hz0, hrun] at f1
    obtain ⟨o1, o2, o3⟩ := spoil_end k1 k2 k3 hfr
    rw [show (ParserM.mk (Reader.mk []) 0 false false (ActM.mk 0 0 0 0 [] (some []) []) 0 [] []) = p0 from rfl, f1]
    have o1 : (runE q [fin, 120]).out = [pr 120] := by rw [o1]; simp [k4]
    simp only [Option.bind_some, o1]
    have hi0 : idx [pr 120] 0 = some (pr 120) := rfl
    have z1 : (Z (runE q [fin, 120])).in_ = 0 := o2
    have z2 : (Z (runE q [fin, 120])).text = ⟨[]⟩ := o3
    have q1 : (pr 120).Kind = 1 := rfl
    have q2 : (pr 120).R = 120 := rfl
    simp [hi0, q1, q2, idle_is, z1, z2]
end Go.Proofs.YtggbcchebiedjaaDoor.Am.Esc

set_option linter.all false
namespace Go.Proofs.YtggbcchebiedjaaDoor.Am.Esc
open Go.Proofs.YtggbcchebiedjaaDoor.Am.T
theorem escSpoils_ok {ps : List Int} {n c f : Int} {x : V} (hx : Den [] (.sl false 1 (ps.map ei64)) x) (hc : 0 ≤ c ∧ c < 256) (hf : 0 ≤ f ∧ f < 256) : ∃ m', RF ET 7 [x, .int .i64 n, .int .u8 c, .int .u8 f] [] = some (.bool true, m') :=
  CallT.law (casementlaw04_EscSpoils_ok (spoils_pure hc hf)) (.cons hx (.cons (.base (.int _ _)) (.cons (.base (.int _ _)) (.cons (.base (.int _ _)) .nil))))
end Go.Proofs.YtggbcchebiedjaaDoor.Am.Esc

/-
EscSpoils answers true whatever its input; the input reads as it did.
-/
namespace Go.Proofs.YtggbcchebiedjaaDoor
open Go.Proofs.YtggbcchebiedjaaDoor.Am Go.Proofs.YtggbcchebiedjaaDoor.Am.Esc
open Go.ChangeShapes Go.WideShapes Go.ChangeAt Go.RowKit
namespace escSpoils
theorem own : ownKnob Tryd.prog.godebug = none := by kernel_rfl
theorem laidB : laidOutB Tryd.prog = true := by kernel_rfl
theorem law (l : List V) (hl : l.length = Tryd.f7.params.toList.length) (h : ∀ (j : Nat) (t : TypeId), Tryd.f7.params.toList[j]? = some t → FitsV Tryd.prog t (l.getD j .undef)) : ∃ m', RF ET 7 l [] = some (.bool true, m') := by
  have hln : l.length = 4 := hl
  match l, hln with
  | [x0, x1, x2, x3], _ =>
    have h0 := h 0 _ rfl
    have h1 := h 1 _ rfl
    have h2 := h 2 _ rfl
    have h3 := h 3 _ rfl
    have u3 : Tryd.prog.underlying 3 = some (.int .i64) := by kernel_rfl
    have t0 : Tryd.prog.underlying (Tryd.f7.params.toList.getD 0 0) = some (.slice 3) := by kernel_rfl
    have t1 : Tryd.prog.underlying (Tryd.f7.params.toList.getD 1 0) = some (.int .i64) := by kernel_rfl
    have t2 : Tryd.prog.underlying (Tryd.f7.params.toList.getD 2 0) = some (.int .u8) := by kernel_rfl
    have t3 : Tryd.prog.underlying (Tryd.f7.params.toList.getD 3 0) = some (.int .u8) := by kernel_rfl
    obtain ⟨b0, hx0⟩ := fits_ints64 t0 u3 (by kernel_rfl) (fitsV_leaf t0 h0 (fun _ e => by cases e) (fun _ _ e => by cases e))
    obtain ⟨n1, e1, hw1⟩ := fits_int t1 (fitsV_leaf t1 h1 (fun _ e => by cases e) (fun _ _ e => by cases e))
    obtain ⟨n2, e2, hw2⟩ := fits_int t2 (fitsV_leaf t2 h2 (fun _ e => by cases e) (fun _ _ e => by cases e))
    obtain ⟨n3, e3, hw3⟩ := fits_int t3 (fitsV_leaf t3 h3 (fun _ e => by cases e) (fun _ _ e => by cases e))
    cases e1
    cases e2
    cases e3
    exact escSpoils_ok hx0 (wf8 hw2) (wf8 hw3)
noncomputable def laidWorld (os : Os) : World :=
  { World.holding Tryd.prog os ⟨#[], #[], []⟩ with heap := ((((((World.holding Tryd.prog os ⟨#[], #[], []⟩).heap.modify 0 fun
      | .cells _ t frozen => .cells #[.int .u64 1, .int .u64 10, .int .u64 100, .int .u64 1000, .int .u64 10000, .int .u64 100000, .int .u64 1000000, .int .u64 10000000, .int .u64 100000000, .int .u64 1000000000, .int .u64 10000000000, .int .u64 100000000000, .int .u64 1000000000000, .int .u64 10000000000000, .int .u64 100000000000000, .int .u64 1000000000000000, .int .u64 10000000000000000, .int .u64 100000000000000000, .int .u64 1000000000000000000, .int .u64 10000000000000000000] t frozen
      | o => o).modify 1 fun
      | .cells _ t frozen => .cells ((Go.Pinned.utf8FirstZ.map fun (n : Nat) => Value.int .u8 n).toArray) t frozen
      | o => o).modify 2 fun
      | .cells _ t frozen => .cells #[.int .u8 128, .int .u8 191, .int .u8 160, .int .u8 191, .int .u8 128, .int .u8 159, .int .u8 144, .int .u8 191, .int .u8 128, .int .u8 143, .int .u8 0, .int .u8 0, .int .u8 0, .int .u8 0, .int .u8 0, .int .u8 0, .int .u8 0, .int .u8 0, .int .u8 0, .int .u8 0, .int .u8 0, .int .u8 0, .int .u8 0, .int .u8 0, .int .u8 0, .int .u8 0, .int .u8 0, .int .u8 0, .int .u8 0, .int .u8 0, .int .u8 0, .int .u8 0] t frozen
      | o => o).modify 3 fun
      | .cells _ t frozen => .cells #[.int .u8 0, .int .u8 1, .int .u8 28, .int .u8 2, .int .u8 29, .int .u8 14, .int .u8 24, .int .u8 3, .int .u8 30, .int .u8 22, .int .u8 20, .int .u8 15, .int .u8 25, .int .u8 17, .int .u8 4, .int .u8 8, .int .u8 31, .int .u8 27, .int .u8 13, .int .u8 23, .int .u8 21, .int .u8 19, .int .u8 16, .int .u8 7, .int .u8 26, .int .u8 12, .int .u8 18, .int .u8 6, .int .u8 11, .int .u8 5, .int .u8 10, .int .u8 9] t frozen
      | o => o).modify 4 fun
      | .cells _ t frozen => .cells #[.int .u8 0, .int .u8 1, .int .u8 56, .int .u8 2, .int .u8 57, .int .u8 49, .int .u8 28, .int .u8 3, .int .u8 61, .int .u8 58, .int .u8 42, .int .u8 50, .int .u8 38, .int .u8 29, .int .u8 17, .int .u8 4, .int .u8 62, .int .u8 47, .int .u8 59, .int .u8 36, .int .u8 45, .int .u8 43, .int .u8 51, .int .u8 22, .int .u8 53, .int .u8 39, .int .u8 33, .int .u8 30, .int .u8 24, .int .u8 18, .int .u8 12, .int .u8 5, .int .u8 63, .int .u8 55, .int .u8 48, .int .u8 27, .int .u8 60, .int .u8 41, .int .u8 37, .int .u8 16, .int .u8 46, .int .u8 35, .int .u8 44, .int .u8 21, .int .u8 52, .int .u8 32, .int .u8 23, .int .u8 11, .int .u8 54, .int .u8 26, .int .u8 40, .int .u8 15, .int .u8 34, .int .u8 20, .int .u8 31, .int .u8 10, .int .u8 25, .int .u8 14, .int .u8 19, .int .u8 9, .int .u8 13, .int .u8 8, .int .u8 7, .int .u8 6] t frozen
      | o => o) }
theorem laid_met (os : Os) : laidMet Tryd.prog Rows.escSpoilsRow.laid ((laidWorld os).forCall (fun _ _ => 0) ⟨#[], #[.slice none 0 0, .int .i64 0, .int .u8 0, .int .u8 0], []⟩).memory :=
  laidMet_of_run' 8 (by kernel_rfl) (by kernel_rfl)
theorem reads (os : Os) {H : Type} (enc : TypeId × Value → H) : ∃ places, DataW.whole enc Tryd.prog ((laidWorld os).forCall (fun _ _ => 0) ⟨#[], #[.slice none 0 0, .int .i64 0, .int .u8 0, .int .u8 0], []⟩).memory Tryd.f7.params.toList Rows.escSpoilsSpec.vars false (#[.slice none 0 0, .int .i64 0, .int .u8 0, .int .u8 0] : Array Value).toList 8 = some ([.nil, .lit (.int .i64 0), .lit (.int .u8 0), .lit (.int .u8 0)], [], places) :=
  ⟨[], by kernel_rfl⟩
set_option maxRecDepth 100000 in
theorem lifted (os : Os) (started : os.Started) (H : Type) (enc : TypeId × Value → H) (F : Stop.Interp) :
    ReturnsInHanded {} Tryd.checked os 7 .any ((OpenSpec.ofChange Rows.escSpoilsSpec).preRow enc Tryd.prog Tryd.f7 Rows.escSpoilsRow.domain false Rows.escSpoilsRow.laid) (((OpenSpec.ofChange Rows.escSpoilsSpec).at F).post enc Tryd.prog Tryd.f7 false true false false) := by
  obtain ⟨places, hx⟩ := reads os enc
  refine returnsInHanded_of_row (C := Tryd.checked) (s := (OpenSpec.ofChange Rows.escSpoilsSpec)) own started (by kernel_rfl) Tryd.func7
    (witness_row_at (enc := enc) (C := Tryd.checked) false (laidWorld os) #[.slice none 0 0, .int .i64 0, .int .u8 0, .int .u8 0] rfl (by kernel_rfl) (by kernel_rfl) (by kernel_rfl)
      (OpenSpec.preRow_of_cond 8 hx (by kernel_rfl) (fun k hk => by cases hk) (by kernel_rfl) (laid_met os))) ?_
  intro W base args ds gs before hval hW _ _ _ hlaid _ _
  exact law_contract (laid_of hlaid (by kernel_rfl) (by kernel_rfl) (by kernel_rfl)) ET_ok (tb := 4) (d := 8) (by kernel_rfl) (by kernel_rfl) rfl
    (fun ds hd => by
      have hdn : ds.length = 4 := hd
      match ds, hdn with
      | [_, _, _, _], _ => rfl) laidB (by kernel_rfl) (by kernel_rfl) law hval hW
theorem said : Rows.EscSpoilsSaid :=
  OpenClaim.holds_of_cond 7 Tryd.f7 rfl rfl rfl rfl rfl rfl rfl ⟨rfl, rfl, rfl, rfl, rfl⟩ rfl rfl rfl rfl rfl (by kernel_rfl) Tryd.func7 (by kernel_rfl)
    (of_decide_eq_true (by kernel_rfl)) (by unfold Func.isWrapper; first | (rw [if_pos (by decide +kernel)]; kernel_rfl) | (rw [if_neg (by decide +kernel)]; exact ⟨rfl, rfl⟩))
    (fun os started H enc _ F => by rw [OpenClaim.pre_eq_preRow]; exact lifted os started H enc F)
theorem nowant : (Tryd.f7.params.toList.all fun t => Tryd.prog.wantsStandIn t == false) = true := by kernel_rfl
theorem plain (f : FuncId) (fn : Func) (hf : Tryd.pinned.checked.prog.funcNamed "casement/casementlaw04.EscSpoils" = some f) (hfn : Tryd.pinned.checked.prog.funcs[f]? = some fn) :
    false = Tryd.pinned.checked.prog.looks [] ∧ ∀ (j : Nat) t, fn.params[j]? = some t → Tryd.pinned.checked.prog.wantsStandIn t = false := by
  obtain rfl : f = 7 := Option.some.inj ((show Tryd.prog.funcNamed "casement/casementlaw04.EscSpoils" = some 7 by kernel_rfl).symm.trans hf) |>.symm
  obtain rfl : fn = Tryd.f7 := (Option.some.inj (Tryd.func7.symm.trans hfn)).symm
  refine ⟨by kernel_rfl, fun j t ht => ?_⟩
  exact beq_iff_eq.1 (List.all_eq_true.1 nowant t (Array.mem_toList_iff.2 (Array.mem_of_getElem? ht)))
theorem holds : Rows.EscSpoilsCardSaid :=
  Claim7.holds_tied_plain_at .later [] _ _ _ _ said (fun _ h => by cases h) (by kernel_rfl) (fun _ h => by cases h) escSpoils_row_tie rfl ⟨rfl, rfl⟩ (by kernel_rfl) rfl plain (by kernel_rfl)
#print axioms holds
end escSpoils
end Go.Proofs.YtggbcchebiedjaaDoor
