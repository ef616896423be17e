/-
EscNumbers answers true where the input is of bounded bulk; the input reads as it did.
-/
import Derived.Test.YtggbcchebiedjaaDoorAmEscNumbersRow6
import Derived.Lib.ItoaLen
import Derived.Test.YtggbcchebiedjaaDoorCards
import Derived.Test.YtggbcchebiedjaaDoorTie
import Derived.WalkKit
import Derived.ProofKit
import Derived.OpenShut
import Derived.Deep.DeepHandedRow
import Derived.Lib.LaidTab
set_option linter.all false
namespace Go.Proofs.YtggbcchebiedjaaDoor.Am.Esc
open Go.Proofs.YtggbcchebiedjaaDoor.Am.T
open Go
theorem digL_small {u : Nat} (h : u < 10) : digL (u : Int) = [48 + (u : Int)] := by
  unfold digL
  rw [Int.toNat_natCast, Lib.decDigits, dif_pos h]
  have : (UInt8.ofNat (48 + u)).toNat = 48 + u := by
    rw [UInt8.toNat_ofNat']; omega
  simp only [List.map_cons, List.map_nil, this]
  rw [show ((48 + u : Nat) : Int) = 48 + (u : Int) by omega]
theorem digL_big {u : Nat} (h : ¬ u < 10) : digL (u : Int) = digL ((u / 10 : Nat) : Int) ++ [48 + ((u % 10 : Nat) : Int)] := by
  unfold digL
  rw [Int.toNat_natCast, Int.toNat_natCast, Lib.decDigits, dif_neg h]
  have : (UInt8.ofNat (48 + u % 10)).toNat = 48 + u % 10 := by
    rw [UInt8.toNat_ofNat']; omega
  simp only [List.map_cons, List.map_nil, List.map_append, this]
  rw [show ((48 + u % 10 : Nat) : Int) = 48 + ((u % 10 : Nat) : Int) by omega]
theorem digL_len {n : Int} (h : 0 ≤ n ∧ n ≤ 9999) : 0 < (digL n).length ∧ (digL n).length ≤ 20 := by
  unfold digL
  rw [List.length_map, Lib.decDigits_length]
  exact ⟨Lib.nDigits_pos _, Lib.nDigits_le20 _ (by omega)⟩
theorem digL_digs : ∀ (k u : Nat), u < k → ∀ x ∈ digL (u : Int), 48 ≤ x ∧ x ≤ 57
  | 0, u, h => by omega
  | k + 1, u, h => by
    by_cases h10 : u < 10
    · rw [digL_small h10]; intro x hx; rw [List.mem_singleton] at hx; omega
    · rw [digL_big h10]
      intro x hx
      rcases List.mem_append.1 hx with hx | hx
      · exact digL_digs k (u / 10) (by omega) x hx
      · rw [List.mem_singleton] at hx; omega
def val (n : Int) : Int := max (-1) (min n 9999)
def num1L (n : Int) : List Int := if 0 ≤ n then digL (min n 9999) else []
theorem num1L_len (n : Int) : (num1L n).length ≤ 20 := by
  unfold num1L; split
  · exact (digL_len ⟨by omega, by omega⟩).2
  · exact Nat.zero_le _
def sepL : Nat → List Int → List Int
  | _, [] => []
  | i, n :: ns => (if i = 0 then [] else [59]) ++ num1L n ++ sepL (i + 1) ns
theorem sepL_len : ∀ (ps : List Int) (i : Nat), (sepL i ps).length ≤ 21 * ps.length
  | [], _ => Nat.zero_le _
  | n :: ns, i => by
    have h1 := sepL_len ns (i + 1)
    have h2 := num1L_len n
    unfold sepL
    rw [List.length_append, List.length_append, List.length_cons]
    split <;> simp <;> omega
theorem appendInt_is {dst : List Int} {n : Int} (h : 0 ≤ n ∧ n ≤ 9999) (hl : dst.length ≤ 10000) : strconv_AppendInt dst n 10 = some (dst ++ digL n) := by
  have hm := most_is
  unfold strconv_AppendInt internal_strconv_AppendInt strconv_AppendUint
  simp only [letB]
  rw [decide_eq_false (by omega)]
  simp only [cond_false, Option.bind_some]
  have hw : wu64 n = n := by
    show IntKind.wrap .u64 n = n
    simp [IntKind.wrap, IntKind.signed, IntKind.bits]
    omega
  rw [hw, if_pos ⟨trivial, ⟨by omega, by omega⟩, by omega⟩]
  rfl
theorem drop_cons {l : List Int} {i : Nat} (h : i < l.length) : l.drop i = l.getD i 0 :: l.drop (i + 1) := by
  rw [List.getD_eq_getElem?_getD, List.getElem?_eq_getElem h]; exact List.drop_eq_getElem_cons h
theorem csi_loop (x5 : List Int) (h16 : x5.length ≤ 16) : ∀ (k i : Nat) (out : List Int), i + k = x5.length → out.length + 21 * k ≤ 1000 →
    iter (fun s => esc_Csi_l1 x5 s.1 s.2 : (List Int × Int) → Option ((List Int × Int) ⊕ List Int)) (out, (i : Int)) = some (out ++ sepL i (x5.drop i))
  | 0, i, out, hi, ho => by
    rw [iter_inr (r := out) (by
      simp only [esc_Csi_l1, letB]
      rw [decide_eq_false (by omega)]; rfl)]
    rw [List.drop_of_length_le (by omega)]
    simp [sepL]
  | k + 1, i, out, hi, ho => by
    have hm := most_is
    have hd := drop_cons (l := x5) (i := i) (by omega)
    have hnl := num1L_len (x5.getD i 0)
    rw [iter_inl (s' := (out ++ (if i = 0 then [] else [59]) ++ num1L (x5.getD i 0), ((i + 1 : Nat) : Int))) (by
      simp only [esc_Csi_l1, letB]
      rw [decide_eq_true (by omega), idx_is (d := 0) (by omega) (by omega)]
      simp only [cond_true, Option.bind_some, Int.toNat_natCast]
      rw [w64_id (n := (i : Int) + 1) (by omega) (by omega)]
      have hj : (Option.bind (bif decide ((i : Int) > 0) then (app out [59]).bind fun x11 => some x11 else some out) fun j12 => some j12) = some (out ++ (if i = 0 then [] else [59])) := by
        by_cases h0 : i = 0
        · rw [if_pos h0, decide_eq_false (by omega)]; simp
        · rw [if_neg h0, decide_eq_true (by omega), app_some (by simp; omega)]; rfl
      rw [Option.bind_fun_some] at hj
      rw [hj]
      simp only [Option.bind_some]
      generalize hoo : out ++ (if i = 0 then [] else [59]) = oo
      have hol : oo.length ≤ out.length + 1 := by rw [← hoo]; split <;> simp
      unfold num1L
      by_cases hn : 0 ≤ x5.getD i 0
      · rw [decide_eq_true (by omega), if_pos hn]
        simp only [cond_true]
        rw [appendInt_is ⟨by omega, by omega⟩ (by omega)]
        rfl
      · rw [decide_eq_false (by omega), if_neg hn, List.append_nil]
        rfl)]
    rw [csi_loop x5 h16 k (i + 1) _ (by omega) (by
      rw [List.length_append, List.length_append]
      have : (if i = 0 then [] else [59] : List Int).length ≤ 1 := by split <;> simp
      omega), hd]
    simp only [sepL, List.append_assoc]
def csiL (priv : Int) (ps : List Int) (final : Int) : List Int := (if priv = 0 then [27, 91] else [27, 91, priv]) ++ sepL 0 (ps.take 16) ++ [final]
theorem csi_is {priv : Int} {ps : List Int} {final : Int} : esc_Csi priv ps final = some (csiL priv ps final) := by
  have hm := most_is
  have hs : subB ps (min (ps.length : Int) 16) = some (ps.take 16) := by
    unfold subB
    rw [if_pos ⟨by omega, by omega⟩]
    congr 1
    by_cases h : ps.length ≤ 16
    · rw [List.take_of_length_le (l := ps) (i := 16) h, List.take_of_length_le (by omega)]
    · rw [show (min (ps.length : Int) 16).toNat = 16 by omega]
  have h16 : (ps.take 16).length ≤ 16 := by rw [List.length_take]; omega
  have hj : (Option.bind (bif decide (priv ≠ 0) then (app [27, 91] [priv]).bind fun x3 => some x3 else some [27, 91]) fun j => some j) = some (if priv = 0 then [27, 91] else [27, 91, priv]) := by
    by_cases h : priv = 0
    · rw [if_pos h, decide_eq_false (by simp [h])]; rfl
    · rw [if_neg h, decide_eq_true h, app_some (by simp [hm])]; rfl
  rw [Option.bind_fun_some] at hj
  unfold esc_Csi
  simp only [letB]
  rw [hj]
  simp only [Option.bind_some, hs]
  have hl2 : (if priv = 0 then [27, 91] else [27, 91, priv] : List Int).length ≤ 3 := by split <;> simp
  have e := csi_loop (ps.take 16) h16 (ps.take 16).length 0 (if priv = 0 then [27, 91] else [27, 91, priv]) (by omega) (by omega)
  rw [List.drop_zero] at e
  have e' : iter (fun s => esc_Csi_l1 (ps.take 16) s.1 s.2 : (List Int × Int) → Option ((List Int × Int) ⊕ List Int)) ((if priv = 0 then [27, 91] else [27, 91, priv]), 0) = _ := e
  rw [e']
  simp only [Option.bind_some]
  have := sepL_len (ps.take 16) 0
  rw [app_some (by rw [List.length_append]; simp only [List.length_cons, List.length_nil]; omega)]
  rfl
theorem bstr_one {x : Int} (h : 0 ≤ x ∧ x < 256) : bstr [x] = some [x] := by
  unfold bstr
  rw [show ([x].all fun b => decide (0 ≤ b ∧ b < 256)) = true from List.all_eq_true.2 fun y hy => decide_eq_true (by rw [List.mem_singleton] at hy; omega)]
  rfl
theorem w8_id {n : Int} (h : 0 ≤ n ∧ n < 256) : w8 n = n := by
  show IntKind.wrap .u8 n = n
  simp [IntKind.wrap, IntKind.signed, IntKind.bits]
  omega
theorem dec_loop : ∀ (k u : Nat) (out : List Int), u < k → u ≤ 1000000000000000000 → out.length + k ≤ 4000000000000000000 →
    iter (fun s => casementref01_Decimal_l1 s.1 s.2 : (Int × List Int) → Option ((Int × List Int) ⊕ List Int)) ((u : Int), out) = some ((if u = 0 then [] else digL (u : Int)) ++ out)
  | 0, u, out, h, _, _ => by omega
  | k + 1, u, out, h, hu, ho => by
    by_cases h0 : u = 0
    · subst h0
      rw [if_pos rfl, List.nil_append]
      exact iter_inr (by
        simp only [casementref01_Decimal_l1, letB]
        rw [decide_eq_false (by simp)]; rfl)
    · rw [if_neg h0]
      have ht : Int.tmod (u : Int) 10 = ((u % 10 : Nat) : Int) := by
        rw [Int.tmod_eq_emod_of_nonneg (by omega)]; omega
      have hd : Int.tdiv (u : Int) 10 = ((u / 10 : Nat) : Int) := by
        rw [Int.tdiv_eq_ediv_of_nonneg (by omega)]; omega
      rw [iter_inl (s' := (((u / 10 : Nat) : Int), (48 + ((u % 10 : Nat) : Int)) :: out)) (by
        simp only [casementref01_Decimal_l1, letB]
        rw [decide_eq_true (by omega), ht, hd, decide_eq_false (by omega)]
        simp only [cond_true, cond_false, Option.bind_some]
        rw [w64_id (n := 48 + ((u % 10 : Nat) : Int)) (by omega) (by omega), w8_id ⟨by omega, by omega⟩, bstr_one ⟨by omega, by omega⟩]
        simp only [Option.bind_some, sadd]
        rw [if_pos (by simp; omega)]
        simp only [Option.bind_some]
        rw [w64_id (by omega) (by omega)]; rfl)]
      rw [dec_loop k (u / 10) _ (by omega) (by omega) (by simp; omega)]
      by_cases h10 : u < 10
      · rw [if_pos (by omega), digL_small h10, show u % 10 = u by omega]; rfl
      · rw [if_neg (by omega), digL_big h10, List.append_assoc]; rfl
theorem decimal_is {n : Int} (h : 0 ≤ n ∧ n ≤ 9999) : casementref01_Decimal n = some (digL n) := by
  unfold casementref01_Decimal
  simp only [letB]
  by_cases h0 : n = 0
  · subst h0
    rw [decide_eq_true rfl]
    simp only [cond_true]
    exact congrArg some (digL_small (u := 0) (by omega)).symm
  · rw [decide_eq_false h0, decide_eq_false (by omega)]
    simp only [cond_false]
    obtain ⟨u, rfl⟩ : ∃ u : Nat, n = u := ⟨n.toNat, by omega⟩
    rw [dec_loop (u + 1) u [] (by omega) (by omega) (by simp; omega)]
    rw [if_neg (by omega), List.append_nil]; rfl
theorem between_is {n : Int} (h : 0 ≤ n) : casementref01_Between n 0 9999 = some (min n 9999) := by
  unfold casementref01_Between
  simp only [letB]
  rw [decide_eq_false (by omega)]
  simp only [cond_false]
  by_cases h9 : n > 9999
  · rw [decide_eq_true h9]; simp only [cond_true]; rw [show min n 9999 = 9999 by omega]
  · rw [decide_eq_false h9]; simp only [cond_false]; rw [show min n 9999 = n by omega]
theorem rcsi_loop (ps : List Int) (h63 : ps.length ≤ 9223372036854775807) : ∀ (k i : Nat) (out : List Int), i + k = min ps.length 16 → out.length + 21 * k ≤ 1000 →
    iter (fun s => casementref04_Csi_l1 ps s.1 s.2 : (List Int × Int) → Option ((List Int × Int) ⊕ List Int)) (out, (i : Int)) = some (out ++ sepL i ((ps.take 16).drop i))
  | 0, i, out, hi, ho => by
    rw [iter_inr (r := out) (by
      simp only [casementref04_Csi_l1, letB]
      by_cases hh : ps.length ≤ 16
      · rw [decide_eq_false (by omega)]; rfl
      · rw [decide_eq_true (by omega), decide_eq_false (by omega)]; rfl)]
    rw [List.drop_of_length_le (by rw [List.length_take]; omega)]
    simp [sepL]
  | k + 1, i, out, hi, ho => by
    have hm := most_is
    have hd := drop_cons (l := ps.take 16) (i := i) (by rw [List.length_take]; omega)
    have hg : (ps.take 16).getD i 0 = ps.getD i 0 := by
      rw [List.getD_eq_getElem?_getD, List.getD_eq_getElem?_getD, List.getElem?_take, if_pos (by omega)]
    rw [hg] at hd
    have hnl := num1L_len (ps.getD i 0)
    rw [iter_inl (s' := (out ++ (if i = 0 then [] else [59]) ++ num1L (ps.getD i 0), ((i + 1 : Nat) : Int))) (by
      simp only [casementref04_Csi_l1, letB]
      rw [decide_eq_true (by omega : (i : Int) < ps.length), decide_eq_true (by omega), idx_is (d := 0) (by omega) (by omega)]
      simp only [cond_true, Option.bind_some, Int.toNat_natCast]
      rw [w64_id (n := (i : Int) + 1) (by omega) (by omega)]
      have hj : (Option.bind (bif decide ((i : Int) > 0) then (sadd out [59]).bind fun x11 => some x11 else some out) fun j12 => some j12) = some (out ++ (if i = 0 then [] else [59])) := by
        by_cases h0 : i = 0
        · rw [if_pos h0, decide_eq_false (by omega)]; simp
        · rw [if_neg h0, decide_eq_true (by omega)]
          simp only [sadd, cond_true]
          rw [if_pos (by simp; omega)]; rfl
      rw [Option.bind_fun_some] at hj
      rw [hj]
      simp only [Option.bind_some]
      generalize hoo : out ++ (if i = 0 then [] else [59]) = oo
      have hol : oo.length ≤ out.length + 1 := by rw [← hoo]; split <;> simp
      by_cases hn : 0 ≤ ps.getD i 0
      · have hx : num1L (ps.getD i 0) = digL (min (ps.getD i 0) 9999) := by unfold num1L; rw [if_pos hn]
        rw [decide_eq_true (by omega), between_is hn, hx]
        simp only [cond_true, Option.bind_some]
        rw [decimal_is ⟨by omega, by omega⟩]
        simp only [Option.bind_some, sadd]
        have := (digL_len (n := min (ps.getD i 0) 9999) ⟨by omega, by omega⟩).2
        rw [if_pos (by omega)]
        rfl
      · have hx : num1L (ps.getD i 0) = [] := by unfold num1L; rw [if_neg hn]
        rw [decide_eq_false (by omega), hx, List.append_nil]
        rfl)]
    rw [rcsi_loop ps h63 k (i + 1) _ (by omega) (by
      rw [List.length_append, List.length_append]
      have : (if i = 0 then [] else [59] : List Int).length ≤ 1 := by split <;> simp
      omega), hd]
    simp only [sepL, List.append_assoc]
theorem rcsi_is {priv : Int} {ps : List Int} {final : Int} (hp : 0 ≤ priv ∧ priv < 256) (h63 : ps.length ≤ 9223372036854775807) : casementref04_Csi priv ps final = some (csiL priv ps final) := by
  have hm := most_is
  have hj : (Option.bind (bif decide (priv ≠ 0) then (bstr [priv]).bind fun x3 => (sadd [27, 91] x3).bind fun x4 => some x4 else some [27, 91]) fun j => some j) = some (if priv = 0 then [27, 91] else [27, 91, priv]) := by
    by_cases h : priv = 0
    · rw [if_pos h, decide_eq_false (by simp [h])]; rfl
    · rw [if_neg h, decide_eq_true h, bstr_one hp]; rfl
  rw [Option.bind_fun_some] at hj
  unfold casementref04_Csi
  simp only [letB]
  rw [hj]
  simp only [Option.bind_some]
  have hl2 : (if priv = 0 then [27, 91] else [27, 91, priv] : List Int).length ≤ 3 := by split <;> simp
  have e := rcsi_loop ps h63 (min ps.length 16) 0 (if priv = 0 then [27, 91] else [27, 91, priv]) (by omega) (by omega)
  rw [List.drop_zero] at e
  have e' : iter (fun s => casementref04_Csi_l1 ps s.1 s.2 : (List Int × Int) → Option ((List Int × Int) ⊕ List Int)) ((if priv = 0 then [27, 91] else [27, 91, priv]), 0) = _ := e
  rw [e']
  simp only [Option.bind_some]
  have := sepL_len (ps.take 16) 0
  have h16 : (ps.take 16).length ≤ 16 := by rw [List.length_take]; omega
  rw [app_some (by rw [List.length_append]; simp only [List.length_cons, List.length_nil]; omega)]
  rfl
theorem csiL_len {priv : Int} {ps : List Int} {final : Int} : (csiL priv ps final).length ≤ 1000 := by
  have := sepL_len (ps.take 16) 0
  have h16 : (ps.take 16).length ≤ 16 := by rw [List.length_take]; omega
  have hl2 : (if priv = 0 then [27, 91] else [27, 91, priv] : List Int).length ≤ 3 := by split <;> simp
  unfold csiL
  rw [List.length_append, List.length_append]
  simp only [List.length_cons, List.length_nil]
  omega
theorem sameBytes_loop (a : List Int) (hl : a.length ≤ most) : ∀ (k i : Nat), i + k = a.length →
    iter (fun s => casementref01_SameBytes_l1 a a s : Int → Option (Int ⊕ (Unit ⊕ Unit))) (i : Int) = some (.inr ())
  | 0, i, hi => iter_inr (by
      simp only [casementref01_SameBytes_l1, letB]
      rw [decide_eq_false (by omega)]; rfl)
  | k + 1, i, hi => by
    have hm := most_is
    rw [iter_inl (s' := ((i + 1 : Nat) : Int)) (by
      simp only [casementref01_SameBytes_l1, letB]
      rw [decide_eq_true (by omega), idx_is (d := 0) (by omega) (by omega)]
      simp only [cond_true, Option.bind_some, Int.toNat_natCast]
      rw [decide_eq_false (by simp), w64_id (by omega) (by omega)]; rfl)]
    exact sameBytes_loop a hl k (i + 1) (by omega)
theorem sameBytes_self {a : List Int} (hl : a.length ≤ most) : casementref01_SameBytes a a = some true := by
  unfold casementref01_SameBytes
  simp only [letB]
  rw [decide_eq_false (by simp)]
  have := sameBytes_loop a hl a.length 0 (by omega)
  simp only [cond_false]
  have e : iter (fun s => casementref01_SameBytes_l1 a a s : Int → Option (Int ⊕ (Unit ⊕ Unit))) 0 = some (.inr ()) := this
  rw [e]; rfl
end Go.Proofs.YtggbcchebiedjaaDoor.Am.Esc

set_option linter.all false
namespace Go.Proofs.YtggbcchebiedjaaDoor.Am.Esc
open Go.Proofs.YtggbcchebiedjaaDoor.Am.T
open Go
def cs (f : Bool) (pv : Int) (ps : List Int) (n : Int) : ParserM := ⟨⟨[]⟩, 2, false, f, ⟨0, 0, 0, pv, [], some ps, []⟩, n, [], []⟩
theorem flush_no {p : ParserM} {c : Int} (h1 : 32 ≤ c) (h2 : c ≠ 127) : flushE p c = p := by unfold flushE; rw [if_neg (by omega)]
theorem byte_seq {p : ParserM} {c : Int} (h1 : 32 ≤ c) (h2 : c ≠ 127) (hp : p.in_ = 2) : byteE p c = sequenceE p c := by
  unfold byteE
  rw [flush_no h1 h2, if_neg (by omega), if_neg (by omega)]
  unfold outE
  rw [if_neg (by omega), if_neg (by omega), if_neg (by omega), if_pos h2]
  unfold onE
  rw [if_neg (by omega), if_pos hp]
theorem byte_num {f : Bool} {pv : Int} {ps : List Int} {n c : Int} (h : 48 ≤ c ∧ c ≤ 57 ∨ c = 59) : byteE (cs f pv ps n) c = numberE (cs false pv ps n) c := by
  rw [byte_seq (by omega) (by omega) rfl]
  unfold sequenceE
  rw [if_neg (by omega), if_neg (by omega), if_neg (by omega), if_neg (by omega), if_neg (by
    intro hh
    rcases hh with hh | hh | hh
    · omega
    · omega
    · exact hh rfl)]
  rfl
theorem lazy_num {f : Bool} {pv : Int} {c : Int} (h : 48 ≤ c ∧ c ≤ 57 ∨ c = 59) : byteE (cs f pv [] 0) c = byteE (cs false pv [-1] 1) c := by
  rw [byte_num h, byte_num h]; rfl
def fd (v c : Int) : Int := min (max v 0 * 10 + (c - 48)) 9999
theorem dig_step {pv : Int} {pre : List Int} {v c : Int} {n : Nat} (h : 48 ≤ c ∧ c ≤ 57) (hv : v ≤ 9999) (hn : pre.length + 1 = n) (h16 : n ≤ 16) : byteE (cs false pv (pre ++ [v]) n) c = cs false pv (pre ++ [fd v c]) n := by
  rw [byte_num (.inl h)]
  have hq : num1 (cs false pv (pre ++ [v]) n) = cs false pv (pre ++ [v]) n := by
    unfold num1
    rw [if_neg (show ¬ (cs false pv (pre ++ [v]) n).count = 0 from by show ¬ (n : Int) = 0; omega)]
  unfold numberE
  rw [hq]
  simp only
  rw [if_neg (by omega)]
  have hc : (cs false pv (pre ++ [v]) n).count = (n : Int) := rfl
  have hp : (cs false pv (pre ++ [v]) n).act.Params.getD [] = pre ++ [v] := rfl
  rw [hc, hp, if_pos (by omega)]
  have hi : ((n : Int) - 1).toNat = pre.length := by omega
  have hg : (pre ++ [v]).getD pre.length 0 = v := by simp [List.getD_eq_getElem?_getD]
  have hu : ∀ x, upI (pre ++ [v]) ((n : Int) - 1) x = pre ++ [x] := fun x => by
    unfold upI; rw [hi]; simp
  rw [hi, hg, hu, w8_id (n := c - 48) ⟨by omega, by omega⟩, w64_id (n := c - 48) (by omega) (by omega), w64_id (n := max v 0 * 10) (by omega) (by omega), w64_id (by omega) (by omega)]
  rfl
theorem fd_le (v c : Int) : fd v c ≤ 9999 := by unfold fd; omega
theorem run_digs {pv : Int} {pre : List Int} {n : Nat} (hn : pre.length + 1 = n) (h16 : n ≤ 16) : ∀ (ds : List Int) (v : Int), (∀ x ∈ ds, 48 ≤ x ∧ x ≤ 57) → v ≤ 9999 →
    runE (cs false pv (pre ++ [v]) n) ds = cs false pv (pre ++ [ds.foldl fd v]) n
  | [], v, _, _ => rfl
  | d :: ds, v, hd, hv => by
    rw [run_cons, dig_step (hd d (.head _)) hv hn h16, run_digs hn h16 ds (fd v d) (fun x hx => hd x (.tail _ hx)) (fd_le _ _)]
    rfl
theorem fold_dig : ∀ (k u : Nat), u < k → u ≤ 9999 → (digL (u : Int)).foldl fd (-1) = (u : Int)
  | 0, u, h, _ => by omega
  | k + 1, u, h, h9 => by
    by_cases h10 : u < 10
    · rw [digL_small h10]
      show fd (-1) (48 + (u : Int)) = u
      unfold fd; omega
    · rw [digL_big h10, List.foldl_append, fold_dig k (u / 10) (by omega) (by omega)]
      show fd ((u / 10 : Nat) : Int) (48 + ((u % 10 : Nat) : Int)) = u
      unfold fd; omega
theorem run_one {pv : Int} {pre : List Int} {n : Nat} {x : Int} (hn : pre.length + 1 = n) (h16 : n ≤ 16) : runE (cs false pv (pre ++ [-1]) n) (num1L x) = cs false pv (pre ++ [val x]) n := by
  unfold num1L
  by_cases h : 0 ≤ x
  · rw [if_pos h]
    obtain ⟨u, hu, hu9⟩ : ∃ u : Nat, min x 9999 = u ∧ u ≤ 9999 := ⟨(min x 9999).toNat, by omega, by omega⟩
    rw [hu, run_digs hn h16 _ _ (digL_digs (u + 1) u (by omega)) (by omega), fold_dig (u + 1) u (by omega) hu9]
    have : val x = u := by unfold val; omega
    rw [this]
  · rw [if_neg h]
    have : val x = -1 := by unfold val; omega
    rw [this]; rfl
theorem semi_step {pv : Int} {vs : List Int} {n : Nat} (h1 : 1 ≤ n) (h16 : n + 1 ≤ 16) : byteE (cs false pv vs n) 59 = cs false pv (vs ++ [-1]) ((n + 1 : Nat) : Int) := by
  rw [byte_num (.inr rfl)]
  have hq : num1 (cs false pv vs n) = cs false pv vs n := by
    unfold num1
    rw [if_neg (show ¬ (cs false pv vs n).count = 0 from by show ¬ (n : Int) = 0; omega)]
  unfold numberE
  rw [hq]
  simp only
  rw [if_pos trivial]
  have hc : (cs false pv vs n).count = (n : Int) := rfl
  have hp : (cs false pv vs n).act.Params.getD [] = vs := rfl
  rw [hc, hp, if_pos (by omega)]
  rfl
theorem run_sep {pv : Int} : ∀ (ns : List Int) (vs : List Int) (i : Nat), 1 ≤ i → vs.length = i → i + ns.length ≤ 16 →
    runE (cs false pv vs i) (sepL i ns) = cs false pv (vs ++ ns.map val) ((i + ns.length : Nat) : Int)
  | [], vs, i, _, _, _ => by
    unfold sepL
    rw [List.map_nil, List.append_nil]; rfl
  | n :: ns, vs, i, h1, hv, h16 => by
    rw [List.length_cons] at h16
    unfold sepL
    rw [if_neg (by omega), run_app, run_app]
    show runE (runE (byteE (cs false pv vs i) 59) (num1L n)) (sepL (i + 1) ns) = _
    rw [semi_step h1 (by omega), run_one (by omega) (by omega), run_sep ns _ (i + 1) (by omega) (by simp; omega) (by omega)]
    rw [List.map_cons, List.length_cons, List.append_assoc, show i + 1 + ns.length = i + (ns.length + 1) by omega]
    rfl
theorem run_lazy {f : Bool} {pv c : Int} {l : List Int} (h : 48 ≤ c ∧ c ≤ 57 ∨ c = 59) : runE (cs f pv [] 0) (c :: l) = runE (cs false pv [-1] 1) (c :: l) := by
  rw [run_cons, run_cons, lazy_num h]
theorem run_all {f : Bool} {pv : Int} {n : Int} {ns : List Int} (h : 0 ≤ n ∨ ns ≠ []) (h16 : ns.length + 1 ≤ 16) : runE (cs f pv [] 0) (sepL 0 (n :: ns)) = cs false pv ((n :: ns).map val) ((ns.length + 1 : Nat) : Int) := by
  have e : sepL 0 (n :: ns) = num1L n ++ sepL 1 ns := rfl
  rw [e]
  have h1 : runE (cs f pv [] 0) (num1L n ++ sepL 1 ns) = runE (cs false pv [-1] 1) (num1L n ++ sepL 1 ns) := by
    by_cases hn : 0 ≤ n
    · have hx : num1L n = digL (min n 9999) := by unfold num1L; rw [if_pos hn]
      have hl := (digL_len (n := min n 9999) ⟨by omega, by omega⟩).1
      obtain ⟨u, hu⟩ : ∃ u : Nat, min n 9999 = u := ⟨(min n 9999).toNat, by omega⟩
      have hd := digL_digs (u + 1) u (by omega)
      rw [← hu, ← hx] at hd
      rw [← hx] at hl
      revert hl hd
      cases num1L n with
      | nil => intro hl; exact absurd hl (by simp)
      | cons c l => intro _ hd; exact run_lazy (.inl (hd c (.head _)))
    · have hx : num1L n = [] := by unfold num1L; rw [if_neg hn]
      rw [hx, List.nil_append]
      match ns, h with
      | [], h => rcases h with h | h; exact absurd h hn; exact absurd rfl h
      | m :: ms, _ =>
        show runE _ (([59] ++ num1L m) ++ sepL 2 ms) = runE _ (([59] ++ num1L m) ++ sepL 2 ms)
        exact run_lazy (.inr rfl)
  rw [h1, run_app]
  have h2 : runE (cs false pv ([] ++ [-1]) ((1 : Nat) : Int)) (num1L n) = cs false pv ([] ++ [val n]) ((1 : Nat) : Int) := run_one (n := 1) rfl (by omega)
  have h2' : runE (cs false pv [-1] 1) (num1L n) = cs false pv [val n] ((1 : Nat) : Int) := h2
  rw [h2', run_sep ns [val n] 1 (by omega) rfl (by omega)]
  rw [show 1 + ns.length = ns.length + 1 by omega]; rfl
theorem fin_seq {f : Bool} {pv c : Int} {ps : List Int} {n : Int} (h : 64 ≤ c ∧ c ≤ 126) : (byteE (cs f pv ps n) c).out = [⟨4, 0, c, pv, [], ps, []⟩] ∧ (byteE (cs f pv ps n) c).in_ = 0 ∧ (byteE (cs f pv ps n) c).text = ⟨[]⟩ := by
  rw [byte_seq (by omega) (by omega) rfl]
  unfold sequenceE
  rw [if_neg (by omega), if_neg (by omega), if_pos (by omega)]
  exact ⟨rfl, rfl, rfl⟩
theorem pre_seq {r : ParserM} (h0 : r.in_ = 0) (ht : r.text = ⟨[]⟩) : runE (Z r) [27, 91] = cs true 0 [] 0 := by
  obtain ⟨t, i, s, f, a, n, pl, o⟩ := r
  simp only at h0 ht
  subst h0 ht
  rfl
theorem priv_seq {pv : Int} (h : 60 ≤ pv ∧ pv ≤ 63) : byteE (cs true 0 [] 0) pv = cs false pv [] 0 := by
  rw [byte_seq (by omega) (by omega) rfl]
  unfold sequenceE
  rw [if_neg (by omega), if_neg (by omega), if_neg (by omega), if_pos ⟨by omega, rfl⟩]
  rfl
theorem run_csi {r : ParserM} {pv c : Int} {ps : List Int} (h0 : r.in_ = 0) (ht : r.text = ⟨[]⟩) (hp : pv = 0 ∨ 60 ≤ pv ∧ pv ≤ 63) (hc : 64 ≤ c ∧ c ≤ 126) (hs : ps.length = 1 → 0 ≤ ps.getD 0 0) :
    (runE (Z r) (csiL pv ps c)).out = [⟨4, 0, c, pv, [], (ps.take 16).map val, []⟩] ∧ (runE (Z r) (csiL pv ps c)).in_ = 0 ∧ (runE (Z r) (csiL pv ps c)).text = ⟨[]⟩ := by
  have hpre : ∃ f, runE (Z r) (if pv = 0 then [27, 91] else [27, 91, pv]) = cs f pv [] 0 := by
    rcases hp with rfl | hp
    · rw [if_pos rfl]; exact ⟨true, pre_seq h0 ht⟩
    · rw [if_neg (by omega)]
      refine ⟨false, ?_⟩
      show runE (Z r) ([27, 91] ++ [pv]) = _
      rw [run_app, pre_seq h0 ht]
      exact priv_seq hp
  obtain ⟨f, hf⟩ := hpre
  have hmid : ∃ f' n', runE (cs f pv [] 0) (sepL 0 (ps.take 16)) = cs f' pv ((ps.take 16).map val) n' := by
    match ps, hs with
    | [], _ => exact ⟨f, 0, rfl⟩
    | n :: ns, hs =>
      rw [show (n :: ns).take 16 = n :: ns.take 15 from rfl]
      refine ⟨_, _, run_all ?_ (by rw [List.length_take]; omega)⟩
      match ns, hs with
      | [], hs => exact .inl (hs rfl)
      | m :: ms, _ => exact .inr (by simp)
  obtain ⟨f', n', hm⟩ := hmid
  unfold csiL
  rw [run_app, run_app, hf, hm]
  exact fin_seq hc
theorem want_loop (ps : List Int) (hl : ps.length ≤ 100000000) : ∀ (k i : Nat), i + k = ps.length →
    iter (fun s => casementlaw04_EscNumbers_l1 ps s.1 s.2 : (List Int × Int) → Option ((List Int × Int) ⊕ List Int)) ((ps.take (min i 16)).map val, (i : Int)) = some ((ps.take 16).map val)
  | 0, i, hi => by
    refine iter_inr ?_
    simp only [casementlaw04_EscNumbers_l1, letB]
    rw [decide_eq_false (by omega)]
    simp only [cond_false]
    by_cases h : i ≤ 16
    · rw [List.take_of_length_le (l := ps) (i := min i 16) (by omega), List.take_of_length_le (l := ps) (i := 16) (by omega)]
    · rw [show min i 16 = 16 by omega]
  | k + 1, i, hi => by
    have hm := most_is
    rw [iter_inl (s' := ((ps.take (min (i + 1) 16)).map val, ((i + 1 : Nat) : Int))) (by
      simp only [casementlaw04_EscNumbers_l1, letB]
      rw [decide_eq_true (by omega), idx_is (d := 0) (by omega) (by omega)]
      simp only [cond_true, Option.bind_some, Int.toNat_natCast]
      rw [w64_id (n := (i : Int) + 1) (by omega) (by omega)]
      by_cases h : i < 16
      · rw [decide_eq_true (by omega), app_some (by simp; omega)]
        simp only [cond_true, Option.bind_some]
        have : (ps.take (min (i + 1) 16)).map val = (ps.take (min i 16)).map val ++ [val (ps.getD i 0)] := by
          rw [show min (i + 1) 16 = i + 1 by omega, show min i 16 = i by omega, List.take_add_one, List.getD_eq_getElem?_getD, List.getElem?_eq_getElem (by omega), List.map_append]
          rfl
        rw [this]; rfl
      · rw [decide_eq_false (by omega), show min (i + 1) 16 = min i 16 by omega]
        rfl)]
    exact want_loop ps hl k (i + 1) (by omega)
theorem digL_byts {n : Int} (h : 0 ≤ n ∧ n ≤ 9999) : Byts (digL n) := fun x hx => by
  obtain ⟨u, hu⟩ : ∃ u : Nat, n = u := ⟨n.toNat, by omega⟩
  have := digL_digs (u + 1) u (by omega) x (by rw [← hu]; exact hx)
  omega
theorem sepL_byts : ∀ (ps : List Int) (i : Nat), Byts (sepL i ps)
  | [], _ => fun _ h => by cases h
  | n :: ns, i => by
    unfold sepL
    refine Byts.append (Byts.append ?_ ?_) (sepL_byts ns (i + 1))
    · split
      · exact fun _ h => by cases h
      · exact byts_of rfl
    · unfold num1L; split
      · exact digL_byts ⟨by omega, by omega⟩
      · exact fun _ h => by cases h
theorem csiL_byts {pv c : Int} {ps : List Int} (hp : 0 ≤ pv ∧ pv < 256) (hc : 0 ≤ c ∧ c < 256) : Byts (csiL pv ps c) := by
  unfold csiL
  refine Byts.append (Byts.append ?_ (sepL_byts _ _)) ?_
  · intro x hx
    split at hx
    · simp at hx; omega
    · simp at hx; omega
  · intro x hx
    rw [List.mem_singleton] at hx; omega
theorem numbers_pure {pv c : Int} {ps text : List Int} (hp : 0 ≤ pv ∧ pv < 256) (hc : 0 ≤ c ∧ c < 256) (hl : ps.length ≤ 1048576) (hb : Byts text) (htl : text.length ≤ 1048576) : casementlaw04_EscNumbers pv ps c text = some true := by
  have hm := most_is
  unfold casementlaw04_EscNumbers
  rw [alive_is]
  simp only [Option.bind_some, Bool.not_true, cond_false, letB]
  rw [csi_is, rcsi_is hp (by omega)]
  simp only [Option.bind_some]
  rw [sameBytes_self (by have := csiL_len (priv := pv) (ps := ps) (final := c); omega)]
  simp only [Option.bind_some, Bool.not_true, cond_false]
  have g8 : (bif decide (pv = 0) then some true else (bif decide (pv ≥ 60) then some (decide (pv ≤ 63)) else some false).bind fun g10 => some g10) = some (decide (pv = 0) || (decide (pv ≥ 60) && decide (pv ≤ 63))) := by
    cases decide (pv = 0) <;> cases decide (pv ≥ 60) <;> cases decide (pv ≤ 63) <;> rfl
  have g22 : (bif decide ((ps.length : Int) = 1) then (idx ps 0).bind fun x23 => some (decide (x23 < 0)) else some false) = some (decide ((ps.length : Int) = 1) && decide (ps.getD 0 0 < 0)) := by
    by_cases h1 : (ps.length : Int) = 1
    · rw [decide_eq_true h1, idx_is (d := 0) (by omega) (by omega)]; rfl
    · rw [decide_eq_false h1]; rfl
  rw [g8, g22]
  simp only [Option.bind_some]
  obtain ⟨bad, hbad⟩ : ∃ b, b = ((!(decide (pv = 0) || (decide (pv ≥ 60) && decide (pv ≤ 63)))) || decide (c < 64) || decide (c > 126) || (decide ((ps.length : Int) = 1) && decide (ps.getD 0 0 < 0))) := ⟨_, rfl⟩
  have hall : ((bif !(decide (pv = 0) || (decide (pv ≥ 60) && decide (pv ≤ 63))) then some true else some (decide (c < 64))).bind fun g14 =>
      (bif g14 then some true else some (decide (c > 126))).bind fun g17 => (bif g17 then some true else some (decide ((ps.length : Int) = 1) && decide (ps.getD 0 0 < 0)))) = some bad := by
    rw [hbad]
    generalize (decide (pv = 0) || (decide (pv ≥ 60) && decide (pv ≤ 63))) = b1
    generalize (decide ((ps.length : Int) = 1) && decide (ps.getD 0 0 < 0)) = b4
    cases b1 <;> cases decide (c < 64) <;> cases decide (c > 126) <;> cases b4 <;> rfl
  have hall2 : ∀ (k : Bool → Option Bool), ((bif !(decide (pv = 0) || (decide (pv ≥ 60) && decide (pv ≤ 63))) then some true else some (decide (c < 64))).bind fun g14 =>
      (bif g14 then some true else some (decide (c > 126))).bind fun g17 => (bif g17 then some true else some (decide ((ps.length : Int) = 1) && decide (ps.getD 0 0 < 0))).bind k) = k bad := fun k => by
    have : ((bif !(decide (pv = 0) || (decide (pv ≥ 60) && decide (pv ≤ 63))) then some true else some (decide (c < 64))).bind fun g14 =>
      (bif g14 then some true else some (decide (c > 126))).bind fun g17 => (bif g17 then some true else some (decide ((ps.length : Int) = 1) && decide (ps.getD 0 0 < 0))).bind k) =
      (((bif !(decide (pv = 0) || (decide (pv ≥ 60) && decide (pv ≤ 63))) then some true else some (decide (c < 64))).bind fun g14 =>
      (bif g14 then some true else some (decide (c > 126))).bind fun g17 => (bif g17 then some true else some (decide ((ps.length : Int) = 1) && decide (ps.getD 0 0 < 0))))).bind k := by
      simp only [Option.bind_assoc]
    rw [this, hall]; rfl
  rw [hall2]
  cases bad with
  | true => rfl
  | false =>
    have hb4 := hbad.symm
    simp only [Bool.or_eq_false_iff, Bool.not_eq_false', Bool.or_eq_true, Bool.and_eq_true, decide_eq_true_eq, decide_eq_false_iff_not, Bool.and_eq_false_iff] at hb4
    obtain ⟨⟨⟨hsig, hc1⟩, hc2⟩, hs⟩ := hb4
    obtain ⟨f1, s1⟩ := Feed_is St.zero hb (by omega) (by omega)
    have hz0 : Z p0 = p0 := rfl
    rw [hz0] at f1 s1
    obtain ⟨f2, s2⟩ := Feed_is (b := [24]) s1.Z (byts_of rfl) (by simp) (by simp; omega)
    rw [ZZ] at f2 s2
    have h24 := abort_is (p := Z (runE p0 text))
    obtain ⟨r, hr⟩ : ∃ r, r = runE (Z (runE p0 text)) [24] := ⟨_, rfl⟩
    have h24' : r.in_ = 0 ∧ r.text = ⟨[]⟩ := by rw [hr]; exact h24
    rw [← hr] at f2 s2
    have hlen := csiL_len (priv := pv) (ps := ps) (final := c)
    obtain ⟨f3, s3⟩ := Feed_is s2.Z (csiL_byts hp hc (ps := ps)) (by omega) (by simp; omega)
    rw [ZZ] at f3 s3
    obtain ⟨o1, o2, o3⟩ := run_csi (ps := ps) h24'.1 h24'.2 (by omega) (c := c) ⟨by omega, by omega⟩ (fun h1 => by
      rcases hs with hs | hs
      · omega
      · omega) (pv := pv)
    have hw := want_loop ps (by omega) ps.length 0 (by omega)
    have hw' : iter (fun s => casementlaw04_EscNumbers_l1 ps s.1 s.2 : (List Int × Int) → Option ((List Int × Int) ⊕ List Int)) ([], 0) = some ((ps.take 16).map val) := hw
    simp only [cond_false]
    rw [hw']
    simp only [Option.bind_some]
    rw [show (ParserM.mk (Reader.mk []) 0 false false (ActM.mk 0 0 0 0 [] (some []) []) 0 [] []) = p0 from rfl, f1]
    simp only [Option.bind_some]
    rw [f2]
    simp only [Option.bind_some]
    rw [f3]
    simp only [Option.bind_some, o1]
    have hi : idx [Act.mk 4 0 c pv [] ((ps.take 16).map val) []] 0 = some ⟨4, 0, c, pv, [], (ps.take 16).map val, []⟩ := rfl
    have hsi : casementref01_SameInts ((ps.take 16).map val) ((ps.take 16).map val) = some true := sameInts_self (by rw [List.length_map, List.length_take]; omega)
    have z1 : (Z (runE (Z r) (csiL pv ps c))).in_ = 0 := o2
    have z2 : (Z (runE (Z r) (csiL pv ps c))).text = ⟨[]⟩ := o3
    generalize (ps.take 16).map val = want at hi hsi ⊢
    simp [hi, hsi, idle_is, z1, z2]
structure Spoiled (p : ParserM) : Prop where
  inn : p.in_ = 2
  sp : p.spoiled = true
  txt : p.text = ⟨[]⟩
  out : p.out = []
end Go.Proofs.YtggbcchebiedjaaDoor.Am.Esc

set_option linter.all false
namespace Go.Proofs.YtggbcchebiedjaaDoor.Am.Esc
open Go.Proofs.YtggbcchebiedjaaDoor.Am.T
theorem escNumbers_ok {ps text : List Int} {pv c : Int} {x y : V} (hx : Den [] (.sl false 1 (ps.map ei64)) x) (hy : Den [] (.sl false 1 (text.map by8)) y) (hp : 0 ≤ pv ∧ pv < 256) (hc : 0 ≤ c ∧ c < 256) (hb : Byts text) (hl : ps.length ≤ 1048576) (htl : text.length ≤ 1048576) : ∃ m', RF ET 5 [.int .u8 pv, x, .int .u8 c, y] [] = some (.bool true, m') :=
  CallT.law (casementlaw04_EscNumbers_ok (numbers_pure hp hc hl hb htl)) (.cons (.base (.int _ _)) (.cons hx (.cons (.base (.int _ _)) (.cons hy .nil))))
end Go.Proofs.YtggbcchebiedjaaDoor.Am.Esc

/-
EscNumbers answers true where the input is of bounded bulk; the input reads as it did.
-/
namespace Go.Proofs.YtggbcchebiedjaaDoor
open Go.Proofs.YtggbcchebiedjaaDoor.Am Go.Proofs.YtggbcchebiedjaaDoor.Am.Esc
open Go.ChangeShapes Go.WideShapes Go.ChangeAt Go.RowKit
namespace escNumbersUpto
theorem own : ownKnob Tryd.prog.godebug = none := by kernel_rfl
theorem laidB : laidOutB Tryd.prog = true := by kernel_rfl
theorem one_le {H : Type} (d : DataW H) : 1 ≤ Rows.uptoBulk d := by
  cases d with
  | lit l => cases l <;> simp [Rows.uptoBulk]
  | _ => simp [Rows.uptoBulk]
theorem part_le {H : Type} {d : DataW H} {l : List (DataW H)} (h : d ∈ l) : Rows.uptoBulk d ≤ Rows.uptoBulkAll l := by
  induction l with
  | nil => cases h
  | cons x r ih =>
    simp only [Rows.uptoBulkAll]
    cases List.mem_cons.1 h with
    | inl e => subst e; omega
    | inr e => have := ih e; omega
theorem append_le {H : Type} (l r : List (DataW H)) : Rows.uptoBulkAll l ≤ Rows.uptoBulkAll (l ++ r) := by
  induction l with
  | nil => exact Nat.zero_le _
  | cons x l ih => rw [List.cons_append]; simp only [Rows.uptoBulkAll]; omega
theorem len_le {H : Type} (l : List (DataW H)) : l.length ≤ Rows.uptoBulkAll l := by
  induction l with
  | nil => exact Nat.zero_le _
  | cons x l ih => simp only [Rows.uptoBulkAll, List.length_cons]; have := one_le x; omega
theorem slice_le {H : Type} {n : Nat} {d : DataW H} (h : n = 0 ∨ ∃ elems spare, d = .slice elems spare ∧ elems.length = n) (hb : Rows.uptoBulk d ≤ 1048576) : n ≤ 1048576 := by
  rcases h with rfl | ⟨elems, spare, rfl, rfl⟩
  · omega
  · have := len_le elems
    simp only [Rows.uptoBulk] at hb
    omega
theorem law {H : Type} (ds : List (DataW H)) (hk : Rows.uptoBulkAll ds ≤ 1048576) (hds : ds.length = Tryd.f5.params.toList.length) (l : List V) (hl : l.length = Tryd.f5.params.toList.length) (h : ∀ (j : Nat) (t : TypeId), Tryd.f5.params.toList[j]? = some t → FitsV Tryd.prog t (l.getD j .undef)) (hlong : ∀ (j : Nat) (d : DataW H), ds[j]? = some d → AsLong (l.getD j .undef) d) : ∃ m', RF ET 5 l [] = some (.bool true, m') := by
  have hln : l.length = 4 := hl
  have hdn : ds.length = 4 := hds
  match l, hln, ds, hdn with
  | [x0, x1, x2, x3], _, [d0, d1, d2, d3], _ =>
    have h0 := h 0 _ rfl
    have k0 := hlong 0 _ rfl
    have b0 : Rows.uptoBulk d0 ≤ 1048576 := Nat.le_trans (part_le (by simp)) hk
    have h1 := h 1 _ rfl
    have k1 := hlong 1 _ rfl
    have b1 : Rows.uptoBulk d1 ≤ 1048576 := Nat.le_trans (part_le (by simp)) hk
    have h2 := h 2 _ rfl
    have k2 := hlong 2 _ rfl
    have b2 : Rows.uptoBulk d2 ≤ 1048576 := Nat.le_trans (part_le (by simp)) hk
    have h3 := h 3 _ rfl
    have k3 := hlong 3 _ rfl
    have b3 : Rows.uptoBulk d3 ≤ 1048576 := Nat.le_trans (part_le (by simp)) hk
    have u5 : Tryd.prog.underlying 5 = some (.int .u8) := by kernel_rfl
    have u3 : Tryd.prog.underlying 3 = some (.int .i64) := by kernel_rfl
    have t0 : Tryd.prog.underlying (Tryd.f5.params.toList.getD 0 0) = some (.int .u8) := by kernel_rfl
    have t1 : Tryd.prog.underlying (Tryd.f5.params.toList.getD 1 0) = some (.slice 3) := by kernel_rfl
    have t2 : Tryd.prog.underlying (Tryd.f5.params.toList.getD 2 0) = some (.int .u8) := by kernel_rfl
    have t3 : Tryd.prog.underlying (Tryd.f5.params.toList.getD 3 0) = some (.slice 5) := by kernel_rfl
    obtain ⟨n0, e0, hw0⟩ := fits_int t0 (fitsV_leaf t0 h0 (fun _ e => by cases e) (fun _ _ e => by cases e))
    obtain ⟨q1, hx1⟩ := fits_ints64 t1 u3 (by kernel_rfl) (fitsV_leaf t1 h1 (fun _ e => by cases e) (fun _ _ e => by cases e))
    obtain ⟨n2, e2, hw2⟩ := fits_int t2 (fitsV_leaf t2 h2 (fun _ e => by cases e) (fun _ _ e => by cases e))
    obtain ⟨q3, hx3, hb3, _⟩ := fits_bytes t3 u5 (by kernel_rfl) (fitsV_leaf t3 h3 (fun _ e => by cases e) (fun _ _ e => by cases e))
    have l1 := slice_le (den_long hx1 k1) b1
    have l3 := slice_le (den_long hx3 k3) b3
    rw [List.length_map] at l1 l3
    cases e0
    cases e2
    exact escNumbers_ok hx1 hx3 (wf8 hw0) (wf8 hw2) hb3 l1 l3
noncomputable def laidWorld (os : Os) : World :=
  { World.holding Tryd.prog os ⟨#[], #[], []⟩ with heap := ((((((World.holding Tryd.prog os ⟨#[], #[], []⟩).heap.modify 0 fun
      | .cells _ t frozen => .cells #[.int .u64 1, .int .u64 10, .int .u64 100, .int .u64 1000, .int .u64 10000, .int .u64 100000, .int .u64 1000000, .int .u64 10000000, .int .u64 100000000, .int .u64 1000000000, .int .u64 10000000000, .int .u64 100000000000, .int .u64 1000000000000, .int .u64 10000000000000, .int .u64 100000000000000, .int .u64 1000000000000000, .int .u64 10000000000000000, .int .u64 100000000000000000, .int .u64 1000000000000000000, .int .u64 10000000000000000000] t frozen
      | o => o).modify 1 fun
      | .cells _ t frozen => .cells ((Go.Pinned.utf8FirstZ.map fun (n : Nat) => Value.int .u8 n).toArray) t frozen
      | o => o).modify 2 fun
      | .cells _ t frozen => .cells #[.int .u8 128, .int .u8 191, .int .u8 160, .int .u8 191, .int .u8 128, .int .u8 159, .int .u8 144, .int .u8 191, .int .u8 128, .int .u8 143, .int .u8 0, .int .u8 0, .int .u8 0, .int .u8 0, .int .u8 0, .int .u8 0, .int .u8 0, .int .u8 0, .int .u8 0, .int .u8 0, .int .u8 0, .int .u8 0, .int .u8 0, .int .u8 0, .int .u8 0, .int .u8 0, .int .u8 0, .int .u8 0, .int .u8 0, .int .u8 0, .int .u8 0, .int .u8 0] t frozen
      | o => o).modify 3 fun
      | .cells _ t frozen => .cells #[.int .u8 0, .int .u8 1, .int .u8 28, .int .u8 2, .int .u8 29, .int .u8 14, .int .u8 24, .int .u8 3, .int .u8 30, .int .u8 22, .int .u8 20, .int .u8 15, .int .u8 25, .int .u8 17, .int .u8 4, .int .u8 8, .int .u8 31, .int .u8 27, .int .u8 13, .int .u8 23, .int .u8 21, .int .u8 19, .int .u8 16, .int .u8 7, .int .u8 26, .int .u8 12, .int .u8 18, .int .u8 6, .int .u8 11, .int .u8 5, .int .u8 10, .int .u8 9] t frozen
      | o => o).modify 4 fun
      | .cells _ t frozen => .cells #[.int .u8 0, .int .u8 1, .int .u8 56, .int .u8 2, .int .u8 57, .int .u8 49, .int .u8 28, .int .u8 3, .int .u8 61, .int .u8 58, .int .u8 42, .int .u8 50, .int .u8 38, .int .u8 29, .int .u8 17, .int .u8 4, .int .u8 62, .int .u8 47, .int .u8 59, .int .u8 36, .int .u8 45, .int .u8 43, .int .u8 51, .int .u8 22, .int .u8 53, .int .u8 39, .int .u8 33, .int .u8 30, .int .u8 24, .int .u8 18, .int .u8 12, .int .u8 5, .int .u8 63, .int .u8 55, .int .u8 48, .int .u8 27, .int .u8 60, .int .u8 41, .int .u8 37, .int .u8 16, .int .u8 46, .int .u8 35, .int .u8 44, .int .u8 21, .int .u8 52, .int .u8 32, .int .u8 23, .int .u8 11, .int .u8 54, .int .u8 26, .int .u8 40, .int .u8 15, .int .u8 34, .int .u8 20, .int .u8 31, .int .u8 10, .int .u8 25, .int .u8 14, .int .u8 19, .int .u8 9, .int .u8 13, .int .u8 8, .int .u8 7, .int .u8 6] t frozen
      | o => o) }
theorem laid_met (os : Os) : laidMet Tryd.prog Rows.escNumbersUptoRow.laid ((laidWorld os).forCall (fun _ _ => 0) ⟨#[], #[.int .u8 0, .slice none 0 0, .int .u8 0, .slice none 0 0], []⟩).memory :=
  laidMet_of_run' 8 (by kernel_rfl) (by kernel_rfl)
theorem reads (os : Os) {H : Type} (enc : TypeId × Value → H) : ∃ places, DataW.whole enc Tryd.prog ((laidWorld os).forCall (fun _ _ => 0) ⟨#[], #[.int .u8 0, .slice none 0 0, .int .u8 0, .slice none 0 0], []⟩).memory Tryd.f5.params.toList Rows.escNumbersSpec.vars false (#[.int .u8 0, .slice none 0 0, .int .u8 0, .slice none 0 0] : Array Value).toList 8 = some ([.lit (.int .u8 0), .nil, .lit (.int .u8 0), .nil], [], places) :=
  ⟨[], by kernel_rfl⟩
set_option maxRecDepth 100000 in
theorem lifted (os : Os) (started : os.Started) (H : Type) (enc : TypeId × Value → H) (F : Stop.Interp) :
    ReturnsInHanded {} Tryd.checked os 5 .any ((Rows.OpenSpec.upto Rows.escNumbersSpec).preRow enc Tryd.prog Tryd.f5 Rows.escNumbersUptoRow.domain false Rows.escNumbersUptoRow.laid) (((Rows.OpenSpec.upto Rows.escNumbersSpec).at F).post enc Tryd.prog Tryd.f5 false true false false) := by
  obtain ⟨places, hx⟩ := reads os enc
  refine returnsInHanded_of_row (C := Tryd.checked) (s := (Rows.OpenSpec.upto Rows.escNumbersSpec)) own started (by kernel_rfl) Tryd.func5
    (witness_row_at (enc := enc) (C := Tryd.checked) false (laidWorld os) #[.int .u8 0, .slice none 0 0, .int .u8 0, .slice none 0 0] rfl (by kernel_rfl) (by kernel_rfl) (by kernel_rfl)
      (OpenSpec.preRow_of_cond 8 hx (by kernel_rfl) (fun k hk => by cases hk; kernel_rfl) (by kernel_rfl) (laid_met os))) ?_
  intro W base args ds gs before hval hW _ hk _ hlaid _ _
  have hk2 : Rows.uptoBulkAll ds ≤ 1048576 := Nat.le_trans (append_le ds gs) (of_decide_eq_true (hk Rows.uptoSmall rfl))
  exact law_contractU (laid_of hlaid (by kernel_rfl) (by kernel_rfl) (by kernel_rfl)) ET_ok (tb := 4) (d := 8) (by kernel_rfl) (by kernel_rfl) rfl
    (fun ds hd => by
      have hdn : ds.length = 4 := hd
      match ds, hdn with
      | [_, _, _, _], _ => rfl) laidB (by kernel_rfl) (by kernel_rfl) (law ds hk2) hval hW
theorem said : Rows.EscNumbersUptoSaid :=
  OpenClaim.holds_of_cond 5 Tryd.f5 rfl rfl rfl rfl rfl rfl rfl ⟨rfl, rfl, rfl, rfl, rfl⟩ rfl rfl rfl rfl rfl (by kernel_rfl) Tryd.func5 (by kernel_rfl)
    (of_decide_eq_true (by kernel_rfl)) (by unfold Func.isWrapper; first | (rw [if_pos (by decide +kernel)]; kernel_rfl) | (rw [if_neg (by decide +kernel)]; exact ⟨rfl, rfl⟩))
    (fun os started H enc _ F => by rw [OpenClaim.pre_eq_preRow]; exact lifted os started H enc F)
theorem nowant : (Tryd.f5.params.toList.all fun t => Tryd.prog.wantsStandIn t == false) = true := by kernel_rfl
theorem plain (f : FuncId) (fn : Func) (hf : Tryd.pinned.checked.prog.funcNamed "casement/casementlaw04.EscNumbers" = some f) (hfn : Tryd.pinned.checked.prog.funcs[f]? = some fn) :
    false = Tryd.pinned.checked.prog.looks [] ∧ ∀ (j : Nat) t, fn.params[j]? = some t → Tryd.pinned.checked.prog.wantsStandIn t = false := by
  obtain rfl : f = 5 := Option.some.inj ((show Tryd.prog.funcNamed "casement/casementlaw04.EscNumbers" = some 5 by kernel_rfl).symm.trans hf) |>.symm
  obtain rfl : fn = Tryd.f5 := (Option.some.inj (Tryd.func5.symm.trans hfn)).symm
  refine ⟨by kernel_rfl, fun j t ht => ?_⟩
  exact beq_iff_eq.1 (List.all_eq_true.1 nowant t (Array.mem_toList_iff.2 (Array.mem_of_getElem? ht)))
theorem holds : Rows.EscNumbersUptoCardSaid :=
  Claim7.holds_tied_plain_at .later [] _ _ _ _ said (fun _ h => by cases h) (by kernel_rfl) (fun _ h => by cases h) escNumbersUpto_row_tie rfl ⟨rfl, rfl⟩ (by kernel_rfl) rfl plain (by kernel_rfl)
#print axioms holds
end escNumbersUpto
end Go.Proofs.YtggbcchebiedjaaDoor
