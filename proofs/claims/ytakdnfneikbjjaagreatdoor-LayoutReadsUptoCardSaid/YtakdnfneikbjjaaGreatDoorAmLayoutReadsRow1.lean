/-
A part of the proof of a law: am core, am rel, am state, am get, am comp, am ops a, am ops b, am list, am ops c, am new, am ops d, am ops f, am ops e, am mem, am ops g, am store, am own.
-/
import GoSem.Step
import Derived.Calls
import Derived.Below
import Derived.Tactics
import Derived.Laws.Entries
import Derived.WalkLawsBesides
import Derived.Laws.Cells
import Derived.Laws.IdiomStrings
import Derived.Laws.MakeOwn
import Derived.Laws.World
import Derived.Laws.AppendOwn
import Derived.Laws.CopyRow
namespace Go.Proofs.YtakdnfneikbjjaaGreatDoor.Am
abbrev yaa := @Option.some.injEq
abbrev yab := @Option.bind_eq_some_iff
abbrev yac := @Prod.mk.injEq
abbrev yad := @List.getD_eq_getElem?_getD
abbrev yae := @Bool.and_eq_true
abbrev yaf := @Array.getD_eq_getD_getElem?
abbrev yag := @List.flatMap_cons
abbrev yah := @Option.map_eq_some_iff
abbrev yai := @List.getElem?_eq_getElem
abbrev yaj := @Array.getElem?_eq_getElem
abbrev yak := @List.mem_append
abbrev yal := @List.length_map
abbrev yam := @List.all_eq_true
abbrev yan := @Array.getElem?_eq_some_iff
abbrev yao := @List.mem_singleton
abbrev yap := @Nat.eq_of_beq_eq_true
abbrev yaq := @List.getElem?_append_left
abbrev yar := @List.length_append
abbrev yas := @Bool.false_eq_true
abbrev yat := @decide_eq_true_eq
abbrev yau := @decide_eq_false
abbrev yav := @decide_eq_true
inductive Root where
 | mem (b off : Nat)
 | loc (j off : Nat)
 | tmp (s : Nat)
 deriving DecidableEq, Repr, Inhabited
inductive V where
 | undef
 | bool (b : Bool)
 | int (k : IntKind) (n : Int)
 | str (s : List UInt8)
 | nilp
 | ptr (b off : Nat)
 | loc (j off : Nat)
 | ro (cells : List V) (off : Nat)
 | el (r : Root) (sz i k : Nat)
 | place (r : Root)
 | nils
 | slice (own : Bool) (sz : Nat) (xs : List (List V))
 | agg (cells : List V)
 | tuple (vs : List V)
 | func (f : Nat) (captured : List V)
 | nilf
 | nili
 | erri
 deriving Repr, Inhabited
def V.cells : V → List V
 | .agg cs => cs
 | v => [v]
def V.own0 : V → Bool
 | .slice true _ _ => true
 | _ => false
def V.own1 : V → Bool
 | .agg cs => cs.any V.own0
 | v => v.own0
def V.hasOwn : V → Bool
 | .tuple vs => vs.any V.own1
 | v => v.own1
def V.share0 : V → V
 | .slice _ sz xs => .slice false sz xs
 | v => v
def V.share : V → V
 | .agg cs => .agg (cs.map V.share0)
 | v => v.share0
def V.good : V → Bool
 | .bool _ | .int _ _ | .str _ | .nilp | .nils | .slice false _ _ | .nilf | .nili | .erri => true
 | .func _ cs => cs.isEmpty
 | _ => false
def V.left : V → V
 | .slice true _ _ => .undef
 | v => v
def zf7 (v : V) : Nat := match v with | .ptr b _ => b + 1 | _ => 0
def V.top : V → Nat
 | .ptr b _ => b + 1
 | .func _ cs => cs.foldr (fun v n => max (zf7 v) n) 0
 | _ => 0
def tops (cs : List V) : Nat := cs.foldr (fun v n => max v.top n) 0
def V.top1 : V → Nat
 | .agg cs => tops cs
 | v => v.top
def V.top2 : V → Nat
 | .tuple vs => vs.foldr (fun v n => max v.top1 n) 0
 | v => v.top1
def seen (vs : List V) : Nat := vs.foldr (fun v n => max v.top1 n) 0
def okCap : V → Bool
 | .ptr _ _ => true
 | _ => false
def V.ok0 : V → Bool
 | .bool _ | .int _ _ | .str _ | .nilp | .ptr _ _ | .nils | .slice _ _ _ | .nilf | .nili | .erri => true
 | .func _ cs => cs.all okCap
 | _ => false
def V.ok1 : V → Bool
 | .agg cs => cs.all V.ok0
 | v => v.ok0
def V.okArg : V → Bool
 | .agg cs => cs.all V.ok0
 | .place (.mem _ _) | .el (.mem _ _) _ _ _ => true
 | v => v.ok0
def V.flat0 : V → Bool
 | .bool _ | .int _ _ | .str _ | .nilp | .nils | .slice _ _ _ | .nilf | .nili | .erri => true
 | .func _ cs => cs.isEmpty
 | _ => false
def V.flat1 : V → Bool
 | .agg cs => cs.all V.flat0
 | v => v.flat0
def V.flat2 : V → Bool
 | .tuple vs => vs.all V.flat1
 | v => v.flat1
inductive Use where
 | copy | take | share | peek
 deriving DecidableEq, Repr, Inhabited
inductive Opd where
 | t (s : Nat)
 | u (s : Nat) (how : Use)
 | c (v : V)
 deriving Repr, Inhabited
inductive LK where
 | bool | int | str
 deriving DecidableEq, Repr, Inhabited
inductive EqK where
 | bool | ptr | slice | func | iface
 | plain (ks : List LK)
 deriving DecidableEq, Repr, Inhabited
inductive TOp where
 | place
 | index (sz x : Nat) (i : Opd)
 | load (agg : Bool) (n p : Nat)
 | len (x : Nat)
 | store (n p : Nat) (x : Opd)
 deriving Repr, Inhabited
inductive AOp where
 | mv (x : Opd)
 | mvK (s : Nat)
 | pick (c a b : Opd)
 | allocL (j : Nat) (zero : List V)
 | allocM (zero : List V)
 | boxL (j : Nat) (x : Opd)
 | boxM (x : Opd)
 | build (zero : List V) (parts : List (Nat × Nat × Opd))
 | buildSlice (sz : Nat) (zero : List V) (len : Nat) (parts : List (Nat × Opd))
 | load (agg : Bool) (n : Nat) (p : Opd) (mode : Use)
 | store (n : Nat) (p x : Opd)
 | nilCheck (x : Opd)
 | bin (op : BinOp) (x y : Opd)
 | eq (neg : Bool) (kind : EqK) (x y : Opd)
 | un (op : UnOp) (x : Opd)
 | conv (k : IntKind) (x : Opd)
 | strStr (x : Opd)
 | strBytes (x : Opd)
 | bytesStr (x : Opd)
 | intStr (x : Opd)
 | makeSlice (sz : Nat) (zero : List V) (l c : Opd)
 | sliceS (x : Opd) (lo hi : Option Opd)
 | sliceV (sz : Nat) (x : Opd) (lo hi : Option Opd)
 | fieldAddr (off : Nat) (x : Opd)
 | field (agg : Bool) (n off : Nat) (x : Opd)
 | indexArr (len sz : Nat) (x i : Opd)
 | indexSl (sz : Nat) (x i : Opd)
 | indexAgg (agg : Bool) (len sz : Nat) (x i : Opd)
 | indexStr (x i : Opd)
 | extract (x : Opd) (i : Nat)
 | callF (f : Nat) (args : List Opd)
 | callP (f : Nat) (args : List Opd)
 | callL (f : Nat) (args : List Opd)
 | callN (f : Nat) (args : List Opd) (ws : List Opd)
 | loadW (mode : Use) (agg : Bool) (n : Nat) (p w : Opd) (os : List Opd)
 | tOp (s : Nat) (k : TOp)
 | lend (f sz : Nat) (x : Opd) (lo : Nat)
 | callV (f : Opd) (args : List Opd)
 | lenStr (x : Opd)
 | lenSl (x : Opd)
 | lenC (n : Nat)
 | append (sz : Nat) (x y : Opd)
 | minMax (mx : Bool) (x : Opd) (ys : List Opd)
 | mkFunc (f : Nat) (captured : List Opd)
 | convB (x : Opd)
 deriving Repr, Inhabited
inductive Mark where
 | none
 | loc (j : Nat)
 | mem
 | quiet
 | free
 | cool
 | fa (j : Nat)
 deriving DecidableEq, Repr, Inhabited
structure AOper where
 dst : Option Nat
 guard : Option (Nat × Bool)
 kt : Bool
 op : AOp
 mark : Mark := .none
 deriving Repr, Inhabited
inductive ACode where
 | skip
 | region (draw : Bool) (ops : List AOper)
 | seq (a b : ACode)
 | cond (c : Opd) (t e : ACode)
 | block (id : Nat) (b : ACode)
 | loop (live : List Nat) (b : ACode)
 | exit (id : Nat)
 | ret
 deriving Repr, Inhabited
inductive ARes where
 | tmp (s : Nat)
 | cell (s : Nat) (agg : Bool) (n : Nat)
 deriving Repr, Inhabited
structure AFunc where
 np : Nat
 nt : Nat
 nl : Nat
 results : List ARes
 body : ACode
 deriving Repr, Inhabited
structure St where
 σ : Nat → V
 l : Nat → List V
 m : List (List V)
def upd {α : Type} (f : Nat → α) (d : Nat) (v : α) : Nat → α := fun i => if i = d then v else f i
def zkd : V → V
 | .place (.mem _ _) | .place (.loc _ _) | .el (.mem _ _) _ _ _ | .el (.loc _ _) _ _ _ => .undef
 | v => v
def killLocV : V → V
 | .place (.loc _ _) | .el (.loc _ _) _ _ _ => .undef
 | v => v
def killAtV (off n : Nat) : V → V
 | .place (.mem b o) => if off ≤ o ∧ o < off + n then .undef else .place (.mem b o)
 | .el (.mem b o) z i k => if off ≤ o ∧ o < off + n then .undef else .el (.mem b o) z i k
 | v => v
def killMV : V → V
 | .place (.mem _ _) | .el (.mem _ _) _ _ _ => .undef
 | v => v
def killTV (d : Nat) : V → V
 | .place (.tmp s) => if s = d then .undef else .place (.tmp s)
 | .el (.tmp s) z i k => if s = d then .undef else .el (.tmp s) z i k
 | v => v
def killLV (j : Nat) : V → V
 | .loc j' o => if j' = j then .undef else .loc j' o
 | .place (.loc j' o) => if j' = j then .undef else .place (.loc j' o)
 | .el (.loc j' o) z i k => if j' = j then .undef else .el (.loc j' o) z i k
 | v => v
def killAt (off n : Nat) (σ : Nat → V) : Nat → V := fun i => killAtV off n (σ i)
def killLoc (σ : Nat → V) : Nat → V := fun i => killLocV (σ i)
def killM (σ : Nat → V) : Nat → V := fun i => killMV (σ i)
def killT (d : Nat) (σ : Nat → V) : Nat → V := fun i => killTV d (σ i)
def killL (j : Nat) (σ : Nat → V) : Nat → V := fun i => killLV j (σ i)
def St.put (st : St) (kt : Bool) (d : Option Nat) (v : V) : St :=
 match d with
 | none => st
 | some d => { st with σ := upd (if kt then killT d st.σ else st.σ) d v }
def getO (st : St) : Opd → Option (V × St)
 | .c v => some (v, st)
 | .t s => if (st.σ s).hasOwn then none else some (st.σ s, st)
 | .u s .take => some (st.σ s, { st with σ := upd st.σ s .undef })
 | .u s .share => some ((st.σ s).share, { st with σ := upd st.σ s .undef })
 | .u s .peek => some (.place (.tmp s), st)
 | .u s .copy => if (st.σ s).hasOwn then none else some (st.σ s, st)
def getC (st : St) : Opd → Option V
 | .c v => some v
 | .t s => if (st.σ s).hasOwn then none else some (st.σ s)
 | .u s .peek => some (.place (.tmp s))
 | .u _ _ => none
def getOs (st : St) : List Opd → Option (List V × St)
 | [] => some ([], st)
 | x :: xs => (getO st x).bind fun p => (getOs p.2 xs).bind fun q => some (p.1 :: q.1, q.2)
def getCs (st : St) : List Opd → Option (List V)
 | [] => some []
 | x :: xs => (getC st x).bind fun v => (getCs st xs).bind fun vs => some (v :: vs)
def look (st : St) : Root → V
 | .mem b o => (st.m.getD b []).getD o .undef
 | .loc j o => (st.l j).getD o .undef
 | .tmp s => st.σ s
def elems (st : St) : V → Option (List (List V))
 | .nils => some []
 | .slice _ _ xs => some xs
 | .place r => match look st r with
  | .nils => some []
  | .slice _ _ xs => some xs
  | _ => none
 | _ => none
def zcy (s : List UInt8) : List (List V) := s.map fun b => [V.int .u8 b.toNat]
def zcX (sz : Nat) (st : St) : V → Option (List (List V))
 | .nils => some []
 | .str s => if sz = 1 then some (zcy s) else none
 | .slice _ z xs => if z = sz then some xs else none
 | .place r => match look st r with
  | .nils => some []
  | .slice _ z xs => if z = sz then some xs else none
  | _ => none
 | _ => none
def lendS (sz : Nat) (st : St) : V → Option (List (List V))
 | .str _ => none
 | a => zcX sz st a
def V.bare : V → Bool
 | .int _ _ | .bool _ | .str _ => true
 | _ => false
def agg? (agg : Bool) (cs : List V) : Option V :=
 if agg then some (.agg cs) else match cs with | [v] => some v | _ => none
def zaH (cs : List V) (off : Nat) (vs : List V) : List V := cs.take off ++ vs ++ cs.drop (off + vs.length)
def zdX (mode : Use) (root : Root) (agg : Bool) (cs : List V) : Option V :=
 match mode with
 | .copy => if cs.any V.own0 then none else agg? agg cs
 | .take => agg? agg cs
 | .share => agg? agg (cs.map V.share0)
 | .peek => if cs.length = 1 ∧ agg = false then some (.place root) else none
def zhD (mode : Use) (cs : List V) : List V :=
 match mode with
 | .take => cs.map V.left
 | _ => cs.map V.share0
def Use.writes : Use → Bool
 | .take | .share => true
 | _ => false
def lentV (st : St) : V → Option V
 | .place r => match look st r with
  | .nils => some .nils
  | .slice _ z xs => some (.slice false z xs)
  | _ => none
 | v => if v.flat1 && !v.hasOwn then some v else none
def zef (st : St) : List V → Option (List V)
 | [] => some []
 | v :: vs => (lentV st v).bind fun u => (zef st vs).bind fun us => some (u :: us)
def ziP (k : Nat) : V → Bool
 | .ptr b _ => decide (k ≤ b)
 | _ => false
def ziQ : V → List V → Bool
 | .ptr b _, .ptr c _ :: r => b == c && r.all fun u => match u with | .ptr d _ => d != b | _ => false
 | _, _ => false
def zgs : V → Bool
 | .place _ | .el _ _ _ _ => false
 | _ => true
def za1 (st : St) (agg : Bool) (n : Nat) (mode : Use) : V → Option (V × St)
 | .ptr b off => if b < st.m.length ∧ off + n ≤ (st.m.getD b []).length then
   (zdX mode (.mem b off) agg (((st.m.getD b []).drop off).take n)).bind fun v =>
    some (v, if mode.writes then { st with m := st.m.set b (zaH (st.m.getD b []) off (zhD mode (((st.m.getD b []).drop off).take n))) } else st) else none
 | .loc j off => if off + n ≤ (st.l j).length ∧ mode ≠ .share then
   (zdX mode (.loc j off) agg (((st.l j).drop off).take n)).bind fun v =>
    some (v, if mode.writes then { st with l := upd st.l j (zaH (st.l j) off (zhD mode (((st.l j).drop off).take n))) } else st) else none
 | .ro cs off => if mode = .copy ∧ off + n ≤ cs.length then (agg? agg ((cs.drop off).take n)).bind fun v => some (v, st) else none
 | .el r z i k => if mode = .copy then match look st r with
  | .slice true sz xs => if z = sz ∧ i < xs.length ∧ k + n ≤ (xs.getD i []).length then (agg? agg (((xs.getD i []).drop k).take n)).bind fun v => some (v, st) else none
  | _ => none
  else none
 | _ => none
def zbA (st : St) (n : Nat) (cs : List V) : V → Option St
 | .ptr b off => if b < st.m.length ∧ off + n ≤ (st.m.getD b []).length ∧ cs.length = n ∧ cs.all V.ok0 ∧ tops cs ≤ b + 1 then
   some { st with m := st.m.set b (zaH (st.m.getD b []) off cs), σ := killAt off n st.σ } else none
 | .loc j off => if off + n ≤ (st.l j).length ∧ cs.length = n ∧ cs.all V.ok0 then
   some { st with l := upd st.l j (zaH (st.l j) off cs), σ := killLoc st.σ } else none
 | .el r z i k => if cs.length = n ∧ cs.all V.good then match look st r with
  | .slice true sz xs => if z = sz ∧ i < xs.length ∧ k + n ≤ (xs.getD i []).length then
    let v := V.slice true sz (xs.set i (zaH (xs.getD i []) k cs))
    match r with
    | .mem b o => some { st with m := st.m.set b ((st.m.getD b []).set o v) }
    | .loc j o => some { st with l := upd st.l j ((st.l j).set o v) }
    | .tmp s => some { st with σ := upd st.σ s v }
   else none
  | _ => none
  else none
 | _ => none
def zdx (op : BinOp) (k : IntKind) (x y : Int) : Option V :=
 match op with
 | .add => some (.int k (k.wrap (x + y)))
 | .sub => some (.int k (k.wrap (x - y)))
 | .mul => some (.int k (k.wrap (x * y)))
 | .quo => if y = 0 then none else some (.int k (k.wrap (x.tdiv y)))
 | .rem => if y = 0 then none else some (.int k (x.tmod y))
 | .and => some (.int k (k.wrap ((BitVec.ofInt k.bits x &&& BitVec.ofInt k.bits y).toNat)))
 | .or => some (.int k (k.wrap ((BitVec.ofInt k.bits x ||| BitVec.ofInt k.bits y).toNat)))
 | .xor => some (.int k (k.wrap ((BitVec.ofInt k.bits x ^^^ BitVec.ofInt k.bits y).toNat)))
 | .andNot => some (.int k (k.wrap ((BitVec.ofInt k.bits x &&& ~~~ (BitVec.ofInt k.bits y)).toNat)))
 | .eql => some (.bool (x == y))
 | .neq => some (.bool (x != y))
 | .lss => some (.bool (x < y))
 | .leq => some (.bool (x ≤ y))
 | .gtr => some (.bool (x > y))
 | .geq => some (.bool (x ≥ y))
 | _ => none
def zfk (op : BinOp) (k : IntKind) (x y : Int) : Option V :=
 if y < 0 then none else
 match op with
 | .shl => some (.int k (k.wrap (x * 2 ^ min y.toNat k.bits)))
 | .shr => some (.int k (x.fdiv (2 ^ min y.toNat k.bits)))
 | _ => none
def zk7 (op : BinOp) (x y : List UInt8) : Option V :=
 match op with
 | .add => if x.length + y.length ≤ 4611686018427387904 then some (.str (x ++ y)) else none
 | .eql => some (.bool (x == y))
 | .neq => some (.bool (!(x == y)))
 | .lss => some (.bool (Op.bytesLess x y))
 | .leq => some (.bool (Op.bytesLess x y || x == y))
 | .gtr => some (.bool (!(Op.bytesLess x y || x == y)))
 | .geq => some (.bool (!Op.bytesLess x y))
 | _ => none
def zf8 : LK → V → V → Option Bool
 | .int, .int k a, .int k' b => if k = k' then some (a == b) else none
 | .bool, .bool a, .bool b => some (a == b)
 | .str, .str a, .str b => some (a == b)
 | _, _, _ => none
def zbp : List LK → List V → List V → Option Bool
 | [], [], [] => some true
 | k :: ks, x :: xs, y :: ys => (zf8 k x y).bind fun b => (zbp ks xs ys).bind fun c => some (b && c)
 | _, _, _ => none
def eqV (kind : EqK) (x y : V) : Option Bool :=
 match kind, x, y with
 | .bool, .bool a, .bool b => some (a == b)
 | .ptr, .nilp, .nilp => some true
 | .ptr, .nilp, .ptr _ _ | .ptr, .ptr _ _, .nilp | .ptr, .nilp, .loc _ _ | .ptr, .loc _ _, .nilp => some false
 | .slice, .nils, .nils => some true
 | .slice, .nils, .slice _ _ _ | .slice, .slice _ _ _, .nils => some false
 | .func, .nilf, .nilf => some true
 | .func, .nilf, .func _ _ | .func, .func _ _, .nilf => some false
 | .iface, .nili, .nili => some true
 | .iface, .nili, .erri | .iface, .erri, .nili => some false
 | .plain ks, .agg xs, .agg ys => zbp ks xs ys
 | _, _, _ => none
def zdY (op : BinOp) (x y : V) : Option V :=
 match x, y with
 | .int k a, .int k' b => match op with
  | .shl | .shr => zfk op k a b
  | _ => if k = k' then zdx op k a b else none
 | .str a, .str b => zk7 op a b
 | _, _ => none
def doUn (op : UnOp) (x : V) : Option V :=
 match op, x with
 | .neg, .int k n => some (.int k (k.wrap (0 - n)))
 | .xor, .int k n => zdx .xor k (if k.signed then -1 else k.max) n
 | .not, .bool b => some (.bool !b)
 | _, _ => none
def bytesOf : List (List V) → Option (List UInt8)
 | [] => some []
 | [V.int .u8 n] :: r => if 0 ≤ n ∧ n < 256 then (bytesOf r).bind fun s => some (UInt8.ofNat n.toNat :: s) else none
 | _ => none
def zaV (st : St) (dflt : Nat) : Option Opd → Option Nat
 | none => some dflt
 | some x => match getC st x with
  | some (.int _ i) => if 0 ≤ i then some i.toNat else none
  | _ => none
def zbd (st : St) (cells : List V) : List (Nat × Nat × Opd) → Option (List V × St)
 | [] => some (cells, st)
 | (off, n, x) :: r => (getO st x).bind fun p =>
  if p.1.cells.length = n ∧ off + n ≤ cells.length ∧ p.1.ok1 then zbd p.2 (zaH cells off p.1.cells) r else none
def zbe (st : St) (sz : Nat) (xs : List (List V)) : List (Nat × Opd) → Option (List (List V) × St)
 | [] => some (xs, st)
 | (i, x) :: r => (getO st x).bind fun p =>
  if p.1.cells.length = sz ∧ i < xs.length ∧ p.1.cells.all V.good then zbe p.2 sz (xs.set i p.1.cells) r else none
def most : Nat := 4294967296
def zfI (mx : Bool) (x y : V) : Option V :=
 match x, y with
 | .int k a, .int _ b => some (.int k (if mx then (if a < b then b else a) else (if b < a then b else a)))
 | _, _ => none
def zc3 (mx : Bool) (x : V) : List V → Option V
 | [] => some x
 | y :: r => (zfI mx x y).bind fun z => zc3 mx z r
abbrev CF := Nat → List V → List (List V) → Option (V × List (List V))
def zke (st : St) (s n : Nat) (v : V) : Option (List V) := match v with
 | .el (.tmp s') z i k => if s' = s then match st.σ s with
   | .slice true sz xs => if z = sz ∧ i < xs.length ∧ k + n ≤ (xs.getD i []).length then some (((xs.getD i []).drop k).take n) else none
   | _ => none else none
 | _ => none
def tEl (s : Nat) : V → Bool
 | .el (.tmp s') _ _ _ => s' == s
 | _ => false
def tIs (s : Nat) : V → Bool
 | .place (.tmp s') => s' == s
 | _ => false
def zdF (st : St) (s : Nat) : TOp → Option (V × St)
 | .place => some (.place (.tmp s), st)
 | .index sz x i => if tIs s (st.σ x) then (getC st i).bind fun n => match n with
   | .int _ j => match st.σ s with
    | .slice false z xs => if 0 ≤ j ∧ j < xs.length ∧ z = sz then some (.ro (xs.getD j.toNat []) 0, st) else none
    | .slice true z xs => if 0 ≤ j ∧ j < xs.length ∧ z = sz then some (.el (.tmp s) sz j.toNat 0, st) else none
    | _ => none
   | _ => none else none
 | .load agg n p => (zke st s n (st.σ p)).bind fun cs => (agg? agg cs).bind fun v => some (v, st)
 | .len x => if tIs s (st.σ x) then (elems st (.place (.tmp s))).bind fun xs => some (.int .i64 xs.length, st) else none
 | .store n p x => (getO st x).bind fun q => (getC q.2 (.t p)).bind fun a => if tEl s a = true then if q.1.ok1 then (zbA q.2 n q.1.cells a).bind fun st' => some (.undef, st') else none else none
def evalOp (cf : CF) (st : St) : AOp → Option (V × St)
 | .mv x => getO st x
 | .mvK s => match st.σ s with
  | .slice _ z xs => some (.slice false z xs, { st with σ := upd st.σ s (.slice false z xs) })
  | .nils => some (.nils, st)
  | _ => none
 | .pick c a b => (getC st c).bind fun v => match v with
  | .bool t => (getC st (if t then a else b)).bind fun w => some (w, st)
  | _ => none
 | .allocL j zero => if zero.all V.ok0 then some (.loc j 0, { st with l := upd st.l j zero, σ := killL j st.σ }) else none
 | .allocM zero => if zero.all V.ok0 ∧ tops zero = 0 then some (.ptr st.m.length 0, { st with m := st.m ++ [zero] }) else none
 | .boxL j x => (getO st x).bind fun p => if p.1.ok1 then some (.loc j 0, { p.2 with l := upd p.2.l j p.1.cells, σ := killL j p.2.σ }) else none
 | .boxM x => (getO st x).bind fun p => if p.1.ok1 then some (.ptr p.2.m.length 0, { p.2 with m := p.2.m ++ [p.1.cells] }) else none
 | .build zero parts => (zbd st zero parts).bind fun p => some (.agg p.1, p.2)
 | .buildSlice sz zero len parts => if zero.length = sz ∧ zero.all V.good then
   (zbe st sz (List.replicate len zero) parts).bind fun p => some (.slice true sz p.1, p.2) else none
 | .load agg n p mode => (getC st p).bind fun v => za1 st agg n mode v
 | .store n p x => (getO st x).bind fun q => (getC q.2 p).bind fun a => if q.1.ok1 then (zbA q.2 n q.1.cells a).bind fun st' => some (.undef, st') else none
 | .nilCheck x => (getC st x).bind fun v => match v with
  | .ptr .. | .loc .. | .ro .. | .el .. => some (v, st)
  | .func .. => some (v, st)
  | _ => none
 | .bin op x y => (getC st x).bind fun a => (getC st y).bind fun b => (zdY op a b).bind fun v => some (v, st)
 | .eq neg kind x y => (getC st x).bind fun a => (getC st y).bind fun b => (eqV kind a b).bind fun v => some (.bool (if neg then !v else v), st)
 | .un op x => (getC st x).bind fun a => (doUn op a).bind fun v => some (v, st)
 | .conv k x => (getC st x).bind fun a => match a with
  | .int _ n => some (.int k (k.wrap n), st)
  | _ => none
 | .strStr x => (getC st x).bind fun a => match a with
  | .str s => some (.str s, st)
  | _ => none
 | .strBytes x => (getC st x).bind fun a => match a with
  | .str s => some (.slice true 1 (zcy s), st)
  | _ => none
 | .bytesStr x => (getC st x).bind fun a => (elems st a).bind fun xs => (bytesOf xs).bind fun s => some (.str s, st)
 | .intStr x => (getC st x).bind fun a => match a with
  | .int _ n => some (.str (Utf8.encode n).data.toList, st)
  | _ => none
 | .convB x => (getO st x).bind fun p => match p.1 with
  | .slice true z xs => if z = 1 then some (.slice true 1 xs, p.2) else none
  | _ => none
 | .makeSlice sz zero l c => (getC st l).bind fun a => (getC st c).bind fun b => match a, b with
  | .int _ n, .int _ k => if 0 ≤ n ∧ n ≤ k ∧ k ≤ (most : Int) ∧ zero.length = sz ∧ zero.all V.good then some (.slice true sz (List.replicate n.toNat zero), st) else none
  | _, _ => none
 | .sliceS x lo hi => (getC st x).bind fun a => match a with
  | .str s => (zaV st s.length hi).bind fun h => (zaV st 0 lo).bind fun l =>
   if l ≤ h ∧ h ≤ s.length then some (.str ((s.drop l).take (h - l)), st) else none
  | _ => none
 | .sliceV sz x lo hi => (getO st x).bind fun p => match p.1 with
  | .nils => (zaV p.2 0 hi).bind fun h => (zaV p.2 0 lo).bind fun l => if l = 0 ∧ h = 0 then some (.nils, p.2) else none
  | .slice o z xs => (zaV p.2 xs.length hi).bind fun h => (zaV p.2 0 lo).bind fun l =>
   if l ≤ h ∧ h ≤ xs.length ∧ z = sz then some (.slice o sz ((xs.drop l).take (h - l)), p.2) else none
  | _ => none
 | .fieldAddr off x => (getC st x).bind fun v => match v with
  | .ptr b o => some (.ptr b (o + off), st)
  | .loc j o => some (.loc j (o + off), st)
  | .ro cs o => some (.ro cs (o + off), st)
  | .el r z i k => some (.el r z i (k + off), st)
  | _ => none
 | .field agg n off x => (getC st x).bind fun v => match v with
  | .agg cs => if off + n ≤ cs.length then (agg? agg ((cs.drop off).take n)).bind fun v => some (v, st) else none
  | _ => none
 | .indexArr len sz x i => (getC st x).bind fun v => (getC st i).bind fun n => match n with
  | .int _ i => if 0 ≤ i ∧ i < len then match v with
   | .ptr b o => some (.ptr b (o + i.toNat * sz), st)
   | .loc j o => some (.loc j (o + i.toNat * sz), st)
   | .ro cs o => some (.ro cs (o + i.toNat * sz), st)
   | .el r z e k => some (.el r z e (k + i.toNat * sz), st)
   | _ => none
   else none
  | _ => none
 | .indexSl sz x i => (getC st x).bind fun v => (getC st i).bind fun n => match n with
  | .int _ i => match v with
   | .slice false z xs => if 0 ≤ i ∧ i < xs.length ∧ z = sz then some (.ro (xs.getD i.toNat []) 0, st) else none
   | .place r => match look st r with
    | .slice false z xs => if 0 ≤ i ∧ i < xs.length ∧ z = sz then some (.ro (xs.getD i.toNat []) 0, st) else none
    | .slice true z xs => if 0 ≤ i ∧ i < xs.length ∧ z = sz then some (.el r sz i.toNat 0, st) else none
    | _ => none
   | _ => none
  | _ => none
 | .indexAgg agg len sz x i => (getC st x).bind fun v => (getC st i).bind fun n => match v, n with
  | .agg cs, .int _ i => if 0 ≤ i ∧ i < len ∧ i.toNat * sz + sz ≤ cs.length then (agg? agg ((cs.drop (i.toNat * sz)).take sz)).bind fun v => some (v, st) else none
  | _, _ => none
 | .indexStr x i => (getC st x).bind fun v => (getC st i).bind fun n => match v, n with
  | .str s, .int _ i => if 0 ≤ i ∧ i < s.length then some (.int .u8 ((s.getD i.toNat 0).toNat), st) else none
  | _, _ => none
 | .extract x i => (getO st x).bind fun p => match p.1 with
  | .tuple vs => if i < vs.length then some (vs.getD i .undef, p.2) else none
  | _ => none
 | .lend f sz x lo => (getC st x).bind fun a => (lendS sz st a).bind fun xs => if lo < xs.length ∧ 0 < sz then (cf f [.slice false sz (xs.drop lo)] []).bind fun q =>
   if q.1.bare && q.2.isEmpty then some (q.1, st) else none else none
 | .callP f args => (getOs st args).bind fun p => if p.1.all V.flat1 then
   (cf f p.1 []).bind fun q => if q.1.flat2 && q.2.isEmpty then some (q.1, p.2) else none else none
 | .callL f args => (getCs st args).bind fun vs => (zef st vs).bind fun us => (cf f us []).bind fun q => if q.1.bare && q.2.isEmpty then some (q.1, st) else none
 | .callF f args => (getOs st args).bind fun p => if p.1.all V.okArg then
   (cf f p.1 p.2.m).bind fun r => some (r.1, { p.2 with m := r.2, σ := killM p.2.σ }) else none
 | .tOp s k => zdF st s k
 | .callN f args ws => (getCs st ws).bind fun us => (getOs st args).bind fun p => if p.1.all V.ok1 = true ∧ us.all (ziP (seen p.1)) = true ∧ seen p.1 ≤ p.2.m.length then
    (cf f p.1 (p.2.m.take (seen p.1))).bind fun q => if q.1.flat2 = true ∧ q.2.length = seen p.1 then some (q.1, { p.2 with m := q.2 ++ p.2.m.drop (seen p.1), σ := killM p.2.σ }) else none else none
 | .loadW mode agg n p w os => (getC st p).bind fun v => (getCs st (w :: os)).bind fun us => if ziQ v us = true then
    (za1 st agg n mode v).bind fun q => if zgs q.1 = true then some q else none else none
 | .callV f args => (getC st f).bind fun v => match v with
  | .func g cap => (getOs st args).bind fun p => if p.1.all V.okArg ∧ cap.all V.okArg then
   (cf g (p.1 ++ cap) p.2.m).bind fun r => some (r.1, { p.2 with m := r.2, σ := killM p.2.σ }) else none
  | _ => none
 | .lenStr x => (getC st x).bind fun a => match a with
  | .str s => some (.int .i64 s.length, st)
  | _ => none
 | .lenSl x => (getC st x).bind fun a => (elems st a).bind fun xs => some (.int .i64 xs.length, st)
 | .lenC n => some (.int .i64 n, st)
 | .append sz x y => (getO st x).bind fun p => (getO p.2 y).bind fun q =>
   (zcX sz q.2 q.1).bind fun ys =>
   match p.1 with
   | .nils => if ys.length ≤ most ∧ 0 < ys.length then some (.slice true sz ys, q.2) else if ys.length = 0 then some (.nils, q.2) else none
   | .slice true z xs => if xs.length + ys.length ≤ most ∧ z = sz then some (.slice true sz (xs ++ ys), q.2) else none
   | .place r => match look q.2 r with
    | .slice true z xs => if xs.length + ys.length ≤ most ∧ z = sz then
      let v := V.slice true sz (xs ++ ys)
      match r with
      | .mem b o => some (v, { q.2 with m := q.2.m.set b ((q.2.m.getD b []).set o .undef) })
      | .loc j o => some (v, { q.2 with l := upd q.2.l j ((q.2.l j).set o .undef) })
      | .tmp s => some (v, { q.2 with σ := upd q.2.σ s .undef })
     else none
    | .nils => if ys.length ≤ most ∧ 0 < ys.length then some (.slice true sz ys, q.2) else if ys.length = 0 then some (.nils, q.2) else none
    | _ => none
   | _ => none
 | .minMax mx x ys => (getC st x).bind fun v => (getCs st ys).bind fun vs => (zc3 mx v vs).bind fun r => some (r, st)
 | .mkFunc f captured => (getCs st captured).bind fun vs => if vs.all okCap then some (.func f vs, st) else none
def selfPlace (d : Option Nat) : V → Bool
 | .place (.tmp s) => d == some s
 | .el (.tmp s) _ _ _ => d == some s
 | _ => false
def zdv (o : AOper) (p : V × St) : Option St :=
 if o.kt then (if selfPlace o.dst p.1 then none else some (p.2.put true o.dst p.1)) else some (p.2.put false o.dst p.1)
def zcY (cf : CF) (o : AOper) (st : St) : Option St :=
 match o.guard with
 | none => (evalOp cf st o.op).bind (zdv o)
 | some (g, want) => match st.σ g with
  | .bool b => if b = want then (evalOp cf st o.op).bind (zdv o) else some (st.put o.kt o.dst (.tuple []))
  | .tuple [] => some (st.put o.kt o.dst (.tuple []))
  | _ => none
def zbG (cf : CF) : List AOper → St → Option St
 | [], st => some st
 | o :: os, st => (zcY cf o st).bind (zbG cf os)
def Opd.slot? : Opd → List Nat
 | .t s => [s]
 | .u s _ => [s]
 | .c _ => []
def slots (xs : List Opd) : List Nat := xs.flatMap Opd.slot?
def AOp.opds : AOp → List Opd
 | .mv x | .boxL _ x | .boxM x | .load _ _ x _ | .nilCheck x | .un _ x | .conv _ x | .strStr x | .strBytes x | .bytesStr x | .intStr x | .fieldAddr _ x | .field _ _ _ x | .extract x _ | .lenStr x | .lenSl x | .convB x | .lend _ _ x _ => [x]
 | .allocL _ _ | .allocM _ | .lenC _ => []
 | .mvK s => [.u s .copy]
 | .store _ x y | .bin _ x y | .eq _ _ x y | .makeSlice _ _ x y | .indexArr _ _ x y | .indexSl _ x y | .indexAgg _ _ _ x y | .indexStr x y | .append _ x y => [x, y]
 | .pick x y z => [x, y, z]
 | .sliceS x l h | .sliceV _ x l h => x :: (l.toList ++ h.toList)
 | .build _ ps => ps.map fun p => p.2.2
 | .buildSlice _ _ _ ps => ps.map fun p => p.2
 | .callF _ xs | .callP _ xs | .callL _ xs | .mkFunc _ xs => xs
 | .callV x xs | .minMax _ x xs => x :: xs
 | .callN _ xs ws => ws ++ xs
 | .loadW _ _ _ p w os => p :: w :: os
 | .tOp _ _ => []
def AOp.pure : AOp → Bool
 | .mv _ | .pick _ _ _ | .nilCheck _ | .bin _ _ _ | .eq _ _ _ _ | .un _ _ | .conv _ _ | .strStr _ | .intStr _ | .sliceS _ _ _ | .sliceV _ _ _ _ | .fieldAddr _ _ | .field _ _ _ _ | .indexArr _ _ _ _ | .indexAgg _ _ _ _ _ | .indexStr _ _
 | .lenStr _ | .lenC _ | .minMax _ _ _ | .extract _ _ => true
 | _ => false
def AOp.still : AOp → Bool
 | .load _ _ _ .copy | .load _ _ _ .peek | .indexSl _ _ _ | .lenSl _ | .bytesStr _ => true
 | op => op.pure
def AOp.builds : AOp → Bool
 | .build _ _ | .buildSlice _ _ _ _ | .makeSlice _ _ _ _ | .strBytes _ | .mkFunc _ _ | .callP _ _ => true
 | _ => false
def Mark.set : Mark → Bool
 | .none | .quiet | .fa _ => false
 | _ => true
def AOper.lean (o : AOper) : Bool := !(o.op.pure && o.mark == .mem) && (o.op.pure || (o.mark.set && (o.op.still || o.op.builds)))
def AOp.isT : AOp → Bool
 | .tOp _ _ => true
 | _ => false
def AOp.ptr? : AOp → Option Opd
 | .load _ _ p _ | .store _ p _ => some p
 | _ => none
def zgD : V → Bool
 | .loc _ _ => false
 | _ => true
def zkf (j : Nat) : V → Bool
 | .loc i _ => i == j
 | _ => false
open Classical in
noncomputable def zbg (o : AOper) (st st' : St) : Bool :=
 match o.mark with
 | .none => true
 | .cool => match o.op.ptr? with
  | none => (slots o.op.opds).all fun s => zgD (st.σ s)
  | some _ => false
 | .quiet => decide (st'.m = st.m ∧ st'.l = st.l)
 | .fa j => (slots o.op.opds).all fun s => zkf j (st.σ s)
 | mk => match o.op.ptr? with
  | none => true
  | some p => match getC st p with
   | some (.loc i _) => mk == .loc i
   | some (.ptr _ _) => mk == .mem
   | some (.ro _ _) => mk == .free
   | _ => false
def rootOk (lean : Bool) : V → Bool
 | .place (.tmp _) | .el (.tmp _) _ _ _ => false
 | .place _ | .el _ _ _ _ | .undef => !lean
 | _ => true
def zeY (o : AOper) (v : V) : Bool := rootOk o.lean v && (match o.mark with
 | .none => true
 | .quiet | .mem => zgD v && (match v with
  | .place _ | .el _ _ _ _ => false
  | _ => true)
 | .fa j => zkf j v
 | _ => zgD v)
noncomputable def putD (o : AOper) (st : St) (p : V × St) : Option St := if zeY o p.1 && zbg o st p.2 then zdv o p else none
noncomputable def zay (cf : CF) (o : AOper) (st : St) : Option St :=
 if o.op.isT then (evalOp cf st o.op).bind (zdv o) else if (slots o.op.opds).all fun s => rootOk o.lean (st.σ s) then (evalOp cf st o.op).bind (putD o st) else none
noncomputable def zc8 (cf : CF) (o : AOper) (st : St) : Option St :=
 match o.guard with
 | none => zay cf o st
 | some (g, want) => match st.σ g with
  | .bool b => if b = want then zay cf o st else some (st.put o.kt o.dst (.tuple []))
  | .tuple [] => some (st.put o.kt o.dst (.tuple []))
  | _ => none
noncomputable def runD (cf : CF) : List AOper → St → Option St
 | [], st => some st
 | o :: os, st => (zc8 cf o st).bind (runD cf os)
inductive Ex where
 | normal
 | exit (id : Nat)
 | ret
 deriving DecidableEq, Repr, Inhabited
def zce (round : St → Option (Ex × St)) : Nat → St → Option (Ex × St)
 | 0, _ => none
 | k + 1, st => (round st).bind fun r => match r.1 with
  | .normal => zce round k r.2
  | e => some (e, r.2)
open Classical in
noncomputable def zgE (round : St → Option (Ex × St)) (st : St) : Option (Ex × St) :=
 if h : ∃ k r, zce round k st = some r then some h.choose_spec.choose else none
def keep (live : List Nat) (σ : Nat → V) : Nat → V := fun i => if i ∈ live then σ i else .undef
noncomputable def exec (cf : CF) : ACode → St → Option (Ex × St)
 | .skip, st => some (.normal, st)
 | .region false ops, st => (zbG cf ops st).bind fun st => some (.normal, st)
 | .region true ops, st => (runD cf ops st).bind fun st => some (.normal, st)
 | .seq a b, st => (exec cf a st).bind fun r => match r.1 with
  | .normal => exec cf b r.2
  | e => some (e, r.2)
 | .cond c t e, st => (getC st c).bind fun v => match v with
  | .bool true => exec cf t st
  | .bool false => exec cf e st
  | _ => none
 | .block id b, st => (exec cf b st).bind fun r => match r.1 with
  | .exit i => if i = id then some (.normal, r.2) else some (.exit i, r.2)
  | e => some (e, r.2)
 | .loop live b, st => zgE (fun st => exec cf b { st with σ := keep live st.σ }) st
 | .exit id, st => some (.exit id, st)
 | .ret, st => some (.ret, st)
def zeo (st : St) : List ARes → Option (List V × St)
 | [] => some ([], st)
 | .tmp s :: r => (zeo { st with σ := upd st.σ s .undef } r).bind fun q => some (st.σ s :: q.1, q.2)
 | .cell s agg n :: r => (za1 st agg n .take (st.σ s)).bind fun p => (zeo p.2 r).bind fun q => some (p.1 :: q.1, q.2)
def zhN (st : St) (rs : List ARes) : Option (V × St) :=
 (zeo st rs).bind fun p => if p.1.all V.ok1 then
  match p.1 with
  | [v] => some (v, p.2)
  | vs => some (.tuple vs, p.2)
 else none
noncomputable def runF (cf : CF) (f : AFunc) (args : List V) (m : List (List V)) : Option (V × List (List V)) :=
 if args.length = f.np then
  (exec cf f.body ⟨fun i => args.getD i .undef, fun _ => [], m⟩).bind fun r => match r.1 with
   | .exit _ => none
   | _ => (zhN r.2 f.results).bind fun q =>
    if m.length ≤ q.2.m.length then some (q.1, if q.1.top2 ≤ m.length then q.2.m.take m.length else q.2.m) else none
 else none
structure Table where
 code : Nat → Option AFunc
 ext : CF
inductive Ret (T : Table) : Nat → List V → List (List V) → V → List (List V) → Prop where
 | mk (cf : CF) (f : Nat) (fn : AFunc) (args : List V) (m : List (List V)) (r : V) (m' : List (List V))
   (hf : T.code f = some fn) (h : runF cf fn args m = some (r, m')) (hcf : ∀ f a m r m', cf f a m = some (r, m') → Ret T f a m r m') : Ret T f args m r m'
 | ext (f : Nat) (args : List V) (m : List (List V)) (r : V) (m' : List (List V)) (hf : T.code f = none) (h : T.ext f args m = some (r, m')) : Ret T f args m r m'
class Lay (P : Program) where
 tab : List (Nat × Nat × List (List V))
 /-- tables of integers, by name: variable, name, kind, integers -/
 ints : List (Nat × String × IntKind × List Int)
end Go.Proofs.YtakdnfneikbjjaaGreatDoor.Am

namespace Go.Proofs.YtakdnfneikbjjaaGreatDoor.Am
structure G where
  mb : Nat → Nat
  lb : Nat → Nat
  lv : Nat → Prop
  pers : Nat → Prop
def Same (w w' : World) (c : Nat) : Prop := w'.heap[c]? = w.heap[c]?
theorem Same.refl (w : World) (c : Nat) : Same w w c := rfl
theorem Same.cell {w w' : World} {c o : Nat} (h : Same w w' c) : w'.cell? ⟨c, o, none⟩ = w.cell? ⟨c, o, none⟩ := by
  simp only [World.cell?]; rw [h]
inductive RB (p : Nat → Prop) (w : World) : V → Value → Prop
  | bool (b : Bool) : RB p w (.bool b) (.bool b)
  | int (k : IntKind) (n : Int) : RB p w (.int k n) (.int k n)
  | str (b : ByteArray) : RB p w (.str b.data.toList) (.string b)
  | nilp : RB p w .nilp (.pointer none)
  | nils : RB p w .nils (.slice none 0 0)
  | nilf : RB p w .nilf .nilFunc
  | nili : RB p w .nili .nilIface
  | erri (t : TypeId) (x : Value) : RB p w .erri (.iface t x)
  | func (f : Nat) : RB p w (.func f []) (.func (.func f) #[] #[])
  | slice (sz : Nat) (xs : List (List V)) (a : Addr) (cap : Nat) (vs : Nat → Nat → Value) (hs : 0 < cap → a.spot = none) (hp : 0 < cap → p a.block) (hc : xs.length ≤ cap)
      (hz : ∀ i, i < xs.length → (xs.getD i []).length = sz)
      (hv : ∀ i k, i < xs.length → k < sz → w.cell? ⟨a.block, a.off + (i * sz + k), none⟩ = some (vs i k))
      (hr : ∀ i k, i < xs.length → k < sz → RB p w ((xs.getD i []).getD k .undef) (vs i k)) : RB p w (.slice false sz xs) (.slice (some a) xs.length cap)
theorem RB.mono {p p' : Nat → Prop} {w w' : World} (h : ∀ c, p c → p' c ∧ Same w w' c) {x : V} {v : Value} (r : RB p w x v) : RB p' w' x v := by
  induction r with
  | bool b => exact .bool b
  | int k n => exact .int k n
  | str b => exact .str b
  | nilp => exact .nilp
  | nils => exact .nils
  | nilf => exact .nilf
  | nili => exact .nili
  | erri t x => exact .erri t x
  | func f => exact .func f
  | slice sz xs a cap vs hs hp hc hz hv hr ih =>
    exact .slice sz xs a cap vs hs (fun hq => (h _ (hp hq)).1) hc hz (fun i k hi hk => ((h _ (hp (by omega))).2.cell).trans (hv i k hi hk)) (fun i k hi hk => ih i k hi hk)
def zdl (p : Nat → Prop) (w : World) (a : Addr) (sz : Nat) (xs : List (List V)) : Prop :=
  (∀ i, i < xs.length → (xs.getD i []).length = sz) ∧
  ∀ i k, i < xs.length → k < sz → ∃ v, w.cell? ⟨a.block, a.off + (i * sz + k), none⟩ = some v ∧ RB p w ((xs.getD i []).getD k .undef) v
theorem RB.slice_iff {p : Nat → Prop} {w : World} {sz : Nat} {xs : List (List V)} {v : Value} :
    RB p w (.slice false sz xs) v ↔ ∃ a cap, v = .slice (some a) xs.length cap ∧ (0 < cap → a.spot = none) ∧ (0 < cap → p a.block) ∧ xs.length ≤ cap ∧ zdl p w a sz xs := by
  constructor
  · intro h
    cases h with
    | slice _ _ a cap vs hs hp hc hz hv hr => exact ⟨a, cap, rfl, hs, hp, hc, hz, fun i k hi hk => ⟨_, hv i k hi hk, hr i k hi hk⟩⟩
  · rintro ⟨a, cap, rfl, hs, hp, hc, hz, he⟩
    classical
    refine .slice sz xs a cap (fun i k => if h : i < xs.length ∧ k < sz then (he i k h.1 h.2).choose else undef) hs hp hc hz ?_ ?_
    · intro i k hi hk; rw [dif_pos ⟨hi, hk⟩]; exact (he i k hi hk).choose_spec.1
    · intro i k hi hk; rw [dif_pos ⟨hi, hk⟩]; exact (he i k hi hk).choose_spec.2
theorem zdl.mono {p p' : Nat → Prop} {w w' : World} (h : ∀ c, p c → p' c ∧ Same w w' c) {a : Addr} {sz : Nat} {xs : List (List V)} (hb : Same w w' a.block)
    (e : zdl p w a sz xs) : zdl p' w' a sz xs :=
  ⟨e.1, fun i k hi hk => let ⟨v, hv, hr⟩ := e.2 i k hi hk; ⟨v, hb.cell.trans hv, hr.mono h⟩⟩
def Blk (w : World) (c : Nat) (arr : Array Value) (e : TypeId) : Prop :=
  ∃ fz : Nat × Nat, w.heap[c]? = some (.cells arr e fz) ∧ (∀ k, k < arr.size → ¬(fz.1 ≤ k ∧ k < fz.2)) ∧ fz.1 ≤ fz.2
theorem Blk.same {w w' : World} {c : Nat} {arr : Array Value} {e : TypeId} (h : Blk w c arr e) (hs : Same w w' c) : Blk w' c arr e :=
  let ⟨fz, h1, h2⟩ := h; ⟨fz, hs.trans h1, h2⟩
theorem Blk.cell {w : World} {c : Nat} {arr : Array Value} {e : TypeId} (h : Blk w c arr e) (o : Nat) : w.cell? ⟨c, o, none⟩ = arr[o]? := by
  obtain ⟨fz, h1, _⟩ := h
  simp [World.cell?, h1]
theorem Blk.lt {w : World} {c : Nat} {arr : Array Value} {e : TypeId} (h : Blk w c arr e) : c < w.heap.size := by
  obtain ⟨fz, h1, _⟩ := h
  exact (yan.1 h1).1
theorem Blk.free {w : World} {c : Nat} {arr : Array Value} {e : TypeId} (h : Blk w c arr e) {o : Nat} (ho : o < arr.size) : w.frozen? ⟨c, o, none⟩ = false := by
  obtain ⟨fz, h1, h2⟩ := h
  have := h2.1 o ho
  simp only [World.frozen?, h1]
  simp only [Bool.and_eq_false_iff, decide_eq_false_iff_not]
  by_cases h : fz.1 ≤ o
  · exact .inr fun hh => this ⟨h, hh⟩
  · exact .inl h
theorem Blk.uniq {w : World} {c : Nat} {arr arr' : Array Value} {e e' : TypeId} (h : Blk w c arr e) (h' : Blk w c arr' e') : arr = arr' ∧ e = e' := by
  obtain ⟨fz, h1, _⟩ := h
  obtain ⟨fz', h1', _⟩ := h'
  rw [h1] at h1'
  simp at h1'
  exact ⟨h1'.1, h1'.2.1⟩
def OwnS (p : Nat → Prop) (w : World) (sz : Nat) (xs : List (List V)) (v : Value) : Prop :=
  ∃ a cap arr e, v = .slice (some a) xs.length cap ∧ a.spot = none ∧ xs.length ≤ cap ∧ Blk w a.block arr e ∧ a.off + cap * sz ≤ arr.size ∧ zdl p w a sz xs
theorem OwnS.mono {p p' : Nat → Prop} {w w' : World} (h : ∀ c, p c → p' c ∧ Same w w' c) {sz : Nat} {xs : List (List V)} {v : Value}
    (r : OwnS p w sz xs v) (hb : ∀ a n k, v = .slice (some a) n k → Same w w' a.block) : OwnS p' w' sz xs v := by
  obtain ⟨a, cap, arr, e, rfl, hs, hc, hk, ho, he⟩ := r
  exact ⟨a, cap, arr, e, rfl, hs, hc, hk.same (hb _ _ _ rfl), ho, he.mono h (hb _ _ _ rfl)⟩
def V.cellOk (x : V) : Prop := x.ok0 = true ∨ x = .undef
def V.cellOk1 : V → Prop
  | .agg _ => True
  | x => x.cellOk
def V.root? : V → Option Root
  | .place r => some r
  | .el r _ _ _ => some r
  | _ => none
def R1 (g : G) (w : World) (n : Nat) : V → Value → Prop
  | .undef, _ => True
  | .ptr b off, v => b < n ∧ v = .pointer (some ⟨g.mb b, off, none⟩)
  | .loc j off, v => v = .pointer (some ⟨g.lb j, off, none⟩)
  | .ro cs off, v => ∃ c o, v = .pointer (some ⟨c, o + off, none⟩) ∧ g.pers c ∧ ∀ k, k < cs.length → ∃ x, w.cell? ⟨c, o + k, none⟩ = some x ∧ RB g.pers w (cs.getD k .undef) x
  | .el (.mem b o) sz i k, v => b < n ∧ ∃ a len cap, w.cell? ⟨g.mb b, o, none⟩ = some (.slice (some a) len cap) ∧ v = .pointer (some ⟨a.block, a.off + (i * sz + k), none⟩)
  | .el (.loc j o) sz i k, v => g.lv j ∧ ∃ a len cap, w.cell? ⟨g.lb j, o, none⟩ = some (.slice (some a) len cap) ∧ v = .pointer (some ⟨a.block, a.off + (i * sz + k), none⟩)
  | .el (.tmp _) _ _ _, _ => False
  | .place (.mem b o), v => b < n ∧ w.cell? ⟨g.mb b, o, none⟩ = some v
  | .place (.loc j o), v => g.lv j ∧ w.cell? ⟨g.lb j, o, none⟩ = some v
  | .place (.tmp _), _ => False
  | .slice true sz xs, v => OwnS g.pers w sz xs v
  | .func f cs, v => ∃ vs : Array Value, v = .func (.func f) #[] vs ∧ vs.size = cs.length ∧ ∀ k, k < cs.length → ∃ b off, cs.getD k .undef = .ptr b off ∧ b < n ∧ vs.getD k undef = .pointer (some ⟨g.mb b, off, none⟩)
  | .agg _, _ => False
  | .tuple _, _ => False
  | x, v => RB g.pers w x v
def R2 (g : G) (w : World) (n : Nat) (τ : Nat → Value) : V → Value → Prop
  | .agg cs, v => ∃ arr : Array Value, v = .agg arr ∧ arr.size = cs.length ∧ ∀ k, k < cs.length → (cs.getD k .undef).cellOk ∧ R1 g w n (cs.getD k .undef) (arr.getD k undef)
  | .place (.tmp s), v => τ s = v
  | .el (.tmp s) sz i k, v => ∃ a len cap, τ s = .slice (some a) len cap ∧ v = .pointer (some ⟨a.block, a.off + (i * sz + k), none⟩)
  | x, v => R1 g w n x v
def R3 (g : G) (w : World) (n : Nat) (τ : Nat → Value) : V → Value → Prop
  | .tuple vs, v => ∃ arr : Array Value, v = .tuple arr ∧ arr.size = vs.length ∧ ∀ k, k < vs.length → (vs.getD k .undef).cellOk1 ∧ R2 g w n τ (vs.getD k .undef) (arr.getD k undef)
  | x, v => R2 g w n τ x v
def zaS : Nat → (Nat → Nat) → Nat
  | 0, _ => 0
  | n + 1, f => zaS n f + f n
theorem zaq {n : Nat} {f g : Nat → Nat} (h : ∀ i, i < n → f i = g i) : zaS n f = zaS n g := by
  induction n with
  | zero => rfl
  | succ n ih => simp only [zaS]; rw [ih fun i hi => h i (by omega), h n (by omega)]
theorem zcG {n : Nat} {f : Nat → Nat} (h : ∀ i, i < n → f i = 0) : zaS n f = 0 := by
  induction n with
  | zero => rfl
  | succ n ih => simp only [zaS]; rw [ih fun i hi => h i (by omega), h n (by omega)]
theorem za9 {n : Nat} {f : Nat → Nat} {i : Nat} (h : i < n) : f i ≤ zaS n f := by
  induction n with
  | zero => omega
  | succ n ih =>
    simp only [zaS]
    by_cases e : i = n
    · subst e; omega
    · have := ih (by omega); omega
theorem zb3 {n : Nat} {f g : Nat → Nat} {i : Nat} (hi : i < n) (h : ∀ j, j < n → j ≠ i → f j = g j) : zaS n f + g i = zaS n g + f i := by
  induction n with
  | zero => omega
  | succ n ih =>
    simp only [zaS]
    by_cases e : i = n
    · subst e
      rw [zaq fun j hj => h j (by omega) (by omega)]
      omega
    · have := ih (by omega) (fun j hj hne => h j (by omega) hne)
      have := h n (by omega) (by omega)
      omega
theorem zlM {n : Nat} {f g : Nat → Nat} (h : ∀ i, i < n → f i ≤ g i) : zaS n f ≤ zaS n g := by
  induction n with
  | zero => simp [zaS]
  | succ n ih => simp only [zaS]; have := ih fun i hi => h i (by omega); have := h n (by omega); omega
theorem zhE {m n : Nat} {f : Nat → Nat} (h : m ≤ n) : zaS m f ≤ zaS n f := by
  induction n with
  | zero => have : m = 0 := by omega
            subst this; exact Nat.le_refl _
  | succ n ih =>
    by_cases e : m = n + 1
    · subst e; exact Nat.le_refl _
    · have := ih (by omega); simp only [zaS]; omega
theorem zgF {n : Nat} {f g : Nat → Nat} : zaS n (fun i => f i + g i) = zaS n f + zaS n g := by
  induction n with
  | zero => rfl
  | succ n ih => simp only [zaS]; rw [ih]; omega
def cnt0 (c : Nat) : V → Value → Nat
  | .slice true _ _, .slice (some a) _ _ => if a.block = c then 1 else 0
  | _, _ => 0
def cntL (c : Nat) (xs : List V) (vs : Array Value) : Nat := zaS xs.length fun k => cnt0 c (xs.getD k .undef) (vs.getD k undef)
def cnt1 (c : Nat) : V → Value → Nat
  | .agg xs, .agg vs => cntL c xs vs
  | x, v => cnt0 c x v
def cnt2 (c : Nat) : V → Value → Nat
  | .tuple xs, .tuple vs => zaS xs.length fun k => cnt1 c (xs.getD k .undef) (vs.getD k undef)
  | x, v => cnt1 c x v
theorem zn1 {c : Nat} {x : V} {v : Value} (h : 0 < cnt0 c x v) : x.own0 = true := by
  cases x with
  | slice o sz xs =>
    cases o with
    | true => rfl
    | false => simp [cnt0] at h
  | _ => simp [cnt0] at h
theorem ziR {c : Nat} {x : V} {v : Value} (h : x.own0 = false) : cnt0 c x v = 0 := by
  cases hc : cnt0 c x v with
  | zero => rfl
  | succ n => have := zn1 (c := c) (x := x) (v := v) (by omega); rw [this] at h; simp at h
theorem zgG {c : Nat} {xs : List V} {vs : Array Value} (h : xs.any V.own0 = false) : cntL c xs vs = 0 := by
  refine zcG fun i hi => ziR ?_
  simp only [List.any_eq_false] at h
  have := h (xs.getD i .undef) (by simp [yad, yai hi])
  simpa using this
theorem ziS {c : Nat} {x : V} {v : Value} (h : x.own1 = false) : cnt1 c x v = 0 := by
  cases x with
  | agg xs => cases v <;> simp only [cnt1] <;> first | exact zgG h | rfl
  | _ => cases v <;> simp only [cnt1] <;> exact ziR h
theorem zep {c : Nat} {x : V} {v : Value} (h : x.hasOwn = false) : cnt2 c x v = 0 := by
  cases x with
  | tuple xs =>
    cases v <;> simp only [cnt2] <;> try rfl
    refine zcG fun i hi => ziS ?_
    simp only [V.hasOwn, List.any_eq_false] at h
    have := h (xs.getD i .undef) (by simp [yad, yai hi])
    simpa using this
  | _ => cases v <;> simp only [cnt2] <;> exact ziS h
def zcg (g : G) (w : World) (τ : Nat → Value) (g' : G) (w' : World) (τ' : Nat → Value) : Root → Prop
  | .mem b o => w'.cell? ⟨g.mb b, o, none⟩ = w.cell? ⟨g.mb b, o, none⟩
  | .loc j o => g.lv j → g'.lb j = g.lb j ∧ g'.lv j ∧ w'.cell? ⟨g.lb j, o, none⟩ = w.cell? ⟨g.lb j, o, none⟩
  | .tmp s => τ' s = τ s
theorem R1.mono {g g' : G} {w w' : World} {n n' : Nat} {τ τ' : Nat → Value} {x : V} {v : Value} (hp : ∀ c, g.pers c → g'.pers c ∧ Same w w' c) (hn : n ≤ n')
    (hmb : ∀ b, b < n → g'.mb b = g.mb b) (hown : ∀ c, 0 < cnt0 c x v → Same w w' c) (hloc : ∀ j o, x = .loc j o → g'.lb j = g.lb j)
    (hroot : ∀ r, x.root? = some r → zcg g w τ g' w' τ' r) (h : R1 g w n x v) : R1 g' w' n' x v := by
  cases x with
  | undef => trivial
  | ptr b off =>
    obtain ⟨hb, rfl⟩ := h
    exact ⟨by omega, by rw [hmb b hb]⟩
  | loc j off => rw [R1] at h ⊢; rw [hloc j off rfl]; exact h
  | ro cs off =>
    obtain ⟨c, o, rfl, hc, hk⟩ := h
    refine ⟨c, o, rfl, (hp c hc).1, fun k hlt => ?_⟩
    obtain ⟨y, hy, hr⟩ := hk k hlt
    exact ⟨y, (hp c hc).2.cell.trans hy, hr.mono hp⟩
  | el r sz i k =>
    have hr := hroot r rfl
    cases r with
    | mem b o =>
      obtain ⟨hb, a, len, cap, hc, rfl⟩ := h
      exact ⟨by omega, a, len, cap, by rw [hmb b hb]; exact hr.trans hc, rfl⟩
    | loc j o =>
      obtain ⟨hl, a, len, cap, hc, rfl⟩ := h
      have hr := hr hl
      exact ⟨hr.2.1, a, len, cap, by rw [hr.1]; exact hr.2.2.trans hc, rfl⟩
    | tmp s => exact h.elim
  | place r =>
    have hr := hroot r rfl
    cases r with
    | mem b o => exact ⟨by have := h.1; omega, by rw [hmb b h.1]; exact hr.trans h.2⟩
    | loc j o =>
      obtain ⟨hl, hc⟩ := h
      have hr := hr hl
      exact ⟨hr.2.1, by rw [hr.1]; exact hr.2.2.trans hc⟩
    | tmp s => exact h.elim
  | slice o sz xs =>
    cases o with
    | false => exact RB.mono hp h
    | true =>
      have h' : OwnS g.pers w sz xs v := h
      refine OwnS.mono hp h' fun a k l e => hown _ ?_
      subst e
      simp [cnt0]
  | func f cs =>
    obtain ⟨vs, rfl, hs, hk⟩ := h
    refine ⟨vs, rfl, hs, fun k hlt => ?_⟩
    obtain ⟨b, off, e, hb, hv⟩ := hk k hlt
    exact ⟨b, off, e, by omega, by rw [hmb b hb]; exact hv⟩
  | agg _ => exact h.elim
  | tuple _ => exact h.elim
  | bool _ => exact RB.mono hp h
  | int _ _ => exact RB.mono hp h
  | str _ => exact RB.mono hp h
  | nilp => exact RB.mono hp h
  | nils => exact RB.mono hp h
  | nilf => exact RB.mono hp h
  | nili => exact RB.mono hp h
  | erri => exact RB.mono hp h
theorem zdZ {x : V} (h : x.cellOk) : x.root? = none := by
  rcases h with h | rfl
  · cases x <;> simp_all [V.ok0, V.root?]
  · rfl
theorem zhO {x : V} (h : x.cellOk) (j o : Nat) : x ≠ .loc j o := by
  rcases h with h | rfl
  · rintro rfl; simp [V.ok0] at h
  · simp
theorem R1.mono0 {g g' : G} {w w' : World} {n n' : Nat} {x : V} {v : Value} (hp : ∀ c, g.pers c → g'.pers c ∧ Same w w' c) (hn : n ≤ n')
    (hmb : ∀ b, b < n → g'.mb b = g.mb b) (hown : ∀ c, 0 < cnt0 c x v → Same w w' c) (hok : x.cellOk) (h : R1 g w n x v) : R1 g' w' n' x v :=
  R1.mono (τ := fun _ => undef) (τ' := fun _ => undef) hp hn hmb hown (fun j o e => absurd e (zhO hok j o)) (fun r e => by rw [zdZ hok] at e; cases e) h
theorem zdm {c : Nat} {xs : List V} {vs : Array Value} {k : Nat} (h : k < xs.length) : cnt0 c (xs.getD k .undef) (vs.getD k undef) ≤ cntL c xs vs :=
  za9 (f := fun k => cnt0 c (xs.getD k .undef) (vs.getD k undef)) h
theorem R2.mono {g g' : G} {w w' : World} {n n' : Nat} {τ τ' : Nat → Value} {x : V} {v : Value} (hp : ∀ c, g.pers c → g'.pers c ∧ Same w w' c) (hn : n ≤ n')
    (hmb : ∀ b, b < n → g'.mb b = g.mb b) (hown : ∀ c, 0 < cnt1 c x v → Same w w' c) (hloc : ∀ j o, x = .loc j o → g'.lb j = g.lb j)
    (hroot : ∀ r, x.root? = some r → zcg g w τ g' w' τ' r) (h : R2 g w n τ x v) : R2 g' w' n' τ' x v := by
  cases x with
  | agg cs =>
    obtain ⟨arr, rfl, hs, hk⟩ := h
    refine ⟨arr, rfl, hs, fun k hlt => ⟨(hk k hlt).1, R1.mono0 hp hn hmb (fun c hc => hown c ?_) (hk k hlt).1 (hk k hlt).2⟩⟩
    have := zdm (c := c) (xs := cs) (vs := arr) hlt
    simp only [cnt1]; omega
  | place r =>
    cases r with
    | tmp s => have := hroot _ rfl; simp only [R2, zcg] at *; rw [this]; exact h
    | _ => exact R1.mono hp hn hmb (fun c hc => hown c (by simpa [cnt1] using hc)) hloc hroot h
  | el r sz i k =>
    cases r with
    | tmp s =>
      have := hroot _ rfl
      obtain ⟨a, len, cap, ht, rfl⟩ := h
      simp only [zcg] at this
      exact ⟨a, len, cap, by rw [this]; exact ht, rfl⟩
    | _ => exact R1.mono hp hn hmb (fun c hc => hown c (by simpa [cnt1] using hc)) hloc hroot h
  | _ => exact R1.mono hp hn hmb (fun c hc => hown c (by simpa [cnt1] using hc)) hloc hroot h
theorem zf9 {x : V} (h : x.cellOk1) : x.root? = none := by
  cases x <;> first | rfl | exact zdZ h
theorem zkg {x : V} (h : x.cellOk1) (j o : Nat) : x ≠ .loc j o := by
  cases x <;> first | exact zhO h j o | simp
theorem R3.mono {g g' : G} {w w' : World} {n n' : Nat} {τ τ' : Nat → Value} {x : V} {v : Value} (hp : ∀ c, g.pers c → g'.pers c ∧ Same w w' c) (hn : n ≤ n')
    (hmb : ∀ b, b < n → g'.mb b = g.mb b) (hown : ∀ c, 0 < cnt2 c x v → Same w w' c) (hloc : ∀ j o, x = .loc j o → g'.lb j = g.lb j)
    (hroot : ∀ r, x.root? = some r → zcg g w τ g' w' τ' r) (h : R3 g w n τ x v) : R3 g' w' n' τ' x v := by
  cases x with
  | tuple vs =>
    obtain ⟨arr, rfl, hs, hk⟩ := h
    refine ⟨arr, rfl, hs, fun k hlt => ⟨(hk k hlt).1, R2.mono (τ := τ) hp hn hmb (fun c hc => hown c ?_) (fun j o e => absurd e (zkg (hk k hlt).1 j o))
      (fun r e => by rw [zf9 (hk k hlt).1] at e; cases e) (hk k hlt).2⟩⟩
    have := za9 (f := fun k => cnt1 c (vs.getD k .undef) (arr.getD k undef)) hlt
    simp only [cnt2]; omega
  | _ => exact R2.mono hp hn hmb (fun c hc => hown c (by simpa [cnt2] using hc)) hloc hroot h
def cellsOf (w : World) (c : Nat) : Array Value :=
  match w.heap[c]? with
  | some (.cells arr _ _) => arr
  | _ => #[]
theorem Same.cellsOf {w w' : World} {c : Nat} (h : Same w w' c) : cellsOf w' c = cellsOf w c := by unfold Am.cellsOf; rw [h]
theorem Blk.cellsOf {w : World} {c : Nat} {arr : Array Value} {e : TypeId} (h : Blk w c arr e) : cellsOf w c = arr := by
  obtain ⟨fz, h1, _⟩ := h
  simp [Am.cellsOf, h1]
def CBlk (g : G) (w : World) (n : Nat) (c : Nat) (cs : List V) : Prop :=
  ∃ arr e, Blk w c arr e ∧ arr.size = cs.length ∧ ∀ k, k < cs.length → (cs.getD k .undef).cellOk ∧ R1 g w n (cs.getD k .undef) (arr.getD k undef)
theorem CBlk.mono {g g' : G} {w w' : World} {n n' c : Nat} {cs : List V} (hp : ∀ c, g.pers c → g'.pers c ∧ Same w w' c) (hn : n ≤ n')
    (hmb : ∀ b, b < n → g'.mb b = g.mb b) (hc : Same w w' c) (hown : ∀ d, 0 < cntL d cs (cellsOf w c) → Same w w' d) (h : CBlk g w n c cs) : CBlk g' w' n' c cs := by
  obtain ⟨arr, e, hb, hs, hk⟩ := h
  refine ⟨arr, e, hb.same hc, hs, fun k hlt => ⟨(hk k hlt).1, R1.mono0 hp hn hmb (fun d hd => hown d ?_) (hk k hlt).1 (hk k hlt).2⟩⟩
  rw [hb.cellsOf]
  have := zdm (c := d) (xs := cs) (vs := arr) hlt
  omega
def tsAt (ts : Array Value) : Nat → Value := fun s => ts.getD s undef
open Classical in
noncomputable def za0 (g : G) (c : Nat) : Nat := if g.pers c then 1 else 0
def cntT (c : Nat) (σ : Nat → V) (ts : Array Value) : Nat := zaS ts.size fun s => cnt2 c (σ s) (tsAt ts s)
def cntP (c : Nat) (ps : List (V × Value)) : Nat := (ps.map fun p => cnt2 c p.1 p.2).sum
def zbb (g : G) (w : World) (c : Nat) (l : Nat → List V) (j : Nat) : Nat := (if l j ≠ [] ∧ g.lb j = c then 1 else 0) + cntL c (l j) (cellsOf w (g.lb j))
def cntB (g : G) (w : World) (c : Nat) (nl : Nat) (l : Nat → List V) : Nat := zaS nl fun j => zbb g w c l j
def zaU (g : G) (w : World) (c : Nat) (m : List (List V)) (b : Nat) : Nat := (if g.mb b = c then 1 else 0) + cntL c (m.getD b []) (cellsOf w (g.mb b))
def cntM (g : G) (w : World) (c : Nat) (m : List (List V)) : Nat := zaS m.length fun b => zaU g w c m b
noncomputable def zal (g : G) (w : World) (nl : Nat) (fr : Nat → Nat) (st : St) (ts : Array Value) (ps : List (V × Value)) (c : Nat) : Nat :=
  cntT c st.σ ts + cntP c ps + cntB g w c nl st.l + cntM g w c st.m + za0 g c + fr c
structure SR (g : G) (w : World) (nl : Nat) (fr : Nat → Nat) (S : Nat → Bool) (st : St) (ts : Array Value) (ps : List (V × Value)) : Prop where
  temps : ∀ s, R3 g w st.m.length (tsAt ts) (st.σ s) (tsAt ts s)
  dead : ∀ s, ts.size ≤ s → st.σ s = .undef
  peeks : ∀ s d, (st.σ s).root? = some (.tmp d) → S d = true
  pend : ∀ p ∈ ps, R3 g w st.m.length (tsAt ts) p.1 p.2
  ppeeks : ∀ p ∈ ps, ∀ d, p.1.root? = some (.tmp d) → S d = true
  lvs : ∀ j, g.lv j ↔ st.l j ≠ []
  locs : ∀ j, st.l j ≠ [] → j < nl ∧ CBlk g w st.m.length (g.lb j) (st.l j)
  mem : ∀ b, b < st.m.length → CBlk g w st.m.length (g.mb b) (st.m.getD b []) ∧ tops (st.m.getD b []) ≤ b + 1
  one : ∀ c, zal g w nl fr st ts ps c ≤ 1
  out : ∀ c, w.heap.size ≤ c → zal g w nl fr st ts ps c = 0
end Go.Proofs.YtakdnfneikbjjaaGreatDoor.Am

namespace Go.Proofs.YtakdnfneikbjjaaGreatDoor.Am
theorem zgt {ts : Array Value} {d : Nat} {v : Value} (h : d < ts.size) (s : Nat) : tsAt (ts.setIfInBounds d v) s = if s = d then v else tsAt ts s := by
 unfold tsAt
 simp only [yaf, Array.getElem?_setIfInBounds]
 by_cases e : d = s
 ·subst e; simp [h]
 ·simp [e, Ne.symm e]
theorem zaT {c : Nat} {v : Value} : cnt2 c .undef v = 0 := zep rfl
theorem zc9 {c : Nat} : cntP c [] = 0 := rfl
theorem zap {c : Nat} {p : V × Value} {ps : List (V × Value)} : cntP c (p :: ps) = cnt2 c p.1 p.2 + cntP c ps := by simp [cntP]
theorem ze9 {c : Nat} {ps qs : List (V × Value)} : cntP c (ps ++ qs) = cntP c ps + cntP c qs := by simp [cntP]
theorem zd0 {c : Nat} {x : V} {v : Value} : cnt2 c (killLocV x) v = cnt2 c x v := by
 cases x with
 | place r => cases r <;> simp [killLocV, zaT] <;> rfl
 | el r z i k => cases r <;> simp [killLocV, zaT] <;> rfl
 | _ => rfl
theorem zga {c off n : Nat} {x : V} {v : Value} : cnt2 c (killAtV off n x) v = cnt2 c x v := by
 cases x with
 | place r => cases r <;> simp only [killAtV] <;> first | rfl | (split <;> first | rfl | (rw [zaT]; rfl))
 | el r z i k => cases r <;> simp only [killAtV] <;> first | rfl | (split <;> first | rfl | (rw [zaT]; rfl))
 | _ => rfl
theorem zgH {c : Nat} {x : V} {v : Value} : cnt2 c (killMV x) v = cnt2 c x v := by
 cases x with
 | place r => cases r <;> simp [killMV, zaT] <;> rfl
 | el r z i k => cases r <;> simp [killMV, zaT] <;> rfl
 | _ => rfl
theorem zgI {c d : Nat} {x : V} {v : Value} : cnt2 c (killTV d x) v = cnt2 c x v := by
 cases x with
 | place r => cases r <;> simp only [killTV] <;> first | rfl | (split <;> rfl)
 | el r z i k => cases r <;> simp only [killTV] <;> first | rfl | (split <;> rfl)
 | _ => rfl
theorem zkh {c d : Nat} {x : V} {v : Value} : cnt2 c (killLV d x) v = cnt2 c x v := by
 cases x with
 | place r => cases r <;> simp only [killLV] <;> first | rfl | (split <;> rfl)
 | el r z i k => cases r <;> simp only [killLV] <;> first | rfl | (split <;> rfl)
 | loc _ _ => simp only [killLV]; split <;> rfl
 | _ => rfl
theorem zn2 {c : Nat} {σ : Nat → V} {ts : Array Value} {d : Nat} {x : V} {v : Value} (h : d < ts.size) :
  cntT c (upd σ d x) (ts.setIfInBounds d v) + cnt2 c (σ d) (tsAt ts d) = cntT c σ ts + cnt2 c x v := by
 unfold cntT
 have := zb3 (n := ts.size) (f := fun s => cnt2 c (upd σ d x s) (tsAt (ts.setIfInBounds d v) s)) (g := fun s => cnt2 c (σ s) (tsAt ts s)) h
  (fun j _ hj => by simp [upd, hj, zgt h])
 simp only [upd, zgt h, if_true, Array.size_setIfInBounds] at this ⊢
 exact this
theorem zlN {c : Nat} {σ : Nat → V} {ts : Array Value} {d : Nat} (hd : ts.size ≤ d → σ d = .undef) :
  cntT c (upd σ d .undef) ts + cnt2 c (σ d) (tsAt ts d) = cntT c σ ts := by
 unfold cntT
 by_cases h : d < ts.size
 ·have := zb3 (n := ts.size) (f := fun s => cnt2 c (upd σ d .undef s) (tsAt ts s)) (g := fun s => cnt2 c (σ s) (tsAt ts s)) h
   (fun j _ hj => by simp [upd, hj])
  simp only [upd, if_true, zaT] at this ⊢
  omega
 ·rw [hd (by omega), zaT, Nat.add_zero]
  refine zaq fun i hi => ?_
  have : i ≠ d := by omega
  simp [upd, this]
theorem zdh {c : Nat} {σ σ' : Nat → V} {ts : Array Value} (h : ∀ s, cnt2 c (σ' s) (tsAt ts s) = cnt2 c (σ s) (tsAt ts s)) : cntT c σ' ts = cntT c σ ts :=
 zaq fun i _ => h i
theorem zcp {c : Nat} {σ : Nat → V} {ts : Array Value} {s : Nat} (h : s < ts.size) : cnt2 c (σ s) (tsAt ts s) ≤ cntT c σ ts :=
 za9 (f := fun s => cnt2 c (σ s) (tsAt ts s)) h
theorem zgb {c : Nat} {p : V × Value} {ps : List (V × Value)} (h : p ∈ ps) : cnt2 c p.1 p.2 ≤ cntP c ps := by
 induction ps with
 | nil => cases h
 | cons q qs ih =>
  rw [zap]
  cases h with
  | head => omega
  | tail _ h => have := ih h; omega
section
variable {g : G} {w : World} {nl : Nat} {fr : Nat → Nat} {S : Nat → Bool} {st : St} {ts : Array Value} {ps : List (V × Value)}
theorem SR.tot_temp (h : SR g w nl fr S st ts ps) {c s : Nat} (hc : 0 < cnt2 c (st.σ s) (tsAt ts s)) : 0 < zal g w nl fr st ts ps c := by
 by_cases hs : s < ts.size
 ·have := zcp (c := c) (σ := st.σ) hs
  unfold zal; omega
 ·rw [h.dead s (by omega), zaT] at hc; omega
theorem SR.tot_pend (_h : SR g w nl fr S st ts ps) {c : Nat} {p : V × Value} (hp : p ∈ ps) (hc : 0 < cnt2 c p.1 p.2) : 0 < zal g w nl fr st ts ps c := by
 have := zgb (c := c) hp
 unfold zal; omega
theorem SR.tot_pers (_h : SR g w nl fr S st ts ps) {c : Nat} (hc : g.pers c) : 0 < zal g w nl fr st ts ps c := by
 unfold zal za0; rw [if_pos hc]; omega
theorem SR.tot_box (h : SR g w nl fr S st ts ps) {j c : Nat} (hj : st.l j ≠ []) (hc : 0 < zbb g w c st.l j) : 0 < zal g w nl fr st ts ps c := by
 have := za9 (f := fun j => zbb g w c st.l j) (h.locs j hj).1
 unfold zal cntB; omega
theorem SR.tot_lb (h : SR g w nl fr S st ts ps) {j : Nat} (hj : st.l j ≠ []) : 0 < zal g w nl fr st ts ps (g.lb j) :=
 h.tot_box hj (by unfold zbb; rw [if_pos ⟨hj, rfl⟩]; omega)
theorem SR.tot_memOf (_h : SR g w nl fr S st ts ps) {b c : Nat} (hb : b < st.m.length) (hc : 0 < zaU g w c st.m b) : 0 < zal g w nl fr st ts ps c := by
 have := za9 (f := fun b => zaU g w c st.m b) hb
 unfold zal cntM; omega
theorem SR.tot_mb (h : SR g w nl fr S st ts ps) {b : Nat} (hb : b < st.m.length) : 0 < zal g w nl fr st ts ps (g.mb b) :=
 h.tot_memOf hb (by unfold zaU; rw [if_pos rfl]; omega)
theorem zk8 {n : Nat} {τ : Nat → Value} {x : V} {v : Value} {j o : Nat} (h : R3 g w n τ x v) (hr : x.root? = some (.loc j o)) : g.lv j ∧ ∃ y, w.cell? ⟨g.lb j, o, none⟩ = some y := by
 cases x <;> simp [V.root?] at hr
 ·subst hr
  obtain ⟨hl, a, len, cap, hc, _⟩ := h
  exact ⟨hl, _, hc⟩
 ·subst hr
  exact ⟨h.1, _, h.2⟩
theorem zgu {n : Nat} {τ : Nat → Value} {x : V} {v : Value} {b o : Nat} (h : R3 g w n τ x v) (hr : x.root? = some (.mem b o)) : b < n ∧ ∃ y, w.cell? ⟨g.mb b, o, none⟩ = some y := by
 cases x <;> simp [V.root?] at hr
 ·subst hr
  obtain ⟨hb, a, len, cap, hc, _⟩ := h
  exact ⟨hb, _, hc⟩
 ·subst hr
  exact ⟨h.1, _, h.2⟩
theorem zii {c o : Nat} {y : Value} (h : w.cell? ⟨c, o, none⟩ = some y) : c < w.heap.size := by
 unfold World.cell? at h
 simp only at h
 split at h
 ·rename_i h1; exact (yan.1 h1).1
 ·cases h
theorem SR.total_world (h : SR g w nl fr S st ts ps) {w' : World} (hk : ∀ c, c < w.heap.size → Same w w' c) (c : Nat) : zal g w' nl fr st ts ps c = zal g w nl fr st ts ps c := by
 have hcl : ∀ c cs, CBlk g w st.m.length c cs → cellsOf w' c = cellsOf w c := fun c cs hc => by
  obtain ⟨arr, e, hb, _⟩ := hc
  exact (hk _ hb.lt).cellsOf
 have hB : cntB g w' c nl st.l = cntB g w c nl st.l := zaq fun j _ => by
  unfold zbb
  by_cases hj : st.l j = []
  ·simp [hj, cntL, zaS]
  ·rw [hcl _ _ (h.locs j hj).2]
 have hM : cntM g w' c st.m = cntM g w c st.m := zaq fun b hb => by
  unfold zaU
  rw [hcl _ _ (h.mem b hb).1]
 unfold zal; rw [hB, hM]
theorem SR.world (h : SR g w nl fr S st ts ps) {w' : World} (hs : w.heap.size ≤ w'.heap.size) (hk : ∀ c, c < w.heap.size → Same w w' c) : SR g w' nl fr S st ts ps := by
 have hlt : ∀ c, 0 < zal g w nl fr st ts ps c → c < w.heap.size := fun c hc => by
  rcases Nat.lt_or_ge c w.heap.size with hl | hl
  ·exact hl
  ·rw [h.out c hl] at hc; omega
 have hS : ∀ c, 0 < zal g w nl fr st ts ps c → Same w w' c := fun c hc => hk c (hlt c hc)
 have hp : ∀ c, g.pers c → g.pers c ∧ Same w w' c := fun c hc => ⟨hc, hS c (h.tot_pers hc)⟩
 have hroot : ∀ {x v}, R3 g w st.m.length (tsAt ts) x v → ∀ r, x.root? = some r → zcg g w (tsAt ts) g w' (tsAt ts) r := fun {x v} hr r e => by
  cases r with
  | mem b o => obtain ⟨_, y, hy⟩ := zgu hr e; exact (hk _ (zii hy)).cell
  | loc j o => obtain ⟨hl, y, hy⟩ := zk8 hr e; exact fun _ => ⟨rfl, hl, (hk _ (zii hy)).cell⟩
  | tmp s => rfl
 have hT := h.total_world hk
 refine ⟨fun s => ?_, h.dead, h.peeks, fun p hp' => ?_, h.ppeeks, h.lvs, fun j hj => ?_, fun b hb => ?_, fun c => ?_, fun c hc => ?_⟩
 ·exact (h.temps s).mono hp (Nat.le_refl _) (fun _ _ => rfl) (fun c hc => hS c (h.tot_temp hc)) (fun _ _ _ => rfl) (hroot (h.temps s))
 ·exact (h.pend p hp').mono hp (Nat.le_refl _) (fun _ _ => rfl) (fun c hc => hS c (h.tot_pend hp' hc)) (fun _ _ _ => rfl) (hroot (h.pend p hp'))
 ·exact ⟨(h.locs j hj).1, (h.locs j hj).2.mono hp (Nat.le_refl _) (fun _ _ => rfl) (hS _ (h.tot_lb hj))
   (fun d hd => hS d (h.tot_box hj (by unfold zbb; omega)))⟩
 ·exact ⟨(h.mem b hb).1.mono hp (Nat.le_refl _) (fun _ _ => rfl) (hS _ (h.tot_mb hb)) (fun d hd => hS d (h.tot_memOf hb (by unfold zaU; omega))), (h.mem b hb).2⟩
 ·rw [hT]; exact h.one c
 ·rw [hT]; exact h.out c (by omega)
theorem SR.add (h : SR g w nl fr S st ts ps) {x : V} {v : Value} (hr : R3 g w st.m.length (tsAt ts) x v) (ho : x.hasOwn = false)
  (hpk : ∀ d, x.root? = some (.tmp d) → S d = true) : SR g w nl fr S st ts ((x, v) :: ps) := by
 have hT : ∀ c, zal g w nl fr st ts ((x, v) :: ps) c = zal g w nl fr st ts ps c := fun c => by
  unfold zal; rw [zap, zep ho]; omega
 exact { h with
  pend := fun p hp => by
   cases hp with
   | head => exact hr
   | tail _ hp => exact h.pend p hp
  ppeeks := fun p hp => by
   cases hp with
   | head => exact hpk
   | tail _ hp => exact h.ppeeks p hp
  one := fun c => by rw [hT]; exact h.one c
  out := fun c hc => by rw [hT]; exact h.out c hc }
theorem SR.sub (h : SR g w nl fr S st ts ps) {qs : List (V × Value)} (hm : ∀ q ∈ qs, q ∈ ps) (hc : ∀ c, cntP c qs ≤ cntP c ps) : SR g w nl fr S st ts qs := by
 have hT : ∀ c, zal g w nl fr st ts qs c ≤ zal g w nl fr st ts ps c := fun c => by have := hc c; unfold zal; omega
 exact { h with
  pend := fun p hp => h.pend p (hm p hp)
  ppeeks := fun p hp => h.ppeeks p (hm p hp)
  one := fun c => Nat.le_trans (hT c) (h.one c)
  out := fun c hc => by have := hT c; rw [h.out c hc] at this; omega }
theorem SR.drop {p : V × Value} (h : SR g w nl fr S st ts (p :: ps)) : SR g w nl fr S st ts ps :=
 h.sub (fun q hq => .tail _ hq) (fun c => by rw [zap]; omega)
theorem SR.turn {p : V × Value} (h : SR g w nl fr S st ts (p :: ps)) {x : V} {v : Value} (hr : R3 g w st.m.length (tsAt ts) x v)
  (hc : ∀ c, cnt2 c x v ≤ cnt2 c p.1 p.2) (hpk : ∀ d, x.root? = some (.tmp d) → S d = true) : SR g w nl fr S st ts ((x, v) :: ps) := by
 have hT : ∀ c, zal g w nl fr st ts ((x, v) :: ps) c ≤ zal g w nl fr st ts (p :: ps) c := fun c => by have := hc c; unfold zal; rw [zap, zap]; simp only; omega
 exact { h with
  pend := fun q hq => by
   cases hq with
   | head => exact hr
   | tail _ hq => exact h.pend q (.tail _ hq)
  ppeeks := fun q hq => by
   cases hq with
   | head => exact hpk
   | tail _ hq => exact h.ppeeks q (.tail _ hq)
  one := fun c => Nat.le_trans (hT c) (h.one c)
  out := fun c hc => by have := hT c; rw [h.out c hc] at this; omega }
theorem zki {d s : Nat} {x : V} {r : Root} (h : (killTV d x).root? = some r) : x.root? = some r ∧ (r = .tmp s → s ≠ d) := by
 cases x with
 | place r' =>
  cases r' with
  | tmp s' =>
   simp only [killTV] at h
   split at h
   ·simp [V.root?] at h
   ·rename_i hne; simp [V.root?] at h; subst h; exact ⟨rfl, fun e => by injection e with e; rw [← e]; exact hne⟩
  | _ => simp [killTV, V.root?] at h; subst h; exact ⟨rfl, by simp⟩
 | el r' z i k =>
  cases r' with
  | tmp s' =>
   simp only [killTV] at h
   split at h
   ·simp [V.root?] at h
   ·rename_i hne; simp [V.root?] at h; subst h; exact ⟨rfl, fun e => by injection e with e; rw [← e]; exact hne⟩
  | _ => simp [killTV, V.root?] at h; subst h; exact ⟨rfl, by simp⟩
 | _ => simp [killTV, V.root?] at h
theorem R3.tau {n : Nat} {τ τ' : Nat → Value} {x : V} {v : Value} (h : R3 g w n τ x v) (hr : ∀ s, x.root? = some (.tmp s) → τ' s = τ s) : R3 g w n τ' x v :=
 h.mono (fun _ hc => ⟨hc, Same.refl _ _⟩) (Nat.le_refl _) (fun _ _ => rfl) (fun _ _ => Same.refl _ _) (fun _ _ _ => rfl) (fun r e => by
  cases r with
  | mem b o => rfl
  | loc j o => exact fun hl => ⟨rfl, hl, rfl⟩
  | tmp s => exact hr s e)
theorem R3.killT {n : Nat} {τ : Nat → Value} {x : V} {v : Value} (d : Nat) (h : R3 g w n τ x v) : R3 g w n τ (killTV d x) v := by
 cases x with
 | place r => cases r <;> simp only [killTV] <;> first | exact h | (split <;> first | exact h | trivial)
 | el r z i k => cases r <;> simp only [killTV] <;> first | exact h | (split <;> first | exact h | trivial)
 | _ => exact h
theorem SR.put {x : V} {v : Value} (h : SR g w nl fr S st ts ((x, v) :: ps)) (kt : Bool) (d : Nat) (hd : d < ts.size) (hkt : kt = true ∨ S d = false)
  (hps : ∀ p ∈ ps, p.1.root? ≠ some (.tmp d)) (hx : x.root? ≠ some (.tmp d)) : SR g w nl fr S (st.put kt (some d) x) (ts.setIfInBounds d v) ps := by
 have hσ : ∀ s, (st.put kt (some d) x).σ s = if s = d then x else if kt then killTV d (st.σ s) else st.σ s := fun s => by
  simp only [St.put, upd]
  by_cases e : s = d
  ·simp [e]
  ·cases kt <;> simp [e, killT]
 have hcnt : ∀ c, cntT c (st.put kt (some d) x).σ (ts.setIfInBounds d v) + cnt2 c (st.σ d) (tsAt ts d) = cntT c st.σ ts + cnt2 c x v := fun c => by
  have h1 := zn2 (c := c) (σ := if kt then killT d st.σ else st.σ) (x := x) (v := v) hd
  have h2 : cntT c (if kt then killT d st.σ else st.σ) ts = cntT c st.σ ts := by
   cases kt
   ·rfl
   ·exact zdh fun s => zgI
  have h3 : cnt2 c ((if kt then killT d st.σ else st.σ) d) (tsAt ts d) = cnt2 c (st.σ d) (tsAt ts d) := by
   cases kt
   ·rfl
   ·exact zgI
  rw [h2, h3] at h1
  exact h1
 have hT : ∀ c, zal g w nl fr (st.put kt (some d) x) (ts.setIfInBounds d v) ps c ≤ zal g w nl fr st ts ((x, v) :: ps) c := fun c => by
  have := hcnt c
  unfold zal
  rw [zap]
  simp only [St.put] at *
  omega
 have hrt : ∀ s, s ≠ d → tsAt (ts.setIfInBounds d v) s = tsAt ts s := fun s hs => by rw [zgt hd, if_neg hs]
 have hnr : ∀ s r, s ≠ d → ((st.put kt (some d) x).σ s).root? = some r → (st.σ s).root? = some r ∧ r ≠ .tmp d := fun s r hs hr => by
  rw [hσ, if_neg hs] at hr
  cases kt with
  | true =>
   simp only [if_true] at hr
   have hr' := zki (s := d) hr
   exact ⟨hr'.1, fun e => (hr'.2 e) rfl⟩
  | false =>
   simp only [yas, if_false] at hr
   refine ⟨hr, fun e => ?_⟩
   subst e
   have := h.peeks s d hr
   rcases hkt with hkt | hkt
   ·cases hkt
   ·rw [hkt] at this; cases this
 refine ⟨fun s => ?_, fun s hs => ?_, fun s e hr => ?_, fun p hp => ?_, fun p hp => h.ppeeks p (.tail _ hp), h.lvs, fun j hj => h.locs j hj, fun b hb => h.mem b hb, fun c => Nat.le_trans (hT c) (h.one c), fun c hc => ?_⟩
 ·by_cases e : s = d
  ·subst e
   rw [hσ, if_pos rfl, zgt hd, if_pos rfl]
   refine R3.tau (h.pend _ (.head _)) fun s' hs' => ?_
   exact hrt s' fun e => hx (e ▸ hs')
  ·rw [hrt s e]
   have hbase : R3 g w st.m.length (tsAt ts) ((st.put kt (some d) x).σ s) (tsAt ts s) := by
    rw [hσ, if_neg e]
    cases kt
    ·exact h.temps s
    ·exact (h.temps s).killT d
   refine R3.tau hbase fun s' hs' => hrt s' fun e' => ?_
   exact (hnr s _ e hs').2 (by rw [e'])
 ·have hs' : ts.size ≤ s := by simpa using hs
  have e : s ≠ d := by omega
  rw [hσ, if_neg e, h.dead s hs']
  cases kt <;> rfl
 ·by_cases e' : s = d
  ·subst e'
   rw [hσ, if_pos rfl] at hr
   exact h.ppeeks _ (.head _) e hr
  ·exact h.peeks s e (hnr s _ e' hr).1
 ·refine R3.tau (h.pend p (.tail _ hp)) fun s' hs' => hrt s' fun e => hps p hp (e ▸ hs')
 ·have := hT c; rw [h.out c hc] at this; omega
theorem SR.take (h : SR g w nl fr S st ts ps) (s : Nat) : SR g w nl fr S { st with σ := upd st.σ s .undef } ts ((st.σ s, tsAt ts s) :: ps) := by
 have hT : ∀ c, zal g w nl fr { st with σ := upd st.σ s .undef } ts ((st.σ s, tsAt ts s) :: ps) c = zal g w nl fr st ts ps c := fun c => by
  have := zlN (c := c) (σ := st.σ) (ts := ts) (d := s) (h.dead s)
  unfold zal
  rw [zap]
  simp only
  omega
 have hσ : ∀ i, upd st.σ s .undef i = if i = s then .undef else st.σ i := fun i => rfl
 refine ⟨fun i => ?_, fun i hi => ?_, fun i d hr => ?_, fun p hp => ?_, fun p hp => ?_, h.lvs, fun j hj => h.locs j hj, fun b hb => h.mem b hb, fun c => by rw [hT]; exact h.one c, fun c hc => by rw [hT]; exact h.out c hc⟩
 ·simp only [hσ]; split
  ·trivial
  ·exact h.temps i
 ·simp only [hσ]; split
  ·rfl
  ·exact h.dead i hi
 ·simp only [hσ] at hr
  split at hr
  ·cases hr
  ·exact h.peeks i d hr
 ·cases hp with
  | head => exact h.temps s
  | tail _ hp => exact h.pend p hp
 ·cases hp with
  | head => exact h.peeks s
  | tail _ hp => exact h.ppeeks p hp
end
end Go.Proofs.YtakdnfneikbjjaaGreatDoor.Am

namespace Go.Proofs.YtakdnfneikbjjaaGreatDoor.Am
def zdK : Value → Option V
 | .bool b => some (.bool b)
 | .int k n => some (.int k n)
 | .string s => some (.str s.data.toList)
 | .pointer none => some .nilp
 | .slice none 0 0 => some .nils
 | .nilFunc => some .nilf
 | .nilIface => some .nili
 | _ => none
def zbj : List Value → Option (List V)
 | [] => some []
 | v :: r => (zdK v).bind fun x => (zbj r).bind fun xs => some (x :: xs)
def zk9 : Value → Option V
 | .agg cs => (zbj cs.toList).bind fun xs => some (.agg xs)
 | v => zdK v
theorem zgc {p : Nat → Prop} {w : World} {v : Value} {x : V} (h : zdK v = some x) : RB p w x v ∧ x.good = true ∧ x.ok0 = true := by
 unfold zdK at h
 split at h <;> simp at h <;> subst h
 ·exact ⟨.bool _, rfl, rfl⟩
 ·exact ⟨.int _ _, rfl, rfl⟩
 ·exact ⟨.str _, rfl, rfl⟩
 ·exact ⟨.nilp, rfl, rfl⟩
 ·exact ⟨.nils, rfl, rfl⟩
 ·exact ⟨.nilf, rfl, rfl⟩
 ·exact ⟨.nili, rfl, rfl⟩
theorem zbB {p : Nat → Prop} {w : World} : ∀ {vs : List Value} {xs : List V}, zbj vs = some xs →
  xs.length = vs.length ∧ (xs.all V.good = true) ∧ (xs.all V.ok0 = true) ∧ ∀ k, k < xs.length → RB p w (xs.getD k .undef) (vs.getD k undef)
 | [], xs, h => by simp [zbj] at h; subst h; exact ⟨rfl, rfl, rfl, fun k hk => absurd hk (by simp)⟩
 | v :: r, xs, h => by
  simp only [zbj] at h
  cases h1 : zdK v with
  | none => simp [h1] at h
  | some x =>
   cases h2 : zbj r with
   | none => simp [h1, h2] at h
   | some ys =>
    simp [h1, h2] at h
    subst h
    obtain ⟨hl, hg, ho, hk⟩ := zbB (p := p) (w := w) h2
    have h0 := zgc (p := p) (w := w) h1
    refine ⟨by simp [hl], by simp [h0.2.1, hg], by simp [h0.2.2, ho], fun k hlt => ?_⟩
    cases k with
    | zero => exact h0.1
    | succ k => simpa using hk k (by simpa using hlt)
theorem good_own {x : V} (h : x.good = true) : x.own0 = false := by
 cases x with
 | slice o sz xs => cases o <;> simp_all [V.good, V.own0]
 | _ => rfl
theorem zd1 {x : V} (h : x.good = true) : x.cellOk := by
 cases x <;> first | exact .inl rfl | (simp [V.good] at h; done) | skip
 rename_i f cs
 simp [V.good] at h
 exact .inl (by simp [V.ok0, h])
theorem RB.r1 {g : G} {w : World} {n : Nat} {x : V} {v : Value} (h : RB g.pers w x v) : R1 g w n x v := by
 cases h with
 | func f => exact ⟨#[], rfl, rfl, fun k hk => absurd hk (by simp)⟩
 | slice sz xs a cap vs hs hp hc hz hv hr => exact RB.slice sz xs a cap vs hs hp hc hz hv hr
 | bool b => exact RB.bool b
 | int k n => exact RB.int k n
 | str b => exact RB.str b
 | nilp => exact RB.nilp
 | nils => exact RB.nils
 | nilf => exact RB.nilf
 | nili => exact RB.nili
 | erri t x => exact RB.erri t x
theorem RB.good {p : Nat → Prop} {w : World} {x : V} {v : Value} (h : RB p w x v) : x.good = true := by
 cases h <;> rfl
theorem R1.rb {g : G} {w : World} {n : Nat} {x : V} {v : Value} (hg : x.good = true) (h : R1 g w n x v) : RB g.pers w x v := by
 cases x with
 | func f cs =>
  obtain ⟨vs, rfl, hs, _⟩ := h
  simp [V.good] at hg
  subst hg
  have : vs = #[] := by simpa using hs
  subst this
  exact .func f
 | slice o sz xs => cases o <;> first | exact h | simp [V.good] at hg
 | undef => simp [V.good] at hg
 | ptr _ _ => simp [V.good] at hg
 | loc _ _ => simp [V.good] at hg
 | ro _ _ => simp [V.good] at hg
 | el _ _ _ _ => simp [V.good] at hg
 | place _ => simp [V.good] at hg
 | agg _ => simp [V.good] at hg
 | tuple _ => simp [V.good] at hg
 | _ => exact h
theorem R1.r3 {g : G} {w : World} {n : Nat} {τ : Nat → Value} {x : V} {v : Value} (hok : x.cellOk) (h : R1 g w n x v) : R3 g w n τ x v := by
 cases x <;> first | exact h | skip
 all_goals first | exact h.elim | skip
 all_goals
  rename_i r
  rcases hok with hok | hok
  ·simp [V.ok0] at hok
  ·cases hok
theorem R3.r1 {g : G} {w : World} {n : Nat} {τ : Nat → Value} {x : V} {v : Value} (hok : x.cellOk) (h : R3 g w n τ x v) : R1 g w n x v := by
 cases x <;> first | exact h | skip
 all_goals
  rcases hok with hok | hok
  ·simp [V.ok0] at hok
  ·cases hok
theorem zn3 {g : G} {w : World} {n : Nat} {τ : Nat → Value} {v : Value} {x : V} (h : zk9 v = some x) :
  R3 g w n τ x v ∧ x.hasOwn = false ∧ x.root? = none := by
 have leaf : ∀ {v x}, zdK v = some x → R3 g w n τ x v ∧ x.hasOwn = false ∧ x.root? = none := fun {v x} h => by
  obtain ⟨hr, hg, _⟩ := zgc (p := g.pers) (w := w) h
  refine ⟨hr.r1.r3 (zd1 hg), ?_, zdZ (zd1 hg)⟩
  have := good_own hg
  cases x <;> simp_all [V.hasOwn, V.own1, V.good]
 cases v with
 | agg cs =>
  simp only [zk9] at h
  cases h2 : zbj cs.toList with
  | none => simp [h2] at h
  | some xs =>
   simp [h2] at h
   subst h
   obtain ⟨hl, hg, ho, hk⟩ := zbB (p := g.pers) (w := w) h2
   refine ⟨⟨cs, rfl, by simpa using hl.symm, fun k hlt => ⟨.inl ?_, ?_⟩⟩, ?_, rfl⟩
   ·have := yam.1 ho (xs.getD k .undef) (by simp [yad, yai hlt])
    exact this
   ·have := (hk k hlt).r1 (g := g) (n := n)
    simpa [yaf, yad] using this
   ·simp only [V.hasOwn, V.own1, List.any_eq_false]
    intro y hy
    have := yam.1 hg y hy
    simp [good_own this]
 | _ => exact leaf h
structure GExt (g g' : G) : Prop where
 pers : ∀ c, g.pers c → g'.pers c
 mb : g'.mb = g.mb
 lb : g'.lb = g.lb
 lv : g'.lv = g.lv
theorem GExt.refl (g : G) : GExt g g := ⟨fun _ h => h, rfl, rfl, rfl⟩
theorem GExt.trans {g g' g'' : G} (h : GExt g g') (k : GExt g' g'') : GExt g g'' :=
 ⟨fun c hc => k.pers c (h.pers c hc), k.mb.trans h.mb, k.lb.trans h.lb, k.lv.trans h.lv⟩
theorem zcg.gext {g g' : G} (h : GExt g g') {w : World} {τ : Nat → Value} (r : Root) : zcg g w τ g' w τ r := by
 cases r with
 | mem b o => rfl
 | loc j o => exact fun hl => ⟨by rw [h.lb], by rw [h.lv]; exact hl, rfl⟩
 | tmp s => rfl
theorem R3.gext {g g' : G} (h : GExt g g') {w : World} {n : Nat} {τ : Nat → Value} {x : V} {v : Value} (r : R3 g w n τ x v) : R3 g' w n τ x v :=
 r.mono (fun c hc => ⟨h.pers c hc, Same.refl _ _⟩) (Nat.le_refl _) (fun b _ => by rw [h.mb]) (fun _ _ => Same.refl _ _) (fun j _ _ => by rw [h.lb]) (fun r _ => zcg.gext h r)
theorem CBlk.gext {g g' : G} (h : GExt g g') {w : World} {n c : Nat} {cs : List V} (r : CBlk g w n c cs) : CBlk g' w n c cs :=
 r.mono (fun c hc => ⟨h.pers c hc, Same.refl _ _⟩) (Nat.le_refl _) (fun b _ => by rw [h.mb]) (Same.refl _ _) (fun _ _ => Same.refl _ _)
section
variable {g : G} {w : World} {nl : Nat} {fr : Nat → Nat} {S : Nat → Bool} {st : St} {ts : Array Value} {ps : List (V × Value)}
theorem SR.persist {x : V} {v : Value} (h : SR g w nl fr S st ts ((x, v) :: ps)) {y : V} (g' : G) (hg : GExt g g')
  (hnew : ∀ c, g'.pers c → g.pers c ∨ 0 < cnt2 c x v) (hy : R3 g' w st.m.length (tsAt ts) y v) (ho : y.hasOwn = false)
  (hpk : ∀ d, y.root? = some (.tmp d) → S d = true) : SR g' w nl fr S st ts ((y, v) :: ps) := by
 have hT : ∀ c, zal g' w nl fr st ts ((y, v) :: ps) c ≤ zal g w nl fr st ts ((x, v) :: ps) c := fun c => by
  have h1 : cntB g' w c nl st.l = cntB g w c nl st.l := zaq fun j _ => by unfold zbb; rw [hg.lb]
  have h2 : cntM g' w c st.m = cntM g w c st.m := zaq fun b _ => by unfold zaU; rw [hg.mb]
  have h3 : za0 g' c ≤ za0 g c + cnt2 c x v := by
   unfold za0
   by_cases hp : g'.pers c
   ·rw [if_pos hp]
    rcases hnew c hp with hq | hq
    ·rw [if_pos hq]; omega
    ·omega
   ·rw [if_neg hp]; omega
  unfold zal
  rw [zap, zap, h1, h2, zep ho]
  simp only
  omega
 refine ⟨fun s => (h.temps s).gext hg, h.dead, h.peeks, fun p hp => ?_, fun p hp => ?_, fun j => by rw [hg.lv]; exact h.lvs j, fun j hj => ?_, fun b hb => ?_, fun c => Nat.le_trans (hT c) (h.one c), fun c hc => ?_⟩
 ·cases hp with
  | head => exact hy
  | tail _ hp => exact (h.pend p (.tail _ hp)).gext hg
 ·cases hp with
  | head => exact hpk
  | tail _ hp => exact h.ppeeks p (.tail _ hp)
 ·rw [hg.lb]; exact ⟨(h.locs j hj).1, (h.locs j hj).2.gext hg⟩
 ·rw [hg.mb]; exact ⟨(h.mem b hb).1.gext hg, (h.mem b hb).2⟩
 ·have := hT c; rw [h.out c hc] at this; omega
theorem zhP {x : V} : x.share0.own0 = false := by
 cases x <;> rfl
theorem zd2 {x : V} (h : x.cellOk) : x.share0.cellOk := by
 cases x with
 | slice o sz xs => exact .inl rfl
 | _ => exact h
theorem R1.share {n : Nat} {x : V} {v : Value} (h : R1 g w n x v) {g' : G} (hg : GExt g g') (hn : ∀ c, 0 < cnt0 c x v → g'.pers c) : R1 g' w n x.share0 v := by
 have base : x.share0 = x → R1 g' w n x v := fun _ =>
  R1.mono (τ := fun _ => undef) (τ' := fun _ => undef) (fun c hc => ⟨hg.pers c hc, Same.refl _ _⟩) (Nat.le_refl _) (fun b _ => by rw [hg.mb]) (fun _ _ => Same.refl _ _) (fun j _ _ => by rw [hg.lb])
   (fun r _ => zcg.gext hg r) h
 cases x with
 | slice o sz xs =>
  cases o with
  | false => exact base rfl
  | true =>
   obtain ⟨a, cap, arr, e, rfl, hs, hc, hk, ho, he⟩ := (h : OwnS g.pers w sz xs v)
   exact RB.slice_iff.2 ⟨a, cap, rfl, fun _ => hs, fun _ => hn _ (by simp [cnt0]), hc, he.mono (fun c hc => ⟨hg.pers c hc, Same.refl _ _⟩) (Same.refl _ _)⟩
 | _ => exact base rfl
theorem zcQ {cs : List V} {k : Nat} : (cs.map V.share0).getD k .undef = (cs.getD k .undef).share0 := by
 simp only [yad, List.getElem?_map]
 cases cs[k]? <;> rfl
theorem SR.share {x : V} {v : Value} (h : SR g w nl fr S st ts ((x, v) :: ps)) : ∃ g', GExt g g' ∧ SR g' w nl fr S st ts ((x.share, v) :: ps) := by
 by_cases htup : ∃ vs, x = .tuple vs
 ·obtain ⟨vs, rfl⟩ := htup
  exact ⟨g, .refl _, h⟩
 obtain ⟨g', hg, hn⟩ : ∃ g' : G, GExt g g' ∧ ∀ c, g'.pers c ↔ (g.pers c ∨ 0 < cnt2 c x v) :=
  ⟨{ g with pers := fun c => g.pers c ∨ 0 < cnt2 c x v }, ⟨fun c hc => Or.inl hc, rfl, rfl, rfl⟩, fun c => Iff.rfl⟩
 refine ⟨g', hg, ?_⟩
 have hx := h.pend _ (.head _)
 refine h.persist _ hg (fun c hc => (hn c).1 hc) ?_ ?_ ?_
 ·cases x with
  | tuple vs => exact absurd ⟨vs, rfl⟩ htup
  | agg cs =>
   obtain ⟨arr, rfl, hs, hk⟩ := hx
   refine ⟨arr, rfl, by simpa using hs, fun k hlt => ?_⟩
   have hlt' : k < cs.length := by simpa using hlt
   rw [zcQ]
   refine ⟨zd2 (hk k hlt').1, (hk k hlt').2.share hg fun c hc => (hn c).2 (Or.inr ?_)⟩
   have := zdm (c := c) (xs := cs) (vs := arr) hlt'
   simp only [cnt2, cnt1]; omega
  | slice o sz xs =>
   exact (R1.share (g := g) hx hg fun c hc => (hn c).2 (Or.inr (by simpa [cnt2, cnt1] using hc)))
  | _ => exact R3.gext hg hx
 ·cases x with
  | tuple vs => exact absurd ⟨vs, rfl⟩ htup
  | agg cs =>
   simp only [V.share, V.hasOwn, V.own1, List.any_eq_false]
   intro y hy
   obtain ⟨z, _, rfl⟩ := List.mem_map.1 hy
   simp [zhP]
  | _ => rfl
 ·intro d hd
  have : x.root? = some (.tmp d) := by
   cases x <;> first | exact hd | (simp [V.share, V.share0, V.root?] at hd)
  exact h.ppeeks _ (.head _) d this
def za7 (S : Nat → Bool) : Operand → Opd → Prop
 | .tmp s, .t s' => s = s'
 | .tmp s, .u s' how => s = s' ∧ (how = .peek → S s = true)
 | .const v, .c x => zk9 v = some x
 | .func f, .c x => x = .func f []
 | _, _ => False
theorem SR.getC {a : Act} (h : SR g w nl fr S st a.tmps ps) {x : Operand} {o : Opd} (ho : za7 S x o) {v : V} (hv : getC st o = some v) :
  R3 g w st.m.length (tsAt a.tmps) v (a.eval x) ∧ v.hasOwn = false ∧ ∀ d, v.root? = some (.tmp d) → S d = true := by
 cases o with
 | c y =>
  simp only [Am.getC, yaa] at hv
  subst hv
  cases x with
  | const u => have := zn3 (g := g) (w := w) (n := st.m.length) (τ := tsAt a.tmps) ho; exact ⟨this.1, this.2.1, fun d hd => by rw [this.2.2] at hd; cases hd⟩
  | func f =>
   have : y = .func f [] := ho
   subst this
   exact ⟨⟨#[], rfl, rfl, fun k hk => absurd hk (by simp)⟩, rfl, fun d hd => by cases hd⟩
  | tmp s => exact ho.elim
  | global gl => exact ho.elim
 | t s =>
  cases x with
  | tmp s' =>
   have : s' = s := ho
   subst this
   simp only [Am.getC] at hv
   split at hv
   ·cases hv
   ·rename_i hn
    simp only [yaa] at hv
    subst hv
    exact ⟨h.temps s', by simpa using hn, h.peeks s'⟩
  | _ => exact ho.elim
 | u s how =>
  cases x with
  | tmp s' =>
   obtain ⟨rfl, hp⟩ := ho
   cases how with
   | peek =>
    simp only [Am.getC, yaa] at hv
    subst hv
    exact ⟨rfl, rfl, fun d hd => by simp [V.root?] at hd; subst hd; exact hp rfl⟩
   | _ => simp [Am.getC] at hv
  | _ => exact ho.elim
theorem SR.getO {a : Act} (h : SR g w nl fr S st a.tmps ps) {x : Operand} {o : Opd} (ho : za7 S x o) {v : V} {st' : St} (hv : getO st o = some (v, st')) :
  ∃ g', GExt g g' ∧ SR g' w nl fr S st' a.tmps ((v, a.eval x) :: ps) ∧ st'.m = st.m ∧ st'.l = st.l := by
 have byC : Am.getC st o = some v → st' = st → ∃ g', GExt g g' ∧ SR g' w nl fr S st' a.tmps ((v, a.eval x) :: ps) ∧ st'.m = st.m ∧ st'.l = st.l := fun hc he => by
  subst he
  obtain ⟨h1, h2, h3⟩ := h.getC ho hc
  exact ⟨g, .refl _, h.add h1 h2 h3, rfl, rfl⟩
 cases o with
 | c y =>
  simp only [Am.getO, yaa, yac] at hv
  exact byC (by simp [Am.getC, hv.1]) hv.2.symm
 | t s =>
  simp only [Am.getO] at hv
  split at hv
  ·cases hv
  ·rename_i hn
   simp only [yaa, yac] at hv
   exact byC (by simp only [Am.getC]; rw [if_neg hn, hv.1]) hv.2.symm
 | u s how =>
  cases x with
  | tmp s' =>
   obtain ⟨rfl, hp⟩ := ho
   cases how with
   | copy =>
    simp only [Am.getO] at hv
    split at hv
    ·cases hv
    ·rename_i hn
     simp only [yaa, yac] at hv
     obtain ⟨rfl, rfl⟩ := hv
     exact ⟨g, .refl _, h.add (h.temps s') (by simpa using hn) (h.peeks s'), rfl, rfl⟩
   | take =>
    simp only [Am.getO, yaa, yac] at hv
    obtain ⟨rfl, rfl⟩ := hv
    exact ⟨g, .refl _, h.take s', rfl, rfl⟩
   | share =>
    simp only [Am.getO, yaa, yac] at hv
    obtain ⟨rfl, rfl⟩ := hv
    obtain ⟨g', hg, hs⟩ := (h.take s').share
    exact ⟨g', hg, hs, rfl, rfl⟩
   | peek =>
    simp only [Am.getO, yaa, yac] at hv
    obtain ⟨rfl, rfl⟩ := hv
    exact ⟨g, .refl _, h.add rfl rfl (fun d hd => by simp [V.root?] at hd; subst hd; exact hp rfl), rfl, rfl⟩
  | _ => exact ho.elim
end
end Go.Proofs.YtakdnfneikbjjaaGreatDoor.Am

namespace Go.Proofs.YtakdnfneikbjjaaGreatDoor.Am
structure Hint where
 uses : List (Nat × Use) := []
 mode : Use := .copy
 box : Option Nat := none
 mark : Mark := .none
 lend : Bool := false
 pure : Bool := false
 past : List Nat := []
 name : Option Nat := none
def cO (S : Nat → Bool) (h : Hint) : Operand → Option Opd
 | .tmp s => match h.uses.lookup s with
  | some how => if how = .peek ∧ S s = false then none else some (.u s how)
  | none => some (.t s)
 | .const v => (zk9 v).map .c
 | .func f => some (.c (.func f []))
 | .global _ => none
def cOs (S : Nat → Bool) (h : Hint) : List Operand → Option (List Opd)
 | [] => some []
 | x :: xs => (cO S h x).bind fun o => (cOs S h xs).bind fun os => some (o :: os)
def cOo (S : Nat → Bool) (h : Hint) : Option Operand → Option (Option Opd)
 | none => some none
 | some x => (cO S h x).map some
theorem za5 {S : Nat → Bool} {h : Hint} {x : Operand} {o : Opd} (hc : cO S h x = some o) : za7 S x o := by
 cases x with
 | tmp s =>
  simp only [cO] at hc
  split at hc
  ·rename_i how _
   split at hc
   ·cases hc
   ·rename_i hn
    cases hc
    exact ⟨rfl, fun e => by cases hS : S s <;> simp_all⟩
  ·cases hc; rfl
 | const v =>
  simp only [cO, yah] at hc
  obtain ⟨y, hy, rfl⟩ := hc
  exact hy
 | func f => simp only [cO, yaa] at hc; subst hc; rfl
 | global _ => cases hc
def zeq (S : Nat → Bool) : List Operand → List Opd → Prop
 | [], [] => True
 | x :: xs, o :: os => za7 S x o ∧ zeq S xs os
 | _, _ => False
theorem zfl {S : Nat → Bool} {h : Hint} : ∀ {xs : List Operand} {os : List Opd}, cOs S h xs = some os → zeq S xs os
 | [], os, hc => by simp only [cOs, yaa] at hc; subst hc; trivial
 | x :: xs, os, hc => by
  simp only [cOs] at hc
  cases h1 : cO S h x with
  | none => simp [h1] at hc
  | some o =>
   cases h2 : cOs S h xs with
   | none => simp [h1, h2] at hc
   | some os' =>
    simp [h1, h2] at hc
    subst hc
    exact ⟨za5 h1, zfl h2⟩
def zdL (P : Program) (t : TypeId) : Option (List V) := (P.info? t).bind fun i => i.zero.bind fun v => zbj v.cells.toList
def za2 (P : Program) (t : TypeId) : Option Nat := (P.info? t).map (·.size)
def zoZ (P : Program) (t : TypeId) : Option Bool :=
 match P.underlying t with
 | some (.struct _) | some (.array _ _) => some true
 | some _ => some false
 | none => none
def zfm (P : Program) (t : TypeId) : Option (Bool × Nat) :=
 match zoZ P t with
 | some true => (za2 P t).map fun n => (true, n)
 | some false => some (false, 1)
 | none => none
def zgJ (F : TypeId → Option (List LK)) : Nat → List Field → Option (List LK)
 | _, [] => some []
 | n, f :: fs => if f.name ≠ "_" ∧ f.offset = n then (F f.type).bind fun ks => (zgJ F (n + ks.length) fs).bind fun r => some (ks ++ r) else none
def zgK (P : Program) : Nat → TypeId → Option (List LK)
 | 0, _ => none
 | d + 1, t => match P.underlying t with
  | some .bool => some [.bool]
  | some (.int _) => some [.int]
  | some .string => some [.str]
  | some (.struct fs) => if P.stoodInHeld t then none else (zgJ (zgK P d) 0 fs.toList).bind fun ks => if za2 P t = some ks.length then some ks else none
  | _ => none
def zcq (P : Program) (fs : List Field) : Option (List (Nat × Nat)) :=
 match fs with
 | [] => some []
 | f :: r => (za2 P f.type).bind fun n => (zcq P r).bind fun q => some ((f.offset, n) :: q)
def zgL (S : Nat → Bool) (h : Hint) (place : Nat → Option (Nat × Nat)) : List (Nat × Operand) → Option (List (Nat × Nat × Opd))
 | [] => some []
 | (i, x) :: r => (place i).bind fun p => (cO S h x).bind fun o => (zgL S h place r).bind fun q => some ((p.1, p.2, o) :: q)
def zhQ (S : Nat → Bool) (h : Hint) : List (Nat × Operand) → Option (List (Nat × Opd))
 | [] => some []
 | (i, x) :: r => (cO S h x).bind fun o => (zhQ S h r).bind fun q => some ((i, o) :: q)
def zps : BinOp → Bool
 | .neq => true
 | _ => false
def cEq (P : Program) (op : BinOp) (t : TypeId) (x y : Opd) : Option AOp :=
 let neg := zps op
 match P.underlying t with
 | some .bool => some (.eq neg .bool x y)
 | some (.pointer _) => some (.eq neg .ptr x y)
 | some (.slice _) => some (.eq neg .slice x y)
 | some (.func _ _ _) => some (.eq neg .func x y)
 | some (.interface _) => match y with
  | .c .nili => some (.eq neg .iface x y)
  | _ => none
 | some (.struct _) => if P.eqGuardType P.depth t then none else (zgK P 50 t).map fun ks => .eq neg (.plain ks) x y
 | some (.int _) => some (.bin op x y)
 | some .string => some (.bin op x y)
 | _ => none
def zpt (S : Nat → Bool) (h : Hint) (P : Program) (c : Call) : Option AOp :=
 match c.callee, c.args.toList with
 | .value (.func f), args => match P.funcs[f]? with
  | some fn => if fn.body.isSome ∧ fn.name ≠ "runtime.NumGoroutine" then (cOs S h args).map fun os => if h.pure then (if h.lend then .callL f os else .callP f os) else match h.past with | [] => .callF f os | ss => .callN f os (ss.map .t) else none
  | none => none
 | .value (.tmp s), args => (cO S h (.tmp s)).bind fun o => (cOs S h args).map fun os => .callV o os
 | .builtin .len, [x] => match c.argTypes[0]? with
  | some t => match P.underlying t with
   | some .string => (cO S h x).map .lenStr
   | some (.slice _) => (cO S h x).map .lenSl
   | some (.array n _) => some (.lenC n)
   | _ => none
  | none => none
 | .builtin .append, [x, y] => match c.argTypes.toList with
  | [t, u] => match P.underlying t with
   | some (.slice e) => match P.info? e, zdL P e, P.underlying u with
    | some i, some z, some (.slice _) => if i.bytes ≤ 4096 ∧ z.length = i.size ∧ 0 < i.size then (cO S h x).bind fun o => (cO S h y).map fun q => .append i.size o q else none
    | some i, some z, some .string => if i.bytes ≤ 4096 ∧ z.length = i.size ∧ i.size = 1 then (cO S h x).bind fun o => (cO S h y).map fun q => .append i.size o q else none
    | _, _, _ => none
   | _ => none
  | _ => none
 | .builtin .min, x :: ys => (cO S h x).bind fun o => (cOs S h ys).map fun os => .minMax false o os
 | .builtin .max, x :: ys => (cO S h x).bind fun o => (cOs S h ys).map fun os => .minMax true o os
 | _, _ => none
def cOp (P : Program) [Lay P] (S : Nat → Bool) (h : Hint) (op : Op) : Option AOp :=
 match op with
 | .move x | .assign x => match x, h.mode with
  | .tmp s, .share => if S s = false then some (.mvK s) else none
  | x, _ => (cO S h x).map .mv
 | .pick c a b => (cO S h c).bind fun c => (cO S h a).bind fun a => (cO S h b).map fun b => .pick c a b
 | .alloc e => match zdL P e with
  | some z => match h.box with
   | some j => some (.allocL j z)
   | none => some (.allocM z)
  | none => none
 | .box _ x => match h.box with
  | some j => (cO S h x).map fun o => .boxL j o
  | none => (cO S h x).map fun o => .boxM o
 | .build t parts => match P.underlying t, zdL P t with
  | some (.struct fs), some z => (zcq P fs.toList).bind fun pl => (zgL S h (pl[·]?) parts.toList).map fun ps => .build z ps
  | some (.array _ e), some z => (za2 P e).bind fun n => (zgL S h (fun i => some (i * n, n)) parts.toList).map fun ps => .build z ps
  | _, _ => none
 | .buildSlice t len parts => match P.underlying t with
  | some (.slice e) => match P.info? e, zdL P e with
   | some i, some z => if z.length = i.size ∧ len * i.size ≤ 16777216 ∧ 0 < i.size then (zhQ S h parts.toList).map fun ps => .buildSlice i.size z len ps else none
   | _, _ => none
  | _ => none
 | .load t p => (zfm P t).bind fun q => (cO S h p).map fun o => match h.past with | [] => .load q.1 q.2 o h.mode | w :: ss => .loadW h.mode q.1 q.2 o (.t w) (ss.map .t)
 | .store t p x => (za2 P t).bind fun n => (cO S h p).bind fun o => (cO S h x).map fun y => .store n o y
 | .nilCheck x => (cO S h x).map .nilCheck
 | .binOp op t x y _ => (cO S h x).bind fun x => (cO S h y).bind fun y => match op with
  | .eql | .neq => cEq P op t x y
  | _ => some (.bin op x y)
 | .unOp op _ x => (cO S h x).map (.un op)
 | .convert src dst x => (cO S h x).bind fun o => match P.underlying src, P.underlying dst with
  | some (.int _), some (.int k) => some (.conv k o)
  | some .string, some .string => some (.strStr o)
  | some .string, some (.slice e) => match P.underlying e with
   | some (.int .u8) => some (.strBytes o)
   | _ => none
  | some (.slice e), some .string => match P.underlying e with
   | some (.int .u8) => some (.bytesStr o)
   | _ => none
  | some (.int _), some .string => some (.intStr o)
  | some (.slice e), some (.slice _) => match P.underlying e with
   | some (.int .u8) => if src = dst then some (.convB o) else none
   | _ => none
  | _, _ => none
 | .makeSlice t l c => match P.underlying t with
  | some (.slice e) => match P.info? e, zdL P e with
   | some i, some z => if i.bytes ≤ 4096 ∧ z.length = i.size ∧ 0 < i.size then (cO S h l).bind fun l => (cO S h c).map fun c => .makeSlice i.size z l c else none
   | _, _ => none
  | _ => none
 | .slice t x lo hi none => match P.underlying t with
  | some .string => (cO S h x).bind fun o => (cOo S h lo).bind fun l => (cOo S h hi).map fun r => .sliceS o l r
  | some (.slice e) => (za2 P e).bind fun n => (cO S h x).bind fun o => (cOo S h lo).bind fun l => (cOo S h hi).map fun r => .sliceV n o l r
  | _ => none
 | .fieldAddr s x f => match P.underlying s with
  | some (.struct fs) => match fs[f]? with
   | some fd => match za2 P fd.type with
    | some n => if n = 0 then none else (cO S h x).map (.fieldAddr fd.offset)
    | none => none
   | none => none
  | _ => none
 | .field t x f => match P.underlying t with
  | some (.struct fs) => match fs[f]? with
   | some fd => (zfm P fd.type).bind fun q => (cO S h x).map (.field q.1 q.2 fd.offset)
   | none => none
  | _ => none
 | .indexAddr t (.global g) i => match P.underlying t with
  | some (.array len e) => ((Lay.tab P).lookup g).bind fun q => if za2 P e = some q.1 ∧ len = q.2.length then (cO S h i).map fun j => .indexSl q.1 (.c (.slice false q.1 q.2)) j else none
  | _ => none
 | .indexAddr t x i => match P.underlying t with
  | some (.array len e) => (za2 P e).bind fun n => (cO S h x).bind fun o => (cO S h i).map fun j => .indexArr len n o j
  | some (.slice e) => (za2 P e).bind fun n => (cO S h x).bind fun o => (cO S h i).map fun j => .indexSl n o j
  | _ => none
 | .index t x i => match P.underlying t with
  | some (.array len e) => (zfm P e).bind fun q => (za2 P e).bind fun n => if n = q.2 then (cO S h x).bind fun o => (cO S h i).map fun j => .indexAgg q.1 len n o j else none
  | some .string => (cO S h x).bind fun o => (cO S h i).map fun j => .indexStr o j
  | _ => none
 | .extract x i => (cO S h x).map fun o => .extract o i
 | .call c => zpt S h P c
 | .makeFunc (.func f) first captured => if first.size = 0 then (cOs S h captured.toList).map fun os => .mkFunc f os else none
 | _ => none
end Go.Proofs.YtakdnfneikbjjaaGreatDoor.Am

namespace Go.Proofs.YtakdnfneikbjjaaGreatDoor.Am
structure Ext (fr : Nat → Nat) (n0 : Nat) (g : G) (w : World) (g' : G) (w' : World) : Prop where
 os : w'.os = w.os
 tape : w'.tape = w.tape
 output : w'.output = w.output
 size : w.heap.size ≤ w'.heap.size
 pers : ∀ c, g.pers c → g'.pers c ∧ Same w w' c
 frame : ∀ c, 0 < fr c → Same w w' c
 mb : ∀ b, b < n0 → g'.mb b = g.mb b
theorem Ext.refl (fr : Nat → Nat) (n0 : Nat) (g : G) (w : World) : Ext fr n0 g w g w :=
 ⟨rfl, rfl, rfl, Nat.le_refl _, fun _ h => ⟨h, Same.refl _ _⟩, fun _ _ => Same.refl _ _, fun _ _ => rfl⟩
theorem Ext.trans {fr : Nat → Nat} {n0 n1 : Nat} {g g' g'' : G} {w w' w'' : World} (h : Ext fr n0 g w g' w') (k : Ext fr n1 g' w' g'' w'') (hn : n0 ≤ n1) : Ext fr n0 g w g'' w'' :=
 ⟨k.os.trans h.os, k.tape.trans h.tape, k.output.trans h.output, Nat.le_trans h.size k.size,
  fun c hc => let ⟨h1, h2⟩ := h.pers c hc; let ⟨k1, k2⟩ := k.pers c h1; ⟨k1, Eq.trans k2 h2⟩,
  fun c hc => Eq.trans (k.frame c hc) (h.frame c hc), fun b hb => (k.mb b (by omega)).trans (h.mb b hb)⟩
theorem Ext.gext {fr : Nat → Nat} {n0 : Nat} {g g' : G} (h : GExt g g') (w : World) : Ext fr n0 g w g' w :=
 ⟨rfl, rfl, rfl, Nat.le_refl _, fun c hc => ⟨h.pers c hc, Same.refl _ _⟩, fun _ _ => Same.refl _ _, fun b _ => by rw [h.mb]⟩
def Laid (P : Program) [Lay P] (g : G) (w : World) : Prop := (∀ t ∈ Lay.tab P, g.pers t.1 ∧ zdl g.pers w ⟨t.1, 0, none⟩ t.2.1 t.2.2) ∧
 ∀ t ∈ Lay.ints P, g.pers t.1 ∧ P.globalNamed t.2.1 = some t.1 ∧ w.var? P t.2.1 = some (t.2.2.2.map fun z => Value.int t.2.2.1 z).toArray
theorem Laid.mono {P : Program} [Lay P] {g g' : G} {w w' : World} (h : Laid P g w) (hp : ∀ c, g.pers c → g'.pers c ∧ Same w w' c) : Laid P g' w' :=
 ⟨fun t ht => ⟨(hp _ (h.1 t ht).1).1, (h.1 t ht).2.mono hp (hp _ (h.1 t ht).1).2⟩, fun t ht => by
  obtain ⟨h1, h2, h3⟩ := h.2 t ht
  refine ⟨(hp _ h1).1, h2, ?_⟩
  rw [← h3]
  unfold World.var?
  rw [h2]
  have hs : w'.heap[t.1]? = w.heap[t.1]? := (hp _ h1).2
  simp only [Option.bind_some, hs]⟩
theorem Laid.ext {P : Program} [Lay P] {fr : Nat → Nat} {n0 : Nat} {g g' : G} {w w' : World} (h : Laid P g w) (hE : Ext fr n0 g w g' w') : Laid P g' w' := h.mono hE.pers
theorem Laid.gext {P : Program} [Lay P] {g g' : G} {w : World} (h : Laid P g w) (hE : GExt g g') : Laid P g' w := h.mono fun c hc => ⟨hE.pers c hc, Same.refl _ _⟩
theorem Laid.same {P : Program} [Lay P] {g g' : G} {w : World} (h : Laid P g w) (hE : g'.pers = g.pers) : Laid P g' w := h.mono fun c hc => ⟨by rw [hE]; exact hc, Same.refl _ _⟩
def zc7 (P : Program) [Lay P] (f : Nat) (args : List V) (m : List (List V)) (r : V) (m' : List (List V)) : Prop :=
 ∀ (g : G) (w : World) (fr : Nat → Nat) (vs : Array Value), vs.size = args.length → args.all V.okArg = true → Laid P g w →
  SR g w 0 fr (fun _ => false) ⟨fun _ => .undef, fun _ => [], m⟩ #[] (args.zip vs.toList) →
  Calls P f vs w fun e w' => ∃ v g', e = .returned v ∧ SR g' w' 0 fr (fun _ => false) ⟨fun _ => .undef, fun _ => [], m'⟩ #[] [(r, v)] ∧
   Ext fr m.length g w g' w' ∧ m.length ≤ m'.length ∧ (∀ x, r.root? ≠ some x) ∧ ∀ j o, r ≠ .loc j o
def Good (P : Program) [Lay P] (cf : CF) : Prop := ∀ f args m r m', cf f args m = some (r, m') → (∃ fn, P.funcs[f]? = some fn ∧ fn.body.isSome = true ∧ (fn.name == "runtime.NumGoroutine") = false) ∧ zc7 P f args m r m'
structure GoodW (P : Program) [Lay P] (cf : CF) (g : G) (w : World) : Prop where
 good : Good P cf
 laid : Laid P g w
def OpOK (P : Program) [Lay P] (S : Nat → Bool) (nl : Nat) (oc : Oper) (o : AOp) : Prop :=
 ∀ (cf : CF) (g : G) (w : World) (fr : Nat → Nat) (st : St) (a : Act) (x : V) (st' : St), GoodW P cf g w → SR g w nl fr S st a.tmps [] → evalOp cf st o = some (x, st') →
  ∀ (K : Act → World → Prop) (Q : Exit → Act → World → Prop),
   (∀ v g' w', SR g' w' nl fr S st' a.tmps [(x, v)] → Ext fr st.m.length g w g' w' → st.m.length ≤ st'.m.length → K (a.put oc.dst v) w') → oc.wp P a w K Q
section
variable {P : Program} {oc : Oper} {a : Act} {w w' : World} {K : Act → World → Prop} {Q : Exit → Act → World → Prop} {v : Value}
theorem za6 (h : (execOp a.eval oc).run P w = .ok (.value v) w') (k : K (a.put oc.dst v) w') : oc.wp P a w K Q := by
 unfold Oper.wp; rw [h]; exact k
theorem zij (h : (execOp a.eval oc).run P w = .ok .skip w') (k : K (a.put oc.dst undef) w') : oc.wp P a w K Q := by
 unfold Oper.wp; rw [h]; exact k
end
section
variable {g : G} {w : World} {n : Nat} {τ : Nat → Value} {v : Value}
theorem R3.int {k : IntKind} {m : Int} (h : R3 g w n τ (.int k m) v) : v = .int k m := by
 have h' : RB g.pers w (.int k m) v := h
 cases h'; rfl
theorem R3.bool {b : Bool} (h : R3 g w n τ (.bool b) v) : v = .bool b := by
 have h' : RB g.pers w (.bool b) v := h
 cases h'; rfl
theorem R3.str {s : List UInt8} (h : R3 g w n τ (.str s) v) : ∃ b : ByteArray, v = .string b ∧ b.data.toList = s := by
 have h' : RB g.pers w (.str s) v := h
 cases h' with | str b => exact ⟨b, rfl, rfl⟩
theorem R3.nilp (h : R3 g w n τ .nilp v) : v = .pointer none := by
 have h' : RB g.pers w .nilp v := h
 cases h'; rfl
theorem R3.nils (h : R3 g w n τ .nils v) : v = .slice none 0 0 := by
 have h' : RB g.pers w .nils v := h
 cases h'; rfl
theorem R3.nilf (h : R3 g w n τ .nilf v) : v = .nilFunc := by
 have h' : RB g.pers w .nilf v := h
 cases h'; rfl
theorem R3.erri (h : R3 g w n τ .erri v) : ∃ t x, v = .iface t x := by
 have h' : RB g.pers w .erri v := h
 cases h'; exact ⟨_, _, rfl⟩
theorem R3.nili (h : R3 g w n τ .nili v) : v = .nilIface := by
 have h' : RB g.pers w .nili v := h
 cases h'; rfl
theorem R3.sliceF {sz : Nat} {xs : List (List V)} (h : R3 g w n τ (.slice false sz xs) v) :
  ∃ a cap, v = .slice (some a) xs.length cap ∧ (0 < cap → a.spot = none) ∧ (0 < cap → g.pers a.block) ∧ xs.length ≤ cap ∧ zdl g.pers w a sz xs := RB.slice_iff.1 h
theorem R3.sliceT {sz : Nat} {xs : List (List V)} (h : R3 g w n τ (.slice true sz xs) v) : OwnS g.pers w sz xs v := h
theorem R3.slice {o : Bool} {sz : Nat} {xs : List (List V)} (h : R3 g w n τ (.slice o sz xs) v) :
  ∃ a cap, v = .slice (some a) xs.length cap ∧ (0 < cap → a.spot = none) ∧ xs.length ≤ cap ∧ zdl g.pers w a sz xs := by
 cases o with
 | false => obtain ⟨a, cap, h1, h2, _, h4, h5⟩ := R3.sliceF h; exact ⟨a, cap, h1, h2, h4, h5⟩
 | true => obtain ⟨a, cap, _, _, h1, h2, h4, _, _, h5⟩ := R3.sliceT h; exact ⟨a, cap, h1, fun _ => h2, h4, h5⟩
theorem R3.agg {cs : List V} (h : R3 g w n τ (.agg cs) v) : ∃ arr : Array Value, v = .agg arr ∧ arr.size = cs.length ∧ ∀ k, k < cs.length → (cs.getD k .undef).cellOk ∧ R1 g w n (cs.getD k .undef) (arr.getD k undef) := h
theorem R3.tuple {cs : List V} (h : R3 g w n τ (.tuple cs) v) : ∃ arr : Array Value, v = .tuple arr ∧ arr.size = cs.length ∧ ∀ k, k < cs.length → (cs.getD k .undef).cellOk1 ∧ R2 g w n τ (cs.getD k .undef) (arr.getD k undef) := h
theorem R3.func {f : Nat} {cs : List V} (h : R3 g w n τ (.func f cs) v) : ∃ vs : Array Value, v = .func (.func f) #[] vs ∧ vs.size = cs.length ∧ ∀ k, k < cs.length → ∃ b off, cs.getD k .undef = .ptr b off ∧ b < n ∧ vs.getD k undef = .pointer (some ⟨g.mb b, off, none⟩) := h
theorem R3.mkStr {b : ByteArray} {s : List UInt8} (h : b.data.toList = s) : R3 g w n τ (.str s) (.string b) := by subst h; exact RB.str b
end
theorem zaz {P : Program} {S : Nat → Bool} {nl : Nat} {oc : Oper} {g : G} {w : World} {fr : Nat → Nat} {st : St} {a : Act} {x : V} {v : Value}
  {K : Act → World → Prop} {Q : Exit → Act → World → Prop} (h : SR g w nl fr S st a.tmps [])
  (k : ∀ v g' w', SR g' w' nl fr S st a.tmps [(x, v)] → Ext fr st.m.length g w g' w' → st.m.length ≤ st.m.length → K (a.put oc.dst v) w')
  (hr : (execOp a.eval oc).run P w = .ok (.value v) w) (hx : R3 g w st.m.length (tsAt a.tmps) x v) (ho : x.hasOwn = false) (hpk : ∀ d, x.root? = some (.tmp d) → S d = true) : oc.wp P a w K Q :=
 za6 hr (k v g w (h.add hx ho hpk) (Ext.refl _ _ _ _) (Nat.le_refl _))
section
variable {P : Program} {S : Nat → Bool} {nl : Nat} {oc : Oper}
theorem zpu [Lay P] {x : Operand} {o : Opd} (hop : oc.op = .move x ∨ oc.op = .assign x) (ho : za7 S x o) : OpOK P S nl oc (.mv o) := by
 intro cf g w fr st a y st' _ h he K Q k
 obtain ⟨g', hg, hs, hm, _⟩ := h.getO ho he
 refine za6 (v := a.eval x) (w' := w) ?_ (k _ g' w hs (Ext.gext hg w) (by rw [hm]; exact Nat.le_refl _))
 rcases hop with hop | hop <;> simp [execOp, hop]
theorem zoP [Lay P] {s : Nat} (hop : oc.op = .move (.tmp s) ∨ oc.op = .assign (.tmp s)) (hS : S s = false) : OpOK P S nl oc (.mvK s) := by
 intro cf g w fr st a y st' _ h he K Q k
 have run : (execOp a.eval oc).run P w = .ok (.value (tsAt a.tmps s)) w := by
  rcases hop with hop | hop <;> simp [execOp, hop] <;> rfl
 simp only [evalOp] at he
 split at he
 ·rename_i o z xs hv
  simp only [yaa, yac] at he
  obtain ⟨rfl, rfl⟩ := he
  have hsz : s < a.tmps.size := by
   have h1 := h.temps s
   rw [hv] at h1
   obtain ⟨ad, cap, e, _⟩ := R3.slice h1
   unfold tsAt at e
   by_cases hc : s < a.tmps.size
   ·exact hc
   ·rw [yaf, Array.getElem?_eq_none (by omega)] at e
    cases e
  obtain ⟨g', hg, hs⟩ := (h.take s).share
  rw [hv] at hs
  have h2 := hs.put false s hsz (.inr hS) (fun p hp => by cases hp) (by intro e; cases e)
  have e1 : a.tmps.setIfInBounds s (tsAt a.tmps s) = a.tmps := by
   apply Array.ext_getElem?
   intro i
   rw [Array.getElem?_setIfInBounds]
   split
   ·rename_i hi
    subst hi
    unfold tsAt
    rw [yaf, yaj hsz]; rfl
   ·rfl
  rw [e1] at h2
  have e2 : (({ st with σ := upd st.σ s .undef } : St).put false (some s) (V.slice o z xs).share) = { st with σ := upd st.σ s (.slice false z xs) } := by
   simp only [St.put, V.share, yas, if_false, St.mk.injEq, and_true]
   funext i
   simp only [upd]
   split <;> rfl
  rw [e2] at h2
  have h3 := h2.add (x := .slice false z xs) (v := tsAt a.tmps s) (by have := h2.temps s; simpa [upd] using this) rfl (fun d hd => by cases hd)
  exact za6 run (k _ g' w h3 (Ext.gext hg w) (Nat.le_refl _))
 ·rename_i hv
  simp only [yaa, yac] at he
  obtain ⟨rfl, rfl⟩ := he
  have h1 := h.temps s
  rw [hv] at h1
  exact za6 run (k _ g w (h.add (x := .nils) (v := tsAt a.tmps s) h1 rfl (fun d hd => by cases hd)) (Ext.refl _ _ _ _) (Nat.le_refl _))
 ·cases he
theorem zo0 [Lay P] {c x y : Operand} {oc' ox oy : Opd} (hop : oc.op = .pick c x y) (hc : za7 S c oc') (hx : za7 S x ox) (hy : za7 S y oy) : OpOK P S nl oc (.pick oc' ox oy) := by
 intro cf g w fr st a z st' _ h he K Q k
 simp only [evalOp, yab] at he
 obtain ⟨cv, hcv, he⟩ := he
 obtain ⟨hr, _, _⟩ := h.getC hc hcv
 cases cv with
 | bool t =>
  simp only [yab] at he
  obtain ⟨u, hu, he⟩ := he
  simp only [yaa, yac] at he
  obtain ⟨rfl, rfl⟩ := he
  have hb := R3.bool hr
  cases t with
  | true =>
   obtain ⟨h1, h2, h3⟩ := h.getC hx hu
   exact zaz h k (v := a.eval x) (by simp [execOp, hop, hb, asBool]) h1 h2 h3
  | false =>
   obtain ⟨h1, h2, h3⟩ := h.getC hy hu
   exact zaz h k (v := a.eval y) (by simp [execOp, hop, hb, asBool]) h1 h2 h3
 | _ => cases he
theorem zkj [Lay P] {x : Operand} {o : Opd} (hop : oc.op = .nilCheck x) (ho : za7 S x o) : OpOK P S nl oc (.nilCheck o) := by
 intro cf g w fr st a y st' _ h he K Q k
 simp only [evalOp, yab] at he
 obtain ⟨u, hu, he⟩ := he
 obtain ⟨h1, h2, h3⟩ := h.getC ho hu
 have main : u = y → st = st' → (∃ ad, a.eval x = .pointer (some ad)) ∨ (∃ f vs, a.eval x = .func (.func f) #[] vs) → oc.wp P a w K Q := by
  rintro rfl rfl (⟨ad, e⟩ | ⟨f, vs, e⟩) <;> exact zaz h k (v := a.eval x) (by simp [execOp, hop, e]) h1 h2 h3
 cases u with
 | ptr b o => simp only [yaa, yac] at he; exact main he.1 he.2 (.inl ⟨_, h1.2⟩)
 | loc b o => simp only [yaa, yac] at he; exact main he.1 he.2 (.inl ⟨_, h1⟩)
 | ro cs o => simp only [yaa, yac] at he; obtain ⟨c, o, e, _⟩ := h1; exact main he.1 he.2 (.inl ⟨_, e⟩)
 | el r z i j =>
  simp only [yaa, yac] at he
  refine main he.1 he.2 (.inl ?_)
  cases r with
  | mem b o => obtain ⟨_, ad, len, cap, _, e⟩ := h1; exact ⟨_, e⟩
  | loc b o => obtain ⟨_, ad, len, cap, _, e⟩ := h1; exact ⟨_, e⟩
  | tmp s => obtain ⟨ad, len, cap, _, e⟩ := h1; exact ⟨_, e⟩
 | func f cs => simp only [yaa, yac] at he; obtain ⟨vs, e, _⟩ := R3.func h1; exact main he.1 he.2 (.inr ⟨f, vs, e⟩)
 | _ => cases he
theorem zda (b : ByteArray) : b.data.toList.length = b.size := by rw [Array.length_toList]; rfl
theorem zfJ (b : ByteArray) : b.toList = b.data.toList := ByteArray.toList_eq b
theorem zlO {op : BinOp} {k : IntKind} {x y : Int} {z : V} (h : zdx op k x y = some z) (P : Program) (w : World) (t : TypeId) :
  ∃ v, (binOp op t (.int k x) (.int k y)).run P w = .ok v w ∧ (∀ g n τ, R3 g w n τ z v) ∧ z.hasOwn = false ∧ z.root? = none := by
 have mi : ∀ m : Int, z = .int k m → (binOp op t (.int k x) (.int k y)).run P w = .ok (.int k m) w →
   ∃ v, (binOp op t (.int k x) (.int k y)).run P w = .ok v w ∧ (∀ g n τ, R3 g w n τ z v) ∧ z.hasOwn = false ∧ z.root? = none := by
  rintro m rfl hr; exact ⟨_, hr, fun _ _ _ => RB.int _ _, rfl, rfl⟩
 have mb : ∀ b : Bool, z = .bool b → (binOp op t (.int k x) (.int k y)).run P w = .ok (.bool b) w →
   ∃ v, (binOp op t (.int k x) (.int k y)).run P w = .ok v w ∧ (∀ g n τ, R3 g w n τ z v) ∧ z.hasOwn = false ∧ z.root? = none := by
  rintro b rfl hr; exact ⟨_, hr, fun _ _ _ => RB.bool _, rfl, rfl⟩
 cases op <;> simp only [zdx, yaa] at h
 case add => exact mi _ h.symm (by simp [binOp, Op.intArith])
 case sub => exact mi _ h.symm (by simp [binOp, Op.intArith])
 case mul => exact mi _ h.symm (by simp [binOp, Op.intArith])
 case quo =>
  split at h
  ·cases h
  ·rename_i hz; simp only [yaa] at h; exact mi _ h.symm (by simp [binOp, Op.intDiv, hz])
 case rem =>
  split at h
  ·cases h
  ·rename_i hz; simp only [yaa] at h; exact mi _ h.symm (by simp [binOp, Op.intDiv, hz])
 case and => exact mi _ h.symm (by simp [binOp, Op.intBits])
 case or => exact mi _ h.symm (by simp [binOp, Op.intBits])
 case xor => exact mi _ h.symm (by simp [binOp, Op.intBits])
 case andNot => exact mi _ h.symm (by simp [binOp, Op.intBits])
 case eql => exact mb _ h.symm (by simp [binOp, Op.intCmp])
 case neq => exact mb _ h.symm (by simp [binOp, Op.intCmp])
 case lss => exact mb _ h.symm (by simp [binOp, Op.intCmp])
 case leq => exact mb _ h.symm (by simp [binOp, Op.intCmp])
 case gtr => exact mb _ h.symm (by simp [binOp, Op.intCmp])
 case geq => exact mb _ h.symm (by simp [binOp, Op.intCmp])
 all_goals cases h
theorem zgd {op : BinOp} {k k' : IntKind} {x y : Int} {z : V} (h : zfk op k x y = some z) (P : Program) (w : World) (t : TypeId) :
  ∃ v, (binOp op t (.int k x) (.int k' y)).run P w = .ok v w ∧ (∀ g n τ, R3 g w n τ z v) ∧ z.hasOwn = false ∧ z.root? = none := by
 unfold zfk at h
 split at h
 ·cases h
 ·rename_i hy
  cases op <;> simp only [yaa] at h
  case shl => subst h; exact ⟨_, by simp [binOp, Op.shift, hy], fun _ _ _ => RB.int _ _, rfl, rfl⟩
  case shr => subst h; exact ⟨_, by simp [binOp, Op.shift, hy], fun _ _ _ => RB.int _ _, rfl, rfl⟩
  all_goals cases h
theorem zlP {op : BinOp} {x y : ByteArray} {z : V} (h : zk7 op x.data.toList y.data.toList = some z) (P : Program) (w : World) (t : TypeId) :
  ∃ v, (binOp op t (.string x) (.string y)).run P w = .ok v w ∧ (∀ g n τ, R3 g w n τ z v) ∧ z.hasOwn = false ∧ z.root? = none := by
 have mb : ∀ b : Bool, z = .bool b → (binOp op t (.string x) (.string y)).run P w = .ok (.bool b) w →
   ∃ v, (binOp op t (.string x) (.string y)).run P w = .ok v w ∧ (∀ g n τ, R3 g w n τ z v) ∧ z.hasOwn = false ∧ z.root? = none := by
  rintro b rfl hr; exact ⟨_, hr, fun _ _ _ => RB.bool _, rfl, rfl⟩
 cases op <;> simp only [zk7, yaa] at h
 case add =>
  split at h
  ·rename_i hl
   simp only [yaa] at h
   subst h
   have hsz : ¬ (((x.size + y.size : Nat) : Int) > IntKind.i64.max) := by
    have : x.size + y.size ≤ 4611686018427387904 := by rw [Array.length_toList, Array.length_toList] at hl; exact hl
    have h2 : IntKind.i64.max = 9223372036854775807 := by decide
    rw [h2]; omega
   refine ⟨.string (x ++ y), ?_, fun _ _ _ => R3.mkStr (by simp [ByteArray.data_append]), rfl, rfl⟩
   simp only [binOp, Op.stringOp, if_neg hsz]
   rfl
  ·cases h
 case eql => exact mb _ h.symm (by simp [binOp, Op.stringOp, zfJ])
 case neq => exact mb _ h.symm (by simp [binOp, Op.stringOp, zfJ])
 case lss => exact mb _ h.symm (by simp [binOp, Op.stringOp, zfJ])
 case leq => exact mb _ h.symm (by simp [binOp, Op.stringOp, zfJ])
 case gtr => exact mb _ h.symm (by simp [binOp, Op.stringOp, zfJ])
 case geq => exact mb _ h.symm (by simp [binOp, Op.stringOp, zfJ])
 all_goals cases h
theorem zkk {op : BinOp} {t : TypeId} {x y : Operand} {k : IntKind} {n : Int} {v : Value} : eqGuard op t x y (.int k n) v = pure () := by cases op <;> rfl
theorem zmt [Lay P] {op : BinOp} {t u : TypeId} {x y : Operand} {ox oy : Opd} (hop : oc.op = .binOp op t x y u) (hx : za7 S x ox) (hy : za7 S y oy) : OpOK P S nl oc (.bin op ox oy) := by
 intro cf g w fr st a z st' _ h he K Q k
 simp only [evalOp, yab] at he
 obtain ⟨p, hp, q, hq, r, hr, he⟩ := he
 simp only [yaa, yac] at he
 obtain ⟨rfl, rfl⟩ := he
 obtain ⟨hx1, _, _⟩ := h.getC hx hp
 obtain ⟨hy1, _, _⟩ := h.getC hy hq
 cases p with
 | int k1 n1 =>
  cases q with
  | int k2 n2 =>
   have e1 := R3.int hx1
   have e2 := R3.int hy1
   have fin : ∀ v, (binOp op t (.int k1 n1) (.int k2 n2)).run P w = .ok v w → (∀ g n τ, R3 g w n τ r v) → r.hasOwn = false → r.root? = none → oc.wp P a w K Q := fun v h1 h2 h3 h4 =>
    zaz h k (v := v) (by simp [execOp, hop, e1, e2, zkk, h1]) (h2 _ _ _) h3 (fun d hd => by rw [h4] at hd; cases hd)
   simp only [zdY] at hr
   split at hr
   ·obtain ⟨v, h1, h2, h3, h4⟩ := zgd hr P w t (k' := k2); exact fin v h1 h2 h3 h4
   ·obtain ⟨v, h1, h2, h3, h4⟩ := zgd hr P w t (k' := k2); exact fin v h1 h2 h3 h4
   ·split at hr
    ·rename_i hk; subst hk
     obtain ⟨v, h1, h2, h3, h4⟩ := zlO hr P w t; exact fin v h1 h2 h3 h4
    ·cases hr
  | _ => simp [zdY] at hr
 | str s1 =>
  cases q with
  | str s2 =>
   simp only [zdY] at hr
   obtain ⟨b1, e1, rfl⟩ := R3.str hx1
   obtain ⟨b2, e2, rfl⟩ := R3.str hy1
   obtain ⟨v, h1, h2, h3, h4⟩ := zlP hr P w t
   have hgd : eqGuard op t x y (.string b1) (.string b2) = pure () := by cases op <;> rfl
   exact zaz h k (v := v) (by simp [execOp, hop, e1, e2, h1, hgd]) (h2 _ _ _) h3 (fun d hd => by rw [h4] at hd; cases hd)
  | _ => simp [zdY] at hr
 | _ => simp [zdY] at hr
theorem zpN [Lay P] {op : UnOp} {t : TypeId} {x : Operand} {o : Opd} (hop : oc.op = .unOp op t x) (ho : za7 S x o) : OpOK P S nl oc (.un op o) := by
 intro cf g w fr st a y st' _ h he K Q k
 simp only [evalOp, yab] at he
 obtain ⟨u, hu, r, hr, he⟩ := he
 simp only [yaa, yac] at he
 obtain ⟨rfl, rfl⟩ := he
 obtain ⟨h1, _, _⟩ := h.getC ho hu
 cases u with
 | int k1 n1 =>
  cases op with
  | neg =>
   simp only [doUn, yaa] at hr
   subst hr
   exact zaz h k (v := .int k1 (k1.wrap (0 - n1))) (by simp [execOp, hop, R3.int h1, Op.unary, Op.intArith]) (RB.int _ _) rfl (fun d hd => by cases hd)
  | xor =>
   simp only [doUn, zdx, yaa] at hr
   subst hr
   refine zaz h k (v := .int k1 _) ?_ (RB.int _ _) rfl (fun d hd => by cases hd)
   simp only [execOp, hop, R3.int h1, Op.unary, Op.intBits]
   rfl
  | _ => simp [doUn] at hr
 | bool b =>
  cases op with
  | not =>
   simp only [doUn, yaa] at hr
   subst hr
   exact zaz h k (v := .bool (!b)) (by simp [execOp, hop, R3.bool h1, Op.unary]) (RB.bool _) rfl (fun d hd => by cases hd)
  | _ => simp [doUn] at hr
 | _ => simp [doUn] at hr
theorem zo1 [Lay P] {src dst : TypeId} {ks k : IntKind} {x : Operand} {o : Opd} (hop : oc.op = .convert src dst x) (hs : P.underlying src = some (.int ks)) (hd : P.underlying dst = some (.int k))
  (ho : za7 S x o) : OpOK P S nl oc (.conv k o) := by
 intro cf g w fr st a y st' _ h he K Q kk
 simp only [evalOp, yab] at he
 obtain ⟨u, hu, he⟩ := he
 obtain ⟨h1, _, _⟩ := h.getC ho hu
 cases u with
 | int k1 n =>
  simp only [yaa, yac] at he
  obtain ⟨rfl, rfl⟩ := he
  exact zaz h kk (v := .int k (k.wrap n)) (by simp [execOp, hop, R3.int h1, convert, run_underlying hs, run_underlying hd, Conv.intToInt]) (RB.int _ _) rfl (fun d hd => by cases hd)
 | _ => cases he
theorem zmu [Lay P] {src dst : TypeId} {x : Operand} {o : Opd} (hop : oc.op = .convert src dst x) (hs : P.underlying src = some .string) (hd : P.underlying dst = some .string)
  (ho : za7 S x o) : OpOK P S nl oc (.strStr o) := by
 intro cf g w fr st a y st' _ h he K Q kk
 simp only [evalOp, yab] at he
 obtain ⟨u, hu, he⟩ := he
 obtain ⟨h1, _, _⟩ := h.getC ho hu
 cases u with
 | str s =>
  simp only [yaa, yac] at he
  obtain ⟨rfl, rfl⟩ := he
  obtain ⟨b, e, hb⟩ := R3.str h1
  exact zaz h kk (v := .string b) (by simp [execOp, hop, e, convert, run_underlying hs, run_underlying hd]) (R3.mkStr hb) rfl (fun d hd => by cases hd)
 | _ => cases he
theorem ziT [Lay P] {s : TypeId} {x : Operand} {f n : Nat} {fs : Array Field} {fd : Field} {o : Opd} (hop : oc.op = .fieldAddr s x f) (hs : P.underlying s = some (.struct fs)) (hf : fs[f]? = some fd)
  (hn : za2 P fd.type = some n) (hn0 : n ≠ 0) (ho : za7 S x o) : OpOK P S nl oc (.fieldAddr fd.offset o) := by
 intro cf g w fr st a y st' _ h he K Q kk
 simp only [evalOp, yab] at he
 obtain ⟨u, hu, he⟩ := he
 obtain ⟨h1, _, h3⟩ := h.getC ho hu
 simp only [za2, yah] at hn
 obtain ⟨i, hi, rfl⟩ := hn
 have run : ∀ c q, a.eval x = .pointer (some ⟨c, q, none⟩) → (execOp a.eval oc).run P w = .ok (.value (.pointer (some ⟨c, q + fd.offset, none⟩))) w := fun c q e => by
  simp [execOp, hop, e, Instr.fieldAt, run_underlying hs, hf, Instr.sureAddr, fieldPlace, sizeOf, typeInfo, hi, hn0, Addr.add_lit]
 cases u with
 | ptr b q =>
  simp only [yaa, yac] at he
  obtain ⟨rfl, rfl⟩ := he
  exact zaz h kk (run _ _ h1.2) ⟨h1.1, rfl⟩ rfl (fun d hd => by cases hd)
 | loc b q =>
  simp only [yaa, yac] at he
  obtain ⟨rfl, rfl⟩ := he
  exact zaz h kk (run _ _ h1) rfl rfl (fun d hd => by cases hd)
 | ro cs q =>
  simp only [yaa, yac] at he
  obtain ⟨rfl, rfl⟩ := he
  obtain ⟨c, q', e, hr⟩ := h1
  exact zaz h kk (run _ _ e) ⟨c, q', by rw [Nat.add_assoc], hr⟩ rfl (fun d hd => by cases hd)
 | el r z i k =>
  simp only [yaa, yac] at he
  obtain ⟨rfl, rfl⟩ := he
  cases r with
  | mem b q =>
   obtain ⟨hb, ad, len, cap, hc, e⟩ := h1
   exact zaz h kk (run _ _ e) ⟨hb, ad, len, cap, hc, by simp [Nat.add_assoc]⟩ rfl (fun d hd => by cases hd)
  | loc b q =>
   obtain ⟨hb, ad, len, cap, hc, e⟩ := h1
   exact zaz h kk (run _ _ e) ⟨hb, ad, len, cap, hc, by simp [Nat.add_assoc]⟩ rfl (fun d hd => by cases hd)
  | tmp s =>
   obtain ⟨ad, len, cap, hc, e⟩ := h1
   exact zaz h kk (run _ _ e) ⟨ad, len, cap, hc, by simp [Nat.add_assoc]⟩ rfl (fun d hd => h3 d (by simpa [V.root?] using hd))
 | _ => cases he
theorem zkl [Lay P] {t e : TypeId} {x i : Operand} {len sz : Nat} {ox oi : Opd} (hop : oc.op = .indexAddr t x i) (ht : P.underlying t = some (.array len e)) (hn : za2 P e = some sz)
  (hx : za7 S x ox) (hi : za7 S i oi) : OpOK P S nl oc (.indexArr len sz ox oi) := by
 intro cf g w fr st a y st' _ h he K Q kk
 simp only [evalOp, yab] at he
 obtain ⟨u, hu, iv, hiv, he⟩ := he
 obtain ⟨h1, _, h3⟩ := h.getC hx hu
 obtain ⟨hi1, _, _⟩ := h.getC hi hiv
 simp only [za2, yah] at hn
 obtain ⟨inf, hinf, rfl⟩ := hn
 cases iv with
 | int ki m =>
  simp only at he
  split at he
  ·rename_i hb
   have ei := R3.int hi1
   have run : ∀ c q, a.eval x = .pointer (some ⟨c, q, none⟩) → (execOp a.eval oc).run P w = .ok (.value (.pointer (some ⟨c, q + m.toNat * inf.size, none⟩))) w := fun c q e => by
    simp [execOp, hop, e, ei, Instr.indexAt, run_underlying ht, Instr.sureAddr, asIntOf, hb, sizeOf, typeInfo, hinf, Addr.add_lit]
   cases u with
   | ptr b q =>
    simp only [yaa, yac] at he
    obtain ⟨rfl, rfl⟩ := he
    exact zaz h kk (run _ _ h1.2) ⟨h1.1, rfl⟩ rfl (fun d hd => by cases hd)
   | loc b q =>
    simp only [yaa, yac] at he
    obtain ⟨rfl, rfl⟩ := he
    exact zaz h kk (run _ _ h1) rfl rfl (fun d hd => by cases hd)
   | ro cs q =>
    simp only [yaa, yac] at he
    obtain ⟨rfl, rfl⟩ := he
    obtain ⟨c, q', e, hr⟩ := h1
    exact zaz h kk (run _ _ e) ⟨c, q', by rw [Nat.add_assoc], hr⟩ rfl (fun d hd => by cases hd)
   | el r z i k =>
    simp only [yaa, yac] at he
    obtain ⟨rfl, rfl⟩ := he
    cases r with
    | mem b q =>
     obtain ⟨hb, ad, len, cap, hc, e⟩ := h1
     exact zaz h kk (run _ _ e) ⟨hb, ad, len, cap, hc, by simp [Nat.add_assoc]⟩ rfl (fun d hd => by cases hd)
    | loc b q =>
     obtain ⟨hb, ad, len, cap, hc, e⟩ := h1
     exact zaz h kk (run _ _ e) ⟨hb, ad, len, cap, hc, by simp [Nat.add_assoc]⟩ rfl (fun d hd => by cases hd)
    | tmp s =>
     obtain ⟨ad, len, cap, hc, e⟩ := h1
     exact zaz h kk (run _ _ e) ⟨ad, len, cap, hc, by simp [Nat.add_assoc]⟩ rfl (fun d hd => h3 d (by simpa [V.root?] using hd))
   | _ => cases he
  ·cases he
 | _ => cases he
theorem zkm [Lay P] {t : TypeId} {x i : Operand} {ox oi : Opd} (hop : oc.op = .index t x i) (ht : P.underlying t = some .string) (hx : za7 S x ox) (hi : za7 S i oi) : OpOK P S nl oc (.indexStr ox oi) := by
 intro cf g w fr st a y st' _ h he K Q kk
 simp only [evalOp, yab] at he
 obtain ⟨u, hu, iv, hiv, he⟩ := he
 obtain ⟨h1, _, _⟩ := h.getC hx hu
 obtain ⟨hi1, _, _⟩ := h.getC hi hiv
 cases u with
 | str s =>
  cases iv with
  | int ki m =>
   simp only at he
   split at he
   ·rename_i hb
    simp only [yaa, yac] at he
    obtain ⟨rfl, rfl⟩ := he
    have ei := R3.int hi1
    obtain ⟨b, e, rfl⟩ := R3.str h1
    have hlt : m.toNat < b.size := by have h2 : (m : Int) < b.data.toList.length := hb.2; rw [zda] at h2; omega
    have hg : b[m.toNat]? = some (b.data.toList.getD m.toNat 0) := by
     have h2 : m.toNat < b.data.toList.length := by rw [zda]; exact hlt
     rw [yad, yai h2]
     rw [getElem?_pos b m.toNat hlt]
     rfl
    exact zaz h kk (v := .int .u8 ((b.data.toList.getD m.toNat 0).toNat)) (by simp [execOp, hop, e, ei, Instr.index, run_underlying ht, asIntOf, hb.1, hg]) (RB.int _ _) rfl (fun d hd => by cases hd)
   ·cases he
  | _ => cases he
 | _ => cases he
theorem zmv [Lay P] {t : TypeId} {x : Operand} {ox : Opd} {c : Call} (hop : oc.op = .call c) (hc : c.callee = .builtin .len) (ha : c.args.toList = [x]) (hat : c.argTypes[0]? = some t)
  (ht : P.underlying t = some .string) (hx : za7 S x ox) : OpOK P S nl oc (.lenStr ox) := by
 intro cf g w fr st a y st' _ h he K Q kk
 simp only [evalOp, yab] at he
 obtain ⟨u, hu, he⟩ := he
 obtain ⟨h1, _, _⟩ := h.getC hx hu
 cases u with
 | str s =>
  simp only [yaa, yac] at he
  obtain ⟨rfl, rfl⟩ := he
  obtain ⟨b, e, rfl⟩ := R3.str h1
  have ha' : c.args = #[x] := by rw [← Array.toArray_toList (xs := c.args), ha]
  exact zaz h kk (v := .int .i64 b.size) (by simp [execOp, hop, resolve, hc, ha', invoke, builtin, Builtin.len_, hat, e, run_underlying ht, goInt]) (by rw [zda]; exact RB.int _ _) rfl (fun d hd => by cases hd)
 | _ => cases he
theorem zo2 [Lay P] {t e : TypeId} {x : Operand} {n : Nat} {c : Call} (hop : oc.op = .call c) (hc : c.callee = .builtin .len) (ha : c.args.toList = [x]) (hat : c.argTypes[0]? = some t)
  (ht : P.underlying t = some (.array n e)) : OpOK P S nl oc (.lenC n) := by
 intro cf g w fr st a y st' _ h he K Q kk
 simp only [evalOp, yaa, yac] at he
 obtain ⟨rfl, rfl⟩ := he
 have ha' : c.args = #[x] := by rw [← Array.toArray_toList (xs := c.args), ha]
 exact zaz h kk (v := .int .i64 n) (by simp [execOp, hop, resolve, hc, ha', invoke, builtin, Builtin.len_, hat, run_underlying ht, goInt]) (RB.int _ _) rfl (fun d hd => by cases hd)
theorem SR.elems {g : G} {w : World} {fr : Nat → Nat} {st : St} {a : Act} {ps : List (V × Value)} (h : SR g w nl fr S st a.tmps ps) {x : V} {v : Value} (hr : R3 g w st.m.length (tsAt a.tmps) x v) {xs : List (List V)}
  (he : Am.elems st x = some xs) : ∃ b cap, v = .slice b xs.length cap ∧ (∀ ad, b = some ad → (0 < xs.length → ad.spot = none) ∧ ∃ sz, zdl g.pers w ad sz xs) ∧ (b = none → xs = []) := by
 have ofNils : ∀ {u}, u = Value.slice none 0 0 → xs = [] → ∃ b cap, u = .slice b xs.length cap ∧ (∀ ad, b = some ad → (0 < xs.length → ad.spot = none) ∧ ∃ sz, zdl g.pers w ad sz xs) ∧ (b = none → xs = []) := by
  rintro u rfl rfl; exact ⟨none, 0, rfl, fun ad e => (by cases e), fun _ => rfl⟩
 have ofSlice : ∀ {u o sz}, R3 g w st.m.length (tsAt a.tmps) (.slice o sz xs) u → ∃ b cap, u = .slice b xs.length cap ∧ (∀ ad, b = some ad → (0 < xs.length → ad.spot = none) ∧ ∃ sz, zdl g.pers w ad sz xs) ∧ (b = none → xs = []) := by
  intro u o sz hu
  obtain ⟨ad, cap, e, hs, hcap, hE⟩ := R3.slice hu
  exact ⟨some ad, cap, e, fun ad' e' => by injection e' with e'; subst e'; exact ⟨fun hx => hs (by omega), sz, hE⟩, fun e' => by cases e'⟩
 cases x with
 | nils =>
  simp only [Am.elems, yaa] at he
  exact ofNils (R3.nils hr) he.symm
 | slice o sz ys =>
  simp only [Am.elems, yaa] at he
  subst he
  exact ofSlice hr
 | place r =>
  have hlook : ∃ u, R3 g w st.m.length (tsAt a.tmps) (look st r) u ∧ u = v ∨ look st r = .undef := by
   cases r with
   | mem b o =>
    obtain ⟨hb, hc⟩ := hr
    obtain ⟨⟨arr, e, hB, hs, hk⟩, _⟩ := h.mem b hb
    rw [hB.cell] at hc
    obtain ⟨ho, ev⟩ := yan.1 hc
    have hk' := hk o (by omega)
    refine ⟨v, .inl ⟨?_, rfl⟩⟩
    have : arr.getD o undef = v := by simp [yaf, hc]
    rw [this] at hk'
    exact hk'.2.r3 hk'.1
   | loc j o =>
    by_cases hj : st.l j = []
    ·exact ⟨v, .inr (by simp [look, hj])⟩
    ·obtain ⟨_, arr, e, hB, hs, hk⟩ := h.locs j hj
     have hc : w.cell? ⟨g.lb j, o, none⟩ = some v := hr.2
     rw [hB.cell] at hc
     obtain ⟨ho, ev⟩ := yan.1 hc
     have hk' := hk o (by omega)
     refine ⟨v, .inl ⟨?_, rfl⟩⟩
     have : arr.getD o undef = v := by simp [yaf, hc]
     rw [this] at hk'
     exact hk'.2.r3 hk'.1
   | tmp s => exact ⟨v, .inl ⟨by have : tsAt a.tmps s = v := hr; rw [← this]; exact h.temps s, rfl⟩⟩
  obtain ⟨u, hlook⟩ := hlook
  simp only [Am.elems] at he
  rcases hlook with ⟨hu, rfl⟩ | hl
  ·split at he
   ·rename_i hl
    simp only [yaa] at he
    rw [hl] at hu
    exact ofNils (R3.nils hu) he.symm
   ·rename_i o sz ys hl
    simp only [yaa] at he
    subst he
    rw [hl] at hu
    exact ofSlice hu
   ·cases he
  ·rw [hl] at he; cases he
 | _ => cases he
theorem zn4 [Lay P] {t e : TypeId} {x : Operand} {ox : Opd} {c : Call} (hop : oc.op = .call c) (hc : c.callee = .builtin .len) (ha : c.args.toList = [x]) (hat : c.argTypes[0]? = some t)
  (ht : P.underlying t = some (.slice e)) (hx : za7 S x ox) : OpOK P S nl oc (.lenSl ox) := by
 intro cf g w fr st a y st' _ h he K Q kk
 simp only [evalOp, yab] at he
 obtain ⟨u, hu, xs, hxs, he⟩ := he
 obtain ⟨h1, _, _⟩ := h.getC hx hu
 simp only [yaa, yac] at he
 obtain ⟨rfl, rfl⟩ := he
 obtain ⟨b, cap, ev, _⟩ := h.elems h1 hxs
 have ha' : c.args = #[x] := by rw [← Array.toArray_toList (xs := c.args), ha]
 exact zaz h kk (v := .int .i64 xs.length) (by simp [execOp, hop, resolve, hc, ha', invoke, builtin, Builtin.len_, hat, ev, run_underlying ht, goInt]) (RB.int _ _) rfl (fun d hd => by cases hd)
end
end Go.Proofs.YtakdnfneikbjjaaGreatDoor.Am

namespace Go.Proofs.YtakdnfneikbjjaaGreatDoor.Am
section
variable {P : Program} {S : Nat → Bool} {nl : Nat} {oc : Oper}
theorem zbh {α : Type} {cs : List α} {off n k : Nat} {d : α} (hk : k < n) : ((cs.drop off).take n).getD k d = cs.getD (off + k) d := by
 simp only [yad, List.getElem?_take, List.getElem?_drop, hk, if_true]
theorem zbc {α : Type} {cs : List α} {off n : Nat} (h : off + n ≤ cs.length) : ((cs.drop off).take n).length = n := by
 simp; omega
theorem zbs {arr : Array Value} {off n k : Nat} (hk : k < n) (h : off + n ≤ arr.size) : (arr.extract off (off + n)).getD k undef = arr.getD (off + k) undef := by
 simp only [yaf, Array.getElem?_extract]
 rw [if_pos (by omega)]
theorem varAt_spec {t : TypeId} {q : Bool × Nat} (h : zfm P t = some q) :
  (q.1 = true ∧ ∃ i, P.info? t = some i ∧ i.size = q.2 ∧ ∀ w, (isAgg t).run P w = .ok true w) ∨ (q.1 = false ∧ q.2 = 1 ∧ ∀ w, (isAgg t).run P w = .ok false w) := by
 unfold zfm at h
 cases ha : zoZ P t with
 | none => simp [ha] at h
 | some b =>
  have hrun : ∀ w, (isAgg t).run P w = .ok b w := by
   intro w
   unfold zoZ at ha
   split at ha
   ·rename_i fs hu; simp at ha; subst ha; simp [isAgg, run_underlying hu]
   ·rename_i n e hu; simp at ha; subst ha; simp [isAgg, run_underlying hu]
   ·rename_i d hn1 hn2 hu
    simp only [yaa] at ha
    subst ha
    simp only [isAgg, Sem.run_bind, run_underlying hu, Result.andThen_ok]
    cases d with
    | struct fs => exact absurd rfl (hn1 fs)
    | array n e => exact absurd rfl (hn2 n e)
    | _ => rfl
   ·cases ha
  cases b with
  | true =>
   simp only [ha, yah] at h
   obtain ⟨n, hn, rfl⟩ := h
   simp only [za2, yah] at hn
   obtain ⟨i, hi, rfl⟩ := hn
   exact .inl ⟨rfl, i, hi, rfl, hrun⟩
  | false =>
   simp only [ha, yaa] at h
   subst h
   exact .inr ⟨rfl, rfl, hrun⟩
theorem zkn {x : V} (hok : x.cellOk) (h : x.own0 = false) : x.hasOwn = false := by
 rcases hok with hok | rfl
 ·cases x <;> first | exact h | (simp [V.ok0] at hok; done)
 ·rfl
theorem zer {g : G} {w : World} {n : Nat} {τ : Nat → Value} {q : Bool × Nat} {cs : List V} {vs : Array Value} {x : V} (hl : cs.length = q.2) (hs : vs.size = q.2)
  (hq : q.1 = true ∨ q.1 = false ∧ q.2 = 1)
  (hr : ∀ k, k < q.2 → (cs.getD k .undef).cellOk ∧ R1 g w n (cs.getD k .undef) (vs.getD k undef)) (h : agg? q.1 cs = some x) :
  R3 g w n τ x (if q.1 then .agg vs else vs.getD 0 undef) ∧ x.root? = none ∧ (cs.any V.own0 = false → x.hasOwn = false) ∧ (∀ c, cnt2 c x (if q.1 then .agg vs else vs.getD 0 undef) = cntL c cs vs) := by
 obtain ⟨b, m⟩ := q
 simp only at *
 cases b with
 | true =>
  simp only [agg?, if_true, yaa] at h
  subst h
  exact ⟨⟨vs, rfl, by omega, fun k hk => hr k (by omega)⟩, rfl, fun h => h, fun c => rfl⟩
 | false =>
  obtain ⟨_, rfl⟩ := hq.resolve_left (by simp)
  match cs, hl with
  | [y], _ =>
   simp only [agg?, yas, if_false, yaa] at h
   subst h
   have h0 := hr 0 (by omega)
   simp only [List.getD_cons_zero] at h0
   refine ⟨by simpa using h0.2.r3 h0.1, zdZ h0.1, fun ho => zkn h0.1 (by simpa using ho), fun c => ?_⟩
   have : ∀ v, cnt2 c y v = cnt0 c y v := fun v => by
    rcases h0.1 with hok | rfl
    ·cases y <;> first | rfl | (simp [V.ok0] at hok; done)
    ·rfl
   simp [cntL, zaS, this]
theorem zla {t : TypeId} {q : Bool × Nat} (h : zfm P t = some q) {arr : Array Value} {off : Nat} (hb : off + q.2 ≤ arr.size) (w : World) :
  (part t arr off).run P w = .ok (if q.1 then .agg (arr.extract off (off + q.2)) else arr.getD off undef) w := by
 rcases varAt_spec h with ⟨hq, i, hi, hs, hrun⟩ | ⟨hq, hs, hrun⟩
 ·simp [part, hrun, hq, sizeOf, typeInfo, hi, hs]
 ·have hlt : off < arr.size := by omega
  simp [part, hrun, hq, yaj hlt, yaf]
theorem zlb {g : G} {w : World} {n : Nat} {τ : Nat → Value} {cs : List V} {arr : Array Value} (hs : arr.size = cs.length) (hr : ∀ k, k < cs.length → (cs.getD k .undef).cellOk ∧ R1 g w n (cs.getD k .undef) (arr.getD k undef))
  {q : Bool × Nat} {off : Nat} {x : V} (hb : off + q.2 ≤ cs.length) (hq : q.1 = true ∨ q.1 = false ∧ q.2 = 1) (h : agg? q.1 ((cs.drop off).take q.2) = some x) :
  R3 g w n τ x (if q.1 then .agg (arr.extract off (off + q.2)) else arr.getD off undef) ∧ x.root? = none ∧ (((cs.drop off).take q.2).any V.own0 = false → x.hasOwn = false) := by
 have := zer (g := g) (w := w) (n := n) (τ := τ) (q := q) (cs := (cs.drop off).take q.2) (vs := arr.extract off (off + q.2)) (x := x) (zbc hb) (by simp; omega) hq
  (fun k hk => by rw [zbh hk, zbs hk (by omega)]; exact hr (off + k) (by omega)) h
 obtain ⟨h1, h2, h3, _⟩ := this
 refine ⟨?_, h2, h3⟩
 rcases hq with hq | ⟨hq, hq2⟩
 ·simpa [hq] using h1
 ·rw [hq] at h1 ⊢
  simp only [yas, if_false] at h1 ⊢
  rw [zbs (by omega) (by omega)] at h1
  exact h1
theorem zfn {cs : List V} (h : cs.any V.own0 = false) (off n : Nat) : ((cs.drop off).take n).any V.own0 = false := by
 simp only [List.any_eq_false] at h ⊢
 exact fun x hx => h x (List.mem_of_mem_drop (List.mem_of_mem_take hx))
theorem zn5 [Lay P] {t : TypeId} {x : Operand} {f : Nat} {fs : Array Field} {fd : Field} {q : Bool × Nat} {o : Opd} (hop : oc.op = .field t x f) (hs : P.underlying t = some (.struct fs)) (hf : fs[f]? = some fd)
  (hq : zfm P fd.type = some q) (ho : za7 S x o) : OpOK P S nl oc (.field q.1 q.2 fd.offset o) := by
 intro cf g w fr st a y st' _ h he K Q kk
 simp only [evalOp, yab] at he
 obtain ⟨u, hu, he⟩ := he
 obtain ⟨h1, ho1, _⟩ := h.getC ho hu
 cases u with
 | agg cs =>
  simp only at he
  split at he
  ·rename_i hb
   simp only [yab, yaa, yac] at he
   obtain ⟨z, hz, rfl, rfl⟩ := he
   obtain ⟨arr, e, hsz, hr⟩ := R3.agg h1
   have hq' : q.1 = true ∨ q.1 = false ∧ q.2 = 1 := by
    rcases varAt_spec hq with ⟨a1, _⟩ | ⟨a1, a2, _⟩
    ·exact .inl a1
    ·exact .inr ⟨a1, a2⟩
   obtain ⟨r1, r2, r3⟩ := zlb (τ := tsAt a.tmps) hsz hr hb hq' hz
   refine zaz h kk (by simp [execOp, hop, e, Instr.field, run_underlying hs, hf, asAgg, zla hq (show fd.offset + q.2 ≤ arr.size by omega)]) r1 (r3 (zfn ho1 _ _)) (fun d hd => by rw [r2] at hd; cases hd)
  ·cases he
 | _ => cases he
theorem zko [Lay P] {t e : TypeId} {x i : Operand} {len sz : Nat} {q : Bool × Nat} {ox oi : Opd} (hop : oc.op = .index t x i) (ht : P.underlying t = some (.array len e)) (hq : zfm P e = some q) (hn : za2 P e = some sz)
  (hqn : sz = q.2) (hx : za7 S x ox) (hi : za7 S i oi) : OpOK P S nl oc (.indexAgg q.1 len sz ox oi) := by
 intro cf g w fr st a y st' _ h he K Q kk
 simp only [evalOp, yab] at he
 obtain ⟨u, hu, iv, hiv, he⟩ := he
 obtain ⟨h1, ho1, _⟩ := h.getC hx hu
 obtain ⟨hi1, _, _⟩ := h.getC hi hiv
 simp only [za2, yah] at hn
 obtain ⟨inf, hinf, rfl⟩ := hn
 cases u with
 | agg cs =>
  cases iv with
  | int ki m =>
   simp only at he
   split at he
   ·rename_i hb
    simp only [yab, yaa, yac] at he
    obtain ⟨z, hz, rfl, rfl⟩ := he
    obtain ⟨arr, e', hsz, hr⟩ := R3.agg h1
    have hq' : q.1 = true ∨ q.1 = false ∧ q.2 = 1 := by
     rcases varAt_spec hq with ⟨a1, _⟩ | ⟨a1, a2, _⟩
     ·exact .inl a1
     ·exact .inr ⟨a1, a2⟩
    rw [hqn] at hz hb
    obtain ⟨r1, r2, r3⟩ := zlb (τ := tsAt a.tmps) hsz hr hb.2.2 hq' hz
    have ei := R3.int hi1
    refine zaz h kk (by simp [execOp, hop, e', ei, Instr.index, run_underlying ht, asIntOf, hb.1, hb.2.1, sizeOf, typeInfo, hinf, hqn, zla hq (show m.toNat * q.2 + q.2 ≤ arr.size by omega)]) r1 (r3 (zfn ho1 _ _)) (fun d hd => by rw [r2] at hd; cases hd)
   ·cases he
  | _ => cases he
 | _ => cases he
theorem R2.r3 {g : G} {w : World} {n : Nat} {τ : Nat → Value} {x : V} {v : Value} (hok : x.cellOk1) (h : R2 g w n τ x v) : R3 g w n τ x v := by
 cases x <;> first | exact h | skip
 rcases hok with h' | h'
 ·simp [V.ok0] at h'
 ·cases h'
theorem zhR {c : Nat} {x : V} {v : Value} (hok : x.cellOk1) : cnt2 c x v = cnt1 c x v := by
 cases x <;> first | rfl | skip
 rcases hok with h' | h'
 ·simp [V.ok0] at h'
 ·cases h'
theorem zlQ [Lay P] {x : Operand} {i : Nat} {o : Opd} (hop : oc.op = .extract x i) (ho : za7 S x o) : OpOK P S nl oc (.extract o i) := by
 intro cf g w fr st a y st' _ h he K Q k
 simp only [evalOp, yab] at he
 obtain ⟨p, hp, he⟩ := he
 obtain ⟨g', hg, hs, hm, _⟩ := h.getO ho hp
 obtain ⟨u, st1⟩ := p
 simp only at he hs hm
 cases u with
 | tuple vs =>
  simp only at he
  split at he
  ·rename_i hi
   simp only [yaa, yac] at he
   obtain ⟨rfl, rfl⟩ := he
   obtain ⟨arr, e, hsz, hr⟩ := R3.tuple (hs.pend _ (.head _))
   simp only at e
   have hr' := hr i hi
   have hi' : i < arr.size := by omega
   have hgi : arr[i]? = some (arr.getD i undef) := by simp [yaf, yaj hi']
   have hcnt : ∀ c, cnt2 c (vs.getD i .undef) (arr.getD i undef) ≤ cnt2 c (V.tuple vs) (a.eval x) := fun c => by
    rw [e, zhR hr'.1]
    exact za9 (f := fun k => cnt1 c (vs.getD k .undef) (arr.getD k undef)) hi
   have hrun : (execOp a.eval oc).run P w = .ok (.value (arr.getD i undef)) w := by
    revert hgi
    generalize arr.getD i undef = z
    intro hgi
    simp [execOp, hop, e, Instr.extract, hgi]
   exact za6 (v := arr.getD i undef) (w' := w) hrun
    (k _ g' w (hs.turn (hr'.2.r3 hr'.1) hcnt (fun d hd => by rw [zf9 hr'.1] at hd; cases hd)) (Ext.gext hg w) (by rw [hm]; exact Nat.le_refl _))
  ·cases he
 | _ => cases he
theorem SR.getCs {g : G} {w : World} {fr : Nat → Nat} {st : St} {a : Act} {ps : List (V × Value)} (h : SR g w nl fr S st a.tmps ps) : ∀ {xs : List Operand} {os : List Opd} {vs : List V}, zeq S xs os → Am.getCs st os = some vs →
  vs.length = xs.length ∧ ∀ k, k < vs.length → R3 g w st.m.length (tsAt a.tmps) (vs.getD k .undef) ((xs.map a.eval).getD k undef) ∧ (vs.getD k .undef).hasOwn = false
 | [], [], vs, _, hv => by simp only [Am.getCs, yaa] at hv; subst hv; exact ⟨rfl, fun k hk => absurd hk (by simp)⟩
 | x :: xs, o :: os, vs, ho, hv => by
  simp only [Am.getCs, yab, yaa] at hv
  obtain ⟨u, hu, us, hus, rfl⟩ := hv
  obtain ⟨h1, h2, _⟩ := h.getC ho.1 hu
  obtain ⟨hl, hr⟩ := SR.getCs h ho.2 hus
  refine ⟨by simp [hl], fun k hk => ?_⟩
  cases k with
  | zero => exact ⟨h1, h2⟩
  | succ k => simpa using hr k (by simpa using hk)
 | [], _ :: _, _, ho, _ => ho.elim
 | _ :: _, [], _, ho, _ => ho.elim
theorem zgM (mx : Bool) {g : G} {w : World} {n : Nat} {τ : Nat → Value} : ∀ {vs : List V} {us : List Value} {x r : V} {u : Value}, us.length = vs.length → R3 g w n τ x u →
  (∀ k, k < vs.length → R3 g w n τ (vs.getD k .undef) (us.getD k undef)) → zc3 mx x vs = some r →
  ∃ z, (us.foldlM (if mx then Builtin.max2 else Builtin.min2) u).run P w = .ok z w ∧ R3 g w n τ r z ∧ (vs = [] ∨ (r.hasOwn = false ∧ r.root? = none))
 | [], [], x, r, u, _, hx, _, h => by simp only [zc3, yaa] at h; subst h; exact ⟨u, rfl, hx, .inl rfl⟩
 | y :: vs, v :: us, x, r, u, hl, hx, hr, h => by
  simp only [zc3, yab] at h
  obtain ⟨z, hz, h⟩ := h
  have hy := hr 0 (by simp)
  simp only [List.getD_cons_zero] at hy
  cases x with
  | int k a =>
   cases y with
   | int k' b =>
    simp only [zfI, yaa] at hz
    subst hz
    have ex := R3.int hx
    have ey := R3.int hy
    subst ex ey
    have step : ((if mx then Builtin.max2 else Builtin.min2) (.int k a) (.int k' b)).run P w = .ok (.int k (if mx then (if a < b then b else a) else (if b < a then b else a))) w := by
     cases mx
     ·simp [Builtin.min2]
     ·simp [Builtin.max2]
    obtain ⟨z, h1, h2, h3⟩ := zgM mx (us := us) (x := .int k (if mx then (if a < b then b else a) else (if b < a then b else a))) (u := .int k (if mx then (if a < b then b else a) else (if b < a then b else a))) (by simpa using hl) (RB.int _ _) (fun k hk => by simpa using hr (k + 1) (by simpa using hk)) h
    refine ⟨z, ?_, h2, ?_⟩
    ·simp only [List.foldlM_cons, Sem.run_bind, step, Result.andThen_ok]; exact h1
    ·rcases h3 with h3 | h3
     ·subst h3
      simp only [zc3, yaa] at h
      subst h
      exact .inr ⟨rfl, rfl⟩
     ·exact .inr h3
   | _ => simp [zfI] at hz
  | _ => simp [zfI] at hz
 | [], _ :: _, _, _, _, hl, _, _, _ => by simp at hl
 | _ :: _, [], _, _, _, hl, _, _, _ => by simp at hl
theorem ziU [Lay P] {mx : Bool} {x : Operand} {ys : List Operand} {ox : Opd} {oys : List Opd} {c : Call} (hop : oc.op = .call c) (hc : c.callee = .builtin (if mx then .max else .min)) (ha : c.args.toList = x :: ys)
  (hx : za7 S x ox) (hys : zeq S ys oys) : OpOK P S nl oc (.minMax mx ox oys) := by
 intro cf g w fr st a y st' _ h he K Q kk
 simp only [evalOp, yab, yaa, yac] at he
 obtain ⟨u, hu, vs, hvs, r, hr, rfl, rfl⟩ := he
 obtain ⟨h1, h2, h3⟩ := h.getC hx hu
 obtain ⟨hl, hrs⟩ := h.getCs hys hvs
 obtain ⟨z, hz, hrz, hlast⟩ := zgM mx (P := P) (us := ys.map a.eval) (by simpa using hl.symm) h1 (fun k hk => (hrs k hk).1) hr
 have hargs : (c.args.map a.eval).toList = a.eval x :: ys.map a.eval := by rw [Array.toList_map, ha]; rfl
 refine zaz h kk (v := z) ?_ hrz ?_ ?_
 ·cases mx
  ·simp only [yas, if_false] at hc hz
   simp only [execOp, hop, resolve, hc, Sem.run_bind, Sem.run_pure, Result.andThen_ok, invoke, builtin, Builtin.min_, hargs, hz]
  ·simp only [if_true] at hc hz
   simp only [execOp, hop, resolve, hc, Sem.run_bind, Sem.run_pure, Result.andThen_ok, invoke, builtin, Builtin.max_, hargs, hz]
 ·rcases hlast with e | e
  ·subst e
   simp only [zc3, yaa] at hr
   subst hr; exact h2
  ·exact e.1
 ·rcases hlast with e | e
  ·subst e
   simp only [zc3, yaa] at hr
   subst hr; exact h3
  ·intro d hd; rw [e.2] at hd; cases hd
theorem zmw [Lay P] {f : Nat} {captured : Array Operand} {os : List Opd} (hop : ∃ first, oc.op = .makeFunc (.func f) first captured ∧ first.size = 0) (ho : zeq S captured.toList os) : OpOK P S nl oc (.mkFunc f os) := by
 obtain ⟨first, hop, hf⟩ := hop
 have hf' : first = #[] := by simpa using hf
 subst hf'
 intro cf g w fr st a y st' _ h he K Q kk
 simp only [evalOp, yab] at he
 obtain ⟨vs, hvs, he⟩ := he
 split at he
 ·rename_i hok
  simp only [yaa, yac] at he
  obtain ⟨rfl, rfl⟩ := he
  obtain ⟨hl, hr⟩ := h.getCs ho hvs
  refine zaz h kk (v := .func (.func f) #[] (captured.map a.eval)) (by simp [execOp, hop, Instr.makeFunc]) ?_ rfl (fun d hd => by cases hd)
  refine ⟨_, rfl, by simp [hl], fun k hk => ?_⟩
  have hk' := (hr k hk).1
  have hc : okCap (vs.getD k .undef) = true := yam.1 hok _ (by simp [yad, yai hk])
  cases hv : vs.getD k .undef <;> rw [hv] at hc hk' <;> first | (simp [okCap] at hc; done) | skip
  refine ⟨_, _, rfl, hk'.1, ?_⟩
  rw [← hk'.2]
  simp [yaf, yad]
 ·cases he
end
end Go.Proofs.YtakdnfneikbjjaaGreatDoor.Am

namespace Go.Proofs.YtakdnfneikbjjaaGreatDoor.Am
theorem za8 {cs vs : List V} {off : Nat} (h : off + vs.length ≤ cs.length) : (zaH cs off vs).length = cs.length := by
 simp [zaH]; omega
theorem zbU {cs vs : List V} {off k : Nat} (h : off + vs.length ≤ cs.length) :
  (zaH cs off vs).getD k .undef = if off ≤ k ∧ k < off + vs.length then vs.getD (k - off) .undef else cs.getD k .undef := by
 simp only [zaH, yad]
 by_cases h1 : k < off
 ·rw [if_neg (by omega), List.append_assoc, yaq (by simp; omega), List.getElem?_take, if_pos h1]
 ·by_cases h2 : k < off + vs.length
  ·rw [if_pos ⟨by omega, h2⟩, yaq (by simp; omega), List.getElem?_append_right (by simp; omega)]
   have : (cs.take off).length = off := by simp; omega
   rw [this]
  ·rw [if_neg (by omega), List.getElem?_append_right (by simp; omega)]
   have : (cs.take off ++ vs).length = off + vs.length := by simp; omega
   rw [this, List.getElem?_drop]
   congr 2; omega
theorem ziV {n i : Nat} {x : Nat} (h : i < n) : zaS n (fun k => if k = i then x else 0) = x := by
 have := zb3 (n := n) (f := fun k => if k = i then x else 0) (g := fun _ => 0) h (fun j _ hj => by simp [hj])
 rw [zcG (n := n) (f := fun _ => 0) (fun _ _ => rfl)] at this
 simp at this
 exact this
theorem zes {n off : Nat} {f : Nat → Nat} : ∀ {m : Nat}, off + m ≤ n → zaS n (fun k => if off ≤ k ∧ k < off + m then f (k - off) else 0) = zaS m f
 | 0, _ => zcG fun i _ => by rw [if_neg (by omega)]
 | m + 1, h => by
  have ih := zes (n := n) (off := off) (f := f) (m := m) (by omega)
  have hs := ziV (n := n) (i := off + m) (x := f m) (by omega)
  simp only [zaS]
  rw [← ih, ← hs, ← zgF]
  refine zaq fun i _ => ?_
  by_cases h1 : i = off + m
  ·subst h1
   rw [if_pos (by omega), if_neg (by omega), if_pos rfl]
   simp
  ·rw [if_neg h1]
   by_cases h2 : off ≤ i ∧ i < off + m
   ·rw [if_pos h2, if_pos (by omega)]; omega
   ·rw [if_neg h2, if_neg (by omega)]
def zdn (arr : Array Value) (off : Nat) (vs : List Value) : Array Value := (vs.zipIdx).foldl (fun cs (c, j) => cs.setIfInBounds (off + j) c) arr
theorem ze1 (off : Nat) : ∀ (l : List (Value × Nat)) (arr : Array Value), (l.foldl (fun cs (c, j) => cs.setIfInBounds (off + j) c) arr).size = arr.size
 | [], _ => rfl
 | p :: l, arr => by simp only [List.foldl_cons]; rw [ze1 off l]; simp
theorem zbC (arr : Array Value) (off : Nat) (vs : List Value) : (zdn arr off vs).size = arr.size := ze1 _ _ _
theorem ze2 (off : Nat) : ∀ (vs : List Value) (i : Nat) (arr : Array Value) (k : Nat), off + i + vs.length ≤ arr.size →
  ((vs.zipIdx i).foldl (fun cs (c, j) => cs.setIfInBounds (off + j) c) arr).getD k undef = if off + i ≤ k ∧ k < off + i + vs.length then vs.getD (k - (off + i)) undef else arr.getD k undef
 | [], i, arr, k, _ => by
  rw [if_neg (by simp only [List.length_nil]; omega)]; rfl
 | v :: vs, i, arr, k, h => by
  simp only [List.length_cons] at h
  simp only [List.zipIdx_cons, List.foldl_cons]
  rw [ze2 off vs (i + 1) _ k (by simp; omega)]
  simp only [List.length_cons]
  by_cases h1 : off + (i + 1) ≤ k ∧ k < off + (i + 1) + vs.length
  ·rw [if_pos h1, if_pos (by omega)]
   have : k - (off + i) = (k - (off + (i + 1))) + 1 := by omega
   rw [this, List.getD_cons_succ]
  ·rw [if_neg h1]
   by_cases h2 : k = off + i
   ·subst h2
    rw [if_pos (by omega)]
    simp only [Nat.sub_self, List.getD_cons_zero, yaf]
    rw [Array.getElem?_setIfInBounds_self_of_lt (by omega)]
    rfl
   ·rw [if_neg (by omega)]
    simp only [yaf]
    rw [Array.getElem?_setIfInBounds_ne (by omega)]
theorem zcH {arr : Array Value} {off : Nat} {vs : List Value} (k : Nat) (h : off + vs.length ≤ arr.size) :
  (zdn arr off vs).getD k undef = if off ≤ k ∧ k < off + vs.length then vs.getD (k - off) undef else arr.getD k undef := by
 have := ze2 off vs 0 arr k (by omega)
 simpa [zdn] using this
theorem zdM {c : Nat} {cs vs : List V} {arr varr : Array Value} {off : Nat} {arr' : Array Value} (h : off + vs.length ≤ cs.length)
  (ha : ∀ k, k < cs.length → arr'.getD k undef = if off ≤ k ∧ k < off + vs.length then varr.getD (k - off) undef else arr.getD k undef) :
  cntL c (zaH cs off vs) arr' + cntL c ((cs.drop off).take vs.length) (arr.extract off (off + vs.length)) = cntL c cs arr + cntL c vs varr := by
 have hlen := za8 h
 have hw : ((cs.drop off).take vs.length).length = vs.length := zbc h
 unfold cntL
 rw [hlen, hw]
 have e1 : zaS vs.length (fun k => cnt0 c (((cs.drop off).take vs.length).getD k .undef) ((arr.extract off (off + vs.length)).getD k undef)) =
   zaS vs.length (fun k => cnt0 c (cs.getD (off + k) .undef) ((arr.extract off (off + vs.length)).getD k undef)) := zaq fun k hk => by rw [zbh hk]
 rw [e1, ← zes (n := cs.length) (off := off) (m := vs.length) h, ← zes (n := cs.length) (off := off) (m := vs.length) h (f := fun k => cnt0 c (vs.getD k .undef) (varr.getD k undef)),
  ← zgF, ← zgF]
 refine zaq fun k hk => ?_
 rw [zbU h, ha k hk]
 by_cases hk' : off ≤ k ∧ k < off + vs.length
 ·simp only [if_pos hk']
  have h1 : off + (k - off) = k := by omega
  rw [h1]
  by_cases hsz : off + vs.length ≤ arr.size
  ·rw [zbs (by omega) hsz, h1]; omega
  ·have : (arr.extract off (off + vs.length)).getD (k - off) undef = arr.getD k undef := by
    simp only [yaf, Array.getElem?_extract]
    split
    ·rw [h1]
    ·rename_i hn
     rw [Array.getElem?_eq_none (by omega)]
   rw [this]; omega
 ·simp only [if_neg hk']
theorem zch {a : Addr} (h : a.spot = none) (n : Nat) : a.add n = ⟨a.block, a.off + n, none⟩ := by
 unfold Addr.add
 split
 ·subst n; cases a; simp_all
 ·rfl
end Go.Proofs.YtakdnfneikbjjaaGreatDoor.Am

namespace Go.Proofs.YtakdnfneikbjjaaGreatDoor.Am
section
variable {P : Program} {S : Nat → Bool} {nl : Nat} {oc : Oper}
theorem SR.look {g : G} {w : World} {fr : Nat → Nat} {st : St} {a : Act} {ps : List (V × Value)} (h : SR g w nl fr S st a.tmps ps) {r : Root} {v : Value} (hr : R3 g w st.m.length (tsAt a.tmps) (.place r) v) :
  R3 g w st.m.length (tsAt a.tmps) (look st r) v ∨ look st r = .undef := by
 cases r with
 | mem b o =>
  obtain ⟨hb, hc⟩ := hr
  obtain ⟨⟨arr, e, hB, hs, hk⟩, _⟩ := h.mem b hb
  rw [hB.cell] at hc
  obtain ⟨ho, ev⟩ := yan.1 hc
  have hk' := hk o (by omega)
  have : arr.getD o undef = v := by simp [yaf, hc]
  rw [this] at hk'
  exact .inl (hk'.2.r3 hk'.1)
 | loc j o =>
  by_cases hj : st.l j = []
  ·exact .inr (by simp [Am.look, hj])
  ·obtain ⟨_, arr, e, hB, hs, hk⟩ := h.locs j hj
   have hc : w.cell? ⟨g.lb j, o, none⟩ = some v := hr.2
   rw [hB.cell] at hc
   obtain ⟨ho, ev⟩ := yan.1 hc
   have hk' := hk o (by omega)
   have : arr.getD o undef = v := by simp [yaf, hc]
   rw [this] at hk'
   exact .inl (hk'.2.r3 hk'.1)
 | tmp s => exact .inl (by have : tsAt a.tmps s = v := hr; rw [← this]; exact h.temps s)
theorem zpv [Lay P] {t e : TypeId} {gl : Nat} {i : Operand} {sz len : Nat} {xs : List (List V)} {oi : Opd} (hop : oc.op = .indexAddr t (.global gl) i) (ht : P.underlying t = some (.array len e)) (hn : za2 P e = some sz)
  (hm : (gl, sz, xs) ∈ Lay.tab P) (hlen : len = xs.length) (hi : za7 S i oi) : OpOK P S nl oc (.indexSl sz (.c (.slice false sz xs)) oi) := by
 intro cf g w fr st a y st' hg h he K Q kk
 simp only [evalOp, yab] at he
 obtain ⟨u, hu, iv, hiv, he⟩ := he
 simp only [getC, yaa] at hu
 subst hu
 obtain ⟨hi1, _, _⟩ := h.getC hi hiv
 simp only [za2, yah] at hn
 obtain ⟨inf, hinf, rfl⟩ := hn
 cases iv with
 | int ki m =>
  have ei := R3.int hi1
  simp only at he
  split at he
  ·rename_i hb
   simp only [yaa, yac] at he
   obtain ⟨rfl, rfl⟩ := he
   obtain ⟨h0, hl, _⟩ := hb
   have hlt : m.toNat < xs.length := by omega
   have run : (execOp a.eval oc).run P w = .ok (.value (.pointer (some ⟨gl, m.toNat * inf.size, none⟩))) w := by
    have e : a.eval (.global gl) = .pointer (some ⟨gl, 0, none⟩) := rfl
    have hb2 : 0 ≤ m ∧ m < (len : Int) := ⟨h0, by omega⟩
    simp [execOp, hop, e, ei, Instr.indexAt, run_underlying ht, Instr.sureAddr, asIntOf, hb2, sizeOf, typeInfo, hinf, Addr.add_lit]
   obtain ⟨hp, hz, hE⟩ := hg.laid.1 _ hm
   refine zaz h kk run ⟨gl, m.toNat * inf.size, rfl, hp, fun k hk => ?_⟩ rfl (fun d hd => by cases hd)
   rw [hz _ hlt] at hk
   obtain ⟨v, hv, hR⟩ := hE m.toNat k hlt hk
   exact ⟨v, by simpa using hv, hR⟩
  ·cases he
 | _ => cases he
theorem zlR [Lay P] {t e : TypeId} {x i : Operand} {sz : Nat} {ox oi : Opd} (hop : oc.op = .indexAddr t x i) (ht : P.underlying t = some (.slice e)) (hn : za2 P e = some sz)
  (hx : za7 S x ox) (hi : za7 S i oi) : OpOK P S nl oc (.indexSl sz ox oi) := by
 intro cf g w fr st a y st' _ h he K Q kk
 simp only [evalOp, yab] at he
 obtain ⟨u, hu, iv, hiv, he⟩ := he
 obtain ⟨h1, _, h3⟩ := h.getC hx hu
 obtain ⟨hi1, _, _⟩ := h.getC hi hiv
 simp only [za2, yah] at hn
 obtain ⟨inf, hinf, rfl⟩ := hn
 cases iv with
 | int ki m =>
  have ei := R3.int hi1
  have run : ∀ ad len cap, a.eval x = .slice (some ad) len cap → ad.spot = none → 0 ≤ m → m < len → (execOp a.eval oc).run P w = .ok (.value (.pointer (some ⟨ad.block, ad.off + m.toNat * inf.size, none⟩))) w := fun ad len cap e hs h0 hl => by
   simp [execOp, hop, e, ei, Instr.indexAt, run_underlying ht, asIntOf, h0, hl, sizeOf, typeInfo, hinf, zch hs]
  have ro : ∀ z xs, R3 g w st.m.length (tsAt a.tmps) (.slice false z xs) (a.eval x) → 0 ≤ m ∧ m < xs.length ∧ z = inf.size → y = .ro (xs.getD m.toNat []) 0 → st' = st → oc.wp P a w K Q := by
   rintro z xs hr ⟨h0, hl, rfl⟩ rfl rfl
   obtain ⟨ad, cap, e, hs, hp, hcap, hz, hE⟩ := R3.sliceF hr
   have hlt : m.toNat < xs.length := by omega
   refine zaz h kk (run ad _ _ e (hs (by omega)) h0 hl) ⟨ad.block, ad.off + m.toNat * inf.size, rfl, hp (by omega), fun k hk => ?_⟩ rfl (fun d hd => by cases hd)
   rw [hz _ hlt] at hk
   obtain ⟨v, hv, hR⟩ := hE m.toNat k hlt hk
   exact ⟨v, by rw [Nat.add_assoc]; exact hv, hR⟩
  cases u with
  | slice o z xs =>
   cases o with
   | false =>
    simp only at he
    split at he
    ·rename_i hb
     simp only [yaa, yac] at he
     exact ro z xs h1 hb he.1.symm he.2.symm
    ·cases he
   | true => cases he
  | place r =>
   simp only at he
   rcases h.look h1 with hl | hl
   ·cases hlk : look st r with
    | slice o z xs =>
     rw [hlk] at he hl
     cases o with
     | false =>
      simp only at he
      split at he
      ·rename_i hb
       simp only [yaa, yac] at he
       exact ro z xs hl hb he.1.symm he.2.symm
      ·cases he
     | true =>
      simp only at he
      split at he
      ·rename_i hb
       simp only [yaa, yac] at he
       obtain ⟨rfl, rfl⟩ := he
       obtain ⟨ad, cap, arr, e', e, hs, _, _, _, _⟩ := R3.sliceT hl
       have hrun := run ad _ _ e hs hb.1 hb.2.1
       cases r with
       | mem b q =>
        refine zaz h kk hrun ⟨h1.1, ad, xs.length, cap, ?_, rfl⟩ rfl (fun d hd => by cases hd)
        rw [← e]; exact h1.2
       | loc b q =>
        refine zaz h kk hrun ⟨h1.1, ad, xs.length, cap, ?_, rfl⟩ rfl (fun d hd => by cases hd)
        rw [← e]; exact h1.2
       | tmp s =>
        refine zaz h kk hrun ⟨ad, xs.length, cap, ?_, rfl⟩ rfl (fun d hd => h3 d (by simpa [V.root?] using hd))
        rw [← e]; exact h1
      ·cases he
    | _ => rw [hlk] at he; cases he
   ·rw [hl] at he; cases he
  | _ => cases he
 | _ => cases he
theorem SR.bound {g : G} {w : World} {fr : Nat → Nat} {st : St} {a : Act} {ps : List (V × Value)} (h : SR g w nl fr S st a.tmps ps) {x : Option Operand} {o : Option Opd} (ho : match x, o with | none, none => True | some x, some o => za7 S x o | _, _ => False)
  {d b : Nat} (hb : zaV st d o = some b) : (x = none ∧ b = d) ∨ ∃ y k, x = some y ∧ a.eval y = .int k b := by
 cases x with
 | none => cases o with
  | none => simp only [zaV, yaa] at hb; exact .inl ⟨rfl, hb.symm⟩
  | some o => exact ho.elim
 | some y => cases o with
  | none => exact ho.elim
  | some o =>
   simp only [zaV] at hb
   cases hc : Am.getC st o with
   | none => rw [hc] at hb; cases hb
   | some v =>
    rw [hc] at hb
    obtain ⟨h1, _, _⟩ := h.getC ho hc
    cases v with
    | int k m =>
     simp only at hb
     split at hb
     ·rename_i hm
      simp only [yaa] at hb
      subst hb
      exact .inr ⟨y, k, rfl, by rw [R3.int h1]; congr 1; omega⟩
     ·cases hb
    | _ => cases hb
def zmx (S : Nat → Bool) (x : Option Operand) (o : Option Opd) : Prop := match x, o with | none, none => True | some x, some o => za7 S x o | _, _ => False
theorem zlc {h : Hint} {x : Option Operand} {o : Option Opd} (hc : cOo S h x = some o) : zmx S x o := by
 cases x with
 | none => simp only [cOo, yaa] at hc; subst hc; trivial
 | some x =>
  simp only [cOo, yah] at hc
  obtain ⟨o', h', rfl⟩ := hc
  exact za5 h'
theorem zcz {a : Act} (b : Bool) {len cap l h : Nat} {lo hi : Option Operand} (w : World) (hh : (hi = none ∧ h = len) ∨ ∃ y k, hi = some y ∧ a.eval y = .int k h) (hl : (lo = none ∧ l = 0) ∨ ∃ y k, lo = some y ∧ a.eval y = .int k l)
  (h1 : l ≤ h) (h2 : h ≤ cap) : (Instr.sliceBounds b len cap (lo.map a.eval) (hi.map a.eval) none).run P w = .ok (l, h, cap) w := by
 have hb : ∀ (k : IntKind) (i y : Nat) (c : BoundsCode), i ≤ y → (Instr.sliceBound (.int k i) y c).run P w = .ok i w := fun k i y c hi => by
  have : (0 : Int) ≤ (i : Int) ∧ (i : Int) ≤ (y : Int) := ⟨by omega, by omega⟩
  simp [Instr.sliceBound, asIntOf, this]
 rcases hh with ⟨rfl, rfl⟩ | ⟨y, k, rfl, ey⟩
 ·rcases hl with ⟨rfl, rfl⟩ | ⟨z, k', rfl, ez⟩
  ·simp [Instr.sliceBounds]
  ·simp [Instr.sliceBounds, ez, hb _ _ _ _ h1]
 ·rcases hl with ⟨rfl, rfl⟩ | ⟨z, k', rfl, ez⟩
  ·simp [Instr.sliceBounds, ey, hb _ _ _ _ h2]
  ·simp [Instr.sliceBounds, ey, ez, hb _ _ _ _ h1, hb _ _ _ _ h2]
theorem zmy [Lay P] {t : TypeId} {x : Operand} {lo hi : Option Operand} {ox : Opd} {ol oh : Option Opd} (hop : oc.op = .slice t x lo hi none) (ht : P.underlying t = some .string) (hx : za7 S x ox) (hl : zmx S lo ol) (hh : zmx S hi oh) :
  OpOK P S nl oc (.sliceS ox ol oh) := by
 intro cf g w fr st a y st' _ h he K Q kk
 simp only [evalOp, yab] at he
 obtain ⟨u, hu, he⟩ := he
 obtain ⟨h1, _, _⟩ := h.getC hx hu
 cases u with
 | str s =>
  simp only [yab] at he
  obtain ⟨hb, hhb, lb, hlb, he⟩ := he
  split at he
  ·rename_i hc
   simp only [yaa, yac] at he
   obtain ⟨rfl, rfl⟩ := he
   obtain ⟨b, e, rfl⟩ := R3.str h1
   rw [zda] at hhb hc
   have r1 := h.bound (o := oh) (x := hi) hh hhb
   have r2 := h.bound (o := ol) (x := lo) hl hlb
   have hrun := zcz (P := P) (a := a) false (len := b.size) (cap := b.size) w r1 r2 hc.1 hc.2
   refine zaz h kk (v := .string (b.extract lb hb)) ?_ (R3.mkStr ?_) rfl (fun d hd => by cases hd)
   ·simp only [execOp, hop, Instr.sliceAt, Sem.run_bind, run_underlying ht, Result.andThen_ok, Instr.slice, e, Option.map_none, Option.isSome_none, yas, if_false]
    simp [hrun]
   ·rw [ByteArray.data_extract, Array.toList_extract]
  ·cases he
 | _ => cases he
theorem zdl.cut {p : Nat → Prop} {w : World} {ad : Addr} {sz : Nat} {xs : List (List V)} (h : zdl p w ad sz xs) {l hb : Nat} (h1 : l ≤ hb) (h2 : hb ≤ xs.length) {ad' : Addr} (hblk : ad'.block = ad.block) (hoff : ad'.off = ad.off + l * sz ∨ l = hb) :
  zdl p w ad' sz ((xs.drop l).take (hb - l)) := by
 have hget : ∀ i, i < hb - l → ((xs.drop l).take (hb - l)).getD i [] = xs.getD (l + i) [] := fun i hi => by
  simp only [yad, List.getElem?_take, List.getElem?_drop, hi, if_true]
 have hlen : ((xs.drop l).take (hb - l)).length = hb - l := by simp; omega
 refine ⟨fun i hi => ?_, fun i k hi hk => ?_⟩
 ·rw [hlen] at hi; rw [hget i hi]; exact h.1 _ (by omega)
 ·rw [hlen] at hi
  rw [hget i hi]
  obtain ⟨v, hv, hr⟩ := h.2 (l + i) k (by omega) hk
  refine ⟨v, ?_, hr⟩
  rcases hoff with hoff | hoff
  ·rw [hblk, hoff]
   rw [show ad.off + l * sz + (i * sz + k) = ad.off + ((l + i) * sz + k) from by rw [Nat.add_mul]; omega]
   exact hv
  ·omega
theorem zmz [Lay P] {t e : TypeId} {x : Operand} {lo hi : Option Operand} {n : Nat} {ox : Opd} {ol oh : Option Opd} (hop : oc.op = .slice t x lo hi none) (ht : P.underlying t = some (.slice e)) (hn : za2 P e = some n)
  (hx : za7 S x ox) (hl : zmx S lo ol) (hh : zmx S hi oh) : OpOK P S nl oc (.sliceV n ox ol oh) := by
 intro cf g w fr st a y st' _ h he K Q kk
 simp only [evalOp, yab] at he
 obtain ⟨p, hp, he⟩ := he
 obtain ⟨g', hg, hs, hm, _⟩ := h.getO hx hp
 obtain ⟨u, st1⟩ := p
 simp only at he hs hm
 have hu : R3 g' w st1.m.length (tsAt a.tmps) u (a.eval x) := hs.pend _ (.head _)
 simp only [za2, yah] at hn
 obtain ⟨inf, hinf, rfl⟩ := hn
 cases u with
 | nils =>
  simp only [yab] at he
  obtain ⟨hb, hhb, lb, hlb, he⟩ := he
  split at he
  ·rename_i hc
   obtain ⟨rfl, rfl⟩ := hc
   simp only [yaa, yac] at he
   obtain ⟨rfl, rfl⟩ := he
   have e := R3.nils hu
   have r1 := hs.bound (o := oh) (x := hi) hh hhb
   have r2 := hs.bound (o := ol) (x := lo) hl hlb
   have hrun := zcz (P := P) (a := a) true (len := 0) (cap := 0) w r1 r2 (Nat.le_refl _) (Nat.le_refl _)
   refine za6 (v := .slice none 0 0) (w' := w) ?_ (kk _ g' w (by rw [e] at hs; exact hs) (Ext.gext hg w) (by rw [hm]; exact Nat.le_refl _))
   simp [execOp, hop, Instr.sliceAt, run_underlying ht, Instr.slice, e, hrun, sizeOf, typeInfo, hinf]
  ·cases he
 | slice o z xs =>
  simp only [yab] at he
  obtain ⟨hb, hhb, lb, hlb, he⟩ := he
  split at he
  ·rename_i hc
   obtain ⟨hc1, hc2, rfl⟩ := hc
   simp only [yaa, yac] at he
   obtain ⟨rfl, rfl⟩ := he
   obtain ⟨ad, cap, e, hsp, hcap, hE⟩ := R3.slice hu
   have r1 := hs.bound (o := oh) (x := hi) hh hhb
   have r2 := hs.bound (o := ol) (x := lo) hl hlb
   have hrun := zcz (P := P) (a := a) true (len := xs.length) (cap := cap) w r1 r2 hc1 (Nat.le_trans hc2 hcap)
   generalize hv : (Value.slice (some (if cap = lb then ad else ⟨ad.block, ad.off + lb * inf.size, none⟩)) (hb - lb) (cap - lb)) = v
   have hex : (execOp a.eval oc).run P w = .ok (.value v) w := by
    rw [← hv]
    simp only [execOp, hop, Instr.sliceAt, Sem.run_bind, run_underlying ht, Result.andThen_ok, Instr.slice, e]
    simp only [Option.map_none]
    simp only [hrun, Result.andThen_ok, sizeOf, typeInfo]
    simp only [Sem.run_bind]
    by_cases hq : cap = lb
    ·simp [hinf, hq]
    ·simp [hinf, hq, zch (hsp (by omega))]
   have hlen : ((xs.drop lb).take (hb - lb)).length = hb - lb := by simp; omega
   obtain ⟨ad', had⟩ : ∃ ad' : Addr, ad' = if cap = lb then ad else ⟨ad.block, ad.off + lb * inf.size, none⟩ := ⟨_, rfl⟩
   rw [← had] at hv
   have hblk : ad'.block = ad.block := by rw [had]; split <;> rfl
   have hsp' : 0 < cap - lb → ad'.spot = none := fun hq => by rw [had]; split <;> first | exact hsp (by omega) | rfl
   have hoff : ad'.off = ad.off + lb * inf.size ∨ lb = hb := by
    rw [had]
    split
    ·right; omega
    ·left; rfl
   have hE' := hE.cut hc1 hc2 hblk hoff
   have hR : R3 g' w st1.m.length (tsAt a.tmps) (.slice o inf.size ((xs.drop lb).take (hb - lb))) v := by
    rw [← hv]
    cases o with
    | false =>
     obtain ⟨ad2, cap2, e2, _, hp2, hcap2, _⟩ := R3.sliceF hu
     rw [e] at e2
     injection e2 with e2 _ e4
     injection e2 with e2
     subst e2
     exact RB.slice_iff.2 ⟨ad', cap - lb, by rw [hlen], hsp', (fun hq => by rw [hblk]; exact hp2 (by omega)), by rw [hlen]; omega, hE'⟩
    | true =>
     obtain ⟨ad2, cap2, arr, e3, e2, hsp2, _, hB, hro, _⟩ := R3.sliceT hu
     rw [e] at e2
     injection e2 with e2 _ e4
     injection e2 with e2
     subst e2 e4
     refine ⟨ad', cap - lb, arr, e3, by rw [hlen], (by rw [had]; split <;> first | exact hsp2 | rfl), by rw [hlen]; omega, by rw [hblk]; exact hB, ?_, hE'⟩
     rw [had]
     by_cases hq : cap = lb
     ·rw [if_pos hq, hq]; simp
      omega
     ·rw [if_neg hq]
      simp only
      have : ad.off + lb * inf.size + (cap - lb) * inf.size = ad.off + cap * inf.size := by
       rw [Nat.add_assoc, ← Nat.add_mul]; congr 2; omega
      omega
   refine za6 hex (kk v g' w (hs.turn hR (fun c => ?_) (fun d hd => by cases hd)) (Ext.gext hg w) (by rw [hm]; exact Nat.le_refl _))
   rw [← hv, e]
   cases o with
   | false => simp [cnt2, cnt1, cnt0]
   | true => simp [cnt2, cnt1, cnt0, hblk]
  ·cases he
 | _ => cases he
theorem zkp [Lay P] {src dst e : TypeId} {x : Operand} {o : Opd} (hop : oc.op = .convert src dst x) (hsrc : P.underlying src = some (.slice e)) (hel : P.underlying e = some (.int .u8)) (hdst : P.underlying dst = some .string)
  (ho : za7 S x o) : OpOK P S nl oc (.bytesStr o) := by
 intro cf g w fr st a y st' _ h he K Q kk
 simp only [evalOp, yab, yaa, yac] at he
 obtain ⟨u, hu, xs, hxs, s, hbs, rfl, rfl⟩ := he
 obtain ⟨h1, _, _⟩ := h.getC ho hu
 obtain ⟨b, cap, ev, hE, hN⟩ := h.elems h1 hxs
 have hbytes : ∀ {xs : List (List V)} {s : List UInt8}, bytesOf xs = some s → s.length = xs.length ∧ ∀ i (hi : i < s.length), xs.getD i [] = [.int .u8 (s[i].toNat : Int)] := by
  intro xs
  induction xs with
  | nil => intro s hs; simp only [bytesOf, yaa] at hs; subst hs; exact ⟨rfl, fun i hi => absurd hi (by simp)⟩
  | cons c r ih =>
   intro s hs
   match c, hs with
   | [V.int .u8 n], hs =>
    simp only [bytesOf] at hs
    split at hs
    ·rename_i hn
     simp only [yab, yaa] at hs
     obtain ⟨s', hs', rfl⟩ := hs
     obtain ⟨hl, hg⟩ := ih hs'
     refine ⟨by simp [hl], fun i hi => ?_⟩
     cases i with
     | zero =>
      simp only [List.getD_cons_zero, List.getElem_cons_zero, UInt8.toNat_ofNat']
      congr 2
      omega
     | succ i => simpa using hg i (by simpa using hi)
    ·cases hs
 obtain ⟨hl, hg⟩ := hbytes hbs
 cases b with
 | none =>
  have := hN rfl
  subst this
  have : s = [] := by simpa using hl
  subst this
  refine zaz h kk (v := .string .empty) ?_ (R3.mkStr rfl) rfl (fun d hd => by cases hd)
  simp [execOp, hop, ev, convert, run_underlying hsrc, run_underlying hdst, run_underlying hel, Conv.bytesToString]
 | some ad =>
  obtain ⟨hsp, sz, hz, hc⟩ := hE ad rfl
  have hrun := run_convert_bytes_back (P := P) w src dst e ad cap s hsrc hel hdst (fun j hj => by
   have hj' : j < xs.length := by omega
   have hsz : sz = 1 := by have := hz j hj'; rw [hg j hj] at this; simpa using this.symm
   obtain ⟨v, hv, hr⟩ := hc j 0 hj' (by omega)
   rw [hg j hj, hsz] at *
   rw [zch (hsp (by omega))]
   simp only [List.getD_cons_zero] at hr
   cases hr
   simpa using hv)
  rw [hl] at hrun
  refine zaz h kk (v := .string ⟨s.toArray⟩) ?_ (R3.mkStr rfl) rfl (fun d hd => by cases hd)
  simp only [execOp, hop, ev, Sem.run_bind, hrun, Result.andThen_ok]
  rfl
theorem R1.notAgg {g : G} {w : World} {n : Nat} {x : V} {v : Value} (hok : x.ok0 = true) (h : R1 g w n x v) (cs : Array Value) : v ≠ .agg cs := by
 rintro rfl
 cases x <;> first | (simp [V.ok0] at hok; done) | (cases h; done) | skip
 ·exact nomatch h.2
 ·rename_i o sz xs
  cases o with
  | false => cases h
  | true => obtain ⟨_, _, _, _, e, _⟩ := h; cases e
 ·obtain ⟨_, e, _⟩ := h; cases e
theorem zfK {v : Value} (h : ∀ cs, v ≠ .agg cs) : v.cells = #[v] := by
 cases v <;> first | rfl | skip
 exact absurd rfl (h _)
theorem R3.cells {g : G} {w : World} {n : Nat} {τ : Nat → Value} {x : V} {v : Value} (h : R3 g w n τ x v) (hok : x.ok1 = true) :
  v.cells.size = x.cells.length ∧ (∀ k, k < x.cells.length → (x.cells.getD k .undef).ok0 = true ∧ R1 g w n (x.cells.getD k .undef) (v.cells.getD k undef)) ∧ ∀ c, cnt2 c x v = cntL c x.cells v.cells := by
 have leaf : x.ok0 = true → (v.cells.size = 1 ∧ (∀ k, k < 1 → (([x] : List V).getD k .undef).ok0 = true ∧ R1 g w n (([x] : List V).getD k .undef) (v.cells.getD k undef)) ∧ ∀ c, cnt0 c x v = cntL c [x] v.cells) := fun hok => by
  have h1 : R1 g w n x v := h.r1 (.inl hok)
  have hc := zfK (h1.notAgg hok)
  rw [hc]
  refine ⟨rfl, fun k hk => ?_, fun c => ?_⟩
  ·have : k = 0 := by omega
   subst this
   exact ⟨hok, h1⟩
  ·simp [cntL, zaS]
 cases x with
 | agg cs =>
  obtain ⟨arr, rfl, hs, hr⟩ := h
  refine ⟨hs, fun k hk => ⟨?_, (hr k hk).2⟩, fun c => rfl⟩
  have := yam.1 hok (cs.getD k .undef) (by simp [yad, yai (show k < cs.length from hk)])
  exact this
 | tuple _ => simp [V.ok1, V.ok0] at hok
 | _ => exact leaf hok
theorem zcI (l : List Value) (k : Nat) : l.toArray.getD k undef = l.getD k undef := by
 simp [yaf, yad]
theorem zaA (l : Array Value) (k : Nat) : l.toList.getD k undef = l.getD k undef := by
 simp [yaf, yad]
theorem zge (arr : Array Value) (off : Nat) (cells : Array Value) : cells.zipIdx.foldl (fun cs (c, j) => cs.setIfInBounds (off + j) c) arr = zdn arr off cells.toList := by
 rw [← Array.foldl_toList, Array.toList_zipIdx]; rfl
theorem zmA {g0 : G} {w : World} {fr : Nat → Nat} {a : Act} {ps : List (V × Value)} {place : Nat → Option (Nat × Nat)} {hh : Hint} :
  ∀ {parts : List (Nat × Operand)} {ops : List (Nat × Nat × Opd)} {g : G} {st st' : St} {cells cells' : List V} {arr : Array Value},
   GExt g0 g → zgL S hh place parts = some ops → SR g w nl fr S st a.tmps ((.agg cells, .agg arr) :: ps) → cells.all V.ok0 = true → zbd st cells ops = some (cells', st') →
   ∃ g' arr', GExt g0 g' ∧ Instr.fill place arr (parts.map fun p => (p.1, a.eval p.2)) = some arr' ∧ SR g' w nl fr S st' a.tmps ((.agg cells', .agg arr') :: ps) ∧ st'.m = st.m
 | [], ops, g, st, st', cells, cells', arr, hg, hc, h, _, hf => by
  simp only [zgL, yaa] at hc
  subst hc
  simp only [zbd, yaa, yac] at hf
  obtain ⟨rfl, rfl⟩ := hf
  exact ⟨g, arr, hg, rfl, h, rfl⟩
 | (i, x) :: parts, ops, g, st, st', cells, cells', arr, hg, hc, h, hok, hf => by
  simp only [zgL, yab, yaa] at hc
  obtain ⟨pl, hpl, o, ho, q, hq, rfl⟩ := hc
  simp only [zbd, yab] at hf
  obtain ⟨p, hp, hf⟩ := hf
  obtain ⟨g1, hg1, hs, hm, _⟩ := h.getO (za5 ho) hp
  obtain ⟨u, st1⟩ := p
  simp only at hf hs hm
  split at hf
  ·rename_i hcond
   obtain ⟨hn, hoff, hu1⟩ := hcond
   obtain ⟨hz, hr, hcnt⟩ := R3.cells (hs.pend _ (.head _)) hu1
   simp only at hz hr hcnt
   have hagg := hs.pend (.agg cells, .agg arr) (.tail _ (.head _))
   obtain ⟨arr0, e0, hs0, hr0⟩ := hagg
   simp only [Value.agg.injEq] at e0
   subst e0
   have hlen : pl.1 + u.cells.length ≤ cells.length := by omega
   have hsz : pl.1 + (a.eval x).cells.toList.length ≤ arr.size := by simp; omega
   have hvl : (a.eval x).cells.toList.length = u.cells.length := by simp [hz]
   have hget : ∀ k, (zdn arr pl.1 (a.eval x).cells.toList).getD k undef = if pl.1 ≤ k ∧ k < pl.1 + u.cells.length then (a.eval x).cells.getD (k - pl.1) undef else arr.getD k undef := fun k => by
    rw [zcH k hsz, hvl, zaA]
   have hall : (zaH cells pl.1 u.cells).all V.ok0 = true := by
    rw [yam] at hok ⊢
    intro y hy
    simp only [zaH, yak] at hy
    rcases hy with (hy | hy) | hy
    ·exact hok y (List.mem_of_mem_take hy)
    ·obtain ⟨k, hk, rfl⟩ := List.mem_iff_getElem.1 hy
     have := (hr k hk).1
     simpa [yad, yai hk] using this
    ·exact hok y (List.mem_of_mem_drop hy)
   have hR : R3 g1 w st1.m.length (tsAt a.tmps) (.agg (zaH cells pl.1 u.cells)) (.agg (zdn arr pl.1 (a.eval x).cells.toList)) := by
    refine ⟨_, rfl, by rw [zbC, za8 hlen]; exact hs0, fun k hk => ?_⟩
    rw [za8 hlen] at hk
    rw [zbU hlen, hget]
    split
    ·have := hr (k - pl.1) (by omega)
     exact ⟨.inl this.1, this.2⟩
    ·exact hr0 k hk
   have hC : ∀ c, cnt2 c (.agg (zaH cells pl.1 u.cells)) (.agg (zdn arr pl.1 (a.eval x).cells.toList)) ≤ cnt2 c u (a.eval x) + cnt2 c (.agg cells) (.agg arr) := fun c => by
    have := zdM (c := c) (cs := cells) (vs := u.cells) (arr := arr) (varr := (a.eval x).cells) (arr' := zdn arr pl.1 (a.eval x).cells.toList) hlen (fun k _ => hget k)
    rw [hcnt c]
    simp only [cnt2, cnt1]
    omega
   have hs2 : SR g1 w nl fr S st1 a.tmps ((.agg (zaH cells pl.1 u.cells), .agg (zdn arr pl.1 (a.eval x).cells.toList)) :: ps) := by
    have hT : ∀ c, zal g1 w nl fr st1 a.tmps ((.agg (zaH cells pl.1 u.cells), .agg (zdn arr pl.1 (a.eval x).cells.toList)) :: ps) c ≤ zal g1 w nl fr st1 a.tmps ((u, a.eval x) :: (.agg cells, .agg arr) :: ps) c := fun c => by
     have := hC c; unfold zal; rw [zap, zap, zap]; simp only; omega
    exact { hs with
     pend := fun q hq => by
      cases hq with
      | head => exact hR
      | tail _ hq => exact hs.pend q (.tail _ (.tail _ hq))
     ppeeks := fun q hq => by
      cases hq with
      | head => exact fun d hd => by cases hd
      | tail _ hq => exact hs.ppeeks q (.tail _ (.tail _ hq))
     one := fun c => Nat.le_trans (hT c) (hs.one c)
     out := fun c hc => by have := hT c; rw [hs.out c hc] at this; omega }
   obtain ⟨g2, arr2, hg2, hfill, hs3, hm3⟩ := zmA (hg.trans hg1) hq hs2 hall hf
   refine ⟨g2, arr2, hg2, ?_, hs3, hm3.trans hm⟩
   simp only [List.map_cons, Instr.fill, hpl]
   rw [if_neg (by
    simp only [Bool.or_eq_true, yat, not_or]
    refine ⟨by omega, by omega⟩)]
   rw [zge]
   exact hfill
  ·cases hf
theorem zet : ∀ {fs : List Field} {pl : List (Nat × Nat)} (w : World), zcq P fs = some pl → (fs.mapM fun (f : Field) => (do pure (f.offset, ← sizeOf f.type) : Sem (Nat × Nat))).run P w = .ok pl w
 | [], pl, w, h => by simp only [zcq, yaa] at h; subst h; simp
 | f :: fs, pl, w, h => by
  simp only [zcq, yab, yaa] at h
  obtain ⟨n, hn, q, hq, rfl⟩ := h
  simp only [za2, yah] at hn
  obtain ⟨i, hi, rfl⟩ := hn
  have ih := zet w hq
  simp [List.mapM_cons, sizeOf, typeInfo, hi]
  simp [sizeOf, typeInfo] at ih
  rw [ih]; simp
theorem zdN {t : TypeId} {z : List V} (h : zdL P t = some z) : ∃ i v, P.info? t = some i ∧ i.zero = some v ∧ zbj v.cells.toList = some z := by
 simp only [zdL, yab] at h
 obtain ⟨i, hi, v, hv, hc⟩ := h
 exact ⟨i, v, hi, hv, hc⟩
theorem zfL {g : G} {w : World} {n : Nat} {τ : Nat → Value} {cells : Array Value} {z : List V} (h : zbj cells.toList = some z) :
  R3 g w n τ (.agg z) (.agg cells) ∧ (V.agg z).hasOwn = false ∧ z.all V.ok0 = true ∧ z.length = cells.size := by
 obtain ⟨hl, hg, ho, hk⟩ := zbB (p := g.pers) (w := w) h
 refine ⟨⟨cells, rfl, by simpa using hl.symm, fun k hk' => ⟨.inl ?_, ?_⟩⟩, ?_, ho, by simpa using hl⟩
 ·exact yam.1 ho (z.getD k .undef) (by simp [yad, yai hk'])
 ·have := (hk k hk').r1 (g := g) (n := n)
  rwa [zaA] at this
 ·simp only [V.hasOwn, V.own1, List.any_eq_false]
  intro y hy
  have := yam.1 hg y hy
  simp [good_own this]
theorem zld [Lay P] {t : TypeId} {parts : Array (Nat × Operand)} {z : List V} {ops : List (Nat × Nat × Opd)} {hh : Hint} {place : Nat → Option (Nat × Nat)} (hop : oc.op = .build t parts)
  (hpl : (∃ fs pl, P.underlying t = some (.struct fs) ∧ zcq P fs.toList = some pl ∧ place = (pl[·]?)) ∨ (∃ k e n, P.underlying t = some (.array k e) ∧ za2 P e = some n ∧ place = fun i => some (i * n, n)))
  (hz : zdL P t = some z) (hc : zgL S hh place parts.toList = some ops) : OpOK P S nl oc (.build z ops) := by
 intro cf g w fr st a y st' _ h he K Q kk
 simp only [evalOp, yab, yaa, yac] at he
 obtain ⟨p, hp, rfl, rfl⟩ := he
 obtain ⟨i, v, hi, hv, hcz⟩ := zdN hz
 obtain ⟨hR, hO, hok, _⟩ := zfL (g := g) (w := w) (n := st.m.length) (τ := tsAt a.tmps) hcz
 have h1 : SR g w nl fr S st a.tmps [(.agg z, .agg v.cells)] := h.add hR hO (fun d hd => by cases hd)
 obtain ⟨g', arr', hg', hfill, hs, hm⟩ := zmA (GExt.refl g) hc h1 hok hp
 have hparts : (parts.map fun (p : Nat × Operand) => (p.1, a.eval p.2)).toList = parts.toList.map fun p => (p.1, a.eval p.2) := by simp
 refine za6 (v := .agg arr') (w' := w) ?_ (kk _ g' w hs (Ext.gext hg' w) (by rw [hm]; exact Nat.le_refl _))
 rcases hpl with ⟨fs, pl, hu, hpl, rfl⟩ | ⟨k, e, n, hu, hn, rfl⟩
 ·have hrun := zet (P := P) w hpl
  have hrun' : (fs.mapM fun (f : Field) => (do pure (f.offset, ← sizeOf f.type) : Sem (Nat × Nat))).run P w = .ok pl.toArray w := by
   rw [Array.mapM_eq_mapM_toList]
   have hb : ∀ (x : Sem (List (Nat × Nat))), (List.toArray <$> x) = x >>= fun l => pure l.toArray := fun _ => rfl
   rw [hb, Sem.run_bind, hrun]
   rfl
  have hr2 : (Instr.build t (parts.map fun (p : Nat × Operand) => (p.1, a.eval p.2))).run P w = .ok (.agg arr') w := by
   have hpt : (parts.map fun (p : Nat × Operand) => (p.1, a.eval p.2)).toList = parts.toList.map fun p => (p.1, a.eval p.2) := by simp
   simp only [Instr.build, Sem.run_bind]
   rw [show (zeroValue t).run P w = .ok v w from by simp [zeroValue, typeInfo, hi, hv]]
   simp only [Result.andThen_ok, Sem.run_bind, run_underlying hu]
   simp only [hrun', Result.andThen_ok, hpt]
   have : (fun (x : Nat) => pl.toArray[x]?) = (pl[·]?) := by funext x; simp
   rw [this, hfill]
   rfl
  simp only [execOp, hop, Sem.run_bind, hr2, Result.andThen_ok]
  rfl
 ·simp only [za2, yah] at hn
  obtain ⟨j, hj, rfl⟩ := hn
  simp [execOp, hop, Instr.build, zeroValue, typeInfo, hi, hv, run_underlying hu, sizeOf, hj, hfill]
end
end Go.Proofs.YtakdnfneikbjjaaGreatDoor.Am

namespace Go.Proofs.YtakdnfneikbjjaaGreatDoor.Am
theorem zb7 (w : World) (o : Obj) (c : Nat) (h : c < w.heap.size) : Same w (w.alloc o) c := by
 show (w.heap.push o)[c]? = w.heap[c]?
 rw [Array.getElem?_push, if_neg (Nat.ne_of_lt h)]
theorem zgN (w : World) (arr : Array Value) (e : TypeId) (fz : Nat × Nat) (h : (∀ k, k < arr.size → ¬(fz.1 ≤ k ∧ k < fz.2)) ∧ fz.1 ≤ fz.2) : Blk (w.alloc (.cells arr e fz)) w.heap.size arr e := by
 refine ⟨fz, ?_, h⟩
 show (w.heap.push _)[w.heap.size]? = _
 rw [Array.getElem?_push, if_pos rfl]
theorem zgO (w : World) (c : Nat) : Same w w.drew c := rfl
section
variable {g : G} {w : World} {nl : Nat} {fr : Nat → Nat} {S : Nat → Bool} {st : St} {ts : Array Value} {ps : List (V × Value)}
theorem SR.alloc (h : SR g w nl fr S st ts ps) (o : Obj) : SR g (w.alloc o) nl fr S st ts ps :=
 h.world (by simp) (fun c hc => zb7 w o c hc)
theorem SR.drew (h : SR g w nl fr S st ts ps) : SR g w.drew nl fr S st ts ps :=
 h.world (Nat.le_refl _) (fun c _ => zgO w c)
theorem SR.fresh (h : SR g w nl fr S st ts ps) (o : Obj) : zal g (w.alloc o) nl fr st ts ps w.heap.size = 0 := by
 rw [h.total_world (fun c hc => zb7 w o c hc)]
 exact h.out _ (Nat.le_refl _)
theorem SR.newOwn (h : SR g w nl fr S st ts ps) {sz : Nat} {xs : List (List V)} {a : Addr} {len cap : Nat} (hf : zal g w nl fr st ts ps a.block = 0) (hlt : a.block < w.heap.size)
  (ho : OwnS g.pers w sz xs (.slice (some a) len cap)) : SR g w nl fr S st ts ((.slice true sz xs, .slice (some a) len cap) :: ps) := by
 have hT : ∀ c, zal g w nl fr st ts ((.slice true sz xs, .slice (some a) len cap) :: ps) c = zal g w nl fr st ts ps c + if a.block = c then 1 else 0 := fun c => by
  unfold zal; rw [zap]; simp only [cnt2, cnt1, cnt0]; omega
 exact { h with
  pend := fun p hp => by
   cases hp with
   | head => exact ho
   | tail _ hp => exact h.pend p hp
  ppeeks := fun p hp => by
   cases hp with
   | head => exact fun d hd => by cases hd
   | tail _ hp => exact h.ppeeks p hp
  one := fun c => by
   rw [hT]
   split
   ·rename_i e; subst e; omega
   ·have := h.one c; omega
  out := fun c hc => by
   rw [hT, if_neg (by omega)]
   exact h.out c hc }
theorem zgP {j : Nat} {x : V} {r : Root} (h : (killLV j x).root? = some r) : x.root? = some r ∧ ∀ o, r ≠ .loc j o := by
 cases x with
 | place r' =>
  cases r' with
  | loc s' o =>
   simp only [killLV] at h
   split at h
   ·simp [V.root?] at h
   ·rename_i hne; simp [V.root?] at h; subst h; exact ⟨rfl, fun o e => by injection e with e _; exact hne e⟩
  | _ => simp [killLV, V.root?] at h; subst h; exact ⟨rfl, by simp⟩
 | el r' z i k =>
  cases r' with
  | loc s' o =>
   simp only [killLV] at h
   split at h
   ·simp [V.root?] at h
   ·rename_i hne; simp [V.root?] at h; subst h; exact ⟨rfl, fun o e => by injection e with e _; exact hne e⟩
  | _ => simp [killLV, V.root?] at h; subst h; exact ⟨rfl, by simp⟩
 | loc _ _ =>
  simp only [killLV] at h
  split at h <;> simp [V.root?] at h
 | _ => simp [killLV, V.root?] at h
theorem zlS {j j' o : Nat} {x : V} (h : killLV j x = .loc j' o) : j' ≠ j := by
 cases x with
 | place r' =>
  cases r' <;> simp only [killLV] at h
  ·cases h
  ·split at h <;> cases h
  ·cases h
 | el r' z i k =>
  cases r' <;> simp only [killLV] at h
  ·cases h
  ·split at h <;> cases h
  ·cases h
 | loc a b =>
  simp only [killLV] at h
  split at h
  ·cases h
  ·rename_i hne; injection h with h1 _; rw [← h1]; exact hne
 | _ => simp [killLV] at h
theorem R3.killL {n : Nat} {τ : Nat → Value} {x : V} {v : Value} (j : Nat) (h : R3 g w n τ x v) : R3 g w n τ (killLV j x) v := by
 cases x with
 | place r => cases r <;> simp only [killLV] <;> first | exact h | (split <;> first | exact h | trivial)
 | el r z i k => cases r <;> simp only [killLV] <;> first | exact h | (split <;> first | exact h | trivial)
 | loc _ _ => simp only [killLV]; split <;> first | exact h | trivial
 | _ => exact h
theorem R1.top {n : Nat} {x : V} {v : Value} (h : R1 g w n x v) : x.top ≤ n := by
 cases x with
 | ptr b o => exact h.1
 | func f cs =>
  obtain ⟨vs, _, _, hk⟩ := h
  simp only [V.top]
  have : ∀ (l : List V), (∀ y ∈ l, zf7 y ≤ n) → l.foldr (fun v m => max (zf7 v) m) 0 ≤ n := fun l => by
   induction l with
   | nil => intro _; simp
   | cons y l ih => intro hl; simp only [List.foldr_cons]; have := hl y (.head _); have := ih fun z hz => hl z (.tail _ hz); omega
  refine this cs fun y hy => ?_
  obtain ⟨k, hk', rfl⟩ := List.mem_iff_getElem.1 hy
  obtain ⟨b, off, e, hb, _⟩ := hk k hk'
  have : cs[k] = .ptr b off := by rw [← e]; simp [yad, yai hk']
  rw [this]; simp only [zf7]; omega
 | _ => simp [V.top]
theorem zmB {n : Nat} {cs : List V} (h : ∀ k, k < cs.length → (cs.getD k .undef).top ≤ n) : tops cs ≤ n := by
 induction cs with
 | nil => simp [tops]
 | cons y l ih =>
  simp only [tops, List.foldr_cons]
  have h0 := h 0 (by simp)
  have := ih fun k hk => by simpa using h (k + 1) (by simpa using hk)
  simp only [tops] at this
  simp at h0
  omega
def G.withLoc (g : G) (j c : Nat) (cells : List V) : G := { g with lb := upd g.lb j c, lv := upd g.lv j (cells ≠ []) }
theorem SR.newLoc {X : V} {Xv : Value} (h : SR g w nl fr S st ts [(X, Xv)]) {cells : List V} {arr : Array Value} (e : TypeId) (j : Nat) (hj : j < nl) (hs : arr.size = cells.length)
  (hr : ∀ k, k < cells.length → (cells.getD k .undef).ok0 = true ∧ R1 g w st.m.length (cells.getD k .undef) (arr.getD k undef)) (hc : ∀ c, cntL c cells arr ≤ cnt2 c X Xv) :
  SR (g.withLoc j w.heap.size cells) (w.alloc (.cells arr e)) nl fr S { st with l := upd st.l j cells, σ := killL j st.σ } ts [(.loc j 0, .pointer (some ⟨w.heap.size, 0, none⟩))] := by
 have h2 := h.alloc (.cells arr e)
 have hB := zgN w arr e (0, 0) ⟨fun k _ => by simp, Nat.le_refl _⟩
 have hfr := h.fresh (.cells arr e)
 have hlb : ∀ i, i ≠ j → (upd g.lb j w.heap.size) i = g.lb i := fun i hi => by simp [upd, hi]
 have hroot : ∀ {x v}, R3 g (w.alloc (.cells arr e)) st.m.length (tsAt ts) x v → ∀ r, (∀ o, r ≠ .loc j o) → zcg g (w.alloc (.cells arr e)) (tsAt ts) (g.withLoc j w.heap.size cells) (w.alloc (.cells arr e)) (tsAt ts) r := fun {x v} _ r hr' => by
  cases r with
  | mem b o => rfl
  | loc i o =>
   have hi : i ≠ j := fun e => hr' o (by rw [e])
   exact fun hl => ⟨hlb i hi, by simp only [G.withLoc, upd, if_neg hi]; exact hl, rfl⟩
  | tmp s => rfl
 have hcntl : ∀ c, cntB (g.withLoc j w.heap.size cells) (w.alloc (.cells arr e)) c nl (upd st.l j cells) ≤ cntB g (w.alloc (.cells arr e)) c nl st.l + cntL c cells arr + if w.heap.size = c then 1 else 0 := fun c => by
  have := zb3 (n := nl) (f := fun i => zbb (g.withLoc j w.heap.size cells) (w.alloc (.cells arr e)) c (upd st.l j cells) i) (g := fun i => zbb g (w.alloc (.cells arr e)) c st.l i) hj
   (fun i _ hi => by simp only [zbb, G.withLoc, upd, if_neg hi])
  unfold cntB
  have e1 : zbb (g.withLoc j w.heap.size cells) (w.alloc (.cells arr e)) c (upd st.l j cells) j ≤ cntL c cells arr + if w.heap.size = c then 1 else 0 := by
   simp only [zbb, G.withLoc, upd, if_true]
   rw [hB.cellsOf]
   by_cases hq : w.heap.size = c
   ·rw [if_pos hq]; split <;> omega
   ·rw [if_neg hq, if_neg (by rintro ⟨_, e⟩; exact hq e)]; omega
  omega
 have hT : ∀ c, zal (g.withLoc j w.heap.size cells) (w.alloc (.cells arr e)) nl fr { st with l := upd st.l j cells, σ := killL j st.σ } ts [(.loc j 0, .pointer (some ⟨w.heap.size, 0, none⟩))] c
   ≤ zal g (w.alloc (.cells arr e)) nl fr st ts [(X, Xv)] c + if w.heap.size = c then 1 else 0 := fun c => by
  have h1 := hcntl c
  have h3 : cntT c (killL j st.σ) ts = cntT c st.σ ts := zdh fun s => zkh
  have h4 : cntM (g.withLoc j w.heap.size cells) (w.alloc (.cells arr e)) c st.m = cntM g (w.alloc (.cells arr e)) c st.m := rfl
  have h5 : za0 (g.withLoc j w.heap.size cells) c = za0 g c := rfl
  have := hc c
  unfold zal
  rw [zap, zap, zc9]
  simp only [h3, h4, h5]
  have h6 : cnt2 c (.loc j 0) (.pointer (some ⟨w.heap.size, 0, none⟩)) = 0 := rfl
  rw [h6]
  omega
 have mono : ∀ {x v}, R3 g (w.alloc (.cells arr e)) st.m.length (tsAt ts) x v → (∀ o, x ≠ .loc j o) → (∀ r, x.root? = some r → ∀ o, r ≠ .loc j o) →
   R3 (g.withLoc j w.heap.size cells) (w.alloc (.cells arr e)) st.m.length (tsAt ts) x v := fun {x v} hx hn hnr =>
  R3.mono (g := g) (τ := tsAt ts) (fun c hc => ⟨hc, Same.refl _ _⟩) (Nat.le_refl _) (fun _ _ => rfl) (fun _ _ => Same.refl _ _) (fun i o e => hlb i fun e' => hn o (by rw [e, e'])) (fun r e => hroot hx r (hnr r e)) hx
 have cmono : ∀ {c cs}, CBlk g (w.alloc (.cells arr e)) st.m.length c cs → CBlk (g.withLoc j w.heap.size cells) (w.alloc (.cells arr e)) st.m.length c cs := fun {c cs} hx =>
  CBlk.mono (g := g) (fun c hc => ⟨hc, Same.refl _ _⟩) (Nat.le_refl _) (fun _ _ => rfl) (Same.refl _ _) (fun _ _ => Same.refl _ _) hx
 refine ⟨fun s => ?_, fun s hs' => ?_, fun s d hd => ?_, fun p hp => ?_, fun p hp d hd => ?_, fun i => ?_, fun i hi => ?_, fun b hb => ⟨cmono (h2.mem b hb).1, (h2.mem b hb).2⟩, fun c => ?_, fun c hc' => ?_⟩
 ·refine mono (R3.killL j (h2.temps s)) (fun o e => zlS e rfl) fun r hr' o => (zgP hr').2 o
 ·simp only [killL]; rw [h.dead s hs']; rfl
 ·exact h.peeks s d (zgP hd).1
 ·simp only [yao] at hp
  subst hp
  have : (Value.pointer (some ⟨w.heap.size, 0, none⟩)) = Value.pointer (some ⟨upd g.lb j w.heap.size j, 0, none⟩) := by simp [upd]
  exact this
 ·simp only [yao] at hp
  subst hp; cases hd
 ·by_cases hij : i = j
  ·subst hij; simp [G.withLoc, upd]
  ·simp only [G.withLoc, upd, if_neg hij]; exact h.lvs i
 ·by_cases hij : i = j
  ·subst hij
   simp only [G.withLoc, upd, if_true] at hi ⊢
   refine ⟨hj, arr, e, hB, hs, fun k hk => ⟨.inl (hr k hk).1, ?_⟩⟩
   have hk' := (hr k hk)
   exact R1.mono0 (g := g) (w := w) (n := st.m.length) (fun c hc => ⟨hc, zb7 w _ c (by
    rcases Nat.lt_or_ge c w.heap.size with hl | hl
    ·exact hl
    ·have := h.tot_pers hc; rw [h.out c hl] at this; omega)⟩) (Nat.le_refl _) (fun _ _ => rfl) (fun c hc' => zb7 w _ c (by
    rcases Nat.lt_or_ge c w.heap.size with hl | hl
    ·exact hl
    ·have h1 := zdm (c := c) (xs := cells) (vs := arr) hk
     have h3 := hc c
     have h4 := h.tot_pend (p := (X, Xv)) (.head _) (c := c) (by simp only; omega)
     rw [h.out c hl] at h4; omega)) (.inl hk'.1) hk'.2
  ·simp only [upd, if_neg hij] at hi
   have h7 : (g.withLoc j w.heap.size cells).lb i = g.lb i := hlb i hij
   have h8 : upd st.l j cells i = st.l i := by simp only [upd, if_neg hij]
   show i < nl ∧ CBlk _ _ st.m.length _ (upd st.l j cells i)
   rw [h7, h8]
   exact ⟨(h2.locs i hi).1, cmono (h2.locs i hi).2⟩
 ·have h1 := hT c
  by_cases hq : w.heap.size = c
  ·subst hq; rw [hfr, if_pos rfl] at h1; exact h1
  ·rw [if_neg hq] at h1; have := h2.one c; omega
 ·have h1 := hT c
  have hc2 : w.heap.size + 1 ≤ c := by simpa using hc'
  rw [if_neg (by omega), h2.out c hc'] at h1
  omega
theorem zeg {m : List (List V)} {b : Nat} {x : List V} (h : b < m.length) : (m ++ [x]).getD b [] = m.getD b [] := by
 simp [yad, yaq h]
theorem zeh {m : List (List V)} {x : List V} : (m ++ [x]).getD m.length [] = x := by
 simp [yad]
theorem SR.newMem {X : V} {Xv : Value} (h : SR g w nl fr S st ts [(X, Xv)]) {cells : List V} {arr : Array Value} (e : TypeId) (hs : arr.size = cells.length)
  (hr : ∀ k, k < cells.length → (cells.getD k .undef).ok0 = true ∧ R1 g w st.m.length (cells.getD k .undef) (arr.getD k undef)) (hc : ∀ c, cntL c cells arr ≤ cnt2 c X Xv) :
  SR { g with mb := upd g.mb st.m.length w.heap.size } (w.alloc (.cells arr e)) nl fr S { st with m := st.m ++ [cells] } ts [(.ptr st.m.length 0, .pointer (some ⟨w.heap.size, 0, none⟩))] := by
 have h2 := h.alloc (.cells arr e)
 have hB := zgN w arr e (0, 0) ⟨fun k _ => by simp, Nat.le_refl _⟩
 have hfr := h.fresh (.cells arr e)
 have hmb : ∀ i, i < st.m.length → (upd g.mb st.m.length w.heap.size) i = g.mb i := fun i hi => by simp [upd, Nat.ne_of_lt hi]
 have hlen : (st.m ++ [cells]).length = st.m.length + 1 := by simp
 have hcntM : ∀ c, cntM { g with mb := upd g.mb st.m.length w.heap.size } (w.alloc (.cells arr e)) c (st.m ++ [cells]) = cntM g (w.alloc (.cells arr e)) c st.m + ((if w.heap.size = c then 1 else 0) + cntL c cells arr) := fun c => by
  unfold cntM
  rw [hlen]
  simp only [zaS]
  congr 1
  ·refine zaq fun b hb => ?_
   simp only [zaU, hmb b hb]
   rw [zeg hb]
  ·simp only [zaU, upd, if_true]
   rw [zeh, hB.cellsOf]
 have hT : ∀ c, zal { g with mb := upd g.mb st.m.length w.heap.size } (w.alloc (.cells arr e)) nl fr { st with m := st.m ++ [cells] } ts [(.ptr st.m.length 0, .pointer (some ⟨w.heap.size, 0, none⟩))] c
   ≤ zal g (w.alloc (.cells arr e)) nl fr st ts [(X, Xv)] c + if w.heap.size = c then 1 else 0 := fun c => by
  have h1 := hcntM c
  have h5 : za0 { g with mb := upd g.mb st.m.length w.heap.size } c = za0 g c := rfl
  have h4 : cntB { g with mb := upd g.mb st.m.length w.heap.size } (w.alloc (.cells arr e)) c nl st.l = cntB g (w.alloc (.cells arr e)) c nl st.l := rfl
  have := hc c
  unfold zal
  rw [zap, zap, zc9]
  simp only [h1, h4, h5]
  have h6 : cnt2 c (.ptr st.m.length 0) (.pointer (some ⟨w.heap.size, 0, none⟩)) = 0 := rfl
  rw [h6]
  omega
 have hcell : ∀ {x v b o}, R3 g (w.alloc (.cells arr e)) st.m.length (tsAt ts) x v → x.root? = some (.mem b o) → b < st.m.length := fun hx hr => (zgu hx hr).1
 have mono : ∀ {x v}, R3 g (w.alloc (.cells arr e)) st.m.length (tsAt ts) x v → R3 { g with mb := upd g.mb st.m.length w.heap.size } (w.alloc (.cells arr e)) (st.m ++ [cells]).length (tsAt ts) x v := fun {x v} hx =>
  R3.mono (g := g) (τ := tsAt ts) (fun c hc => ⟨hc, Same.refl _ _⟩) (by rw [hlen]; omega) (fun b hb => hmb b hb) (fun _ _ => Same.refl _ _) (fun _ _ _ => rfl) (fun r _ => by
   cases r with
   | mem b o => rfl
   | loc i o => exact fun hl => ⟨rfl, hl, rfl⟩
   | tmp s => rfl) hx
 have cmono : ∀ {c cs}, CBlk g (w.alloc (.cells arr e)) st.m.length c cs → CBlk { g with mb := upd g.mb st.m.length w.heap.size } (w.alloc (.cells arr e)) (st.m ++ [cells]).length c cs := fun {c cs} hx =>
  CBlk.mono (g := g) (fun c hc => ⟨hc, Same.refl _ _⟩) (by rw [hlen]; omega) (fun b hb => hmb b hb) (Same.refl _ _) (fun _ _ => Same.refl _ _) hx
 refine ⟨fun s => mono (h2.temps s), h.dead, h.peeks, fun p hp => ?_, fun p hp d hd => ?_, h.lvs, fun i hi => ⟨(h2.locs i hi).1, cmono (h2.locs i hi).2⟩, fun b hb => ?_, fun c => ?_, fun c hc' => ?_⟩
 ·simp only [yao] at hp
  subst hp
  exact ⟨by simp only [hlen]; omega, by simp only [upd, if_true]⟩
 ·simp only [yao] at hp
  subst hp; cases hd
 ·simp only [hlen] at hb
  by_cases hq : b = st.m.length
  ·subst hq
   simp only [upd, if_true, zeh]
   refine ⟨⟨arr, e, hB, hs, fun k hk => ⟨.inl (hr k hk).1, ?_⟩⟩, ?_⟩
   ·have hk' := (hr k hk)
    exact R1.mono0 (g := g) (w := w) (n := st.m.length) (fun c hc => ⟨hc, zb7 w _ c (by
     rcases Nat.lt_or_ge c w.heap.size with hl | hl
     ·exact hl
     ·have := h.tot_pers hc; rw [h.out c hl] at this; omega)⟩) (by rw [hlen]; omega) (fun b hb => hmb b hb) (fun c hc' => zb7 w _ c (by
     rcases Nat.lt_or_ge c w.heap.size with hl | hl
     ·exact hl
     ·have h1 := zdm (c := c) (xs := cells) (vs := arr) hk
      have h3 := hc c
      have h4 := h.tot_pend (p := (X, Xv)) (.head _) (c := c) (by simp only; omega)
      rw [h.out c hl] at h4; omega)) (.inl hk'.1) hk'.2
   ·have := zmB (n := st.m.length) fun k hk => (hr k hk).2.top
    omega
  ·have hb' : b < st.m.length := by omega
   simp only [hmb b hb', zeg hb']
   exact ⟨cmono (h2.mem b hb').1, (h2.mem b hb').2⟩
 ·have h1 := hT c
  by_cases hq : w.heap.size = c
  ·subst hq; rw [hfr, if_pos rfl] at h1; exact h1
  ·rw [if_neg hq] at h1; have := h2.one c; omega
 ·have h1 := hT c
  have hc2 : w.heap.size + 1 ≤ c := by simpa using hc'
  rw [if_neg (by omega), h2.out c hc'] at h1
  omega
end
theorem Ext.alloc {fr : Nat → Nat} {n0 : Nat} {g g' : G} {w : World} (o : Obj) (hp : ∀ c, g.pers c → g'.pers c ∧ c < w.heap.size) (hf : ∀ c, 0 < fr c → c < w.heap.size) (hm : ∀ b, b < n0 → g'.mb b = g.mb b) : Ext fr n0 g w g' (w.alloc o) :=
 ⟨rfl, rfl, rfl, by simp, fun c hc => ⟨(hp c hc).1, zb7 w o c (hp c hc).2⟩, fun c hc => zb7 w o c (hf c hc), hm⟩
theorem Ext.drew {fr : Nat → Nat} {n0 : Nat} (g : G) (w : World) : Ext fr n0 g w g w.drew :=
 ⟨rfl, rfl, rfl, Nat.le_refl _, fun _ h => ⟨h, Same.refl _ _⟩, fun _ _ => Same.refl _ _, fun _ _ => rfl⟩
section
variable {g : G} {w : World} {nl : Nat} {fr : Nat → Nat} {S : Nat → Bool} {st : St} {ts : Array Value} {ps : List (V × Value)}
theorem SR.pers_lt (h : SR g w nl fr S st ts ps) {c : Nat} (hc : g.pers c) : c < w.heap.size := by
 rcases Nat.lt_or_ge c w.heap.size with hl | hl
 ·exact hl
 ·have := h.tot_pers hc; rw [h.out c hl] at this; omega
theorem SR.fr_lt (h : SR g w nl fr S st ts ps) {c : Nat} (hc : 0 < fr c) : c < w.heap.size := by
 rcases Nat.lt_or_ge c w.heap.size with hl | hl
 ·exact hl
 ·have := h.out c hl; unfold zal at this; omega
theorem SR.extAlloc (h : SR g w nl fr S st ts ps) (n0 : Nat) (o : Obj) : Ext fr n0 g w g (w.alloc o) :=
 .alloc o (fun _ hc => ⟨hc, h.pers_lt hc⟩) (fun _ hc => h.fr_lt hc) (fun _ _ => rfl)
end
end Go.Proofs.YtakdnfneikbjjaaGreatDoor.Am

namespace Go.Proofs.YtakdnfneikbjjaaGreatDoor.Am
section
variable {P : Program} {S : Nat → Bool} {nl : Nat} {oc : Oper}
theorem zmC [Lay P] {t : TypeId} {j : Nat} {z : List V} (hop : oc.op = .alloc t) (hz : zdL P t = some z) (hj : j < nl) : OpOK P S nl oc (.allocL j z) := by
 intro cf g w fr st a y st' _ h he K Q kk
 simp only [evalOp] at he
 split at he
 ·simp only [yaa, yac] at he
  obtain ⟨rfl, rfl⟩ := he
  obtain ⟨i, v, hi, hv, hcz⟩ := zdN hz
  obtain ⟨hR, hO, hok, hlen⟩ := zfL (g := g) (w := w) (n := st.m.length) (τ := tsAt a.tmps) hcz
  have h1 : SR g w nl fr S st a.tmps [(.agg z, .agg v.cells)] := h.add hR hO (fun d hd => by cases hd)
  obtain ⟨arr, e, hs, hr⟩ := hR
  injection e with e
  subst e
  have h2 := h1.newLoc (cells := z) (arr := v.cells) t j hj hs (fun k hk => ⟨yam.1 hok _ (by simp [yad, yai hk]), (hr k hk).2⟩) (fun c => Nat.le_refl _)
  refine za6 (v := .pointer (some ⟨w.heap.size, 0, none⟩)) (w' := w.alloc (.cells v.cells t)) ?_ (kk _ _ _ h2 ?_ (Nat.le_refl _))
  ·simp [execOp, hop, Instr.alloc, zeroValue, typeInfo, hi, hv, newVar, newRow]
  ·exact .alloc _ (fun _ hc => ⟨hc, h.pers_lt hc⟩) (fun _ hc => h.fr_lt hc) (fun _ _ => rfl)
 ·cases he
theorem zmD [Lay P] {t : TypeId} {z : List V} (hop : oc.op = .alloc t) (hz : zdL P t = some z) : OpOK P S nl oc (.allocM z) := by
 intro cf g w fr st a y st' _ h he K Q kk
 simp only [evalOp] at he
 split at he
 ·simp only [yaa, yac] at he
  obtain ⟨rfl, rfl⟩ := he
  obtain ⟨i, v, hi, hv, hcz⟩ := zdN hz
  obtain ⟨hR, hO, hok, hlen⟩ := zfL (g := g) (w := w) (n := st.m.length) (τ := tsAt a.tmps) hcz
  have h1 : SR g w nl fr S st a.tmps [(.agg z, .agg v.cells)] := h.add hR hO (fun d hd => by cases hd)
  obtain ⟨arr, e, hs, hr⟩ := hR
  injection e with e
  subst e
  have h2 := h1.newMem (cells := z) (arr := v.cells) t hs (fun k hk => ⟨yam.1 hok _ (by simp [yad, yai hk]), (hr k hk).2⟩) (fun c => Nat.le_refl _)
  refine za6 (v := .pointer (some ⟨w.heap.size, 0, none⟩)) (w' := w.alloc (.cells v.cells t)) ?_ (kk _ _ _ h2 ?_ (by simp))
  ·simp [execOp, hop, Instr.alloc, zeroValue, typeInfo, hi, hv, newVar, newRow]
  ·exact .alloc _ (fun _ hc => ⟨hc, h.pers_lt hc⟩) (fun _ hc => h.fr_lt hc) (fun b hb => by simp [upd, Nat.ne_of_lt hb])
 ·cases he
theorem zo3 [Lay P] {t : TypeId} {x : Operand} {j : Nat} {o : Opd} (hop : oc.op = .box t x) (ho : za7 S x o) (hj : j < nl) : OpOK P S nl oc (.boxL j o) := by
 intro cf g w fr st a y st' _ h he K Q kk
 simp only [evalOp, yab] at he
 obtain ⟨p, hp, he⟩ := he
 obtain ⟨g', hg, hs, hm, _⟩ := h.getO ho hp
 obtain ⟨u, st1⟩ := p
 simp only at he hs hm
 split at he
 ·rename_i hok
  simp only [yaa, yac] at he
  obtain ⟨rfl, rfl⟩ := he
  obtain ⟨hsz, hr, hc⟩ := R3.cells (hs.pend _ (.head _)) hok
  have h2 := hs.newLoc (cells := u.cells) (arr := (a.eval x).cells) t j hj hsz hr (fun c => by rw [hc c]; exact Nat.le_refl _)
  refine za6 (v := .pointer (some ⟨w.heap.size, 0, none⟩)) (w' := w.alloc (.cells (a.eval x).cells t)) ?_ (kk _ _ _ h2 ?_ (by rw [hm]; exact Nat.le_refl _))
  ·simp [execOp, hop, Instr.box, newVar, newRow]
  ·exact .alloc _ (fun c hc => ⟨hg.pers c hc, h.pers_lt hc⟩) (fun _ hc => h.fr_lt hc) (fun _ _ => by show g'.mb _ = _; rw [hg.mb])
 ·cases he
theorem zo4 [Lay P] {t : TypeId} {x : Operand} {o : Opd} (hop : oc.op = .box t x) (ho : za7 S x o) : OpOK P S nl oc (.boxM o) := by
 intro cf g w fr st a y st' _ h he K Q kk
 simp only [evalOp, yab] at he
 obtain ⟨p, hp, he⟩ := he
 obtain ⟨g', hg, hs, hm, _⟩ := h.getO ho hp
 obtain ⟨u, st1⟩ := p
 simp only at he hs hm
 split at he
 ·rename_i hok
  simp only [yaa, yac] at he
  obtain ⟨rfl, rfl⟩ := he
  obtain ⟨hsz, hr, hc⟩ := R3.cells (hs.pend _ (.head _)) hok
  have h2 := hs.newMem (cells := u.cells) (arr := (a.eval x).cells) t hsz hr (fun c => by rw [hc c]; exact Nat.le_refl _)
  refine za6 (v := .pointer (some ⟨w.heap.size, 0, none⟩)) (w' := w.alloc (.cells (a.eval x).cells t)) ?_ (kk _ _ _ h2 ?_ (by simp [hm]))
  ·simp [execOp, hop, Instr.box, newVar, newRow]
  ·exact .alloc _ (fun c hc => ⟨hg.pers c hc, h.pers_lt hc⟩) (fun _ hc => h.fr_lt hc) (fun b hb => by
    have : b ≠ st1.m.length := by rw [hm]; omega
    simp [upd, this, hg.mb])
 ·cases he
def zfM (p : Nat → Prop) (w : World) (sz : Nat) (xs : List (List V)) (arr : Array Value) : Prop :=
 (∀ i, i < xs.length → (xs.getD i []).length = sz) ∧ ∀ i k, i < xs.length → k < sz → i * sz + k < arr.size ∧ RB p w ((xs.getD i []).getD k .undef) (arr.getD (i * sz + k) undef)
theorem zfM.elems {p p' : Nat → Prop} {w w' : World} {sz : Nat} {xs : List (List V)} {arr : Array Value} (h : zfM p w sz xs arr) (hp : ∀ c, p c → p' c ∧ Same w w' c) {c : Nat} {e : TypeId} (hB : Blk w' c arr e) : zdl p' w' ⟨c, 0, none⟩ sz xs :=
 ⟨h.1, fun i k hi hk => by
  obtain ⟨hlt, hr⟩ := h.2 i k hi hk
  refine ⟨arr.getD (i * sz + k) undef, ?_, hr.mono hp⟩
  rw [hB.cell, Nat.zero_add, yaf, yaj hlt]
  rfl⟩
theorem zcr {i sz k n : Nat} (hi : i < n) (hk : k < sz) : i * sz + k < n * sz := by
 have : (i + 1) * sz ≤ n * sz := Nat.mul_le_mul_right _ hi
 rw [Nat.add_mul] at this
 omega
theorem zgQ {i i' sz k k' : Nat} (hk : k < sz) (hk' : k' < sz) (h : i * sz + k = i' * sz + k') : i = i' ∧ k = k' := by
 have h1 : (i * sz + k) / sz = i := by rw [Nat.mul_comm, Nat.mul_add_div (by omega)]; simp [Nat.div_eq_of_lt hk]
 have h2 : (i' * sz + k') / sz = i' := by rw [Nat.mul_comm, Nat.mul_add_div (by omega)]; simp [Nat.div_eq_of_lt hk']
 have : i = i' := by rw [← h1, ← h2, h]
 subst this
 exact ⟨rfl, by omega⟩
theorem SR.newRow {g : G} {w : World} {fr : Nat → Nat} {st : St} {ts : Array Value} {ps : List (V × Value)} (h : SR g w nl fr S st ts ps) {sz : Nat} {xs : List (List V)} {arr : Array Value} {e : TypeId} {cap : Nat} {fz : Nat × Nat}
  (hr : zfM g.pers w sz xs arr) (hcap : xs.length ≤ cap) (hsz : cap * sz ≤ arr.size) (hfz : (∀ k, k < arr.size → ¬(fz.1 ≤ k ∧ k < fz.2)) ∧ fz.1 ≤ fz.2) :
  SR g (w.alloc (.cells arr e fz)) nl fr S st ts ((.slice true sz xs, .slice (some ⟨w.heap.size, 0, none⟩) xs.length cap) :: ps) := by
 have hB := zgN w arr e fz hfz
 refine (h.alloc (.cells arr e fz)).newOwn (h.fresh _) (by simp) ⟨⟨w.heap.size, 0, none⟩, cap, arr, e, rfl, rfl, hcap, hB, by simpa using hsz, ?_⟩
 exact hr.elems (fun c hc => ⟨hc, zb7 w _ c (h.pers_lt hc)⟩) hB
theorem zhS {p : Nat → Prop} {w : World} {cells : Array Value} {z : List V} (h : zbj cells.toList = some z) (n : Nat) {arr : Array Value} (hsz : n * z.length ≤ arr.size)
  (ha : ∀ k, k < n * z.length → arr.getD k undef = cells.getD (k % z.length) undef) : zfM p w z.length (List.replicate n z) arr := by
 obtain ⟨hl, hg, ho, hk⟩ := zbB (p := p) (w := w) h
 have hget : ∀ i, i < n → (List.replicate n z).getD i [] = z := fun i hi => by simp [yad, hi]
 refine ⟨fun i hi => ?_, fun i k hi hk' => ?_⟩
 ·rw [hget i (by simpa using hi)]
 ·have hi' : i < n := by simpa using hi
  rw [hget i hi']
  have hlt := zcr hi' hk'
  refine ⟨by omega, ?_⟩
  rw [ha _ hlt]
  have : (i * z.length + k) % z.length = k := by rw [Nat.mul_comm, Nat.mul_add_mod]; exact Nat.mod_eq_of_lt hk'
  rw [this]
  have := hk k hk'
  rwa [zaA] at this
theorem zle {y : V} (h : y.good = true) : y.ok0 = true := by
 cases y <;> first | rfl | (simp [V.good] at h; done) | skip
 simp [V.good] at h
 simp [V.ok0, h]
theorem zn6 {u : V} (h : u.cells.all V.good = true) : u.ok1 = true := by
 have : ∀ y ∈ u.cells, y.ok0 = true := fun y hy => zle (yam.1 h y hy)
 cases u <;> first | exact yam.2 this | exact this _ (List.Mem.head _)
theorem zgf {g0 : G} {w : World} {fr : Nat → Nat} {a : Act} {sz : Nat} {hh : Hint} :
  ∀ {parts : List (Nat × Operand)} {ops : List (Nat × Opd)} {g : G} {st st' : St} {xs xs' : List (List V)} {arr : Array Value},
   GExt g0 g → zhQ S hh parts = some ops → SR g w nl fr S st a.tmps [] → zfM g.pers w sz xs arr → arr.size = xs.length * sz → zbe st sz xs ops = some (xs', st') →
   ∃ g' arr', GExt g0 g' ∧ Instr.fill (fun i => some (i * sz, sz)) arr (parts.map fun p => (p.1, a.eval p.2)) = some arr' ∧ SR g' w nl fr S st' a.tmps [] ∧ zfM g'.pers w sz xs' arr' ∧ xs'.length = xs.length ∧ arr'.size = arr.size ∧ st'.m = st.m
 | [], ops, g, st, st', xs, xs', arr, hg, hc, h, hrow, _, hf => by
  simp only [zhQ, yaa] at hc
  subst hc
  simp only [zbe, yaa, yac] at hf
  obtain ⟨rfl, rfl⟩ := hf
  exact ⟨g, arr, hg, rfl, h, hrow, rfl, rfl, rfl⟩
 | (i, x) :: parts, ops, g, st, st', xs, xs', arr, hg, hc, h, hrow, hsize, hf => by
  simp only [zhQ, yab, yaa] at hc
  obtain ⟨o, ho, q, hq, rfl⟩ := hc
  simp only [zbe, yab] at hf
  obtain ⟨p, hp, hf⟩ := hf
  obtain ⟨g1, hg1, hs, hm, _⟩ := h.getO (za5 ho) hp
  obtain ⟨u, st1⟩ := p
  simp only at hf hs hm
  split at hf
  ·rename_i hcond
   obtain ⟨hn, hi, hgood⟩ := hcond
   have hok1 : u.ok1 = true := zn6 hgood
   obtain ⟨hz, hr, hcnt⟩ := R3.cells (hs.pend _ (.head _)) hok1
   simp only at hz hr hcnt
   have hrow1 : zfM g1.pers w sz xs arr := ⟨hrow.1, fun i k hi hk => ⟨(hrow.2 i k hi hk).1, (hrow.2 i k hi hk).2.mono fun c hc => ⟨hg1.pers c hc, Same.refl _ _⟩⟩⟩
   have hvl : (a.eval x).cells.toList.length = sz := by simp [hz, hn]
   have hw : i * sz + (a.eval x).cells.toList.length ≤ arr.size := by
    rw [hvl, hsize]
    have : (i + 1) * sz ≤ xs.length * sz := Nat.mul_le_mul_right _ hi
    rw [Nat.add_mul] at this
    omega
   have hget : ∀ k, (zdn arr (i * sz) (a.eval x).cells.toList).getD k undef = if i * sz ≤ k ∧ k < i * sz + sz then (a.eval x).cells.getD (k - i * sz) undef else arr.getD k undef := fun k => by
    rw [zcH k hw, hvl, zaA]
   have hsetget : ∀ j, j < xs.length → (xs.set i u.cells).getD j [] = if j = i then u.cells else xs.getD j [] := fun j hj => by
    simp only [yad, List.getElem?_set]
    by_cases e : i = j
    ·subst e; simp [hi]
    ·simp [e, Ne.symm e]
   have hrow2 : zfM g1.pers w sz (xs.set i u.cells) (zdn arr (i * sz) (a.eval x).cells.toList) := by
    refine ⟨fun j hj => ?_, fun j k hj hk => ?_⟩
    ·have hj' : j < xs.length := by simpa using hj
     rw [hsetget j hj']
     split
     ·exact hn
     ·exact hrow.1 j hj'
    ·have hj' : j < xs.length := by simpa using hj
     rw [hsetget j hj', zbC, hget]
     obtain ⟨hlt, hR⟩ := hrow1.2 j k hj' hk
     refine ⟨hlt, ?_⟩
     by_cases e : j = i
     ·subst e
      rw [if_pos rfl, if_pos (by omega)]
      have : j * sz + k - j * sz = k := by omega
      rw [this]
      have hk' := hr k (by omega)
      have hgd : (u.cells.getD k .undef).good = true := yam.1 hgood _ (by simp [yad, yai (show k < u.cells.length by omega)])
      exact hk'.2.rb hgd
     ·rw [if_neg e, if_neg (by
       rintro ⟨h1, h2⟩
       have h3 := zgQ (i := j) (i' := i) (sz := sz) (k := k) (k' := j * sz + k - i * sz) hk (by omega) (by omega)
       exact e h3.1)]
      exact hR
   obtain ⟨g2, arr2, hg2, hfill, hs3, hrow3, hl3, hsz3, hm3⟩ := zgf (hg.trans hg1) hq hs.drop hrow2 (by rw [zbC, hsize]; simp) hf
   refine ⟨g2, arr2, hg2, ?_, hs3, hrow3, by rw [hl3]; simp, by rw [hsz3, zbC], hm3.trans hm⟩
   simp only [List.map_cons, Instr.fill]
   rw [if_neg (by
    simp only [Bool.or_eq_true, yat, not_or]
    rw [hz, hn]
    simp only [hvl] at hw
    refine ⟨by omega, by omega⟩)]
   rw [zge]
   exact hfill
  ·cases hf
end
end Go.Proofs.YtakdnfneikbjjaaGreatDoor.Am

namespace Go.Proofs.YtakdnfneikbjjaaGreatDoor.Am
section
variable {P : Program} {S : Nat → Bool} {nl : Nat} {oc : Oper}
theorem zbQ (s : List UInt8) : (zcy s).length = s.length := by simp [zcy]
theorem zcR (s : List UInt8) (i : Nat) (h : i < s.length) : (zcy s).getD i [] = [V.int .u8 (s.getD i 0).toNat] := by
 simp [zcy, yad, yai h]
theorem zkq [Lay P] {src dst e : TypeId} {x : Operand} {o : Opd} (hop : oc.op = .convert src dst x) (hs : P.underlying src = some .string) (hd : P.underlying dst = some (.slice e)) (hel : P.underlying e = some (.int .u8))
  (ho : za7 S x o) : OpOK P S nl oc (.strBytes o) := by
 intro cf g w fr st a y st' _ h he K Q kk
 simp only [evalOp, yab] at he
 obtain ⟨u, hu, he⟩ := he
 obtain ⟨h1, _, _⟩ := h.getC ho hu
 cases u with
 | str s =>
  simp only [yaa, yac] at he
  obtain ⟨rfl, rfl⟩ := he
  obtain ⟨b, eb, rfl⟩ := R3.str h1
  have hrun := run_bytes_of_string (P := P) w src dst e b hs hd hel
  obtain ⟨cap, hcap⟩ : ∃ cap, cap = grownCap w b.size 0 e := ⟨_, rfl⟩
  have hcapge : b.size ≤ cap := by
   rw [hcap]; exact grownCap_ge _ _ _ _
  rw [← hcap] at hrun
  have hsz : (bytesRow b cap).size = cap := by simp [bytesRow]; have : b.data.size = b.size := rfl; omega
  have h2 := (h.drew).newRow (sz := 1) (xs := zcy b.data.toList) (arr := bytesRow b cap) (e := e) (cap := cap) (fz := ((bytesRow b cap).size, (bytesRow b cap).size + 1))
   ⟨fun i hi => by rw [zbQ] at hi; rw [zcR _ _ hi]; rfl, fun i k hi hk => by
    rw [zbQ, zda] at hi
    have : k = 0 := by omega
    subst this
    rw [zcR _ _ (by rw [zda]; exact hi)]
    refine ⟨by rw [hsz]; omega, ?_⟩
    have hi2 : i < b.data.size := hi
    have : (bytesRow b cap).getD (i * 1 + 0) undef = .int .u8 ((b.data.toList.getD i 0).toNat) := by
     rw [yaf]
     simp only [bytesRow, Nat.mul_one, Nat.add_zero]
     rw [Array.getElem?_append_left (by simpa using hi2)]
     simp [yaj hi2, yad]
    rw [this]
    exact RB.int _ _⟩
   (by rw [zbQ, zda]; exact hcapge) (by rw [hsz]; omega) ⟨fun k hk => by omega, Nat.le_succ _⟩
  rw [zbQ, zda] at h2
  refine za6 (v := .slice (some ⟨w.heap.size, 0, none⟩) b.size cap) (w' := w.drew.alloc (.cells (bytesRow b cap) e ((bytesRow b cap).size, (bytesRow b cap).size + 1))) ?_ (kk _ _ _ h2 ?_ (Nat.le_refl _))
  ·simp only [execOp, hop, eb, Sem.run_bind, hrun, Result.andThen_ok]; rfl
  ·exact (Ext.drew g w).trans (h.drew.extAlloc _ _) (Nat.le_refl _)
 | _ => cases he
theorem ziW [Lay P] {t e : TypeId} {l c : Operand} {inf : TypeInfo} {z : List V} {ol oc' : Opd} (hop : oc.op = .makeSlice t l c) (ht : P.underlying t = some (.slice e)) (hinf : P.info? e = some inf) (hz : zdL P e = some z)
  (hby : inf.bytes ≤ 4096) (hzl : z.length = inf.size) (hpos : 0 < inf.size) (hl : za7 S l ol) (hc : za7 S c oc') : OpOK P S nl oc (.makeSlice inf.size z ol oc') := by
 intro cf g w fr st a y st' _ h he K Q kk
 simp only [evalOp, yab] at he
 obtain ⟨u, hu, v, hv, he⟩ := he
 obtain ⟨h1, _, _⟩ := h.getC hl hu
 obtain ⟨h2, _, _⟩ := h.getC hc hv
 cases u with
 | int k1 n =>
  cases v with
  | int k2 m =>
   simp only at he
   split at he
   ·rename_i hb
    simp only [yaa, yac] at he
    obtain ⟨rfl, rfl⟩ := he
    obtain ⟨b1, b2, b3, _, _⟩ := hb
    obtain ⟨i, zv, hi, hzv, hcz⟩ := zdN hz
    rw [hinf] at hi
    injection hi with hi
    subst hi
    have hm : (most : Int) = 4294967296 := rfl
    have hl0 := (zbB (p := g.pers) (w := w) hcz).1
    have hvs : zv.cells.size = inf.size := by simp at hl0; omega
    have hbytes : (inf.bytes : Int) * m ≤ 281474976710656 := by
     have h3 : (inf.bytes : Int) ≤ 4096 := by omega
     have h4 : (inf.bytes : Int) * m ≤ 4096 * 4294967296 := Int.mul_le_mul h3 (by omega) (by omega) (by omega)
     omega
    have hrun := run_make (P := P) w t e inf zv ht hinf hzv k1 k2 n m b1 b2 hbytes (by omega)
    have hsz : (madeCells zv.cells (m.toNat * inf.size)).size = m.toNat * inf.size := by simp [madeCells]
    have h3 := h.newRow (e := e) (sz := inf.size) (xs := List.replicate n.toNat z) (arr := madeCells zv.cells (m.toNat * inf.size)) (cap := m.toNat) (fz := (0, 0)) (by
      have hnm : n.toNat * inf.size ≤ m.toNat * inf.size := Nat.mul_le_mul_right _ (by omega)
      have := zhS (p := g.pers) (w := w) hcz n.toNat (arr := madeCells zv.cells (m.toNat * inf.size)) (by rw [hzl, hsz]; exact hnm) (fun k hk => by
       rw [hzl] at hk ⊢
       have hk2 : k < (madeCells zv.cells (m.toNat * inf.size)).size := by omega
       rw [yaf, yaj hk2]
       simp only [madeCells, Array.getElem_map, Array.getElem_range, Option.getD_some, hvs]
       have hmm : k % inf.size < zv.cells.size := by rw [hvs]; exact Nat.mod_lt _ hpos
       rw [getElem!_pos zv.cells _ hmm, yaf, yaj hmm]
       rfl)
      rwa [hzl] at this)
     (by simp; omega) (by rw [hsz]; exact Nat.le_refl _) ⟨fun k _ => by simp, Nat.le_refl _⟩
    simp only [List.length_replicate] at h3
    refine za6 (v := .slice (some ⟨w.heap.size, 0, none⟩) n.toNat m.toNat) (w' := w.alloc (.cells (madeCells zv.cells (m.toNat * inf.size)) e)) ?_ (kk _ _ _ h3 (h.extAlloc _ _) (Nat.le_refl _))
    simp only [execOp, hop, R3.int h1, R3.int h2, Sem.run_bind, hrun, Result.andThen_ok]; rfl
   ·cases he
  | _ => cases he
 | _ => cases he
end
end Go.Proofs.YtakdnfneikbjjaaGreatDoor.Am

namespace Go.Proofs.YtakdnfneikbjjaaGreatDoor.Am
section
variable {P : Program} {S : Nat → Bool} {nl : Nat} {oc : Oper}
theorem zik [Lay P] {t e : TypeId} {len : Nat} {parts : Array (Nat × Operand)} {inf : TypeInfo} {z : List V} {ops : List (Nat × Opd)} {hh : Hint} (hop : oc.op = .buildSlice t len parts) (ht : P.underlying t = some (.slice e))
  (hinf : P.info? e = some inf) (hz : zdL P e = some z) (hzl : z.length = inf.size) (hmax : len * inf.size ≤ 16777216) (hpos : 0 < inf.size) (hc : zhQ S hh parts.toList = some ops) : OpOK P S nl oc (.buildSlice inf.size z len ops) := by
 intro cf g w fr st a y st' _ h he K Q kk
 simp only [evalOp] at he
 split at he
 ·simp only [yab, yaa, yac] at he
  obtain ⟨p, hp, rfl, rfl⟩ := he
  obtain ⟨xs', st1⟩ := p
  obtain ⟨i, v, hi, hv, hcz⟩ := zdN hz
  rw [hinf] at hi
  injection hi with hi
  subst hi
  have hl := (zbB (p := g.pers) (w := w) hcz).1
  have hvs : v.cells.size = inf.size := by simp at hl; omega
  obtain ⟨arr0, harr0⟩ : ∃ arr0 : Array Value, arr0 = (Array.range (len * inf.size)).map (v.cells[· % v.cells.size]!) := ⟨_, rfl⟩
  have hsize0 : arr0.size = len * inf.size := by rw [harr0]; simp
  have hrow0 : zfM g.pers w inf.size (List.replicate len z) arr0 := by
   have := zhS (p := g.pers) (w := w) hcz len (arr := arr0) (by rw [hzl, hsize0]; exact Nat.le_refl _) (fun k hk => by
    rw [hzl] at hk ⊢
    have hk2 : k < arr0.size := by omega
    rw [yaf, yaj hk2]
    simp only [harr0, Array.getElem_map, Array.getElem_range, Option.getD_some, hvs]
    have hm : k % inf.size < v.cells.size := by rw [hvs]; exact Nat.mod_lt _ hpos
    rw [getElem!_pos v.cells _ hm, yaf, yaj hm]
    rfl)
   rwa [hzl] at this
  obtain ⟨g', arr', hg', hfill, hs, hrow, hlen, hsz, hm⟩ := zgf (GExt.refl g) hc h hrow0 (by rw [hsize0]; simp) hp
  have hlen' : xs'.length = len := by rw [hlen]; simp
  have h2 := hs.newRow (e := e) (cap := len) (fz := (0, 0)) hrow (by omega) (by rw [hsz, hsize0]; exact Nat.le_refl _) ⟨fun k _ => by simp, Nat.le_refl _⟩
  rw [hlen'] at h2
  refine za6 (v := .slice (some ⟨w.heap.size, 0, none⟩) len len) (w' := w.alloc (.cells arr' e)) ?_ (kk _ _ _ h2 ?_ (by rw [hm]; exact Nat.le_refl _))
  ·have hpt : (parts.map fun (p : Nat × Operand) => (p.1, a.eval p.2)).toList = parts.toList.map fun p => (p.1, a.eval p.2) := by simp
   have hno : ¬ (len * inf.size > 2 ^ 24) := by omega
   have hrb : (Instr.buildSlice t len (parts.map fun (p : Nat × Operand) => (p.1, a.eval p.2))).run P w = .ok (.slice (some ⟨w.heap.size, 0, none⟩) len len) (w.alloc (.cells arr' e)) := by
    have e1 : (sizeOf e).run P w = .ok inf.size w := by simp [sizeOf, typeInfo, hinf]
    have e2 : (zeroValue e).run P w = .ok v w := by simp [zeroValue, typeInfo, hinf, hv]
    unfold Instr.buildSlice
    rw [Sem.run_bind, run_underlying ht]
    simp only [Result.andThen_ok]
    rw [Sem.run_bind, e1]
    simp only [Result.andThen_ok, if_neg hno]
    by_cases hz0 : len * inf.size = 0
    ·have h0 : arr0 = #[] := by apply Array.eq_empty_of_size_eq_zero; omega
     have hr0 : ((Array.range (len * inf.size)).map fun x => (#[] : Array Value)[x % (#[] : Array Value).size]!) = arr0 := by rw [h0, hz0]; apply Array.eq_empty_of_size_eq_zero; simp
     simp only [hz0, if_true]
     simp only [hz0] at hr0
     simp only [Sem.run_bind, Sem.run_pure, Result.andThen_ok, hr0, hpt, hfill]
     simp [newRow]
    ·simp only [if_neg hz0]
     simp only [Sem.run_bind, e2, Sem.run_pure, Result.andThen_ok, ← harr0, hpt, hfill]
     simp [newRow]
   simp only [execOp, hop, Sem.run_bind, hrb, Result.andThen_ok]
   rfl
  ·exact .alloc _ (fun c hc => ⟨hg'.pers c hc, h.pers_lt hc⟩) (fun _ hc => h.fr_lt hc) (fun _ _ => by rw [hg'.mb])
 ·cases he
end
end Go.Proofs.YtakdnfneikbjjaaGreatDoor.Am

namespace Go.Proofs.YtakdnfneikbjjaaGreatDoor.Am
section
variable {g : G} {w : World} {nl : Nat} {fr : Nat → Nat} {S : Nat → Bool} {st : St} {ts : Array Value} {ps : List (V × Value)}
theorem zcS {m : List (List V)} {b b' : Nat} {x : List V} (h : b < m.length) : (m.set b x).getD b' [] = if b' = b then x else m.getD b' [] := by
 simp only [yad, List.getElem?_set]
 by_cases e : b = b'
 ·subst e; simp [h]
 ·simp [e, Ne.symm e]
theorem SR.setMem (h : SR g w nl fr S st ts ps) {b : Nat} (hb : b < st.m.length) {cs' : List V} {qs : List (V × Value)} (hlen : cs'.length = (st.m.getD b []).length)
  (hr : ∀ k, k < cs'.length → (cs'.getD k .undef).cellOk ∧ R1 g w st.m.length (cs'.getD k .undef) ((cellsOf w (g.mb b)).getD k undef)) (ht : tops cs' ≤ b + 1)
  (hq : ∀ q ∈ qs, R3 g w st.m.length (tsAt ts) q.1 q.2) (hqp : ∀ q ∈ qs, ∀ d, q.1.root? = some (.tmp d) → S d = true)
  (hc : ∀ c, cntL c cs' (cellsOf w (g.mb b)) + cntP c qs ≤ cntL c (st.m.getD b []) (cellsOf w (g.mb b)) + cntP c ps) : SR g w nl fr S { st with m := st.m.set b cs' } ts qs := by
 have hM : ∀ c, cntM g w c (st.m.set b cs') + cntL c (st.m.getD b []) (cellsOf w (g.mb b)) = cntM g w c st.m + cntL c cs' (cellsOf w (g.mb b)) := fun c => by
  have := zb3 (n := st.m.length) (f := fun i => zaU g w c (st.m.set b cs') i) (g := fun i => zaU g w c st.m i) hb (fun i _ hi => by simp only [zaU]; rw [zcS hb, if_neg hi])
  unfold cntM
  rw [List.length_set]
  simp only [zaU, zcS hb, if_true] at this ⊢
  omega
 have hT : ∀ c, zal g w nl fr { st with m := st.m.set b cs' } ts qs c ≤ zal g w nl fr st ts ps c := fun c => by
  have h1 := hM c; have h2 := hc c; unfold zal; simp only; omega
 have hn : (st.m.set b cs').length = st.m.length := List.length_set
 refine ⟨fun s => by simp only [hn]; exact h.temps s, h.dead, h.peeks, fun q hq' => by simp only [hn]; exact hq q hq', hqp, h.lvs, fun j hj => by simp only [hn]; exact h.locs j hj, fun i hi => ?_, fun c => Nat.le_trans (hT c) (h.one c), fun c hc' => ?_⟩
 ·simp only [hn] at hi ⊢
  rw [zcS hb]
  by_cases e : i = b
  ·subst e
   rw [if_pos rfl]
   obtain ⟨⟨arr, e, hB, hs, _⟩, _⟩ := h.mem i hi
   rw [hB.cellsOf] at hr
   exact ⟨⟨arr, e, hB, by omega, hr⟩, ht⟩
  ·rw [if_neg e]; exact h.mem i hi
 ·have := hT c; rw [h.out c hc'] at this; omega
theorem SR.setLoc (h : SR g w nl fr S st ts ps) {j : Nat} (hj : st.l j ≠ []) {cs' : List V} {qs : List (V × Value)} (hlen : cs'.length = (st.l j).length)
  (hr : ∀ k, k < cs'.length → (cs'.getD k .undef).cellOk ∧ R1 g w st.m.length (cs'.getD k .undef) ((cellsOf w (g.lb j)).getD k undef))
  (hq : ∀ q ∈ qs, R3 g w st.m.length (tsAt ts) q.1 q.2) (hqp : ∀ q ∈ qs, ∀ d, q.1.root? = some (.tmp d) → S d = true)
  (hc : ∀ c, cntL c cs' (cellsOf w (g.lb j)) + cntP c qs ≤ cntL c (st.l j) (cellsOf w (g.lb j)) + cntP c ps) : SR g w nl fr S { st with l := upd st.l j cs' } ts qs := by
 have hne : cs' ≠ [] := by rintro rfl; exact hj (List.length_eq_zero_iff.1 hlen.symm)
 have hM : ∀ c, cntB g w c nl (upd st.l j cs') + cntL c (st.l j) (cellsOf w (g.lb j)) = cntB g w c nl st.l + cntL c cs' (cellsOf w (g.lb j)) := fun c => by
  have := zb3 (n := nl) (f := fun i => zbb g w c (upd st.l j cs') i) (g := fun i => zbb g w c st.l i) (h.locs j hj).1 (fun i _ hi => by simp only [zbb, upd, if_neg hi])
  unfold cntB
  simp only [zbb, upd, if_true] at this ⊢
  have e1 : (cs' ≠ [] ∧ g.lb j = c) = (g.lb j = c) := by simp [hne]
  have e2 : (st.l j ≠ [] ∧ g.lb j = c) = (g.lb j = c) := by simp [hj]
  simp only [e1, e2] at this
  omega
 have hT : ∀ c, zal g w nl fr { st with l := upd st.l j cs' } ts qs c ≤ zal g w nl fr st ts ps c := fun c => by
  have h1 := hM c; have h2 := hc c; unfold zal; simp only; omega
 refine ⟨h.temps, h.dead, h.peeks, hq, hqp, fun i => ?_, fun i hi => ?_, h.mem, fun c => Nat.le_trans (hT c) (h.one c), fun c hc' => ?_⟩
 ·simp only [upd]
  by_cases e : i = j
  ·subst e; rw [if_pos rfl]; rw [h.lvs]; simp [hne, hj]
  ·rw [if_neg e]; exact h.lvs i
 ·simp only [upd] at hi ⊢
  by_cases e : i = j
  ·subst e
   rw [if_pos rfl]
   obtain ⟨hn, arr, e, hB, hs, _⟩ := h.locs i hj
   rw [hB.cellsOf] at hr
   exact ⟨hn, arr, e, hB, by omega, hr⟩
  ·rw [if_neg e] at hi ⊢; exact h.locs i hi
 ·have := hT c; rw [h.out c hc'] at this; omega
theorem zil {P : Program} {w : World} {c o n : Nat} {f : Nat → Value} (h : ∀ k, k < n → w.cell? ⟨c, o + k, none⟩ = some (f k)) : (loadCells ⟨c, o, none⟩ n).run P w = .ok ((List.range n).map f).toArray w :=
 run_loadCells w ⟨c, o, none⟩ n f (fun j hj => by rw [zch rfl]; exact h j hj)
theorem zkr {P : Program} {t : TypeId} {q : Bool × Nat} (hq : zfm P t = some q) {w : World} {c o : Nat} {f : Nat → Value} (h : ∀ k, k < q.2 → w.cell? ⟨c, o + k, none⟩ = some (f k)) :
  (loadVar t ⟨c, o, none⟩).run P w = .ok (if q.1 then .agg ((List.range q.2).map f).toArray else f 0) w := by
 rcases varAt_spec hq with ⟨h1, i, hi, hs, hrun⟩ | ⟨h1, h2, hrun⟩
 ·have := zil (P := P) h
  simp [loadVar, hrun, sizeOf, typeInfo, hi, hs, this, h1]
 ·have h0 := h 0 (by omega)
  simp only [Nat.add_zero] at h0
  simp [loadVar, hrun, h1, h0]
theorem Blk.loads {c : Nat} {arr : Array Value} {e : TypeId} (hB : Blk w c arr e) {o n : Nat} (h : o + n ≤ arr.size) (k : Nat) (hk : k < n) : w.cell? ⟨c, o + k, none⟩ = some ((arr.extract o (o + n)).getD k undef) := by
 have : o + k < arr.size := by omega
 rw [hB.cell, zbs hk h, yaj this]
 simp [yaf, yaj this]
theorem zhT {n : Nat} {arr : Array Value} (h : arr.size = n) : ((List.range n).map fun k => arr.getD k undef).toArray = arr := by
 apply Array.ext
 ·simp [h]
 ·intro i h1 h2
  simp [yaf, yaj h2]
theorem zo5 {P : Program} {t : TypeId} {q : Bool × Nat} (hq : zfm P t = some q) : q.1 = true ∨ q.1 = false ∧ q.2 = 1 := by
 rcases varAt_spec hq with ⟨a1, _⟩ | ⟨a1, a2, _⟩
 ·exact .inl a1
 ·exact .inr ⟨a1, a2⟩
theorem zim {x : V} : x.left.own0 = false := by
 cases x with
 | slice o _ _ => cases o <;> rfl
 | _ => rfl
theorem zfa {x : V} (h : x.cellOk) : x.left.cellOk := by
 cases x with
 | slice o _ _ => cases o <;> first | exact .inr rfl | exact h
 | _ => exact h
theorem R1.left {n : Nat} {x : V} {v : Value} (h : R1 g w n x v) : R1 g w n x.left v := by
 cases x with
 | slice o _ _ => cases o <;> first | trivial | exact h
 | _ => exact h
theorem zin {x : V} : x.left.top ≤ x.top := by
 cases x with
 | slice o _ _ => cases o <;> exact Nat.le_refl _
 | _ => exact Nat.le_refl _
theorem zlT {x : V} : x.share0.top ≤ x.top := by
 cases x with
 | slice o _ _ => exact Nat.le_refl _
 | _ => exact Nat.le_refl _
theorem zio {cs : List V} {k : Nat} : (cs.map V.left).getD k .undef = (cs.getD k .undef).left := by
 simp only [yad, List.getElem?_map]
 cases cs[k]? <;> rfl
theorem zb4 {n : Nat} {cs : List V} : tops cs ≤ n ↔ ∀ k, k < cs.length → (cs.getD k .undef).top ≤ n := by
 refine ⟨fun h => ?_, zmB⟩
 induction cs with
 | nil => intro k hk; simp at hk
 | cons y l ih =>
  simp only [tops, List.foldr_cons] at h
  intro k hk
  cases k with
  | zero => simp; omega
  | succ k => simpa using ih (by simp only [tops]; omega) k (by simpa using hk)
theorem zfb {n : Nat} {cs : List V} {arr : Array Value} {off m : Nat} (hs : arr.size = cs.length) (hr : ∀ k, k < cs.length → (cs.getD k .undef).cellOk ∧ R1 g w n (cs.getD k .undef) (arr.getD k undef)) (hb : off + m ≤ cs.length)
  (f : V → V) (hf : ∀ x v, x.cellOk → R1 g w n x v → (f x).cellOk ∧ R1 g w n (f x) v) (hfo : ∀ x, (f x).own0 = false) (hft : ∀ x, (f x).top ≤ x.top) (hfd : ∀ k, (((cs.drop off).take m).map f).getD k .undef = f (((cs.drop off).take m).getD k .undef) ∨ m ≤ k) :
  (zaH cs off (((cs.drop off).take m).map f)).length = cs.length ∧
  (∀ k, k < cs.length → ((zaH cs off (((cs.drop off).take m).map f)).getD k .undef).cellOk ∧ R1 g w n ((zaH cs off (((cs.drop off).take m).map f)).getD k .undef) (arr.getD k undef)) ∧
  (∀ c, cntL c (zaH cs off (((cs.drop off).take m).map f)) arr + cntL c ((cs.drop off).take m) (arr.extract off (off + m)) = cntL c cs arr) ∧
  (∀ N, tops cs ≤ N → tops (zaH cs off (((cs.drop off).take m).map f)) ≤ N) := by
 have hl : ((cs.drop off).take m).length = m := zbc hb
 have hl2 : (((cs.drop off).take m).map f).length = m := by rw [yal, hl]
 have hb2 : off + (((cs.drop off).take m).map f).length ≤ cs.length := by rw [hl2]; exact hb
 have hget : ∀ k, k < cs.length → (zaH cs off (((cs.drop off).take m).map f)).getD k .undef = if off ≤ k ∧ k < off + m then f (cs.getD k .undef) else cs.getD k .undef := fun k hk => by
  rw [zbU hb2, hl2]
  split
  ·rename_i hk'
   rcases hfd (k - off) with h | h
   ·rw [h, zbh (by omega)]
    congr 2; omega
   ·omega
  ·rfl
 refine ⟨za8 hb2, fun k hk => ?_, fun c => ?_, fun N hN => ?_⟩
 ·rw [hget k hk]
  split
  ·exact hf _ _ (hr k hk).1 (hr k hk).2
  ·exact hr k hk
 ·have := zdM (c := c) (cs := cs) (vs := ((cs.drop off).take m).map f) (arr := arr) (varr := arr.extract off (off + m)) (arr' := arr) hb2 (fun k hk => by
   rw [hl2]
   split
   ·rename_i hk'; rw [zbs (by omega) (by omega)]; congr 1; omega
   ·rfl)
  rw [hl2] at this
  have hz : cntL c (((cs.drop off).take m).map f) (arr.extract off (off + m)) = 0 := zgG (by
   simp only [List.any_eq_false]
   intro y hy
   obtain ⟨z, _, rfl⟩ := List.mem_map.1 hy
   simp [hfo])
  omega
 ·rw [zb4] at hN ⊢
  intro k hk
  rw [za8 hb2] at hk
  rw [hget k hk]
  split
  ·exact Nat.le_trans (hft _) (hN k hk)
  ·exact hN k hk
theorem zd3 {cs : List V} {m k : Nat} (_h : cs.length = m) : (cs.map V.left).getD k .undef = V.left (cs.getD k .undef) ∨ m ≤ k := .inl zio
end
end Go.Proofs.YtakdnfneikbjjaaGreatDoor.Am

namespace Go.Proofs.YtakdnfneikbjjaaGreatDoor.Am
section
variable {P : Program} {S : Nat → Bool} {nl : Nat} {oc : Oper}
theorem zks {cs vs us : List V} {off : Nat} (h : vs.length = us.length) (hb : off + vs.length ≤ cs.length) : zaH (zaH cs off vs) off us = zaH cs off us := by
 have h1 : (cs.take off).length = off := by simp; omega
 simp only [zaH]
 have e1 : ((cs.take off ++ vs ++ cs.drop (off + vs.length)).take off) = cs.take off := by
  rw [List.append_assoc, List.take_append_of_le_length (by omega), List.take_of_length_le (by omega)]
 have e2 : ((cs.take off ++ vs ++ cs.drop (off + vs.length)).drop (off + us.length)) = cs.drop (off + us.length) := by
  rw [List.drop_append_of_le_length (by simp; omega) |>.symm.symm]
  rw [List.drop_of_length_le (by simp; omega), List.nil_append, h]
 rw [e1, e2]
theorem zcT {n k : Nat} {f : Nat → Value} (hk : k < n) : (((List.range n).map f).toArray).getD k undef = f k := by
 rw [zcI, yad, List.getElem?_map, List.getElem?_range hk]; rfl
theorem zfo {l : List V} (h : ∀ k, k < l.length → (l.getD k .undef).good = true) : l.any V.own0 = false := by
 simp only [List.any_eq_false]
 intro y hy
 obtain ⟨k, hk, rfl⟩ := List.mem_iff_getElem.1 hy
 have := h k hk
 rw [yad, yai hk, Option.getD_some] at this
 intro hh; rw [good_own this] at hh; cases hh
theorem zmE {q : Bool × Nat} {cs : List V} (hqq : q.1 = true ∨ q.1 = false ∧ q.2 = 1) (hl : cs.length = q.2) : ∃ x, agg? q.1 cs = some x := by
 rcases hqq with h | ⟨h, h2⟩
 ·exact ⟨.agg cs, by simp [agg?, h]⟩
 ·rw [h2] at hl
  match cs, hl with
  | [z], _ => exact ⟨z, by simp [agg?, h]⟩
theorem zhU {z : V} (h : z.cellOk) : z.share = z.share0 := by
 rcases h with h | h
 ·cases z <;> first | rfl | (simp [V.ok0] at h; done)
 ·subst h; rfl
theorem zlU {q : Bool × Nat} {cs : List V} (hqq : q.1 = true ∨ q.1 = false ∧ q.2 = 1) (hl : cs.length = q.2) (hok : ∀ k, k < q.2 → (cs.getD k .undef).cellOk) {x0 x : V}
  (h0 : agg? q.1 cs = some x0) (h1 : agg? q.1 (cs.map V.share0) = some x) : x = x0.share := by
 rcases hqq with h | ⟨h, h2⟩
 ·simp only [agg?, h, if_true, yaa] at h0 h1
  rw [← h0, ← h1]; rfl
 ·rw [h2] at hl hok
  match cs, hl with
  | [z], _ =>
   simp only [agg?, h, yas, if_false, yaa, List.map_cons, List.map_nil] at h0 h1
   rw [← h0, ← h1]
   exact (zhU (hok 0 (by omega))).symm
theorem zkt {g : G} {w : World} {n : Nat} {τ : Nat → Value} {q : Bool × Nat} {cs : List V} {vs : Array Value} (hqq : q.1 = true ∨ q.1 = false ∧ q.2 = 1) (hl : cs.length = q.2) (hok : ∀ k, k < q.2 → (cs.getD k .undef).cellOk) {x0 : V}
  (h0 : agg? q.1 cs = some x0) (hp : R3 g w n τ x0.share (if q.1 then .agg vs else vs.getD 0 undef)) (k : Nat) (hk : k < q.2) : R1 g w n (cs.getD k .undef).share0 (vs.getD k undef) := by
 rcases hqq with h | ⟨h, h2⟩
 ·simp only [agg?, h, if_true, yaa] at h0
  subst h0
  simp only [h, if_true] at hp
  obtain ⟨arr2, e2, _, hk2⟩ := hp
  injection e2 with e2
  subst e2
  have := (hk2 k (by simp [hl]; omega)).2
  rwa [zcQ] at this
 ·rw [h2] at hl hok hk
  have hk0 : k = 0 := by omega
  subst hk0
  match cs, hl with
  | [z], _ =>
   simp only [agg?, h, yas, if_false, yaa] at h0 hp
   subst h0
   have hc := hok 0 (by omega)
   simp only [List.getD_cons_zero] at hc ⊢
   rw [zhU hc] at hp
   exact R3.r1 (zd2 hc) hp
theorem SR.load {t : TypeId} {q : Bool × Nat} {mode : Use} (hq : zfm P t = some q) {g : G} {w : World} {fr : Nat → Nat} {st st' : St} {a : Act} {ps : List (V × Value)} {y u : V} {pv : Value} (h : SR g w nl fr S st a.tmps ps)
  (h1 : R3 g w st.m.length (tsAt a.tmps) u pv) (h3 : ∀ d, u.root? = some (.tmp d) → S d = true) (he : za1 st q.1 q.2 mode u = some (y, st')) :
  ∃ v g' ad, pv = .pointer (some ad) ∧ (loadVar t ad).run P w = .ok v w ∧ SR g' w nl fr S st' a.tmps ((y, v) :: ps) ∧ GExt g g' ∧ st'.m.length = st.m.length := by
 have run : ∀ c off (f : Nat → Value), pv = .pointer (some ⟨c, off, none⟩) → (∀ k, k < q.2 → w.cell? ⟨c, off + k, none⟩ = some (f k)) → (loadVar t ⟨c, off, none⟩).run P w = .ok (if q.1 then .agg ((List.range q.2).map f).toArray else f 0) w := fun c off f e hf => zkr hq hf
 have hqq := zo5 hq
 cases u with
 | ptr b off =>
  simp only [za1] at he
  split at he
  ·rename_i hb
   obtain ⟨hb1, hb2⟩ := hb
   simp only [yab, yaa, yac] at he
   obtain ⟨x, hx, rfl, rfl⟩ := he
   obtain ⟨⟨arr, e, hB, hs, hr⟩, htop⟩ := h.mem b hb1
   have hlen : ((((st.m.getD b []).drop off).take q.2)).length = q.2 := zbc hb2
   have hrun := run _ off (fun k => (arr.extract off (off + q.2)).getD k undef) h1.2 (fun k hk => hB.loads (by omega) k hk)
   rw [zhT (by simp; omega)] at hrun
   have hwin : ∀ k, k < q.2 → ((((st.m.getD b []).drop off).take q.2).getD k .undef).cellOk ∧ R1 g w st.m.length ((((st.m.getD b []).drop off).take q.2).getD k .undef) ((arr.extract off (off + q.2)).getD k undef) := fun k hk => by
    rw [zbh hk, zbs hk (by omega)]; exact hr (off + k) (by omega)
   have hcell : cellsOf w (g.mb b) = arr := hB.cellsOf
   cases mode with
   | copy =>
    simp only [zdX] at hx
    split at hx
    ·cases hx
    ·rename_i hno
     obtain ⟨a1, a2, a3, _⟩ := zer (τ := tsAt a.tmps) hlen (show (arr.extract off (off + q.2)).size = q.2 by simp; omega) hqq hwin hx
     exact ⟨_, g, _, h1.2, hrun, h.add a1 (a3 (by simpa using hno)) (fun d hd => by rw [a2] at hd; cases hd), .refl _, rfl⟩
   | peek =>
    simp only [zdX] at hx
    split at hx
    ·rename_i hc
     simp only [yaa] at hx
     subst hx
     have hq1 : q.2 = 1 := by rw [hlen] at hc; exact hc.1
     rw [hc.2] at hrun
     simp only [yas, if_false] at hrun
     refine ⟨_, g, _, h1.2, hrun, h.add ⟨hb1, ?_⟩ rfl (fun d hd => by cases hd), .refl _, rfl⟩
     have := hB.loads (o := off) (n := q.2) (by omega) 0 (by omega)
     simpa using this
    ·cases hx
   | take =>
    simp only [zdX] at hx
    simp only [Use.writes, if_true, zhD]
    obtain ⟨a1, a2, a3, a4⟩ := zer (τ := tsAt a.tmps) hlen (show (arr.extract off (off + q.2)).size = q.2 by simp; omega) hqq hwin hx
    obtain ⟨w1, w2, w3, w4⟩ := zfb hs hr hb2 V.left (fun x v hk hR => ⟨zfa hk, hR.left⟩) (fun _ => zim) (fun _ => zin) (fun k => zd3 hlen)
    have hS := h.setMem hb1 (qs := (x, if q.1 then .agg (arr.extract off (off + q.2)) else (arr.extract off (off + q.2)).getD 0 undef) :: ps) w1 (fun k hk => by rw [hcell]; exact w2 k (by omega)) (w4 _ htop) (fun p hp => by
     cases hp with
     | head => exact a1
     | tail _ hp => exact h.pend p hp) (fun p hp => by
     cases hp with
     | head => exact fun d hd => by rw [a2] at hd; cases hd
     | tail _ hp => exact h.ppeeks p hp)
     (fun c => by rw [hcell, zap]; have := w3 c; have := a4 c; simp only at *; omega)
    exact ⟨_, g, _, h1.2, hrun, hS, .refl _, by simp⟩
   | share =>
    simp only [zdX] at hx
    simp only [Use.writes, if_true, zhD]
    obtain ⟨x0, hx0⟩ := zmE hqq hlen
    have hxs : x = x0.share := zlU hqq hlen (fun k hk => (hwin k hk).1) hx0 hx
    obtain ⟨a1, a2, a3, a4⟩ := zer (τ := tsAt a.tmps) hlen (show (arr.extract off (off + q.2)).size = q.2 by simp; omega) hqq hwin hx0
    obtain ⟨w1, w2, w3, w4⟩ := zfb hs hr hb2 V.left (fun x v hk hR => ⟨zfa hk, hR.left⟩) (fun _ => zim) (fun _ => zin) (fun k => zd3 hlen)
    have hS := h.setMem hb1 (qs := (x0, if q.1 then .agg (arr.extract off (off + q.2)) else (arr.extract off (off + q.2)).getD 0 undef) :: ps) w1 (fun k hk => by rw [hcell]; exact w2 k (by omega)) (w4 _ htop) (fun p hp => by
     cases hp with
     | head => exact a1
     | tail _ hp => exact h.pend p hp) (fun p hp => by
     cases hp with
     | head => exact fun d hd => by rw [a2] at hd; cases hd
     | tail _ hp => exact h.ppeeks p hp)
     (fun c => by rw [hcell, zap]; have := w3 c; have := a4 c; simp only at *; omega)
    obtain ⟨g', hg, hS2⟩ := hS.share
    rw [← hxs] at hS2
    have hshare : ∀ k, k < q.2 → R1 g' w st.m.length (((((st.m.getD b []).drop off).take q.2).getD k .undef).share0) ((arr.extract off (off + q.2)).getD k undef) := by
     have hp := hS2.pend _ (.head _)
     simp only [List.length_set] at hp
     rw [hxs] at hp
     exact zkt hqq hlen (fun k hk => (hwin k hk).1) hx0 hp
    have hb1' : b < (st.m.set b (zaH (st.m.getD b []) off ((((st.m.getD b []).drop off).take q.2).map V.left))).length := by simpa using hb1
    have hgd : (st.m.set b (zaH (st.m.getD b []) off ((((st.m.getD b []).drop off).take q.2).map V.left))).getD b [] = zaH (st.m.getD b []) off ((((st.m.getD b []).drop off).take q.2).map V.left) := by rw [zcS hb1, if_pos rfl]
    have hmbg : g'.mb b = g.mb b := by rw [hg.mb]
    have hl2 : ((((st.m.getD b []).drop off).take q.2).map V.share0).length = q.2 := by rw [yal, hlen]
    have hset : zaH (st.m.getD b []) off ((((st.m.getD b []).drop off).take q.2).map V.share0) = zaH (zaH (st.m.getD b []) off ((((st.m.getD b []).drop off).take q.2).map V.left)) off ((((st.m.getD b []).drop off).take q.2).map V.share0) := by
     rw [zks (by simp) (by rw [yal, hlen]; exact hb2)]
    have hS3 := hS2.setMem hb1' (cs' := zaH (st.m.getD b []) off ((((st.m.getD b []).drop off).take q.2).map V.share0)) (qs := (x, if q.1 then .agg (arr.extract off (off + q.2)) else (arr.extract off (off + q.2)).getD 0 undef) :: ps)
     (by simp only [hgd]; rw [za8 (by rw [hl2]; exact hb2), w1]) (fun k hk => by
      simp only [List.length_set, hmbg, hcell]
      rw [za8 (by rw [hl2]; exact hb2)] at hk
      rw [zbU (by rw [hl2]; exact hb2), hl2]
      split
      ·rename_i hk'
       rw [zcQ]
       have hh := hshare (k - off) (by omega)
       rw [zbs (by omega) (by omega)] at hh
       rw [show off + (k - off) = k from by omega] at hh
       exact ⟨zd2 (hwin (k - off) (by omega)).1, hh⟩
      ·have := hr k hk
       exact ⟨this.1, by
        have hk2 := w2 k hk
        have hnw : (zaH (st.m.getD b []) off ((((st.m.getD b []).drop off).take q.2).map V.left)).getD k .undef = (st.m.getD b []).getD k .undef := by
         rw [zbU (by rw [yal, hlen]; exact hb2), if_neg (by rw [yal, hlen]; assumption)]
        obtain ⟨⟨arr2, e2, hB2, _, hr2⟩, _⟩ := hS2.mem b (by simpa using hb1)
        simp only [hgd, hmbg, List.length_set] at hB2 hr2
        obtain ⟨rfl, _⟩ := hB.uniq hB2
        have := (hr2 k (by rw [w1]; exact hk)).2
        rwa [hnw] at this⟩)
     (by
      rw [zb4] at htop ⊢
      intro k hk
      rw [za8 (by rw [hl2]; exact hb2)] at hk
      rw [zbU (by rw [hl2]; exact hb2), hl2]
      split
      ·rename_i hk'
       rw [zcQ, zbh (by omega)]
       exact Nat.le_trans zlT (htop _ (by omega))
      ·exact htop k hk)
     (fun p hp => by simpa using hS2.pend p hp) (fun p hp => hS2.ppeeks p hp)
     (fun c => by
      simp only [hgd, hmbg, hcell]
      have e3 := zdM (c := c) (cs := zaH (st.m.getD b []) off ((((st.m.getD b []).drop off).take q.2).map V.left)) (vs := (((st.m.getD b []).drop off).take q.2).map V.share0) (arr := arr) (varr := arr.extract off (off + q.2)) (arr' := arr) (off := off) (by rw [hl2, w1]; exact hb2) (fun k hk => by
       rw [hl2]
       split
       ·rename_i hk'; rw [zbs (by omega) (by omega)]; congr 1; omega
       ·rfl)
      have hz : cntL c ((((st.m.getD b []).drop off).take q.2).map V.share0) (arr.extract off (off + q.2)) = 0 := zgG (by
       simp only [List.any_eq_false]
       intro y hy
       obtain ⟨z, _, rfl⟩ := List.mem_map.1 hy
       simp [zhP])
      rw [← hset] at e3
      omega)
    have e4 : ((st.m.set b (zaH (st.m.getD b []) off ((((st.m.getD b []).drop off).take q.2).map V.left))).set b (zaH (st.m.getD b []) off ((((st.m.getD b []).drop off).take q.2).map V.share0))) = st.m.set b (zaH (st.m.getD b []) off ((((st.m.getD b []).drop off).take q.2).map V.share0)) := List.set_set ..
    simp only [e4] at hS3
    exact ⟨_, g', _, h1.2, hrun, hS3, hg, by simp⟩
  ·cases he
 | loc j off =>
  simp only [za1] at he
  split at he
  ·rename_i hb2
   obtain ⟨hb2, hnsh⟩ := hb2
   simp only [yab, yaa, yac] at he
   obtain ⟨x, hx, rfl, rfl⟩ := he
   by_cases hj : st.l j = []
   ·-- nothing lies there: a load of no cells
    rw [hj] at hb2 hx
    simp only [List.length_nil] at hb2
    have hq0 : q.2 = 0 := by omega
    rcases hqq with hq1 | ⟨_, hq2⟩
    ·have hrun := run (g.lb j) off (fun _ => undef) h1 (fun k hk => absurd hk (by omega))
     simp only [hq0, hq1, if_true, List.range_zero, List.map_nil] at hrun
     have hxe : x = .agg [] := by
      cases mode <;> simp [zdX, agg?, hq1] at hx <;> exact hx.symm
     subst hxe
     have hst : (if mode.writes = true then ({ st with l := upd st.l j (zaH (st.l j) off (zhD mode (((st.l j).drop off).take q.2))) } : St) else st) = st := by
      split
      ·rw [hj]
       have : zaH [] off (zhD mode ((([] : List V).drop off).take q.2)) = [] := by cases mode <;> simp [zaH, zhD]
       rw [this]
       have : upd st.l j [] = st.l := by funext i; simp only [upd]; split <;> rename_i hi <;> first | (subst hi; exact hj.symm) | rfl
       rw [this]
      ·rfl
     rw [hst]
     exact ⟨_, g, _, h1, hrun, h.add ⟨#[], rfl, rfl, fun k hk => absurd hk (by simp)⟩ rfl (fun d hd => by cases hd), .refl _, rfl⟩
    ·omega
   ·obtain ⟨hnl, arr, e, hB, hs, hr⟩ := h.locs j hj
    have hlen : ((((st.l j).drop off).take q.2)).length = q.2 := zbc hb2
    have hrun := run _ off (fun k => (arr.extract off (off + q.2)).getD k undef) h1 (fun k hk => hB.loads (by omega) k hk)
    rw [zhT (by simp; omega)] at hrun
    have hwin : ∀ k, k < q.2 → ((((st.l j).drop off).take q.2).getD k .undef).cellOk ∧ R1 g w st.m.length ((((st.l j).drop off).take q.2).getD k .undef) ((arr.extract off (off + q.2)).getD k undef) := fun k hk => by
     rw [zbh hk, zbs hk (by omega)]; exact hr (off + k) (by omega)
    have hcell : cellsOf w (g.lb j) = arr := hB.cellsOf
    cases mode with
    | copy =>
     simp only [zdX] at hx
     split at hx
     ·cases hx
     ·rename_i hno
      obtain ⟨a1, a2, a3, _⟩ := zer (τ := tsAt a.tmps) hlen (show (arr.extract off (off + q.2)).size = q.2 by simp; omega) hqq hwin hx
      exact ⟨_, g, _, h1, hrun, h.add a1 (a3 (by simpa using hno)) (fun d hd => by rw [a2] at hd; cases hd), .refl _, rfl⟩
    | peek =>
     simp only [zdX] at hx
     split at hx
     ·rename_i hc
      simp only [yaa] at hx
      subst hx
      have hq1 : q.2 = 1 := by rw [hlen] at hc; exact hc.1
      rw [hc.2] at hrun
      simp only [yas, if_false] at hrun
      refine ⟨_, g, _, h1, hrun, h.add ⟨(h.lvs j).2 hj, ?_⟩ rfl (fun d hd => by cases hd), .refl _, rfl⟩
      have := hB.loads (o := off) (n := q.2) (by omega) 0 (by omega)
      simpa using this
     ·cases hx
    | take =>
     simp only [zdX] at hx
     simp only [Use.writes, if_true, zhD]
     obtain ⟨a1, a2, a3, a4⟩ := zer (τ := tsAt a.tmps) hlen (show (arr.extract off (off + q.2)).size = q.2 by simp; omega) hqq hwin hx
     obtain ⟨w1, w2, w3, w4⟩ := zfb hs hr hb2 V.left (fun x v hk hR => ⟨zfa hk, hR.left⟩) (fun _ => zim) (fun _ => zin) (fun k => zd3 hlen)
     have hS := h.setLoc hj (qs := (x, if q.1 then .agg (arr.extract off (off + q.2)) else (arr.extract off (off + q.2)).getD 0 undef) :: ps) w1 (fun k hk => by rw [hcell]; exact w2 k (by omega)) (fun p hp => by
     cases hp with
     | head => exact a1
     | tail _ hp => exact h.pend p hp) (fun p hp => by
     cases hp with
     | head => exact fun d hd => by rw [a2] at hd; cases hd
     | tail _ hp => exact h.ppeeks p hp)
      (fun c => by rw [hcell, zap]; have := w3 c; have := a4 c; simp only at *; omega)
     exact ⟨_, g, _, h1, hrun, hS, .refl _, trivial⟩
    | share => exact absurd rfl hnsh
  ·cases he
 | ro cs off =>
  simp only [za1] at he
  split at he
  ·rename_i hb
   simp only [yab, yaa, yac] at he
   obtain ⟨x, hx, rfl, rfl⟩ := he
   obtain ⟨c, o', e, hp, hk⟩ := h1
   have hlen : ((cs.drop off).take q.2).length = q.2 := zbc hb.2
   have hf : ∀ k, k < q.2 → ∃ v, w.cell? ⟨c, o' + off + k, none⟩ = some v ∧ RB g.pers w (((cs.drop off).take q.2).getD k .undef) v := fun k hk' => by
    obtain ⟨v, hv, hR⟩ := hk (off + k) (by omega)
    exact ⟨v, by rw [Nat.add_assoc]; exact hv, by rw [zbh hk']; exact hR⟩
   classical
   obtain ⟨f, hf⟩ : ∃ f : Nat → Value, ∀ k, k < q.2 → w.cell? ⟨c, o' + off + k, none⟩ = some (f k) ∧ RB g.pers w (((cs.drop off).take q.2).getD k .undef) (f k) :=
    ⟨fun k => if hk : k < q.2 then (hf k hk).choose else undef, fun k hk => by simp only [hk, dif_pos]; exact (hf k hk).choose_spec⟩
   have hrun := run c (o' + off) f e (fun k hk => (hf k hk).1)
   have hsz : (((List.range q.2).map f).toArray).size = q.2 := by simp
   have hgd : ∀ k, k < q.2 → (((List.range q.2).map f).toArray).getD k undef = f k := fun k hk => zcT hk
   obtain ⟨a1, a2, a3, _⟩ := zer (g := g) (w := w) (n := st.m.length) (τ := tsAt a.tmps) hlen hsz hqq (fun k hk => by
    rw [hgd k hk]; exact ⟨zd1 (hf k hk).2.good, (hf k hk).2.r1⟩) hx
   have hno : ((cs.drop off).take q.2).any V.own0 = false := zfo fun k hk => (hf k (by omega)).2.good
   refine ⟨_, g, _, e, hrun, h.add ?_ (a3 hno) (fun d hd => by rw [a2] at hd; cases hd), .refl _, rfl⟩
   rcases hqq with hq1 | ⟨hq1, hq2⟩
   ·simpa [hq1] using a1
   ·rw [hq1] at a1 ⊢
    simp only [yas, if_false] at a1 ⊢
    rwa [hgd 0 (by omega)] at a1
  ·cases he
 | el r z i k =>
  simp only [za1] at he
  split at he
  ·rename_i hmode
   cases hlk : Am.look st r with
   | slice own sz xs =>
    rw [hlk] at he
    cases own with
    | true =>
     simp only at he
     split at he
     ·rename_i hb
      obtain ⟨rfl, hi, hk⟩ := hb
      simp only [yab, yaa, yac] at he
      obtain ⟨x, hx, rfl, rfl⟩ := he
      obtain ⟨ad, len, cap, hhead, e⟩ : ∃ ad len cap, R3 g w st.m.length (tsAt a.tmps) (.place r) (.slice (some ad) len cap) ∧ pv = .pointer (some ⟨ad.block, ad.off + (i * z + k), none⟩) := by
       cases r with
       | mem b o' => obtain ⟨hb, ad, len, cap, hc, e⟩ := h1; exact ⟨ad, len, cap, ⟨hb, hc⟩, e⟩
       | loc b o' => obtain ⟨hb, ad, len, cap, hc, e⟩ := h1; exact ⟨ad, len, cap, ⟨hb, hc⟩, e⟩
       | tmp s => obtain ⟨ad, len, cap, hc, e⟩ := h1; exact ⟨ad, len, cap, hc, e⟩
      have hl := (h.look hhead).resolve_right (by rw [hlk]; simp)
      rw [hlk] at hl
      obtain ⟨ad2, cap2, arr, e3, e2, hsp, _, _, _, hz, hE⟩ := R3.sliceT hl
      injection e2 with e2 _ _
      injection e2 with e2
      subst e2
      have hzi := hz i hi
      have hlen : (((xs.getD i []).drop k).take q.2).length = q.2 := zbc hk
      have hf : ∀ m, m < q.2 → ∃ v, w.cell? ⟨ad.block, ad.off + (i * z + k) + m, none⟩ = some v ∧ RB g.pers w ((((xs.getD i []).drop k).take q.2).getD m .undef) v := fun m hm => by
       obtain ⟨v, hv, hR⟩ := hE i (k + m) hi (by omega)
       exact ⟨v, by rw [show ad.off + (i * z + k) + m = ad.off + (i * z + (k + m)) from by omega]; exact hv, by rw [zbh hm]; exact hR⟩
      classical
      obtain ⟨f, hf⟩ : ∃ f : Nat → Value, ∀ m, m < q.2 → w.cell? ⟨ad.block, ad.off + (i * z + k) + m, none⟩ = some (f m) ∧ RB g.pers w ((((xs.getD i []).drop k).take q.2).getD m .undef) (f m) :=
       ⟨fun m => if hk : m < q.2 then (hf m hk).choose else undef, fun m hk => by simp only [hk, dif_pos]; exact (hf m hk).choose_spec⟩
      have hrun := run ad.block (ad.off + (i * z + k)) f e (fun m hm => (hf m hm).1)
      have hsz : (((List.range q.2).map f).toArray).size = q.2 := by simp
      have hgd : ∀ m, m < q.2 → (((List.range q.2).map f).toArray).getD m undef = f m := fun m hm => zcT hm
      obtain ⟨a1, a2, a3, _⟩ := zer (g := g) (w := w) (n := st.m.length) (τ := tsAt a.tmps) hlen hsz hqq (fun m hm => by
       rw [hgd m hm]; exact ⟨zd1 (hf m hm).2.good, (hf m hm).2.r1⟩) hx
      have hno : (((xs.getD i []).drop k).take q.2).any V.own0 = false := zfo fun k hk => (hf k (by omega)).2.good
      refine ⟨_, g, _, e, hrun, h.add ?_ (a3 hno) (fun d hd => by rw [a2] at hd; cases hd), .refl _, rfl⟩
      rcases hqq with hq1 | ⟨hq1, hq2⟩
      ·simpa [hq1] using a1
      ·rw [hq1] at a1 ⊢
       simp only [yas, if_false] at a1 ⊢
       rwa [hgd 0 (by omega)] at a1
     ·cases he
    | false => cases he
   | _ => rw [hlk] at he; cases he
  ·cases he
 | _ => simp [za1] at he
theorem zmF [Lay P] {t : TypeId} {p : Operand} {q : Bool × Nat} {mode : Use} {o : Opd} (hop : oc.op = .load t p) (hq : zfm P t = some q) (ho : za7 S p o) : OpOK P S nl oc (.load q.1 q.2 o mode) := by
 intro cf g w fr st a y st' _ h he K Q kk
 simp only [evalOp, yab] at he
 obtain ⟨u, hu, he⟩ := he
 obtain ⟨h1, _, h3⟩ := h.getC ho hu
 obtain ⟨v, g', ad, e, hrun, hS, hg, hl⟩ := h.load hq h1 h3 he
 refine za6 (v := v) (w' := w) ?_ (kk _ g' w hS (Ext.gext hg w) (by rw [hl]; exact Nat.le_refl _))
 simp only [execOp, hop, e, Instr.loadAt, Instr.sureAddr, Sem.run_bind, Sem.run_pure, Result.andThen_ok, hrun]
end
end Go.Proofs.YtakdnfneikbjjaaGreatDoor.Am

namespace Go.Proofs.YtakdnfneikbjjaaGreatDoor.Am
theorem zgR {h : Array Obj} {c d : Nat} {f : Obj → Obj} (hd : d ≠ c) : (h.modify c f)[d]? = h[d]? := by
 rw [Array.getElem?_modify, if_neg (Ne.symm hd)]
theorem zku {w : World} {c o : Nat} {arr : Array Value} {e : TypeId} {v : Value} (hB : Blk w c arr e) : Blk (w.setCell ⟨c, o, none⟩ v) c (arr.setIfInBounds o v) e := by
 obtain ⟨fz, h1, h2⟩ := hB
 refine ⟨fz, ?_, fun k hk => h2.1 k (by simpa using hk), h2.2⟩
 show (w.heap.modify c _)[c]? = _
 rw [Array.getElem?_modify, if_pos rfl, h1]
 rfl
theorem ziX {w : World} {c d : Nat} {o : Nat} {v : Value} (hd : d ≠ c) : Same w (w.setCell ⟨c, o, none⟩ v) d := zgR hd
structure Wrote (w w' : World) (c : Nat) : Prop where
 same : ∀ d, d ≠ c → Same w w' d
 size : w'.heap.size = w.heap.size
 os : w'.os = w.os
 tape : w'.tape = w.tape
 output : w'.output = w.output
theorem Wrote.refl (w : World) (c : Nat) : Wrote w w c := ⟨fun _ _ => rfl, rfl, rfl, rfl, rfl⟩
theorem Wrote.trans {w w' w'' : World} {c : Nat} (h : Wrote w w' c) (k : Wrote w' w'' c) : Wrote w w'' c :=
 ⟨fun d hd => Eq.trans (k.same d hd) (h.same d hd), k.size.trans h.size, k.os.trans h.os, k.tape.trans h.tape, k.output.trans h.output⟩
theorem ze3 {P : Program} {c off : Nat} {e : TypeId} : ∀ (vs : List Value) (i : Nat) (w : World) (arr : Array Value), Blk w c arr e → off + i + vs.length ≤ arr.size → (∀ v ∈ vs, v.oneCell' = true) →
  ∃ w', (storeCells ⟨c, off, none⟩ vs i).run P w = .ok () w' ∧ Blk w' c ((vs.zipIdx i).foldl (fun cs (x, j) => cs.setIfInBounds (off + j) x) arr) e ∧ Wrote w w' c
 | [], i, w, arr, hB, _, _ => ⟨w, rfl, hB, .refl _ _⟩
 | v :: vs, i, w, arr, hB, hl, h1 => by
  simp only [List.length_cons] at hl
  have hlt : off + i < arr.size := by omega
  have hst : (store ((⟨c, off, none⟩ : Addr).add i) v).run P w = .ok () (w.setCell ⟨c, off + i, none⟩ v) := by
   rw [zch rfl, run_store P w _ v _ (h1 v (.head _)), hB.cell, yaj hlt]
   simp [hB.free hlt]
  obtain ⟨w', hr, hB', hW⟩ : ∃ w', (storeCells ⟨c, off, none⟩ vs (i + 1)).run P (w.setCell ⟨c, off + i, none⟩ v) = .ok () w' ∧ Blk w' c ((vs.zipIdx (i + 1)).foldl (fun cs (x, j) => cs.setIfInBounds (off + j) x) (arr.setIfInBounds (off + i) v)) e ∧ Wrote (w.setCell ⟨c, off + i, none⟩ v) w' c :=
   ze3 vs (i + 1) (w.setCell ⟨c, off + i, none⟩ v) (arr.setIfInBounds (off + i) v) (zku hB) (by simp; omega) (fun x hx => h1 x (.tail _ hx))
  refine ⟨w', ?_, ?_, Wrote.trans ⟨fun d hd => ziX hd, by simp, rfl, rfl, rfl⟩ hW⟩
  ·simp only [storeCells, Sem.run_bind, hst, Result.andThen_ok]; exact hr
  ·simpa [List.zipIdx_cons] using hB'
theorem zeN {P : Program} {c off : Nat} {e : TypeId} {w : World} {arr : Array Value} (hB : Blk w c arr e) (vs : List Value) (hl : off + vs.length ≤ arr.size) (h1 : ∀ v ∈ vs, v.oneCell' = true) :
  ∃ w', (storeCells ⟨c, off, none⟩ vs 0).run P w = .ok () w' ∧ Blk w' c (zdn arr off vs) e ∧ Wrote w w' c := ze3 vs 0 w arr hB (by omega) h1
theorem R1.oneCell {g : G} {w : World} {n : Nat} {x : V} {v : Value} (hok : x.ok0 = true) (h : R1 g w n x v) : v.oneCell' = true := by
 cases v with
 | agg cs => exact absurd rfl (h.notAgg hok cs)
 | tuple vs =>
  exfalso
  cases x <;> first | (simp [V.ok0] at hok; done) | (cases h; done) | skip
  ·exact nomatch h.2
  ·rename_i o sz xs
   cases o with
   | false => cases h
   | true => obtain ⟨_, _, _, _, e, _⟩ := h; cases e
  ·obtain ⟨_, e, _⟩ := h; cases e
 | _ => rfl
theorem ziY {n i j : Nat} {f : Nat → Nat} (hi : i < n) (hj : j < n) (hne : i ≠ j) : f i + f j ≤ zaS n f := by
 have h := zb3 (n := n) (f := f) (g := fun k => if k = i then 0 else f k) hi (fun k _ hk => by simp [hk])
 have h2 := za9 (f := fun k => if k = i then 0 else f k) hj
 simp only [if_true, if_neg (Ne.symm hne)] at h h2
 omega
section
variable {g : G} {w : World} {nl : Nat} {fr : Nat → Nat} {S : Nat → Bool} {st : St} {ts : Array Value} {ps : List (V × Value)}
theorem SR.mb_only (h : SR g w nl fr S st ts ps) {b : Nat} (hb : b < st.m.length) :
  cntT (g.mb b) st.σ ts = 0 ∧ cntP (g.mb b) ps = 0 ∧ cntB g w (g.mb b) nl st.l = 0 ∧ ¬ g.pers (g.mb b) ∧ fr (g.mb b) = 0 ∧ cntL (g.mb b) (st.m.getD b []) (cellsOf w (g.mb b)) = 0 ∧ ∀ b', b' < st.m.length → b' ≠ b → zaU g w (g.mb b) st.m b' = 0 := by
 have h1 := h.one (g.mb b)
 have h2 := za9 (f := fun i => zaU g w (g.mb b) st.m i) hb
 have h3 : zaU g w (g.mb b) st.m b = 1 + cntL (g.mb b) (st.m.getD b []) (cellsOf w (g.mb b)) := by simp [zaU]
 unfold zal cntM at h1
 refine ⟨by omega, by omega, by omega, fun hp => ?_, by omega, by omega, fun b' hb' hne => ?_⟩
 ·have : za0 g (g.mb b) = 1 := by unfold za0; rw [if_pos hp]
  omega
 ·have := ziY (f := fun i => zaU g w (g.mb b) st.m i) hb' hb hne
  omega
theorem SR.lb_only (h : SR g w nl fr S st ts ps) {j : Nat} (hj : st.l j ≠ []) :
  cntT (g.lb j) st.σ ts = 0 ∧ cntP (g.lb j) ps = 0 ∧ cntM g w (g.lb j) st.m = 0 ∧ ¬ g.pers (g.lb j) ∧ fr (g.lb j) = 0 ∧ cntL (g.lb j) (st.l j) (cellsOf w (g.lb j)) = 0 ∧ ∀ j', j' < nl → j' ≠ j → zbb g w (g.lb j) st.l j' = 0 := by
 have h1 := h.one (g.lb j)
 have hn := (h.locs j hj).1
 have h2 := za9 (f := fun i => zbb g w (g.lb j) st.l i) hn
 have h3 : zbb g w (g.lb j) st.l j = 1 + cntL (g.lb j) (st.l j) (cellsOf w (g.lb j)) := by simp [zbb, hj]
 unfold zal cntB at h1
 refine ⟨by omega, by omega, by omega, fun hp => ?_, by omega, by omega, fun j' hj' hne => ?_⟩
 ·have : za0 g (g.lb j) = 1 := by unfold za0; rw [if_pos hp]
  omega
 ·have := ziY (f := fun i => zbb g w (g.lb j) st.l i) hj' hn hne
  omega
theorem zd4 {x : V} {r : Root} (h : (killLocV x).root? = some r) : x.root? = some r ∧ ∀ j o, r ≠ .loc j o := by
 cases x with
 | place r' => cases r' <;> simp [killLocV, V.root?] at h ⊢ <;> (subst h; exact ⟨rfl, by simp⟩)
 | el r' z i k => cases r' <;> simp [killLocV, V.root?] at h ⊢ <;> (subst h; exact ⟨rfl, by simp⟩)
 | _ => simp [killLocV, V.root?] at h
theorem R3.killLoc {n : Nat} {τ : Nat → Value} {x : V} {v : Value} (h : R3 g w n τ x v) : R3 g w n τ (killLocV x) v := by
 cases x with
 | place r => cases r <;> first | exact h | trivial
 | el r z i k => cases r <;> first | exact h | trivial
 | _ => exact h
theorem R3.memLt {n b o : Nat} {τ : Nat → Value} {x : V} {v : Value} (h : R3 g w n τ x v) (hr : x.root? = some (.mem b o)) : b < n := by
 cases x with
 | place r => simp only [V.root?, yaa] at hr; subst hr; exact h.1
 | el r z i k => simp only [V.root?, yaa] at hr; subst hr; exact h.1
 | _ => cases hr
theorem ziZ (h : SR g w nl fr S st ts ps) {w' : World} {c0 : Nat} (hW : Wrote w w' c0) (hT : cntT c0 st.σ ts = 0) (hp : ¬ g.pers c0) (hm : ∀ i, i < st.m.length → g.mb i ≠ c0) (s : Nat) : R3 g w' st.m.length (tsAt ts) (killLocV (st.σ s)) (tsAt ts s) := by
 refine R3.mono (g := g) (w := w) (n := st.m.length) (τ := tsAt ts) (fun c hc => ⟨hc, hW.same c fun e => hp (e ▸ hc)⟩) (by omega) (fun _ _ => rfl) (fun c hc => hW.same c fun e => ?_) (fun _ _ _ => rfl) (fun r hr => ?_) (h.temps s).killLoc
 ·subst e
  rw [zd0] at hc
  by_cases hs : s < ts.size
  ·have := zcp (c := c) (σ := st.σ) hs; omega
  ·rw [h.dead s (by omega), zaT] at hc; omega
 ·obtain ⟨hr1, hr2⟩ := zd4 hr
  cases r with
  | mem b o => exact (hW.same _ (hm b ((h.temps s).memLt hr1))).cell
  | loc j o => exact absurd rfl (hr2 j o)
  | tmp s => rfl
theorem zgg {off n : Nat} {x : V} {r : Root} (h : (killAtV off n x).root? = some r) : x.root? = some r ∧ ∀ b o, r = .mem b o → ¬ (off ≤ o ∧ o < off + n) := by
 cases x with
 | place r' =>
  cases r' with
  | mem b o =>
   simp only [killAtV] at h
   split at h
   ·cases h
   ·rename_i hn
    simp only [V.root?, yaa] at h ⊢
    subst h
    exact ⟨rfl, fun b' o' e => by cases e; exact hn⟩
  | _ => simp only [killAtV, V.root?, yaa] at h ⊢; subst h; exact ⟨rfl, fun b' o' e => by cases e⟩
 | el r' z i k =>
  cases r' with
  | mem b o =>
   simp only [killAtV] at h
   split at h
   ·cases h
   ·rename_i hn
    simp only [V.root?, yaa] at h ⊢
    subst h
    exact ⟨rfl, fun b' o' e => by cases e; exact hn⟩
  | _ => simp only [killAtV, V.root?, yaa] at h ⊢; subst h; exact ⟨rfl, fun b' o' e => by cases e⟩
 | _ => cases h
theorem R3.killAt {off k n : Nat} {τ : Nat → Value} {x : V} {v : Value} (h : R3 g w n τ x v) : R3 g w n τ (killAtV off k x) v := by
 cases x with
 | place r => cases r <;> simp only [killAtV] <;> first | exact h | (split <;> first | trivial | exact h)
 | el r z i k => cases r <;> simp only [killAtV] <;> first | exact h | (split <;> first | trivial | exact h)
 | _ => exact h
theorem zi0 (h : SR g w nl fr S st ts ps) {w' : World} {c0 n' off k : Nat} (hW : Wrote w w' c0) (hT : cntT c0 st.σ ts = 0) (hp : ¬ g.pers c0) (hn : st.m.length = n') (hl : ∀ j, g.lv j → g.lb j ≠ c0)
  (hm : ∀ b o, b < st.m.length → ¬ (off ≤ o ∧ o < off + k) → w'.cell? ⟨g.mb b, o, none⟩ = w.cell? ⟨g.mb b, o, none⟩) (s : Nat) : R3 g w' n' (tsAt ts) (killAtV off k (st.σ s)) (tsAt ts s) := by
 refine R3.mono (g := g) (w := w) (n := st.m.length) (τ := tsAt ts) (fun c hc => ⟨hc, hW.same c fun e => hp (e ▸ hc)⟩) (by omega) (fun _ _ => rfl) (fun c hc => hW.same c fun e => ?_) (fun _ _ _ => rfl) (fun r hr => ?_) (h.temps s).killAt
 ·subst e
  rw [zga] at hc
  by_cases hs : s < ts.size
  ·have := zcp (c := c) (σ := st.σ) hs; omega
  ·rw [h.dead s (by omega), zaT] at hc; omega
 ·obtain ⟨hr1, hr2⟩ := zgg hr
  cases r with
  | mem b o => exact hm b o ((h.temps s).memLt hr1) (hr2 b o rfl)
  | loc j o => exact fun hj => ⟨rfl, hj, (hW.same _ (hl j hj)).cell⟩
  | tmp s => rfl
theorem ziq {a b : Array Value} {k : Nat} (hs : a.size = b.size) (h : k < a.size → a.getD k undef = b.getD k undef) : a[k]? = b[k]? := by
 by_cases hk : k < a.size
 ·have := h hk
  rw [yaf, yaf, yaj hk, yaj (by omega)] at this
  rw [yaj hk, yaj (by omega)]
  exact congrArg some this
 ·rw [Array.getElem?_eq_none (by omega), Array.getElem?_eq_none (by omega)]
theorem CBlk.wrote {w' : World} {c0 c n n' : Nat} {cs : List V} (hW : Wrote w w' c0) (hp : ¬ g.pers c0) (hc : c ≠ c0) (ho : cntL c0 cs (cellsOf w c) = 0) (hn : n = n') (h : CBlk g w n c cs) : CBlk g w' n' c cs :=
 h.mono (fun d hd => ⟨hd, hW.same d fun e => hp (e ▸ hd)⟩) (by omega) (fun _ _ => rfl) (hW.same c hc) (fun d hd => hW.same d fun e => by subst e; omega)
theorem SR.storeMem {X : V} {Xv : Value} (h : SR g w nl fr S st ts [(X, Xv)]) {b off : Nat} (hb : b < st.m.length) {cells : List V} {varr arr' : Array Value} {e : TypeId} {w' : World} (hl : off + cells.length ≤ (st.m.getD b []).length)
  (hr : ∀ k, k < cells.length → (cells.getD k .undef).ok0 = true ∧ R1 g w st.m.length (cells.getD k .undef) (varr.getD k undef)) (hc : ∀ c, cntL c cells varr ≤ cnt2 c X Xv) (ht : tops cells ≤ b + 1)
  (hB : Blk w' (g.mb b) arr' e) (hs : arr'.size = (st.m.getD b []).length) (ha : ∀ k, k < arr'.size → arr'.getD k undef = if off ≤ k ∧ k < off + cells.length then varr.getD (k - off) undef else (cellsOf w (g.mb b)).getD k undef) (hW : Wrote w w' (g.mb b)) :
  SR g w' nl fr S { st with m := st.m.set b (zaH (st.m.getD b []) off cells), σ := killAt off cells.length st.σ } ts [] := by
 obtain ⟨o1, o2, o3, o4, o5, o6, o7⟩ := h.mb_only hb
 have hn : (st.m.set b (zaH (st.m.getD b []) off cells)).length = st.m.length := List.length_set
 have hlocs : ∀ j, st.l j ≠ [] → g.lb j ≠ g.mb b ∧ cntL (g.mb b) (st.l j) (cellsOf w (g.lb j)) = 0 := fun j hj => by
  have h1 := za9 (f := fun i => zbb g w (g.mb b) st.l i) (h.locs j hj).1
  have h2 : zbb g w (g.mb b) st.l j = 0 := by unfold cntB at o3; omega
  unfold zbb at h2
  refine ⟨fun e => ?_, by omega⟩
  rw [if_pos ⟨hj, e⟩] at h2; omega
 have hmems : ∀ i, i < st.m.length → i ≠ b → g.mb i ≠ g.mb b ∧ cntL (g.mb b) (st.m.getD i []) (cellsOf w (g.mb i)) = 0 := fun i hi hne => by
  have h2 := o7 i hi hne
  unfold zaU at h2
  refine ⟨fun e => ?_, by omega⟩
  rw [if_pos e] at h2; omega
 have hcB : ∀ c, cntB g w' c nl st.l = cntB g w c nl st.l := fun c => zaq fun j _ => by
  unfold zbb
  by_cases hj : st.l j = []
  ·simp [hj, cntL, zaS]
  ·rw [(hW.same _ (hlocs j hj).1).cellsOf]
 have hcM : ∀ c, cntM g w' c (st.m.set b (zaH (st.m.getD b []) off cells)) ≤ cntM g w c st.m + cntL c cells varr := fun c => by
  have h1 := zb3 (n := st.m.length) (f := fun i => zaU g w' c (st.m.set b (zaH (st.m.getD b []) off cells)) i) (g := fun i => zaU g w c st.m i) hb (fun i hi hne => by
   simp only [zaU]; rw [zcS hb, if_neg hne, (hW.same _ (hmems i hi hne).1).cellsOf])
  have h2 := zdM (c := c) (cs := st.m.getD b []) (vs := cells) (arr := cellsOf w (g.mb b)) (varr := varr) (arr' := arr') (off := off) hl (fun k hk => ha k (by omega))
  unfold cntM
  rw [hn]
  simp only [zaU, zcS hb, if_true, hB.cellsOf] at h1 ⊢
  omega
 have hT : ∀ c, zal g w' nl fr { st with m := st.m.set b (zaH (st.m.getD b []) off cells), σ := killAt off cells.length st.σ } ts [] c ≤ zal g w nl fr st ts [(X, Xv)] c := fun c => by
  have h1 := hcM c; have h2 := hc c
  have h3 : cntT c (killAt off cells.length st.σ) ts = cntT c st.σ ts := zdh fun s => zga
  unfold zal
  rw [zap, zc9, hcB]
  simp only [h3]
  omega
 have hcell : ∀ i o, i < st.m.length → ¬ (off ≤ o ∧ o < off + cells.length) → w'.cell? ⟨g.mb i, o, none⟩ = w.cell? ⟨g.mb i, o, none⟩ := fun i o hi ho => by
  by_cases e' : i = b
  ·subst e'
   obtain ⟨⟨arr, e0, hB0, hs0, hr0⟩, ht0⟩ := h.mem i hi
   rw [hB.cell, hB0.cell]
   refine ziq (by omega) fun hk => ?_
   rw [ha o hk, if_neg ho, hB0.cellsOf]
  ·exact (hW.same _ (hmems i hi e').1).cell
 refine ⟨fun s => zi0 h hW o1 o4 hn.symm (fun j hj => (hlocs j ((h.lvs j).1 hj)).1) hcell s, fun s hs' => by simp only [killAt]; rw [h.dead s hs']; rfl, fun s d hd => h.peeks s d (zgg hd).1, fun p hp => (by cases hp), fun p hp => (by cases hp), h.lvs, fun j hj => ?_, fun i hi => ?_, fun c => Nat.le_trans (hT c) (h.one c), fun c hc' => ?_⟩
 ·exact ⟨(h.locs j hj).1, (h.locs j hj).2.wrote hW o4 (hlocs j hj).1 (hlocs j hj).2 hn.symm⟩
 ·simp only [hn] at hi ⊢
  rw [zcS hb]
  by_cases e' : i = b
  ·subst e'
   rw [if_pos rfl]
   obtain ⟨⟨arr, e0, hB0, hs0, hr0⟩, ht0⟩ := h.mem i hi
   have hlen := za8 hl
   have upg : ∀ {x v}, x.cellOk → (cnt0 (g.mb i) x v = 0) → R1 g w st.m.length x v → R1 g w' st.m.length x v := fun hok h0 hx =>
    R1.mono0 (fun d hd => ⟨hd, hW.same d fun e => o4 (e ▸ hd)⟩) (Nat.le_refl _) (fun _ _ => rfl) (fun d hd => hW.same d fun e => by subst e; omega) hok hx
   refine ⟨⟨arr', e, hB, by omega, fun k hk => ?_⟩, ?_⟩
   ·rw [hlen] at hk
    rw [zbU hl, ha k (by omega)]
    split
    ·rename_i hk'
     have := hr (k - off) (by omega)
     refine ⟨.inl this.1, upg (.inl this.1) ?_ this.2⟩
     have h1 := zdm (c := g.mb i) (xs := cells) (vs := varr) (k := k - off) (by omega)
     have h2 := hc (g.mb i)
     rw [zap, zc9] at o2
     simp only at o2
     omega
    ·rw [hB0.cellsOf]
     have := hr0 k hk
     refine ⟨this.1, upg this.1 ?_ this.2⟩
     have h1 := zdm (c := g.mb i) (xs := st.m.getD i []) (vs := arr) (k := k) hk
     rw [hB0.cellsOf] at o6
     omega
   ·rw [zb4] at ht0 ht ⊢
    intro k hk
    rw [hlen] at hk
    rw [zbU hl]
    split
    ·exact ht _ (by omega)
    ·exact ht0 k hk
  ·rw [if_neg e']
   exact ⟨(h.mem i hi).1.wrote hW o4 (hmems i hi e').1 (hmems i hi e').2 rfl, (h.mem i hi).2⟩
 ·have := hT c; rw [h.out c (by rw [← hW.size]; exact hc')] at this; omega
theorem SR.storeLoc {X : V} {Xv : Value} (h : SR g w nl fr S st ts [(X, Xv)]) {j off : Nat} (hj : st.l j ≠ []) {cells : List V} {varr arr' : Array Value} {e : TypeId} {w' : World} (hl : off + cells.length ≤ (st.l j).length)
  (hr : ∀ k, k < cells.length → (cells.getD k .undef).ok0 = true ∧ R1 g w st.m.length (cells.getD k .undef) (varr.getD k undef)) (hc : ∀ c, cntL c cells varr ≤ cnt2 c X Xv)
  (hB : Blk w' (g.lb j) arr' e) (hs : arr'.size = (st.l j).length) (ha : ∀ k, k < arr'.size → arr'.getD k undef = if off ≤ k ∧ k < off + cells.length then varr.getD (k - off) undef else (cellsOf w (g.lb j)).getD k undef) (hW : Wrote w w' (g.lb j)) :
  SR g w' nl fr S { st with l := upd st.l j (zaH (st.l j) off cells), σ := killLoc st.σ } ts [] := by
 obtain ⟨o1, o2, o3, o4, o5, o6, o7⟩ := h.lb_only hj
 have hlen := za8 hl
 have hne' : zaH (st.l j) off cells ≠ [] := fun e => by rw [e] at hlen; exact hj (List.length_eq_zero_iff.1 hlen.symm)
 have hlocs : ∀ i, st.l i ≠ [] → i ≠ j → g.lb i ≠ g.lb j ∧ cntL (g.lb j) (st.l i) (cellsOf w (g.lb i)) = 0 := fun i hi hne => by
  have h2 := o7 i (h.locs i hi).1 hne
  unfold zbb at h2
  refine ⟨fun e => ?_, by omega⟩
  rw [if_pos ⟨hi, e⟩] at h2; omega
 have hmems : ∀ i, i < st.m.length → g.mb i ≠ g.lb j ∧ cntL (g.lb j) (st.m.getD i []) (cellsOf w (g.mb i)) = 0 := fun i hi => by
  have h1 := za9 (f := fun i => zaU g w (g.lb j) st.m i) hi
  have h2 : zaU g w (g.lb j) st.m i = 0 := by unfold cntM at o3; omega
  unfold zaU at h2
  refine ⟨fun e => ?_, by omega⟩
  rw [if_pos e] at h2; omega
 have hcM : ∀ c, cntM g w' c st.m = cntM g w c st.m := fun c => zaq fun i hi => by
  unfold zaU
  rw [(hW.same _ (hmems i hi).1).cellsOf]
 have hcB : ∀ c, cntB g w' c nl (upd st.l j (zaH (st.l j) off cells)) ≤ cntB g w c nl st.l + cntL c cells varr := fun c => by
  have h1 := zb3 (n := nl) (f := fun i => zbb g w' c (upd st.l j (zaH (st.l j) off cells)) i) (g := fun i => zbb g w c st.l i) (h.locs j hj).1 (fun i hi hne => by
   simp only [zbb, upd, if_neg hne]
   by_cases hi' : st.l i = []
   ·simp [hi', cntL, zaS]
   ·rw [(hW.same _ (hlocs i hi' hne).1).cellsOf])
  have h2 := zdM (c := c) (cs := st.l j) (vs := cells) (arr := cellsOf w (g.lb j)) (varr := varr) (arr' := arr') (off := off) hl (fun k hk => ha k (by omega))
  unfold cntB
  simp only [zbb, upd, if_true, hB.cellsOf] at h1 ⊢
  have e1 : (zaH (st.l j) off cells ≠ [] ∧ g.lb j = c) = (g.lb j = c) := by simp [hne']
  have e2 : (st.l j ≠ [] ∧ g.lb j = c) = (g.lb j = c) := by simp [hj]
  simp only [e1, e2] at h1
  omega
 have hT : ∀ c, zal g w' nl fr { st with l := upd st.l j (zaH (st.l j) off cells), σ := killLoc st.σ } ts [] c ≤ zal g w nl fr st ts [(X, Xv)] c := fun c => by
  have h1 := hcB c; have h2 := hc c
  have h3 : cntT c (killLoc st.σ) ts = cntT c st.σ ts := zdh fun s => zd0
  unfold zal
  rw [zap, zc9]
  simp only [h3, hcM]
  omega
 refine ⟨fun s => ziZ h hW o1 o4 (fun i hi => (hmems i hi).1) s, fun s hs' => by simp only [killLoc]; rw [h.dead s hs']; rfl, fun s d hd => h.peeks s d (zd4 hd).1, fun p hp => (by cases hp), fun p hp => (by cases hp), fun i => ?_, fun i hi => ?_, fun i hi => ?_, fun c => Nat.le_trans (hT c) (h.one c), fun c hc' => ?_⟩
 ·simp only [upd]
  by_cases e' : i = j
  ·subst e'; rw [if_pos rfl, h.lvs]; simp [hne', hj]
  ·rw [if_neg e']; exact h.lvs i
 ·simp only [upd] at hi ⊢
  by_cases e' : i = j
  ·subst e'
   rw [if_pos rfl]
   obtain ⟨hn0, arr, e0, hB0, hs0, hr0⟩ := h.locs i hj
   have upg : ∀ {x v}, x.cellOk → (cnt0 (g.lb i) x v = 0) → R1 g w st.m.length x v → R1 g w' st.m.length x v := fun hok h0 hx =>
    R1.mono0 (fun d hd => ⟨hd, hW.same d fun e => o4 (e ▸ hd)⟩) (Nat.le_refl _) (fun _ _ => rfl) (fun d hd => hW.same d fun e => by subst e; omega) hok hx
   refine ⟨hn0, arr', e, hB, by omega, fun k hk => ?_⟩
   rw [hlen] at hk
   rw [zbU hl, ha k (by omega)]
   split
   ·rename_i hk'
    have := hr (k - off) (by omega)
    refine ⟨.inl this.1, upg (.inl this.1) ?_ this.2⟩
    have h1 := zdm (c := g.lb i) (xs := cells) (vs := varr) (k := k - off) (by omega)
    have h2 := hc (g.lb i)
    rw [zap, zc9] at o2
    simp only at o2
    omega
   ·rw [hB0.cellsOf]
    have := hr0 k hk
    refine ⟨this.1, upg this.1 ?_ this.2⟩
    have h1 := zdm (c := g.lb i) (xs := st.l i) (vs := arr) (k := k) hk
    rw [hB0.cellsOf] at o6
    omega
  ·rw [if_neg e'] at hi ⊢
   exact ⟨(h.locs i hi).1, (h.locs i hi).2.wrote hW o4 (hlocs i hi e').1 (hlocs i hi e').2 rfl⟩
 ·exact ⟨(h.mem i hi).1.wrote hW o4 (hmems i hi).1 (hmems i hi).2 rfl, (h.mem i hi).2⟩
 ·have := hT c; rw [h.out c (by rw [← hW.size]; exact hc')] at this; omega
end
end Go.Proofs.YtakdnfneikbjjaaGreatDoor.Am

namespace Go.Proofs.YtakdnfneikbjjaaGreatDoor.Am
section
variable {g : G} {w : World} {nl : Nat} {fr : Nat → Nat} {S : Nat → Bool} {st : St} {ts : Array Value} {ps : List (V × Value)}
theorem SR.own_only {sz : Nat} {xs : List (List V)} {ad : Addr} {len cap : Nat} (h : SR g w nl fr S st ts ((.slice true sz xs, .slice (some ad) len cap) :: ps)) :
  cntT ad.block st.σ ts = 0 ∧ cntP ad.block ps = 0 ∧ cntB g w ad.block nl st.l = 0 ∧ cntM g w ad.block st.m = 0 ∧ ¬ g.pers ad.block ∧ fr ad.block = 0 := by
 have h1 := h.one ad.block
 unfold zal at h1
 rw [zap] at h1
 simp only [cnt2, cnt1, cnt0, if_true] at h1
 refine ⟨by omega, by omega, by omega, by omega, fun hp => ?_, by omega⟩
 have : za0 g ad.block = 1 := by unfold za0; rw [if_pos hp]
 omega
theorem SR.ownWrite {sz sz' : Nat} {xs xs' : List (List V)} {ad ad' : Addr} {len cap len' cap' : Nat} (h : SR g w nl fr S st ts ((.slice true sz xs, .slice (some ad) len cap) :: ps)) {w' : World} (hW : Wrote w w' ad.block)
  (hb : ad'.block = ad.block) (ho : OwnS g.pers w' sz' xs' (.slice (some ad') len' cap')) : SR g w' nl fr S st ts ((.slice true sz' xs', .slice (some ad') len' cap') :: ps) := by
 obtain ⟨o1, o2, o3, o4, o5, o6⟩ := h.own_only
 have hlocs : ∀ j, st.l j ≠ [] → g.lb j ≠ ad.block ∧ cntL ad.block (st.l j) (cellsOf w (g.lb j)) = 0 := fun j hj => by
  have h1 := za9 (f := fun i => zbb g w ad.block st.l i) (h.locs j hj).1
  have h2 : zbb g w ad.block st.l j = 0 := by unfold cntB at o3; omega
  unfold zbb at h2
  refine ⟨fun e => ?_, by omega⟩
  rw [if_pos ⟨hj, e⟩] at h2; omega
 have hmems : ∀ i, i < st.m.length → g.mb i ≠ ad.block ∧ cntL ad.block (st.m.getD i []) (cellsOf w (g.mb i)) = 0 := fun i hi => by
  have h1 := za9 (f := fun i => zaU g w ad.block st.m i) hi
  have h2 : zaU g w ad.block st.m i = 0 := by unfold cntM at o4; omega
  unfold zaU at h2
  refine ⟨fun e => ?_, by omega⟩
  rw [if_pos e] at h2; omega
 have hcB : ∀ c, cntB g w' c nl st.l = cntB g w c nl st.l := fun c => zaq fun j _ => by
  unfold zbb
  by_cases hj : st.l j = []
  ·simp [hj, cntL, zaS]
  ·rw [(hW.same _ (hlocs j hj).1).cellsOf]
 have hcM : ∀ c, cntM g w' c st.m = cntM g w c st.m := fun c => zaq fun i hi => by
  unfold zaU
  rw [(hW.same _ (hmems i hi).1).cellsOf]
 have hT : ∀ c, zal g w' nl fr st ts ((.slice true sz' xs', .slice (some ad') len' cap') :: ps) c = zal g w nl fr st ts ((.slice true sz xs, .slice (some ad) len cap) :: ps) c := fun c => by
  unfold zal
  rw [zap, zap, hcB, hcM]
  simp only [cnt2, cnt1, cnt0, hb]
 have hp : ∀ c, g.pers c → g.pers c ∧ Same w w' c := fun c hc => ⟨hc, hW.same c fun e => o5 (e ▸ hc)⟩
 have mono : ∀ {x v}, R3 g w st.m.length (tsAt ts) x v → cnt2 ad.block x v = 0 → R3 g w' st.m.length (tsAt ts) x v := fun {x v} hx h0 =>
  hx.mono hp (Nat.le_refl _) (fun _ _ => rfl) (fun c hc => hW.same c fun e => by subst e; omega) (fun _ _ _ => rfl) (fun r e => by
   cases r with
   | mem b o =>
    obtain ⟨hlt, _⟩ := zgu hx e
    exact (hW.same _ (hmems b hlt).1).cell
   | loc j o =>
    exact fun hl => ⟨rfl, hl, (hW.same _ (hlocs j ((h.lvs j).1 hl)).1).cell⟩
   | tmp s => rfl)
 refine ⟨fun s => mono (h.temps s) ?_, h.dead, h.peeks, fun p hp' => ?_, fun p hp' => ?_, h.lvs, fun j hj => ?_, fun i hi => ?_, fun c => by rw [hT]; exact h.one c, fun c hc => by rw [hT]; exact h.out c (by rw [← hW.size]; exact hc)⟩
 ·by_cases hs : s < ts.size
  ·have := zcp (c := ad.block) (σ := st.σ) hs; omega
  ·rw [h.dead s (by omega), zaT]
 ·cases hp' with
  | head => exact ho
  | tail _ hq => exact mono (h.pend p (.tail _ hq)) (by have := zgb (c := ad.block) hq; omega)
 ·cases hp' with
  | head => exact fun d hd => by cases hd
  | tail _ hq => exact h.ppeeks p (.tail _ hq)
 ·exact ⟨(h.locs j hj).1, (h.locs j hj).2.wrote hW o5 (hlocs j hj).1 (hlocs j hj).2 rfl⟩
 ·exact ⟨(h.mem i hi).1.wrote hW o5 (hmems i hi).1 (hmems i hi).2 rfl, (h.mem i hi).2⟩
def zck (st : St) (r : Root) (x : V) : St :=
 match r with
 | .mem b o => { st with m := st.m.set b ((st.m.getD b []).set o x) }
 | .loc j o => { st with l := upd st.l j ((st.l j).set o x) }
 | .tmp s => { st with σ := upd st.σ s x }
theorem zb5 {cs : List V} {o k : Nat} {x : V} (h : o < cs.length) : (cs.set o x).getD k .undef = if k = o then x else cs.getD k .undef := by
 simp only [yad, List.getElem?_set]
 by_cases e : o = k
 ·subst e; simp [h]
 ·simp [e, Ne.symm e]
theorem zdO {c o : Nat} {cs : List V} {arr : Array Value} {x : V} (h : o < cs.length) : cntL c (cs.set o x) arr + cnt0 c (cs.getD o .undef) (arr.getD o undef) = cntL c cs arr + cnt0 c x (arr.getD o undef) := by
 unfold cntL
 rw [List.length_set]
 have := zb3 (n := cs.length) (f := fun k => cnt0 c ((cs.set o x).getD k .undef) (arr.getD k undef)) (g := fun k => cnt0 c (cs.getD k .undef) (arr.getD k undef)) h (fun k _ hk => by simp only [zb5 h, if_neg hk])
 simp only [zb5 h, if_true] at this ⊢
 exact this
theorem zd5 {cs : List V} {o : Nat} {sz : Nat} {xs : List (List V)} {b : Bool} (h : cs.getD o .undef = .slice b sz xs) : o < cs.length := by
 rcases Nat.lt_or_ge o cs.length with hl | hl
 ·exact hl
 ·rw [yad, List.getElem?_eq_none hl] at h; cases h
theorem SR.takeRoot (h : SR g w nl fr S st ts ps) {r : Root} {v : Value} (hv : R3 g w st.m.length (tsAt ts) (.place r) v) {sz : Nat} {xs : List (List V)} (hl : Am.look st r = .slice true sz xs) :
  SR g w nl fr S (zck st r .undef) ts ((.slice true sz xs, v) :: ps) := by
 cases r with
 | mem b o =>
  obtain ⟨hb, hc⟩ := hv
  have ho : o < (st.m.getD b []).length := zd5 hl
  obtain ⟨⟨arr, e, hB, hs, hr⟩, ht⟩ := h.mem b hb
  have hvo : arr.getD o undef = v := by rw [hB.cell] at hc; simp [yaf, hc]
  have hro := (hr o ho).2
  have hl' : (st.m.getD b []).getD o .undef = .slice true sz xs := hl
  rw [hl', hvo] at hro
  refine h.setMem hb (cs' := (st.m.getD b []).set o .undef) (qs := (.slice true sz xs, v) :: ps) List.length_set (fun k hk => ?_) ?_ (fun q hq => ?_) (fun q hq => ?_) (fun c => ?_)
  ·rw [List.length_set] at hk
   rw [zb5 ho, hB.cellsOf]
   split
   ·exact ⟨.inr rfl, trivial⟩
   ·exact hr k hk
  ·rw [zb4] at ht ⊢
   intro k hk
   rw [List.length_set] at hk
   rw [zb5 ho]
   split
   ·exact Nat.zero_le _
   ·exact ht k hk
  ·cases hq with
   | head => exact hro
   | tail _ hq => exact h.pend q hq
  ·cases hq with
   | head => exact fun d hd => by cases hd
   | tail _ hq => exact h.ppeeks q hq
  ·have h1 := zdO (c := c) (arr := arr) (x := .undef) ho
   rw [hl', hvo] at h1
   have h2 : cnt0 c V.undef v = 0 := rfl
   rw [hB.cellsOf, zap]
   simp only [cnt2, cnt1]
   omega
 | loc j o =>
  obtain ⟨hlv, hc⟩ := hv
  have hj := (h.lvs j).1 hlv
  have ho : o < (st.l j).length := zd5 hl
  obtain ⟨hn, arr, e, hB, hs, hr⟩ := h.locs j hj
  have hvo : arr.getD o undef = v := by rw [hB.cell] at hc; simp [yaf, hc]
  have hro := (hr o ho).2
  have hl' : (st.l j).getD o .undef = .slice true sz xs := hl
  rw [hl', hvo] at hro
  refine h.setLoc hj (cs' := (st.l j).set o .undef) (qs := (.slice true sz xs, v) :: ps) List.length_set (fun k hk => ?_) (fun q hq => ?_) (fun q hq => ?_) (fun c => ?_)
  ·rw [List.length_set] at hk
   rw [zb5 ho, hB.cellsOf]
   split
   ·exact ⟨.inr rfl, trivial⟩
   ·exact hr k hk
  ·cases hq with
   | head => exact hro
   | tail _ hq => exact h.pend q hq
  ·cases hq with
   | head => exact fun d hd => by cases hd
   | tail _ hq => exact h.ppeeks q hq
  ·have h1 := zdO (c := c) (arr := arr) (x := .undef) ho
   rw [hl', hvo] at h1
   have h2 : cnt0 c V.undef v = 0 := rfl
   rw [hB.cellsOf, zap]
   simp only [cnt2, cnt1]
   omega
 | tmp s =>
  have hv' : tsAt ts s = v := hv
  have hl' : st.σ s = .slice true sz xs := hl
  have := h.take s
  rw [hl', hv'] at this
  exact this
theorem SR.untake {x : V} {v : Value} (h : SR g w nl fr S st ts ((x, v) :: ps)) {s : Nat} (hs : st.σ s = .undef) (hv : tsAt ts s = v) (hlt : s < ts.size) : SR g w nl fr S { st with σ := upd st.σ s x } ts ps := by
 have hT : ∀ c, zal g w nl fr { st with σ := upd st.σ s x } ts ps c = zal g w nl fr st ts ((x, v) :: ps) c := fun c => by
  have h1 : cntT c (upd st.σ s x) ts + cnt2 c (st.σ s) (tsAt ts s) = cntT c st.σ ts + cnt2 c x (tsAt ts s) := by
   have := zb3 (n := ts.size) (f := fun i => cnt2 c (upd st.σ s x i) (tsAt ts i)) (g := fun i => cnt2 c (st.σ i) (tsAt ts i)) hlt (fun i _ hi => by simp [upd, hi])
   simp only [upd, if_true] at this
   exact this
  rw [hs, zaT, hv] at h1
  unfold zal
  rw [zap]
  simp only
  omega
 refine ⟨fun i => ?_, fun i hi => ?_, fun i d hd => ?_, fun p hp => h.pend p (.tail _ hp), fun p hp => h.ppeeks p (.tail _ hp), h.lvs, h.locs, h.mem, fun c => by rw [hT]; exact h.one c, fun c hc => by rw [hT]; exact h.out c hc⟩
 ·simp only [upd]
  split
  ·rename_i e; subst e; rw [hv]; exact h.pend _ (.head _)
  ·exact h.temps i
 ·have : i ≠ s := by omega
  simp only [upd, if_neg this]; exact h.dead i hi
 ·simp only [upd] at hd
  split at hd
  ·exact h.ppeeks _ (.head _) d hd
  ·exact h.peeks i d hd
theorem SR.putRoot {o : Bool} {sz : Nat} {xs : List (List V)} {v : Value} {r : Root} {z : V} (h : SR g w nl fr S (zck st r .undef) ts ((.slice o sz xs, v) :: ps)) (hv : R3 g w st.m.length (tsAt ts) (.place r) v)
  (hl : Am.look st r = z) (hz : ∃ b n ys, z = .slice b n ys) (hts : ∀ s, r = .tmp s → s < ts.size) : SR g w nl fr S (zck st r (.slice o sz xs)) ts ps := by
 obtain ⟨b', n', ys', rfl⟩ := hz
 have hp := h.pend _ (.head _)
 cases r with
 | mem b q =>
  obtain ⟨hb, hc⟩ := hv
  have ho : q < (st.m.getD b []).length := zd5 hl
  simp only [zck] at h hp ⊢
  have hb' : b < (st.m.set b ((st.m.getD b []).set q .undef)).length := by simpa using hb
  obtain ⟨⟨arr, e, hB, hs, hr⟩, ht⟩ := h.mem b hb'
  simp only [zcS hb, if_true, List.length_set] at hB hs hr ht hp
  have hvo : arr.getD q undef = v := by rw [hB.cell] at hc; simp [yaf, hc]
  have := h.setMem hb' (cs' := (st.m.getD b []).set q (.slice o sz xs)) (qs := ps) (by simp only [zcS hb, if_true, List.length_set]) (fun k hk => ?_) ?_ (fun p hp => h.pend p (.tail _ hp)) (fun p hp => h.ppeeks p (.tail _ hp)) (fun c => ?_)
  ·have e1 : (st.m.set b ((st.m.getD b []).set q .undef)).set b ((st.m.getD b []).set q (.slice o sz xs)) = st.m.set b ((st.m.getD b []).set q (.slice o sz xs)) := List.set_set ..
   simp only [e1] at this
   exact this
  ·simp only [List.length_set] at hk ⊢
   rw [zb5 ho, hB.cellsOf]
   split
   ·rename_i e; subst e; rw [hvo]; exact ⟨.inl rfl, R3.r1 (.inl rfl) hp⟩
   ·rename_i e
    have := hr k hk
    rwa [zb5 ho, if_neg e] at this
  ·rw [zb4] at ht ⊢
   intro k hk
   simp only [List.length_set] at hk ht
   rw [zb5 ho]
   split
   ·exact Nat.zero_le _
   ·rename_i e
    have := ht k hk
    rwa [zb5 ho, if_neg e] at this
  ·have h1 := zdO (c := c) (arr := arr) (x := .undef) ho
   have h2 := zdO (c := c) (arr := arr) (x := .slice o sz xs) ho
   have h3 : cnt0 c V.undef (arr.getD q undef) = 0 := rfl
   rw [hvo] at h2
   rw [zap]
   simp only [zcS hb, if_true, hB.cellsOf, cnt2, cnt1]
   rw [hvo] at h1 h3
   omega
 | loc j q =>
  obtain ⟨hlv, hc⟩ := hv
  have ho : q < (st.l j).length := zd5 hl
  have hj : st.l j ≠ [] := fun e => by rw [e] at ho; simp at ho
  simp only [zck] at h hp ⊢
  have hj' : upd st.l j ((st.l j).set q .undef) j ≠ [] := by
   simp only [upd, if_true]
   intro e
   have := congrArg List.length e
   simp only [List.length_set, List.length_nil] at this
   omega
  obtain ⟨hn, arr, e, hB, hs, hr⟩ := h.locs j hj'
  simp only [upd, if_true, List.length_set] at hs hr
  have hvo : arr.getD q undef = v := by rw [hB.cell] at hc; simp [yaf, hc]
  have := h.setLoc hj' (cs' := (st.l j).set q (.slice o sz xs)) (qs := ps) (by simp only [upd, if_true, List.length_set]) (fun k hk => ?_) (fun p hp => h.pend p (.tail _ hp)) (fun p hp => h.ppeeks p (.tail _ hp)) (fun c => ?_)
  ·have e1 : upd (upd st.l j ((st.l j).set q .undef)) j ((st.l j).set q (.slice o sz xs)) = upd st.l j ((st.l j).set q (.slice o sz xs)) := by funext i; simp only [upd]; split <;> rfl
   simp only [e1] at this
   exact this
  ·simp only [List.length_set] at hk
   rw [zb5 ho, hB.cellsOf]
   split
   ·rename_i e; subst e; rw [hvo]; exact ⟨.inl rfl, R3.r1 (.inl rfl) hp⟩
   ·rename_i e
    have := hr k hk
    rwa [zb5 ho, if_neg e] at this
  ·have h1 := zdO (c := c) (arr := arr) (x := .undef) ho
   have h2 := zdO (c := c) (arr := arr) (x := .slice o sz xs) ho
   have h3 : cnt0 c V.undef (arr.getD q undef) = 0 := rfl
   rw [hvo] at h2
   rw [zap]
   simp only [upd, if_true, hB.cellsOf, cnt2, cnt1]
   rw [hvo] at h1 h3
   omega
 | tmp s =>
  simp only [zck] at h ⊢
  have hv' : tsAt ts s = v := hv
  have := h.untake (s := s) (by simp [upd]) hv' (hts s rfl)
  have e1 : upd (upd st.σ s .undef) s (.slice o sz xs) = upd st.σ s (.slice o sz xs) := by funext i; simp only [upd]; split <;> rfl
  simp only [e1] at this
  exact this
end
end Go.Proofs.YtakdnfneikbjjaaGreatDoor.Am
