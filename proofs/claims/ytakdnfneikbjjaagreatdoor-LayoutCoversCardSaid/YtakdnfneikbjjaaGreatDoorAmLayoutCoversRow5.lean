/-
A part of the proof of a law: tw wp, tw s, tw o, tw c, tw pure, tw law, tw nil, tw rec, ly p, ly f.
-/
import Derived.Test.YtakdnfneikbjjaaGreatDoorAmLayoutCoversRow4
namespace Go.Proofs.YtakdnfneikbjjaaGreatDoor.Am.T
open Go.Proofs.YtakdnfneikbjjaaGreatDoor.Am
abbrev Ts := List (Nat × TV)
abbrev Bs := List (Nat × List TV)
abbrev Ms := List (List TV)
def mapK (f : TV → TV) : Ts → (Ts → Prop) → Prop
 | [], k => k []
 | (s, v) :: r, k => mapK f r fun r' => k ((s, f v) :: r')
def rdP (v : TV) (p : Prop) : Prop :=
 match v with
 | .undef => False
 | .sl true _ _ => False
 | .agg cs => bif cs.any TV.own0 then False else p
 | .tuple vs => bif vs.any TV.own1 then False else p
 | _ => p
def rdV (v : TV) (k : TV → Prop) : Prop := rdP v (k v)
def cV0 : V → TV
 | .bool b => .bool b
 | .int k n => .int k n
 | .str s => .str (s.map zd9)
 | _ => .undef
def cV : V → TV
 | .slice false z xs => .sl false z (xs.map fun cs => cs.map cV0)
 | .bool b => .bool b
 | .int k n => .int k n
 | .str s => .str (s.map zd9)
 | .nilp => .nilp
 | .nils => .nils
 | .func f [] => .func f []
 | .nilf => .nilf
 | .nili => .nili
 | _ => .undef
inductive NilOk : TV → Prop
 | nils : NilOk .nils
 | sl (o : Bool) (z : Nat) : NilOk (.sl o z [])
def cK (v : V) (k : TV → Prop) : Prop :=
 match v with
 | .nils => ∃ t, NilOk t ∧ k t
 | v => k (cV v)
def zkS : List V → (List TV → Prop) → Prop
 | [], k => k []
 | v :: r, k => cK v fun t => zkS r fun ts => k (t :: ts)
def zbF {α : Type} : List α → (List α → Prop) → Prop
 | [], k => k []
 | x :: r, k => zbF r fun r' => k (x :: r')
def rdC (L : Ts) (o : Opd) (k : TV → Prop) : Prop :=
 match o with
 | .c v => k (cV v)
 | .t s => match fnd L s with
  | some v => rdV v k
  | none => False
 | .u s .peek => k (.place (.tmp s))
 | .u _ _ => False
def rd (L : Ts) (o : Opd) (k : TV → Ts → Prop) : Prop :=
 match o with
 | .c v => cK v fun t => k t L
 | .t s => match fnd L s with
  | some v => rdV v fun v => k v L
  | none => False
 | .u s .take => match fnd L s with
  | some v => k v ((s, .undef) :: L)
  | none => False
 | .u s .share => match fnd L s with
  | some v => k v.share ((s, .undef) :: L)
  | none => False
 | .u s .peek => k (.place (.tmp s)) L
 | .u s .copy => match fnd L s with
  | some v => rdV v fun v => k v L
  | none => False
def rds (L : Ts) : List Opd → (List TV → Ts → Prop) → Prop
 | [], k => k [] L
 | x :: xs, k => rd L x fun v L1 => rds L1 xs fun vs L2 => k (v :: vs) L2
def rdCs (L : Ts) : List Opd → (List TV → Prop) → Prop
 | [], k => k []
 | x :: xs, k => rdC L x fun v => rdCs L xs fun vs => k (v :: vs)
def zfS (L : Ts) (B : Bs) (m : Ms) (r : Root) (k : TV → Prop) : Prop :=
 match r with
 | .mem b o => match m[b]? with
  | some cs => match cs[o]? with
   | some v => k v
   | none => False
  | none => False
 | .loc j o => match fnd B j with
  | some cs => match cs[o]? with
   | some v => k v
   | none => False
  | none => False
 | .tmp s => match fnd L s with
  | some v => k v
  | none => False
def zjJ (v : TV) (k : List (List TV) → Prop) : Prop :=
 match v with
 | .sl _ _ xs => k xs
 | .nils => k []
 | _ => False
def zfr (L : Ts) (B : Bs) (m : Ms) (v : TV) (k : List (List TV) → Prop) : Prop :=
 match v with
 | .sl _ _ xs => k xs
 | .nils => k []
 | .place r => zfS L B m r fun v => zjJ v k
 | _ => False
def ziB (sz : Nat) (v : TV) (k : List (List TV) → Prop) : Prop :=
 match v with
 | .nils => k []
 | .sl _ z xs => bif Nat.beq z sz then k xs else False
 | _ => False
def by8 (b : Int) : List TV := [.int .u8 b]
def zev (sz : Nat) (L : Ts) (B : Bs) (m : Ms) (v : TV) (k : List (List TV) → Prop) : Prop :=
 match v with
 | .nils => k []
 | .str s => bif Nat.beq sz 1 then k (s.map by8) else False
 | .sl _ z xs => bif Nat.beq z sz then k xs else False
 | .place r => zfS L B m r fun v => ziB sz v k
 | _ => False
def zpr (sz : Nat) (L : Ts) (B : Bs) (m : Ms) (v : TV) (k : List (List TV) → Prop) : Prop :=
 match v with
 | .str _ => False
 | v => zev sz L B m v k
def TV.bare : TV → Bool
 | .int _ _ | .bool _ | .str _ => true
 | _ => false
def setT (cs : List TV) (off : Nat) (vs : List TV) : List TV := cs.take off ++ vs ++ cs.drop (off + vs.length)
def ldW (mode : Use) (root : Root) (agg : Bool) (n : Nat) (cs : List TV) (off : Nat) (k : TV → Option (List TV) → Prop) : Prop :=
 match agg with
 | false => bif Nat.beq n 1 then match cs[off]? with
  | some v => match mode with
   | .copy => bif v.own0 then False else k v none
   | .take => zbF (cs.set off v.left) fun c => k v (some c)
   | .share => zbF (cs.set off v.share0) fun c => k v.share0 (some c)
   | .peek => k (.place root) none
  | none => False
  else False
 | true => bif Nat.ble (off + n) cs.length then match mode with
   | .copy => bif ((cs.drop off).take n).any TV.own0 then False else zbF ((cs.drop off).take n) fun d => k (.agg d) none
   | .take => zbF ((cs.drop off).take n) fun d => zbF (setT cs off (d.map TV.left)) fun c => k (.agg d) (some c)
   | .share => zbF (((cs.drop off).take n).map TV.share0) fun d => zbF (setT cs off d) fun c => k (.agg d) (some c)
   | .peek => False
  else False
def loadW (agg : Bool) (n : Nat) (mode : Use) (L : Ts) (B : Bs) (m : Ms) (a : TV) (k : TV → Bs → Ms → Prop) : Prop :=
 match a with
 | .ptr b off => match m[b]? with
  | some cs => ldW mode (.mem b off) agg n cs off fun v c => match c with
   | none => k v B m
   | some c => zbF (m.set b c) fun m' => k v B m'
  | none => False
 | .loc j off => match mode with
  | .share => False
  | mode => match fnd B j with
   | some cs => ldW mode (.loc j off) agg n cs off fun v c => match c with
    | none => k v B m
    | some c => k v ((j, c) :: B) m
   | none => False
 | .ro cs off => match mode with
  | .copy => match agg with
   | false => bif Nat.beq n 1 then (match cs[off]? with
    | some v => k v B m
    | none => False) else False
   | true => bif Nat.ble (off + n) cs.length then zbF ((cs.drop off).take n) fun d => k (.agg d) B m else False
  | _ => False
 | .el r z i o => match mode with
  | .copy => zfS L B m r fun v => match v with
   | .sl true sz xs => bif Nat.beq z sz then ∃ cs, xs[i]? = some cs ∧ match agg with
     | false => bif Nat.beq n 1 then (match cs[o]? with
      | some v => k v B m
      | none => False) else False
     | true => bif Nat.ble (o + n) cs.length then zbF ((cs.drop o).take n) fun d => k (.agg d) B m else False
    else False
   | _ => False
  | _ => False
 | _ => False
def zg7 (n : Nat) (cells : List TV) (L : Ts) (B : Bs) (m : Ms) (a : TV) (k : Ts → Bs → Ms → Prop) : Prop :=
 match a with
 | .ptr b off => match m[b]? with
  | some old => bif Nat.ble (off + n) old.length && Nat.beq cells.length n && cells.all TV.ok0 && cells.all TV.low0 then mapK (killAtV off n) L fun L' => zbF (setT old off cells) fun c => zbF (m.set b c) fun m' => k L' B m' else False
  | none => False
 | .loc j off => match fnd B j with
  | some old => bif Nat.ble (off + n) old.length && Nat.beq cells.length n && cells.all TV.ok0 then mapK killLocV L fun L' => zbF (setT old off cells) fun c => k L' ((j, c) :: B) m else False
  | none => False
 | .el r z i o => bif Nat.beq cells.length n && cells.all TV.good then (match r with
  | .mem b q => match m[b]? with
   | some old => match old[q]? with
    | some (.sl true sz xs) => bif Nat.beq z sz then ∃ cs, xs[i]? = some cs ∧ bif Nat.ble (o + n) cs.length then ∃ zs, zs = xs.set i (setT cs o cells) ∧ zbF (old.set q (.sl true sz zs)) fun c => zbF (m.set b c) fun m' => k L B m' else False else False
    | _ => False
   | none => False
  | .loc j q => match fnd B j with
   | some old => match old[q]? with
    | some (.sl true sz xs) => bif Nat.beq z sz then ∃ cs, xs[i]? = some cs ∧ bif Nat.ble (o + n) cs.length then ∃ zs, zs = xs.set i (setT cs o cells) ∧ zbF (old.set q (.sl true sz zs)) fun c => k L ((j, c) :: B) m else False else False
    | _ => False
   | none => False
  | .tmp s => match fnd L s with
   | some (.sl true sz xs) => bif Nat.beq z sz then ∃ cs, xs[i]? = some cs ∧ bif Nat.ble (o + n) cs.length then ∃ zs, zs = xs.set i (setT cs o cells) ∧ k ((s, .sl true sz zs) :: L) B m else False else False
   | _ => False) else False
 | _ => False
def ziC (L : Ts) (cells : List TV) : List (Nat × Nat × Opd) → (List TV → Ts → Prop) → Prop
 | [], k => k cells L
 | (off, n, x) :: r, k => rd L x fun v L1 => bif Nat.beq v.cells.length n && Nat.ble (off + n) cells.length && v.ok1 then zbF (setT cells off v.cells) fun c => ziC L1 c r k else False
def zfs (L : Ts) (sz : Nat) (xs : List (List TV)) : List (Nat × Opd) → (List (List TV) → Ts → Prop) → Prop
 | [], k => k xs L
 | (i, x) :: r, k => rd L x fun v L1 => bif Nat.beq v.cells.length sz && Nat.blt i xs.length && v.ok1 && v.cells.all TV.good then zbF (xs.set i v.cells) fun ys => zfs L1 sz ys r k else False
def bndW (L : Ts) (dflt : Nat) (o : Option Opd) (k : Nat → Prop) : Prop :=
 match o with
 | none => k dflt
 | some x => rdC L x fun v => match v with
  | .int _ i => 0 ≤ i ∧ k i.toNat
  | _ => False
def tell (b : Bool) (k : TV → Prop) : Prop := ∀ c : Bool, b = c → k (.bool c)
def binW (op : BinOp) (x y : TV) (k : TV → Prop) : Prop :=
 match x, y with
 | .int a n, .int b p => match op with
  | .shl => 0 ≤ p ∧ k (.int a (a.wrap (n * 2 ^ min p.toNat a.bits)))
  | .shr => 0 ≤ p ∧ k (.int a (n.fdiv (2 ^ min p.toNat a.bits)))
  | .add => bif decide (a = b) then k (.int a (a.wrap (n + p))) else False
  | .sub => bif decide (a = b) then k (.int a (a.wrap (n - p))) else False
  | .mul => bif decide (a = b) then k (.int a (a.wrap (n * p))) else False
  | .quo => bif decide (a = b) then p ≠ 0 ∧ k (.int a (a.wrap (n.tdiv p))) else False
  | .rem => bif decide (a = b) then p ≠ 0 ∧ k (.int a (n.tmod p)) else False
  | .and => bif decide (a = b) then k (.int a (a.wrap ((BitVec.ofInt a.bits n &&& BitVec.ofInt a.bits p).toNat))) else False
  | .or => bif decide (a = b) then k (.int a (a.wrap ((BitVec.ofInt a.bits n ||| BitVec.ofInt a.bits p).toNat))) else False
  | .xor => bif decide (a = b) then k (.int a (a.wrap ((BitVec.ofInt a.bits n ^^^ BitVec.ofInt a.bits p).toNat))) else False
  | .andNot => bif decide (a = b) then k (.int a (a.wrap ((BitVec.ofInt a.bits n &&& ~~~ (BitVec.ofInt a.bits p)).toNat))) else False
  | .eql => bif decide (a = b) then tell (decide (n = p)) k else False
  | .neq => bif decide (a = b) then tell (decide (n ≠ p)) k else False
  | .lss => bif decide (a = b) then tell (decide (n < p)) k else False
  | .leq => bif decide (a = b) then tell (decide (n ≤ p)) k else False
  | .gtr => bif decide (a = b) then tell (decide (n > p)) k else False
  | .geq => bif decide (a = b) then tell (decide (n ≥ p)) k else False
 | .str s, .str t => match op with
  | .add => s.length + t.length ≤ 4611686018427387904 ∧ ∃ u, u = s ++ t ∧ k (.str u)
  | .eql => tell (decide (s = t)) k
  | .neq => tell (decide (s ≠ t)) k
  | _ => False
 | _, _ => False
def zob : LK → TV → TV → Option Bool
 | .int, .int k a, .int k' b => bif decide (k = k') then some (decide (a = b)) else none
 | .bool, .bool a, .bool b => some (a == b)
 | .str, .str a, .str b => some (decide (a = b))
 | _, _, _ => none
def zhf : List LK → List TV → List TV → Option Bool
 | [], [], [] => some true
 | k :: ks, x :: xs, y :: ys => match zob k x y with
  | some b => match zhf ks xs ys with
   | some c => some (b && c)
   | none => none
  | none => none
 | _, _, _ => none
def eqT (kind : EqK) (x y : TV) : Option Bool :=
 match kind, x, y with
 | .ptr, .nilp, .nilp => some true
 | .ptr, .nilp, .ptr _ _ | .ptr, .ptr _ _, .nilp | .ptr, .nilp, .loc _ _ | .ptr, .loc _ _, .nilp => some false
 | .slice, .nils, .nils => some true
 | .func, .nilf, .nilf => some true
 | .func, .nilf, .func _ _ | .func, .func _ _, .nilf => some false
 | _, _, _ => none
def eqW (neg : Bool) (kind : EqK) (x y : TV) (k : TV → Prop) : Prop :=
 match kind with
 | .bool => match x, y with
  | .bool a, .bool b => tell (bif neg then !(a == b) else (a == b)) k
  | _, _ => False
 | .plain ks => match x, y with
  | .agg xs, .agg ys => match zhf ks xs ys with
   | some b => tell (bif neg then !b else b) k
   | none => False
  | _, _ => False
 | .slice => match x, y with
  | .sl _ _ xs, .nils => ∀ c : Bool, (c = true → xs = []) → k (.bool (bif neg then !c else c))
  | .nils, .sl _ _ xs => ∀ c : Bool, (c = true → xs = []) → k (.bool (bif neg then !c else c))
  | .nils, .nils => k (.bool (bif neg then !true else true))
  | _, _ => False
 | kind => match eqT kind x y with
  | some b => k (.bool (bif neg then !b else b))
  | none => False
def unW (op : UnOp) (x : TV) (k : TV → Prop) : Prop :=
 match op, x with
 | .neg, .int kd n => k (.int kd (kd.wrap (0 - n)))
 | .not, .bool b => k (.bool !b)
 | .xor, .int kd n => k (.int kd (kd.wrap ((BitVec.ofInt kd.bits (if kd.signed then -1 else kd.max) ^^^ BitVec.ofInt kd.bits n).toNat)))
 | _, _ => False
def appW (sz : Nat) (ys : List (List TV)) (xs : List (List TV)) (z : Nat) (k : TV → Prop) : Prop :=
 bif Nat.beq z sz then xs.length + ys.length ≤ most ∧ ∃ zs, zs = xs ++ ys ∧ k (.sl true sz zs) else False
def ze4 (mx : Bool) (v : TV) (vs : List TV) (k : TV → Prop) : Prop :=
 match v, vs with
 | .int kd a, [.int kd' b] => bif decide (kd = kd') then (match mx with
  | false => k (.int kd (min a b))
  | true => k (.int kd (max a b))) else False
 | _, _ => False
def Mg (ρ : List Nat) (M : Ms) (m : Am.Ms) : Prop := ρ.Nodup ∧ ρ.length = M.length ∧ ∀ (i b : Nat), ρ[i]? = some b → ∃ (cs : List TV) (cs' : List V), M[i]? = some cs ∧ m[b]? = some cs' ∧ Pw (Den ρ) cs cs'
def Fr (ρ : List Nat) (m : Am.Ms) (ρ' : List Nat) (m' : Am.Ms) : Prop := (∃ e, ρ' = ρ ++ e ∧ ∀ b ∈ e, m.length ≤ b) ∧ m.length ≤ m'.length ∧ ∀ c : Nat, c < m.length → c ∉ ρ → m'[c]? = m[c]?
def zan (q : Bool) (cf : CF) (f : Nat) (args : List TV) (M : Ms) (r : TV) (M' : Ms) : Prop :=
 ∀ ρ m args', Mg ρ M m → Pw (Den ρ) args args' → ∃ r' m' ρ', cf f args' m = some (r', m') ∧ Den ρ' r r' ∧ Mg ρ' M' m' ∧ Fr ρ m ρ' m' ∧ (r.low2 = true → m'.length = m.length) ∧ (q = true → m' = m)
def zpJ (n : Int) : List Int := (Utf8.encode n).data.toList.map zd9
def TV.flatA0 : TV → Bool
 | .bool _ | .int _ _ | .str _ | .nilp | .nils | .sl _ _ _ | .nilf | .nili => true
 | .func _ cs => cs.isEmpty
 | _ => false
def TV.flatA : TV → Bool
 | .agg cs => cs.all TV.flatA0
 | v => v.flatA0
def TV.flatR : TV → Bool
 | .tuple vs => vs.all TV.flatA
 | v => v.flatA
def zbs (q : Bool) (cf : CF) (op : AOp) (L : Ts) (B : Bs) (m : Ms) (k : TV → Ts → Bs → Ms → Prop) : Prop :=
 match op with
 | .mv x => rd L x fun v L' => k v L' B m
 | .mvK s => match fnd L s with
  | some (.sl _ z xs) => k (.sl false z xs) ((s, .sl false z xs) :: L) B m
  | some .nils => k .nils L B m
  | _ => False
 | .pick c a b => rdC L c fun v => match v with
  | .bool t => rdC L (bif t then a else b) fun w => k w L B m
  | _ => False
 | .allocL j zero => bif zero.all V.ok0 then zkS zero fun z => mapK (killLV j) L fun L' => k (.loc j 0) L' ((j, z) :: B) m else False
 | .allocM zero => bif zero.all V.ok0 then zkS zero fun z => bif z.all TV.low0 then zbF (m ++ [z]) fun m' => k (.ptr m.length 0) L B m' else False else False
 | .boxL j x => rd L x fun v L1 => bif v.ok1 then mapK (killLV j) L1 fun L' => k (.loc j 0) L' ((j, v.cells) :: B) m else False
 | .boxM x => rd L x fun v L1 => bif v.ok1 then zbF (m ++ [v.cells]) fun m' => k (.ptr m.length 0) L1 B m' else False
 | .build zero parts => zkS zero fun z => ziC L z parts fun cs L' => k (.agg cs) L' B m
 | .buildSlice sz zero len parts => bif Nat.beq zero.length sz && zero.all V.good then zkS zero fun z => bif z.all TV.good then zfs L sz (List.replicate len z) parts fun xs L' => ∃ zs, zs = xs ∧ k (.sl true sz zs) L' B m else False else False
 | .load agg n p mode => rdC L p fun a => loadW agg n mode L B m a fun v B' m' => k v L B' m'
 | .store n p x => rd L x fun v L1 => rdC L1 p fun a => bif v.ok1 then zg7 n v.cells L1 B m a fun L' B' m' => k .undef L' B' m' else False
 | .nilCheck x => rdC L x fun v => match v with
  | .ptr .. | .loc .. | .ro .. | .el .. | .func .. => k v L B m
  | _ => False
 | .bin op x y => rdC L x fun a => rdC L y fun b => binW op a b fun v => k v L B m
 | .eq neg kind x y => rdC L x fun a => rdC L y fun b => eqW neg kind a b fun v => k v L B m
 | .un op x => rdC L x fun a => unW op a fun v => k v L B m
 | .conv kd x => rdC L x fun a => match a with
  | .int _ n => k (.int kd (kd.wrap n)) L B m
  | _ => False
 | .strStr x => rdC L x fun a => match a with
  | .str s => k (.str s) L B m
  | _ => False
 | .strBytes x => rdC L x fun a => match a with
  | .str s => k (.sl true 1 (s.map by8)) L B m
  | _ => False
 | .bytesStr x => rdC L x fun a => zfr L B m a fun xs => ∃ s : List Int, (xs = s.map by8 ∧ ∀ b ∈ s, 0 ≤ b ∧ b < 256) ∧ k (.str s) L B m
 | .intStr x => rdC L x fun a => match a with
  | .int _ n => k (.str (zpJ n)) L B m
  | _ => False
 | .convB x => rd L x fun v L1 => match v with
  | .sl true z xs => bif Nat.beq z 1 then xs ≠ [] ∧ k (.sl true 1 xs) L1 B m else False
  | _ => False
 | .makeSlice sz zero l c => rdC L l fun a => rdC L c fun b => match a, b with
  | .int _ n, .int _ q => (0 ≤ n ∧ n ≤ q ∧ q ≤ (most : Int)) ∧ bif Nat.beq zero.length sz && zero.all V.good then zkS zero fun z => bif z.all TV.good then ∃ zs, zs = List.replicate n.toNat z ∧ k (.sl true sz zs) L B m else False else False
  | _, _ => False
 | .sliceS x lo hi => rdC L x fun a => match a with
  | .str s => bndW L s.length hi fun h => bndW L 0 lo fun l => (l ≤ h ∧ h ≤ s.length) ∧ ∃ t, t = (s.drop l).take (h - l) ∧ k (.str t) L B m
  | _ => False
 | .sliceV sz x lo hi => rd L x fun v L1 => match v with
  | .nils => bndW L1 0 hi fun h => bndW L1 0 lo fun l => (l = 0 ∧ h = 0) ∧ k .nils L1 B m
  | .sl o z xs => bif Nat.beq z sz then bndW L1 xs.length hi fun h => bndW L1 0 lo fun l => (l ≤ h ∧ h ≤ xs.length) ∧ ∃ zs, zs = (xs.drop l).take (h - l) ∧ k (.sl o sz zs) L1 B m else False
  | _ => False
 | .fieldAddr off x => rdC L x fun v => match v with
  | .ptr b o => k (.ptr b (o + off)) L B m
  | .loc j o => k (.loc j (o + off)) L B m
  | .ro cs o => k (.ro cs (o + off)) L B m
  | .el r z i q => k (.el r z i (q + off)) L B m
  | _ => False
 | .field agg n off x => rdC L x fun v => match v with
  | .agg cs => match agg with
   | false => bif Nat.beq n 1 then (match cs[off]? with
    | some v => k v L B m
    | none => False) else False
   | true => bif Nat.ble (off + n) cs.length then zbF ((cs.drop off).take n) fun d => k (.agg d) L B m else False
  | _ => False
 | .indexArr len sz x i => rdC L x fun v => rdC L i fun n => match n with
  | .int _ i => (0 ≤ i ∧ i < len) ∧ match v with
   | .ptr b o => k (.ptr b (o + i.toNat * sz)) L B m
   | .loc j o => k (.loc j (o + i.toNat * sz)) L B m
   | .ro cs o => k (.ro cs (o + i.toNat * sz)) L B m
   | .el r z e q => k (.el r z e (q + i.toNat * sz)) L B m
   | _ => False
  | _ => False
 | .indexSl sz x i => rdC L x fun v => rdC L i fun n => match n with
  | .int _ i => match v with
   | .sl false z xs => bif Nat.beq z sz then 0 ≤ i ∧ ∃ cs, xs[i.toNat]? = some cs ∧ k (.ro cs 0) L B m else False
   | .place r => zfS L B m r fun v => match v with
    | .sl false z xs => bif Nat.beq z sz then 0 ≤ i ∧ ∃ cs, xs[i.toNat]? = some cs ∧ k (.ro cs 0) L B m else False
    | .sl true z xs => bif Nat.beq z sz then (0 ≤ i ∧ i.toNat < xs.length) ∧ k (.el r sz i.toNat 0) L B m else False
    | _ => False
   | _ => False
  | _ => False
 | .indexAgg agg len sz x i => rdC L x fun v => rdC L i fun n => match v, n with
  | .agg cs, .int _ i => (0 ≤ i ∧ i < len ∧ i.toNat * sz + sz ≤ cs.length) ∧ match agg with
   | false => bif Nat.beq sz 1 then ∃ v, cs[i.toNat * sz]? = some v ∧ k v L B m else False
   | true => k (.agg ((cs.drop (i.toNat * sz)).take sz)) L B m
  | _, _ => False
 | .indexStr x i => rdC L x fun v => rdC L i fun n => match v, n with
  | .str s, .int _ i => 0 ≤ i ∧ ∃ c, s[i.toNat]? = some c ∧ k (.int .u8 c) L B m
  | _, _ => False
 | .extract x i => rd L x fun v L1 => match v with
  | .tuple vs => match vs[i]? with
   | some v => k v L1 B m
   | none => False
  | _ => False
 | .lend f sz x lo => rdC L x fun a => zpr sz L B m a fun xs => lo < xs.length ∧ ∃ zs, zs = xs.drop lo ∧ ∃ r, zan true cf f [.sl false sz zs] [] r [] ∧ bif Nat.ble 1 sz && r.bare then k r L B m else False
 | .callN _ _ _ => False
 | .tOp _ _ => False
 | .loadW _ _ _ _ _ _ => False
 | .callP f args => rds L args fun vs L1 => bif vs.all TV.flatA then ∃ r, zan true cf f vs [] r [] ∧ bif r.flatR then k r L1 B m else False else False
 | .callF f args => rds L args fun vs L1 => bif vs.all TV.okArg then ∃ r m', zan q cf f vs m r m' ∧ mapK killMV L1 fun L' => k r L' B m' else False
 | .callV f args => rdC L f fun v => match v with
  | .func g cap => rds L args fun vs L1 => bif vs.all TV.okArg then cap.all TV.okArg = true ∧ ∃ r m', zan q cf g (vs ++ cap) m r m' ∧ mapK killMV L1 fun L' => k r L' B m' else False
  | _ => False
 | .lenStr x => rdC L x fun a => match a with
  | .str s => k (.int .i64 s.length) L B m
  | _ => False
 | .lenSl x => rdC L x fun a => zfr L B m a fun xs => ∃ n : Nat, n = xs.length ∧ k (.int .i64 n) L B m
 | .lenC n => k (.int .i64 n) L B m
 | .append sz x y => rd L x fun p L1 => rd L1 y fun q L2 => zev sz L2 B m q fun ys => match p with
  | .nils => appW sz ys [] sz fun v => k v L2 B m
  | .sl true z xs => appW sz ys xs z fun v => k v L2 B m
  | .place (.tmp s) => match fnd L2 s with
   | some (.sl true z xs) => appW sz ys xs z fun v => k v ((s, .undef) :: L2) B m
   | some .nils => appW sz ys [] sz fun v => k v L2 B m
   | _ => False
  | .place (.mem b o) => match m[b]? with
   | some cs => match cs[o]? with
    | some (.sl true z xs) => appW sz ys xs z fun v => zbF (cs.set o .undef) fun c => zbF (m.set b c) fun m' => k v L2 B m'
    | some .nils => appW sz ys [] sz fun v => k v L2 B m
    | _ => False
   | none => False
  | .place (.loc j o) => match fnd B j with
   | some cs => match cs[o]? with
    | some (.sl true z xs) => appW sz ys xs z fun v => zbF (cs.set o .undef) fun c => k v L2 ((j, c) :: B) m
    | some .nils => appW sz ys [] sz fun v => k v L2 B m
    | _ => False
   | none => False
  | _ => False
 | .minMax mx x ys => rdC L x fun v => rdCs L ys fun vs => ze4 mx v vs fun r => k r L B m
 | .mkFunc f captured => rdCs L captured fun vs => bif vs.all zhe then k (.func f vs) L B m else False
def putW (o : AOper) (v : TV) (L : Ts) (k : Ts → Prop) : Prop :=
 match o.dst with
 | none => bif o.kt then (bif zfW none v then False else match v with
  | .undef => False
  | _ => k L) else k L
 | some d => bif o.kt then (bif zfW (some d) v then False else match v with
  | .undef => False
  | v => mapK (killTV d) L fun L' => k ((d, v) :: L')) else k ((d, v) :: L)
def zjN (o : AOper) (L : Ts) (k : Ts → Prop) : Prop :=
 match o.dst with
 | none => k L
 | some d => bif o.kt then mapK (killTV d) L fun L' => k ((d, .tuple []) :: L') else k ((d, .tuple []) :: L)
def elAt (s : Nat) : TV → Bool
 | .el (.tmp s') _ _ _ => Nat.beq s' s
 | _ => false
def zkT (s : Nat) : TV → Bool
 | .place (.tmp s') => Nat.beq s' s
 | _ => false
def zkU (s : Nat) (kk : TOp) (L : Ts) (k : Prop) : Prop :=
 match kk with
 | .place => k
 | .index _ x _ | .len x => match fnd L x with
  | some v => bif zkT s v then k else False
  | none => False
 | .load _ _ p => match fnd L p with
  | some v => bif elAt s v then k else False
  | none => False
 | .store _ p x => rd L x fun _ L1 => match fnd L1 p with
  | some v => bif elAt s v then k else False
  | none => False
def wpOp (q : Bool) (cf : CF) (op : AOp) (L : Ts) (B : Bs) (m : Ms) (k : TV → Ts → Bs → Ms → Prop) : Prop :=
 match op with
 | .tOp s kk => zkU s kk L (zbs q cf (kk.under s) L B m k)
 | op => zbs q cf op L B m k
def wpOps (cf : CF) : List AOper → Ts → Bs → Ms → (Ts → Bs → Ms → Prop) → Prop
 | [], L, B, m, k => k L B m
 | o :: os, L, B, m, k => match o.guard with
  | none => wpOp false cf o.op L B m fun v L1 B1 m1 => putW o v L1 fun L2 => wpOps cf os L2 B1 m1 k
  | some (g, want) => match fnd L g with
   | some (.bool b) => bif b == want then wpOp false cf o.op L B m fun v L1 B1 m1 => putW o v L1 fun L2 => wpOps cf os L2 B1 m1 k
    else zjN o L fun L2 => wpOps cf os L2 B m k
   | some (.tuple []) => zjN o L fun L2 => wpOps cf os L2 B m k
   | _ => False
def zft (lean : Bool) (L : Ts) : List Nat → Bool
 | [] => true
 | s :: r => match fnd L s with
  | some v => zkR lean v && zft lean L r
  | none => false
def zkV (op : AOp) : Bool := match op with
 | .store _ _ _ => true
 | _ => false
def zoB (o : AOper) : Bool := zkV o.op && (match o.mark with
 | .fa _ => false
 | _ => true)
def zm5 (mk : Mark) : Bool := match mk with
 | .quiet => true
 | _ => false
def ziG : TV → Bool
 | .loc _ _ => false
 | .undef => false
 | _ => true
def ziD (L : Ts) : List Nat → Bool
 | [] => true
 | s :: r => match fnd L s with
  | some v => ziG v && ziD L r
  | none => false
def zm6 (j : Nat) : TV → Bool
 | .loc i _ => i == j
 | _ => false
def faW (j : Nat) (L : Ts) : List Nat → Bool
 | [] => true
 | s :: r => match fnd L s with
  | some v => zm6 j v && faW j L r
  | none => false
def zm7 (o : AOper) (v : TV) : Bool := zkR o.lean v && (match o.mark with
 | .none => true
 | .quiet | .mem => ziG v && (match v with
  | .place _ | .el _ _ _ _ => false
  | _ => true)
 | .fa j => zm6 j v
 | _ => ziG v)
def zm8 (op : AOp) (L : Ts) (k : Prop) : Prop :=
 match op with
 | .callP _ _ => k
 | .append _ (.u s .take) _ => match fnd L s with
  | some (.sl _ _ _) => k
  | some .nils => k
  | _ => False
 | _ => False
def zkN (o : AOper) (L : Ts) (k : Prop) : Prop :=
 match o.mark with
 | .none => k
 | .cool => match o.op.ptr? with
  | none => bif ziD L (slots o.op.opds) then k else False
  | some _ => False
 | .quiet => bif o.op.isCall then k else zm8 o.op L k
 | .fa j => bif faW j L (slots o.op.opds) then k else False
 | mk => match o.op.ptr? with
  | none => k
  | some p => rdC L p fun v => match v with
   | .loc i _ => bif mk == .loc i then k else False
   | .ptr _ _ => bif mk == .mem then k else False
   | .ro _ _ => bif mk == .free then k else False
   | _ => False
def doD (cf : CF) (o : AOper) (L : Ts) (B : Bs) (m : Ms) (k : Ts → Bs → Ms → Prop) : Prop :=
 bif o.op.isT then wpOp false cf o.op L B m fun v L1 B1 m1 => putW o v L1 fun L2 => k L2 B1 m1 else
 bif zft o.lean L (slots o.op.opds) then wpOp (zm5 o.mark) cf o.op L B m fun v L1 B1 m1 => bif zoB o || zm7 o v then zkN o L (putW o v L1 fun L2 => k L2 B1 m1) else False else False
def wpD (cf : CF) : List AOper → Ts → Bs → Ms → (Ts → Bs → Ms → Prop) → Prop
 | [], L, B, m, k => k L B m
 | o :: os, L, B, m, k => match o.guard with
  | none => doD cf o L B m fun L2 B1 m1 => wpD cf os L2 B1 m1 k
  | some (g, want) => match fnd L g with
   | some (.bool b) => bif b == want then doD cf o L B m fun L2 B1 m1 => wpD cf os L2 B1 m1 k
    else zjN o L fun L2 => wpD cf os L2 B m k
   | some (.tuple []) => zjN o L fun L2 => wpD cf os L2 B m k
   | _ => False
def Ag (ρ : List Nat) (L : Ts) (σ : Nat → V) : Prop := ∀ s t, fnd L s = some t → Den ρ t (σ s)
def AgB (ρ : List Nat) (B : Bs) (l : Nat → List V) : Prop := ∀ s t, fnd B s = some t → Pw (Den ρ) t (l s)
structure Rel (ρ : List Nat) (L : Ts) (B : Bs) (M : Ms) (st : St) : Prop where
 a : Ag ρ L st.σ
 b : AgB ρ B st.l
 m : Mg ρ M st.m
structure WP (cf : CF) (c : ACode) (L : Ts) (B : Bs) (M : Ms) (Q : Ex → Ts → Bs → Ms → Prop) : Prop where
 go : ∀ ρ st, Rel ρ L B M st → ∃ e st', exec cf c st = some (e, st') ∧ ∃ ρ' L' B' M', Rel ρ' L' B' M' st' ∧ Fr ρ st.m ρ' st'.m ∧ Q e L' B' M'
end Go.Proofs.YtakdnfneikbjjaaGreatDoor.Am.T

namespace Go.Proofs.YtakdnfneikbjjaaGreatDoor.Am.T
open Go.Proofs.YtakdnfneikbjjaaGreatDoor.Am
theorem zo3 (v : V) : Den0 (cV0 v) v := by
 unfold cV0
 split
 ·exact .bool _
 ·exact .int _ _
 ·exact .str _
 ·exact .undef _
theorem zm9 : ∀ cs : List V, Pw Den0 (cs.map cV0) cs
 | [] => .nil
 | c :: cs => .cons (zo3 c) (zm9 cs)
theorem zlr : ∀ xs : List (List V), Pw (Pw Den0) (xs.map fun cs => cs.map cV0) xs
 | [] => .nil
 | c :: cs => .cons (zm9 c) (zlr cs)
theorem zoC {ρ : List Nat} (v : V) : Den ρ (cV v) v := by
 unfold cV
 split
 ·exact .base (.sl _ _ (zlr _))
 ·exact .base (.bool _)
 ·exact .base (.int _ _)
 ·exact .base (.str _)
 ·exact .base .nilp
 ·exact .base .nils
 ·exact .base (.func _)
 ·exact .base .nilf
 ·exact .base .nili
 ·exact .undef' _
theorem NilOk.den {ρ : List Nat} {t : TV} (h : NilOk t) : Den ρ t .nils := by
 cases h with
 | nils => exact .base .nils
 | sl o z => exact .base (.sln o z)
theorem zls {ρ : List Nat} {v : V} {k : TV → Prop} (h : cK v k) : ∃ t, Den ρ t v ∧ k t := by
 unfold cK at h
 split at h
 ·obtain ⟨t, h1, h2⟩ := h; exact ⟨t, h1.den, h2⟩
 ·exact ⟨_, zoC v, h⟩
theorem zcH {ρ : List Nat} : ∀ {z : List V} {k : List TV → Prop}, zkS z k → ∃ ts, Pw (Den ρ) ts z ∧ k ts
 | [], k, h => ⟨[], .nil, h⟩
 | v :: z, k, h => by
  obtain ⟨t, h1, h2⟩ := zls (ρ := ρ) h
  obtain ⟨ts, h3, h4⟩ := zcH h2
  exact ⟨t :: ts, .cons h1 h3, h4⟩
theorem zao {α : Type} : ∀ {l : List α} {k : List α → Prop}, zbF l k ↔ k l
 | [], _ => Iff.rfl
 | x :: r, k => by
  unfold zbF
  exact zao
theorem zoc {ρ : List Nat} {cs : List TV} {cs' : List V} (h : Pw (Den ρ) cs cs') (hg : cs.all TV.good = true) : Pw Den0 cs cs' ∧ cs'.all V.good = true := by
 induction h with
 | nil => exact ⟨.nil, rfl⟩
 | cons hr _ ih =>
  simp only [List.all_cons, Bool.and_eq_true] at hg
  obtain ⟨a, b⟩ := hr.good hg.1
  obtain ⟨c, d⟩ := ih hg.2
  exact ⟨.cons a c, by simp only [List.all_cons, b, d, Bool.and_self]⟩
theorem bifT {c : Bool} {p : Prop} (h : bif c then p else False) : c = true ∧ p := zaN h
theorem bifF {c : Bool} {p : Prop} (h : bif c then False else p) : c = false ∧ p := by
 cases c with
 | true => exact h.elim
 | false => exact ⟨rfl, h⟩
theorem zdw {f : TV → TV} : ∀ {L : Ts} {k : Ts → Prop}, mapK f L k ↔ k (L.map fun p => (p.1, f p.2))
 | [], _ => Iff.rfl
 | (s, v) :: r, k => by
  unfold mapK
  rw [zdw]; rfl
theorem zg9 {f : TV → TV} : ∀ {L : Ts} {s : Nat}, fnd (L.map fun p => (p.1, f p.2)) s = (fnd L s).map f
 | [], _ => rfl
 | (k, v) :: r, s => by
  rw [List.map_cons, zbr, zbr, zg9]
  split <;> rfl
section
variable {ρ : List Nat} {L : Ts} {B : Bs} {M : Ms} {st : St}
theorem Ag.upd {σ : Nat → V} (h : Ag ρ L σ) (d : Nat) {t : TV} {v : V} (hv : Den ρ t v) : Ag ρ ((d, t) :: L) (Am.upd σ d v) := fun s x hx => by
 rw [zbr] at hx
 unfold Am.upd
 split at hx
 ·rename_i e; rw [if_pos e]; cases hx; exact hv
 ·rename_i e; rw [if_neg e]; exact h s x hx
theorem AgB.upd {l : Nat → List V} (h : AgB ρ B l) (d : Nat) {t : List TV} {v : List V} (hv : Pw (Den ρ) t v) : AgB ρ ((d, t) :: B) (Am.upd l d v) := fun s x hx => by
 rw [zbr] at hx
 unfold Am.upd
 split at hx
 ·rename_i e; rw [if_pos e]; cases hx; exact hv
 ·rename_i e; rw [if_neg e]; exact h s x hx
theorem Ag.map {σ : Nat → V} (h : Ag ρ L σ) {f : TV → TV} {g : V → V} (hf : ∀ t v, Den ρ t v → Den ρ (f t) (g v)) : Ag ρ (L.map fun p => (p.1, f p.2)) (fun i => g (σ i)) := fun s x hx => by
 rw [zg9, Option.map_eq_some_iff] at hx
 obtain ⟨y, hy, rfl⟩ := hx
 exact hf _ _ (h s y hy)
theorem Ag.mono {σ : Nat → V} (e : List Nat) (h : Ag ρ L σ) : Ag (ρ ++ e) L σ := fun s t ht => (h s t ht).mono e
theorem AgB.mono {l : Nat → List V} (e : List Nat) (h : AgB ρ B l) : AgB (ρ ++ e) B l := fun s t ht => (h s t ht).mono fun _ _ h => h.mono e
theorem Fr.refl (ρ : List Nat) (m : Am.Ms) : Fr ρ m ρ m := ⟨⟨[], by simp, by simp⟩, Nat.le_refl _, fun _ _ _ => rfl⟩
theorem Fr.trans {ρ ρ1 ρ2 : List Nat} {m m1 m2 : Am.Ms} (h : Fr ρ m ρ1 m1) (g : Fr ρ1 m1 ρ2 m2) : Fr ρ m ρ2 m2 := by
 obtain ⟨⟨e1, rfl, h1⟩, h2, h3⟩ := h
 obtain ⟨⟨e2, rfl, g1⟩, g2, g3⟩ := g
 refine ⟨⟨e1 ++ e2, by simp, fun b hb => ?_⟩, by omega, fun c hc hn => ?_⟩
 ·rcases List.mem_append.1 hb with hb | hb
  ·exact h1 b hb
  ·have := g1 b hb; omega
 ·rw [g3 c (by omega) (fun hh => ?_), h3 c hc hn]
  rcases List.mem_append.1 hh with hh | hh
  ·exact hn hh
  ·have := h1 c hh; omega
theorem Mg.lt {m : Am.Ms} (h : Mg ρ M m) {b : Nat} (hb : b ∈ ρ) : b < m.length := by
 obtain ⟨i, hi, rfl⟩ := List.getElem_of_mem hb
 obtain ⟨_, cs', _, h2, _⟩ := h.2.2 i ρ[i] (List.getElem?_eq_getElem hi)
 exact zai h2
theorem Mg.get {m : Am.Ms} (h : Mg ρ M m) {i b : Nat} (hi : ρ[i]? = some b) {cs : List TV} (hM : M[i]? = some cs) : ∃ cs', m[b]? = some cs' ∧ Pw (Den ρ) cs cs' := by
 obtain ⟨cs2, cs', h1, h2, h3⟩ := h.2.2 i b hi
 rw [hM] at h1; cases h1
 exact ⟨cs', h2, h3⟩
theorem Mg.has {m : Am.Ms} (h : Mg ρ M m) {i : Nat} {cs : List TV} (hM : M[i]? = some cs) : ∃ b cs', ρ[i]? = some b ∧ m[b]? = some cs' ∧ Pw (Den ρ) cs cs' := by
 have hi : i < ρ.length := by rw [h.2.1]; exact zai hM
 have e := List.getElem?_eq_getElem hi
 obtain ⟨cs', h1, h2⟩ := h.get e hM
 exact ⟨_, cs', e, h1, h2⟩
theorem zjO (h : ρ.Nodup) {i j b : Nat} (hi : ρ[i]? = some b) (hj : ρ[j]? = some b) : i = j := by
 obtain ⟨h1, e1⟩ := List.getElem?_eq_some_iff.1 hi
 obtain ⟨h2, e2⟩ := List.getElem?_eq_some_iff.1 hj
 exact (List.getElem_inj (h₀ := h1) (h₁ := h2) h).1 (by rw [e1, e2])
theorem Mg.set {m : Am.Ms} (h : Mg ρ M m) {i b : Nat} (hi : ρ[i]? = some b) {cs : List TV} {cs' : List V} (hc : Pw (Den ρ) cs cs') : Mg ρ (M.set i cs) (m.set b cs') := by
 refine ⟨h.1, by rw [List.length_set]; exact h.2.1, fun j c hj => ?_⟩
 obtain ⟨x, y, h1, h2, h3⟩ := h.2.2 j c hj
 by_cases e : i = j
 ·subst e
  have : b = c := by rw [hi] at hj; exact Option.some.inj hj
  subst this
  exact ⟨cs, cs', List.getElem?_set_self (zai h1), List.getElem?_set_self (zai h2), hc⟩
 ·have hne : b ≠ c := fun hh => e (zjO h.1 hi (by rw [hh]; exact hj))
  exact ⟨x, y, by rw [List.getElem?_set_ne e]; exact h1, by rw [List.getElem?_set_ne hne]; exact h2, h3⟩
theorem Fr.set {m : Am.Ms} {i b : Nat} (hi : ρ[i]? = some b) (cs' : List V) : Fr ρ m ρ (m.set b cs') :=
 ⟨⟨[], by simp, by simp⟩, by simp, fun c _ hn => by
  rw [List.getElem?_set_ne]
  rintro rfl
  exact hn (List.mem_of_getElem? hi)⟩
theorem Mg.alloc {m : Am.Ms} (h : Mg ρ M m) {cs : List TV} {cs' : List V} (hc : Pw (Den ρ) cs cs') : Mg (ρ ++ [m.length]) (M ++ [cs]) (m ++ [cs']) := by
 refine ⟨?_, by simp [h.2.1], fun j c hj => ?_⟩
 ·rw [List.nodup_append]
  refine ⟨h.1, by simp, fun a ha b hb => ?_⟩
  rw [List.mem_singleton.1 hb]
  exact Nat.ne_of_lt (h.lt ha)
 ·by_cases e : j < ρ.length
  ·rw [List.getElem?_append_left e] at hj
   obtain ⟨x, y, h1, h2, h3⟩ := h.2.2 j c hj
   exact ⟨x, y, by rw [List.getElem?_append_left (zai h1)]; exact h1, by rw [List.getElem?_append_left (zai h2)]; exact h2, h3.mono fun _ _ h => h.mono _⟩
  ·have hl := zai hj
   simp only [List.length_append, List.length_singleton] at hl
   have ej : j = ρ.length := by omega
   subst ej
   simp only [List.getElem?_concat_length, Option.some.injEq] at hj
   subst hj
   refine ⟨cs, cs', ?_, List.getElem?_concat_length .., hc.mono fun _ _ h => h.mono _⟩
   rw [h.2.1]; exact List.getElem?_concat_length ..
theorem Fr.alloc (ρ : List Nat) (m : Am.Ms) (cs' : List V) : Fr ρ m (ρ ++ [m.length]) (m ++ [cs']) :=
 ⟨⟨[m.length], rfl, fun b hb => by rw [List.mem_singleton.1 hb]; exact Nat.le_refl _⟩, by simp, fun c hc _ => List.getElem?_append_left hc⟩
theorem Rel.sig {σ : Nat → V} {L' : Ts} (h : Rel ρ L B M st) (ha : Ag ρ L' σ) : Rel ρ L' B M { st with σ := σ } := ⟨ha, h.b, h.m⟩
theorem zha {t : TV} {v : V} {k : TV → Prop} (hd : Den ρ t v) (h : rdV t k) : v.hasOwn = false ∧ k t := by
 have key : t.hasOwn = false ∧ k t := by
  unfold rdV rdP at h
  split at h
  ·exact h.elim
  ·exact h.elim
  ·obtain ⟨a, b⟩ := bifF h; exact ⟨a, b⟩
  ·obtain ⟨a, b⟩ := bifF h; exact ⟨a, b⟩
  ·rename_i h0 h1 h2 h3
   refine ⟨?_, h⟩
   cases t with
   | undef => exact (h0 rfl).elim
   | sl o z xs => cases o with
    | true => exact (h1 _ _ rfl).elim
    | false => rfl
   | agg cs => exact (h2 _ rfl).elim
   | tuple vs => exact (h3 _ rfl).elim
   | _ => rfl
 exact ⟨hd.hasOwn key.1, key.2⟩
theorem zaf (h : Ag ρ L st.σ) {o : Opd} {k : TV → Prop} (hk : rdC L o k) : ∃ v t, getC st o = some v ∧ Den ρ t v ∧ k t := by
 unfold rdC at hk
 cases o with
 | c v => exact ⟨v, cV v, rfl, zoC v, hk⟩
 | t s =>
  simp only at hk
  cases hs : fnd L s with
  | none => rw [hs] at hk; exact hk.elim
  | some t =>
   rw [hs] at hk
   have hd := h s t hs
   obtain ⟨h1, h2⟩ := zha hd hk
   refine ⟨st.σ s, t, ?_, hd, h2⟩
   simp [getC, h1]
 | u s how =>
  cases how with
  | peek => exact ⟨_, _, rfl, .place (.tmp s), hk⟩
  | _ => exact hk.elim
theorem zaJ (h : Ag ρ L st.σ) {o : Opd} {k : TV → Ts → Prop} (hk : rd L o k) : ∃ v σ', getO st o = some (v, { st with σ := σ' }) ∧ ∃ t L', Den ρ t v ∧ Ag ρ L' σ' ∧ k t L' := by
 unfold rd at hk
 have copy : ∀ s, (match fnd L s with | some v => rdV v fun v => k v L | none => False) → (st.σ s).hasOwn = false ∧ ∃ t, Den ρ t (st.σ s) ∧ k t L := fun s hk => by
  cases hs : fnd L s with
  | none => rw [hs] at hk; exact hk.elim
  | some v =>
   rw [hs] at hk
   have hd := h s v hs
   obtain ⟨h1, h2⟩ := zha hd hk
   exact ⟨h1, v, hd, h2⟩
 have mv : ∀ (f : TV → TV) (g : V → V) s, (∀ t v, Den ρ t v → Den ρ (f t) (g v)) → (match fnd L s with | some v => k (f v) ((s, .undef) :: L) | none => False) → ∃ t, Den ρ t (g (st.σ s)) ∧ k t ((s, .undef) :: L) := fun f g s hf hk => by
  cases hs : fnd L s with
  | none => rw [hs] at hk; exact hk.elim
  | some v => rw [hs] at hk; exact ⟨f v, hf _ _ (h s v hs), hk⟩
 cases o with
 | c v =>
  obtain ⟨t, h1, h2⟩ := zls hk
  exact ⟨v, st.σ, rfl, t, L, h1, h, h2⟩
 | t s =>
  obtain ⟨h1, t, h2, h3⟩ := copy s hk
  exact ⟨_, st.σ, by simp [getO, h1], t, L, h2, h, h3⟩
 | u s how =>
  cases how with
  | copy =>
   obtain ⟨h1, t, h2, h3⟩ := copy s hk
   exact ⟨_, st.σ, by simp [getO, h1], t, L, h2, h, h3⟩
  | take =>
   obtain ⟨t, h1, h2⟩ := mv id id s (fun _ _ h => h) hk
   exact ⟨_, _, rfl, t, _, h1, h.upd s (.undef' _), h2⟩
  | share =>
   obtain ⟨t, h1, h2⟩ := mv TV.share V.share s (fun _ _ h => h.share) hk
   exact ⟨_, _, rfl, t, _, h1, h.upd s (.undef' _), h2⟩
  | peek => exact ⟨_, st.σ, rfl, _, L, .place (.tmp s), h, hk⟩
theorem zcV : ∀ {xs : List Opd} {L : Ts} {st : St} (_ : Ag ρ L st.σ) {k : List TV → Ts → Prop} (_ : rds L xs k), ∃ vs σ', getOs st xs = some (vs, { st with σ := σ' }) ∧ ∃ ts L', Pw (Den ρ) ts vs ∧ Ag ρ L' σ' ∧ k ts L'
 | [], L, st, h, k, hk => ⟨[], st.σ, rfl, [], L, .nil, h, hk⟩
 | x :: xs, L, st, h, k, hk => by
  unfold rds at hk
  obtain ⟨v, σ1, e1, t, L1, hd, h1, hk1⟩ := zaJ h hk
  obtain ⟨vs, σ2, e2, ts, L2, hd2, h2, hk2⟩ := zcV (st := { st with σ := σ1 }) (L := L1) h1 hk1
  exact ⟨v :: vs, σ2, by simp [getOs, e1, e2], t :: ts, L2, .cons hd hd2, h2, hk2⟩
theorem zcF (h : Ag ρ L st.σ) : ∀ {xs : List Opd} {k : List TV → Prop} (_ : rdCs L xs k), ∃ vs ts, getCs st xs = some vs ∧ Pw (Den ρ) ts vs ∧ k ts
 | [], k, hk => ⟨[], [], rfl, .nil, hk⟩
 | x :: xs, k, hk => by
  unfold rdCs at hk
  obtain ⟨v, t, e1, hd, hk1⟩ := zaf h hk
  obtain ⟨vs, ts, e2, hd2, hk2⟩ := zcF h hk1
  exact ⟨v :: vs, t :: ts, by simp [getCs, e1, e2], .cons hd hd2, hk2⟩
theorem RootR.look (h : Rel ρ L B M st) {r r' : Root} (hr : RootR ρ r r') {k : TV → Prop} (hk : zfS L B M r k) : ∃ t, Den ρ t (look st r') ∧ k t := by
 unfold zfS at hk
 cases hr with
 | @mem i b o hi =>
  simp only at hk
  split at hk
  ·rename_i cs hcs
   split at hk
   ·rename_i v hv
    obtain ⟨cs', h1, h2⟩ := h.m.get hi hcs
    obtain ⟨v', h3, h4⟩ := h2.get hv
    refine ⟨v, ?_, hk⟩
    show Den ρ v ((st.m.getD b []).getD o .undef)
    rw [zax h1, zax h3]; exact h4
   ·exact hk.elim
  ·exact hk.elim
 | loc j o =>
  simp only at hk
  split at hk
  ·rename_i cs hcs
   split at hk
   ·rename_i v hv
    obtain ⟨v', h3, h4⟩ := (h.b j cs hcs).get hv
    refine ⟨v, ?_, hk⟩
    show Den ρ v ((st.l j).getD o .undef)
    rw [zax h3]; exact h4
   ·exact hk.elim
  ·exact hk.elim
 | tmp s =>
  simp only at hk
  split at hk
  ·rename_i v hv; exact ⟨v, h.a s v hv, hk⟩
  ·exact hk.elim
theorem zjP {t : TV} {v : V} (hd : Den ρ t v) {k : List (List TV) → Prop} (hk : zjJ t k) : ∃ xs, (v = .nils ∧ xs = [] ∨ ∃ o z, v = .slice o z xs) ∧ ∃ ys, Pw (Pw Den0) ys xs ∧ k ys := by
 unfold zjJ at hk
 cases t with
 | nils => rw [hd.nils_inv]; exact ⟨[], .inl ⟨rfl, rfl⟩, [], .nil, hk⟩
 | sl o z xs =>
  rcases hd.sl_inv with ⟨ys, rfl, h⟩ | ⟨rfl, rfl⟩
  ·exact ⟨ys, .inr ⟨_, _, rfl⟩, xs, h, hk⟩
  ·exact ⟨[], .inl ⟨rfl, rfl⟩, [], .nil, hk⟩
 | _ => exact hk.elim
theorem zcW (h : Rel ρ L B M st) {t : TV} {v : V} (hd : Den ρ t v) {k : List (List TV) → Prop} (hk : zfr L B M t k) : ∃ xs, elems st v = some xs ∧ ∃ ys, Pw (Pw Den0) ys xs ∧ k ys := by
 unfold zfr at hk
 cases t with
 | nils => rw [hd.nils_inv]; exact ⟨[], rfl, [], .nil, hk⟩
 | sl o z xs =>
  rcases hd.sl_inv with ⟨ys, rfl, h⟩ | ⟨rfl, rfl⟩
  ·exact ⟨ys, rfl, xs, h, hk⟩
  ·exact ⟨[], rfl, [], .nil, hk⟩
 | place r =>
  obtain ⟨r', rfl, hr⟩ := hd.place_inv
  obtain ⟨t, hd2, hk2⟩ := hr.look h hk
  obtain ⟨xs, hx, ys, h1, h2⟩ := zjP hd2 hk2
  refine ⟨xs, ?_, ys, h1, h2⟩
  unfold elems
  rcases hx with ⟨e, rfl⟩ | ⟨o, z, e⟩
  ·simp only [e]
  ·simp only [e]
 | _ => exact hk.elim
theorem zkW : ∀ (s : List UInt8), Pw (Pw Den0) ((s.map zd9).map by8) (zbR s)
 | [] => .nil
 | b :: s => .cons (.cons (.int .u8 _) .nil) (zkW s)
theorem zb0 (h : Rel ρ L B M st) {sz : Nat} {t : TV} {v : V} (hd : Den ρ t v) {k : List (List TV) → Prop} (hk : zev sz L B M t k) : ∃ xs, zb2 sz st v = some xs ∧ ∃ ys, Pw (Pw Den0) ys xs ∧ k ys := by
 unfold zev at hk
 cases t with
 | nils => rw [hd.nils_inv]; exact ⟨[], rfl, [], .nil, hk⟩
 | str s =>
  obtain ⟨e, hk⟩ := zaH hk
  obtain ⟨b, rfl, rfl⟩ := hd.str_inv
  exact ⟨_, by simp [zb2, e], _, zkW b, hk⟩
 | sl o z xs =>
  obtain ⟨e, hk⟩ := zaH hk
  rcases hd.sl_inv with ⟨ys, rfl, h⟩ | ⟨rfl, rfl⟩
  ·exact ⟨ys, by simp [zb2, e], xs, h, hk⟩
  ·exact ⟨[], rfl, [], .nil, hk⟩
 | place r =>
  obtain ⟨r', rfl, hr⟩ := hd.place_inv
  obtain ⟨t, hd2, hk2⟩ := hr.look h hk
  unfold ziB at hk2
  unfold zb2
  cases t with
  | nils => exact ⟨[], by simp only [hd2.nils_inv], [], .nil, hk2⟩
  | sl o z xs =>
   obtain ⟨e, hk⟩ := zaH hk2
   rcases hd2.sl_inv with ⟨ys, e2, h⟩ | ⟨e2, rfl⟩
   ·exact ⟨ys, by simp only [e2, e, if_true], xs, h, hk⟩
   ·exact ⟨[], by simp only [e2], [], .nil, hk⟩
  | _ => exact hk2.elim
 | _ => exact hk.elim
theorem zkX (h : Rel ρ L B M st) {sz : Nat} {t : TV} {v : V} (hd : Den ρ t v) {k : List (List TV) → Prop} (hk : zpr sz L B M t k) : ∃ xs, lendS sz st v = some xs ∧ ∃ ys, Pw (Pw Den0) ys xs ∧ k ys := by
 cases t with
 | str s => exact hk.elim
 | undef => exact hk.elim
 | nils => obtain ⟨xs, e, r⟩ := zb0 (sz := sz) h hd hk; rw [hd.nils_inv] at e ⊢; exact ⟨xs, e, r⟩
 | sl o z xs =>
  obtain ⟨ys, e, r⟩ := zb0 (sz := sz) h hd hk
  rcases hd.sl_inv with ⟨zs, rfl, _⟩ | ⟨rfl, _⟩ <;> exact ⟨ys, e, r⟩
 | place r =>
  obtain ⟨ys, e, q⟩ := zb0 (sz := sz) h hd hk
  obtain ⟨r', rfl, _⟩ := hd.place_inv
  exact ⟨ys, e, q⟩
 | _ => exact hk.elim
theorem zod {ρ : List Nat} {t : TV} {v : V} (hd : Den ρ t v) (hb : t.bare = true) : v.bare = true ∧ ∀ ρ', Den ρ' t v := by
 cases t with
 | int k n => cases hd with | base h => cases h; exact ⟨rfl, fun _ => .base (.int _ _)⟩
 | bool b => cases hd with | base h => cases h; exact ⟨rfl, fun _ => .base (.bool _)⟩
 | str s => cases hd with | base h => cases h; exact ⟨rfl, fun _ => .base (.str _)⟩
 | _ => cases hb
theorem zfv {cs : List TV} {cs' : List V} (h : Pw (Den ρ) cs cs') (off : Nat) {vs : List TV} {vs' : List V} (g : Pw (Den ρ) vs vs') : Pw (Den ρ) (setT cs off vs) (zay cs' off vs') := by
 unfold setT zay
 rw [g.length]
 exact ((h.take _).append g).append (h.drop _)
theorem zhg {cs : List TV} {cs' : List V} (h : Pw Den0 cs cs') (off : Nat) {vs : List TV} {vs' : List V} (g : Pw Den0 vs vs') : Pw Den0 (setT cs off vs) (zay cs' off vs') := by
 unfold setT zay
 rw [g.length]
 exact ((h.take _).append g).append (h.drop _)
theorem zeA {a b : Nat} (h : Nat.ble a b = true) : a ≤ b := Nat.le_of_ble_eq_true h
theorem zew {mode : Use} {root root' : Root} (hr : RootR ρ root root') {agg : Bool} {n : Nat} {cs : List TV} {cs' : List V} (hc : Pw (Den ρ) cs cs') {off : Nat} {k : TV → Option (List TV) → Prop} (hk : ldW mode root agg n cs off k) :
  off + n ≤ cs'.length ∧ ∃ v t c, zc1 mode root' agg ((cs'.drop off).take n) = some v ∧ Den ρ t v ∧ (mode.writes = true → ∃ d, c = some d ∧ Pw (Den ρ) d (zay cs' off (zfF mode ((cs'.drop off).take n)))) ∧ (mode.writes = false → c = none) ∧ k t c := by
 unfold ldW at hk
 cases agg with
 | false =>
  obtain ⟨rfl, hk'⟩ := zaH hk
  clear hk
  have hk := hk'
  split at hk
  ·rename_i t ht
   obtain ⟨v, hv, hd⟩ := hc.get ht
   refine ⟨zai hv, ?_⟩
   rw [zhG hv]
   cases mode with
   | copy =>
    obtain ⟨h1, h2⟩ := bifF hk
    exact ⟨v, t, none, by simp [zc1, agg?, hd.own0 h1], hd, (fun hh => by cases hh), fun _ => rfl, h2⟩
   | take =>
    refine ⟨v, t, _, by simp [zc1, agg?], hd, fun _ => ⟨_, rfl, ?_⟩, (fun hh => by cases hh), (by have hk' := zao.1 hk; exact hk')⟩
    show Pw (Den ρ) _ (zay cs' off [v.left])
    rw [zln hv]; exact hc.set hd.left _
   | share =>
    refine ⟨v.share0, t.share0, _, by simp [zc1, agg?], hd.share0, fun _ => ⟨_, rfl, ?_⟩, (fun hh => by cases hh), (by have hk' := zao.1 hk; exact hk')⟩
    show Pw (Den ρ) _ (zay cs' off [v.share0])
    rw [zln hv]; exact hc.set hd.share0 _
   | peek => exact ⟨.place root', .place root, none, by simp [zc1], .place hr, (fun hh => by cases hh), fun _ => rfl, hk⟩
  ·exact hk.elim
 | true =>
  obtain ⟨hl, hk⟩ := bifT hk
  have hl := zeA hl
  refine ⟨by rw [← hc.length]; exact hl, ?_⟩
  have hd : Pw (Den ρ) ((cs.drop off).take n) ((cs'.drop off).take n) := (hc.drop _).take _
  cases mode with
  | copy =>
   obtain ⟨h1, h2⟩ := bifF hk
   have h3 := Pw.any (p := TV.own0) (q := V.own0) (fun _ _ h ho => Den.own0 h ho) hd h1
   exact ⟨_, _, none, by simp only [zc1, h3, Bool.false_eq_true, if_false, agg?, if_true], .agg hd, (fun hh => by cases hh), fun _ => rfl, zao.1 h2⟩
  | take => exact ⟨_, _, _, rfl, .agg hd, fun _ => ⟨_, rfl, zfv hc off (Pw.maps (f := TV.left) (g := V.left) (fun _ _ h => h.left) hd)⟩, (fun hh => by cases hh), (by have hk' := zao.1 hk; have hk2 := zao.1 hk'; exact hk2)⟩
  | share => exact ⟨_, _, _, rfl, .agg (Pw.maps (f := TV.share0) (g := V.share0) (fun _ _ h => h.share0) hd), fun _ => ⟨_, rfl, zfv hc off (Pw.maps (f := TV.share0) (g := V.share0) (fun _ _ h => h.share0) hd)⟩, (fun hh => by cases hh), (by have hk' := zao.1 hk; have hk2 := zao.1 hk'; exact hk2)⟩
  | peek => exact hk.elim
theorem zdi (h : Rel ρ L B M st) {agg : Bool} {n : Nat} {mode : Use} {a : TV} {a' : V} (ha : Den ρ a a') {k : TV → Bs → Ms → Prop} (hk : loadW agg n mode L B M a k) :
  ∃ v st', zaG st agg n mode a' = some (v, st') ∧ ∃ t B' M', Den ρ t v ∧ Rel ρ L B' M' st' ∧ Fr ρ st.m ρ st'.m ∧ k t B' M' := by
 unfold loadW at hk
 cases a with
 | ptr i off =>
  obtain ⟨b, rfl, hi⟩ := ha.ptr_inv
  simp only at hk
  split at hk
  ·rename_i cs hcs
   obtain ⟨cs', h1, h2⟩ := h.m.get hi hcs
   obtain ⟨h3, v, t, c, e, hd, hw, hw2, hk⟩ := zew (.mem off hi) h2 hk
   have e1 := zax (d := []) h1
   simp only [zaG, e1]
   rw [if_pos ⟨zai h1, h3⟩, e]
   refine ⟨v, _, rfl, t, ?_⟩
   cases hm : mode.writes with
   | true =>
    obtain ⟨d, rfl, hd2⟩ := hw hm
    exact ⟨B, M.set i d, hd, ⟨h.a, h.b, h.m.set hi hd2⟩, .set hi _, (by have hk' := zao.1 hk; exact hk')⟩
   | false =>
    rw [hw2 hm] at hk
    exact ⟨B, M, hd, h, .refl _ _, hk⟩
  ·exact hk.elim
 | loc j off =>
  rw [ha.loc_inv]
  have key : ∀ cs, fnd B j = some cs → mode ≠ .share → ldW mode (.loc j off) agg n cs off (fun v c => match c with | none => k v B M | some c => k v ((j, c) :: B) M) →
    ∃ v st', zaG st agg n mode (.loc j off) = some (v, st') ∧ ∃ t B' M', Den ρ t v ∧ Rel ρ L B' M' st' ∧ Fr ρ st.m ρ st'.m ∧ k t B' M' := fun cs hj hm hk => by
   obtain ⟨h3, v, t, c, e, hd, hw, hw2, hk⟩ := zew (.loc j off) (h.b j cs hj) hk
   simp only [zaG]
   rw [if_pos ⟨h3, hm⟩, e]
   refine ⟨v, _, rfl, t, ?_⟩
   cases hm : mode.writes with
   | true =>
    obtain ⟨d, rfl, hd2⟩ := hw hm
    exact ⟨(j, d) :: B, M, hd, ⟨h.a, h.b.upd j hd2, h.m⟩, .refl _ _, hk⟩
   | false =>
    rw [hw2 hm] at hk
    exact ⟨B, M, hd, h, .refl _ _, hk⟩
  cases hj : fnd B j with
  | none => simp only [hj] at hk; cases mode <;> exact hk.elim
  | some cs =>
   simp only [hj] at hk
   cases mode with
   | share => exact hk.elim
   | _ => exact key cs hj (by simp) hk
 | ro cs off =>
  obtain ⟨cs', rfl, hc⟩ := ha.ro_inv
  cases mode with
  | copy =>
   cases agg with
   | false =>
    obtain ⟨rfl, hk'⟩ := zaH hk
    clear hk
    have hk := hk'
    split at hk
    ·rename_i t ht
     obtain ⟨v, hv, hd⟩ := hc.get ht
     exact ⟨v, st, by simp only [zaG]; rw [if_pos ⟨trivial, Nat.succ_le_of_lt (zai hv)⟩, zhG hv]; rfl, t, B, M, hd, h, .refl _ _, hk⟩
    ·exact hk.elim
   | true =>
    obtain ⟨hl, hk⟩ := bifT hk
    have hl := zeA hl
    rw [hc.length] at hl
    exact ⟨_, st, by simp only [zaG]; rw [if_pos ⟨trivial, hl⟩]; rfl, _, B, M, .agg ((hc.drop _).take _), h, .refl _ _, (by have hk' := zao.1 hk; exact hk')⟩
  | _ => exact hk.elim
 | el r z i o =>
  obtain ⟨r', rfl, hr⟩ := ha.el_inv
  cases mode with
  | copy =>
   obtain ⟨t, hd, hk⟩ := hr.look h hk
   simp only [zaG]
   cases t with
   | sl own sz xs =>
    cases own with
    | false => exact hk.elim
    | true =>
     obtain ⟨rfl, cs, hcs, hk⟩ := zaH hk
     rcases hd.sl_inv with ⟨ys, e2, hxy⟩ | ⟨e2, rfl⟩
     ·obtain ⟨cs', hcs', hc⟩ := hxy.get hcs
      have e := zax (d := []) hcs'
      simp only [e2, e]
      cases agg with
      | false =>
       obtain ⟨rfl, hk'⟩ := zaH hk
       clear hk
       have hk := hk'
       split at hk
       ·rename_i t ht
        obtain ⟨v, hv, hd⟩ := hc.get ht
        exact ⟨v, st, by simp only [if_true]; rw [if_pos ⟨trivial, zai hcs', Nat.succ_le_of_lt (zai hv)⟩, zhG hv]; rfl, t, B, M, .base hd, h, .refl _ _, hk⟩
       ·exact hk.elim
      | true =>
       obtain ⟨hl, hk⟩ := bifT hk
       have hl := zeA hl
       rw [hc.length] at hl
       exact ⟨_, st, by simp only [if_true]; rw [if_pos ⟨trivial, zai hcs', hl⟩]; rfl, _, B, M, .agg (((hc.drop _).take _).base), h, .refl _ _, (by have hk' := zao.1 hk; exact hk')⟩
     ·simp at hcs
   | _ => exact hk.elim
  | _ => exact hk.elim
 | _ => exact hk.elim
theorem zcq {σ : Nat → V} (h : Ag ρ L σ) {f : TV → TV} {g : V → V} (hf : ∀ t v, Den ρ t v → Den ρ (f t) (g v)) {k : Ts → Prop} (hk : mapK f L k) : ∃ L', Ag ρ L' (fun i => g (σ i)) ∧ k L' := ⟨_, h.map hf, zdw.1 hk⟩
theorem zex (h : Rel ρ L B M st) {n : Nat} {cells : List TV} {cells' : List V} (hcl : Pw (Den ρ) cells cells') {a : TV} {a' : V} (ha : Den ρ a a') {k : Ts → Bs → Ms → Prop} (hk : zg7 n cells L B M a k) :
  ∃ st', zbb st n cells' a' = some st' ∧ ∃ L' B' M', Rel ρ L' B' M' st' ∧ Fr ρ st.m ρ st'.m ∧ k L' B' M' := by
 unfold zg7 at hk
 have ok : cells.all TV.ok0 = true → cells'.all V.ok0 = true := fun hh => Pw.all (p := TV.ok0) (q := V.ok0) (fun _ _ h ho => Den.ok0 h ho) hcl hh
 cases a with
 | ptr i off =>
  obtain ⟨b, rfl, hi⟩ := ha.ptr_inv
  simp only at hk
  split at hk
  ·rename_i old hold
   obtain ⟨hb, hk⟩ := bifT hk
   simp only [Bool.and_eq_true] at hb
   obtain ⟨⟨⟨h1, h2⟩, h3⟩, h4⟩ := hb
   have h1 := zeA h1
   have h2 := Nat.eq_of_beq_eq_true h2
   obtain ⟨old', ho1, ho2⟩ := h.m.get hi hold
   have e1 := zax (d := []) ho1
   obtain ⟨L', hL', hk⟩ := zcq h.a (fun _ _ h => Den.killAtV off n h) hk
   simp only [zbb, e1]
   rw [if_pos ⟨zai ho1, by rw [← ho2.length]; exact h1, by rw [← hcl.length]; exact h2, ok h3, by rw [zgy hcl h4]; omega⟩]
   exact ⟨_, rfl, L', B, _, ⟨hL', h.b, h.m.set hi (zfv ho2 off hcl)⟩, .set hi _, (by have hk' := zao.1 hk; have hk2 := zao.1 hk'; exact hk2)⟩
  ·exact hk.elim
 | loc j off =>
  rw [ha.loc_inv]
  simp only at hk
  split at hk
  ·rename_i old hold
   obtain ⟨hb, hk⟩ := bifT hk
   simp only [Bool.and_eq_true] at hb
   obtain ⟨⟨h1, h2⟩, h3⟩ := hb
   have h1 := zeA h1
   have h2 := Nat.eq_of_beq_eq_true h2
   have ho2 := h.b j old hold
   obtain ⟨L', hL', hk⟩ := zcq h.a (fun _ _ h => Den.killLocV h) hk
   simp only [zbb]
   rw [if_pos ⟨by rw [← ho2.length]; exact h1, by rw [← hcl.length]; exact h2, ok h3⟩]
   exact ⟨_, rfl, L', _, M, ⟨hL', h.b.upd j (zfv ho2 off hcl), h.m⟩, .refl _ _, (by have hk' := zao.1 hk; exact hk')⟩
  ·exact hk.elim
 | el r z i o =>
  obtain ⟨r', rfl, hr⟩ := ha.el_inv
  obtain ⟨hg, hk⟩ := bifT hk
  simp only [Bool.and_eq_true] at hg
  obtain ⟨hn, hg⟩ := hg
  have hn := Nat.eq_of_beq_eq_true hn
  obtain ⟨hc0, hg'⟩ := zoc hcl hg
  have hn' : cells'.length = n := by rw [← hcl.length]; exact hn
  simp only [zbb]
  rw [if_pos ⟨hn', hg'⟩]
  cases hr with
  | @mem q b off hi =>
   simp only at hk
   split at hk
   ·rename_i old hold
    split at hk
    ·rename_i sz xs hxs
     obtain ⟨rfl, cs, hcs, hk⟩ := zaH hk
     obtain ⟨hl, _, rfl, hk⟩ := bifT hk
     have hl := zeA hl
     obtain ⟨old', ho1, ho2⟩ := h.m.get hi hold
     obtain ⟨v', hv1, hv2⟩ := ho2.get hxs
     have e1 := zax (d := []) ho1
     have e2 := zax (d := V.undef) hv1
     rcases hv2.sl_inv with ⟨ys, rfl, hxy⟩ | ⟨_, rfl⟩
     ·obtain ⟨cs', hcs', hc⟩ := hxy.get hcs
      have e3 := zax (d := []) hcs'
      simp only [look, e1, e2, e3]
      rw [if_pos ⟨trivial, zai hcs', by rw [← hc.length]; exact hl⟩]
      exact ⟨_, rfl, L, B, _, ⟨h.a, h.b, h.m.set hi (ho2.set (.base (.sl true _ (hxy.set (zhg hc o hc0) i))) off)⟩, .set hi _, (by have hk' := zao.1 hk; have hk2 := zao.1 hk'; exact hk2)⟩
     ·simp at hcs
    ·exact hk.elim
   ·exact hk.elim
  | loc j q =>
   simp only at hk
   split at hk
   ·rename_i old hold
    split at hk
    ·rename_i sz xs hxs
     obtain ⟨rfl, cs, hcs, hk⟩ := zaH hk
     obtain ⟨hl, _, rfl, hk⟩ := bifT hk
     have hl := zeA hl
     have ho2 := h.b j old hold
     obtain ⟨v', hv1, hv2⟩ := ho2.get hxs
     have e2 := zax (d := V.undef) hv1
     rcases hv2.sl_inv with ⟨ys, rfl, hxy⟩ | ⟨_, rfl⟩
     ·obtain ⟨cs', hcs', hc⟩ := hxy.get hcs
      have e3 := zax (d := []) hcs'
      simp only [look, e2, e3]
      rw [if_pos ⟨trivial, zai hcs', by rw [← hc.length]; exact hl⟩]
      exact ⟨_, rfl, L, _, M, ⟨h.a, h.b.upd j (ho2.set (.base (.sl true _ (hxy.set (zhg hc o hc0) i))) q), h.m⟩, .refl _ _, (by have hk' := zao.1 hk; exact hk')⟩
     ·simp at hcs
    ·exact hk.elim
   ·exact hk.elim
  | tmp s =>
   simp only at hk
   split at hk
   ·rename_i sz xs hxs
    obtain ⟨rfl, cs, hcs, hk⟩ := zaH hk
    obtain ⟨hl, _, rfl, hk⟩ := bifT hk
    have hl := zeA hl
    have hv2 := h.a s _ hxs
    rcases hv2.sl_inv with ⟨ys, e2, hxy⟩ | ⟨_, rfl⟩
    ·obtain ⟨cs', hcs', hc⟩ := hxy.get hcs
     have e3 := zax (d := []) hcs'
     simp only [look, e2, e3]
     rw [if_pos ⟨trivial, zai hcs', by rw [← hc.length]; exact hl⟩]
     exact ⟨_, rfl, _, B, M, ⟨h.a.upd s (.base (.sl true _ (hxy.set (zhg hc o hc0) i))), h.b, h.m⟩, .refl _ _, hk⟩
    ·simp at hcs
   ·exact hk.elim
 | _ => exact hk.elim
theorem zdj : ∀ {ps : List (Nat × Nat × Opd)} {L : Ts} {st : St} (_ : Ag ρ L st.σ) {cells : List TV} {cells' : List V} (_ : Pw (Den ρ) cells cells') {k : List TV → Ts → Prop} (_ : ziC L cells ps k), ∃ cs' σ', zaT st cells' ps = some (cs', { st with σ := σ' }) ∧ ∃ cs L', Pw (Den ρ) cs cs' ∧ Ag ρ L' σ' ∧ k cs L'
 | [], L, st, h, cells, cells', hc, k, hk => ⟨cells', st.σ, rfl, cells, L, hc, h, hk⟩
 | (off, n, x) :: r, L, st, h, cells, cells', hc, k, hk => by
  unfold ziC at hk
  obtain ⟨v, σ1, e1, t, L1, hd, h1, hk⟩ := zaJ h hk
  obtain ⟨hb, hk⟩ := bifT hk
  simp only [Bool.and_eq_true] at hb
  obtain ⟨⟨b1, b2⟩, b3⟩ := hb
  have hcd := hd.cells b3
  obtain ⟨cs, σ2, e2, cs2, L2, hd2, h2, hk2⟩ := zdj (st := { st with σ := σ1 }) h1 (zfv hc off hcd) (by have hk' := zao.1 hk; exact hk')
  refine ⟨cs, σ2, ?_, cs2, L2, hd2, h2, hk2⟩
  simp only [zaT, e1, Option.bind_some]
  rw [if_pos ⟨by rw [← hcd.length]; exact Nat.eq_of_beq_eq_true b1, by rw [← hc.length]; exact zeA b2, hd.ok1 b3⟩]; exact e2
theorem zcX {sz : Nat} : ∀ {ps : List (Nat × Opd)} {L : Ts} {st : St} (_ : Ag ρ L st.σ) {xs : List (List TV)} {xs' : List (List V)} (_ : Pw (Pw Den0) xs xs') {k : List (List TV) → Ts → Prop} (_ : zfs L sz xs ps k), ∃ ys' σ', zaU st sz xs' ps = some (ys', { st with σ := σ' }) ∧ ∃ ys L', Pw (Pw Den0) ys ys' ∧ Ag ρ L' σ' ∧ k ys L'
 | [], L, st, h, xs, xs', hx, k, hk => ⟨xs', st.σ, rfl, xs, L, hx, h, hk⟩
 | (i, x) :: r, L, st, h, xs, xs', hx, k, hk => by
  unfold zfs at hk
  obtain ⟨v, σ1, e1, t, L1, hd, h1, hk⟩ := zaJ h hk
  obtain ⟨hb, hk⟩ := bifT hk
  simp only [Bool.and_eq_true] at hb
  obtain ⟨⟨⟨b1, b2⟩, b3⟩, b4⟩ := hb
  have hcd := hd.cells b3
  obtain ⟨hc0, hg⟩ := zoc hcd b4
  obtain ⟨cs, σ2, e2, cs2, L2, hd2, h2, hk2⟩ := zcX (st := { st with σ := σ1 }) h1 (hx.set hc0 i) (by have hk' := zao.1 hk; exact hk')
  refine ⟨cs, σ2, ?_, cs2, L2, hd2, h2, hk2⟩
  simp only [zaU, e1, Option.bind_some]
  have b2' : i < xs.length := zeA b2
  rw [if_pos ⟨by rw [← hcd.length]; exact Nat.eq_of_beq_eq_true b1, by rw [← hx.length]; exact b2', hg⟩]; exact e2
theorem zbj (h : Ag ρ L st.σ) {d : Nat} {o : Option Opd} {k : Nat → Prop} (hk : bndW L d o k) : ∃ n, zaI st d o = some n ∧ k n := by
 unfold bndW at hk
 cases o with
 | none => exact ⟨d, rfl, hk⟩
 | some x =>
  obtain ⟨v, t, e, hd, hk⟩ := zaf h hk
  cases t with
  | int kd i => rw [hd.int_inv] at e; exact ⟨_, by simp [zaI, e, hk.1], hk.2⟩
  | _ => exact hk.elim
end
end Go.Proofs.YtakdnfneikbjjaaGreatDoor.Am.T

namespace Go.Proofs.YtakdnfneikbjjaaGreatDoor.Am.T
open Go.Proofs.YtakdnfneikbjjaaGreatDoor.Am
section
variable {ρ : List Nat} {L : Ts} {B : Bs} {M : Ms} {st : St}
theorem ziH {α : Type} {l : List α} {i : Nat} {v : α} (h : l[i]? = some v) : l.set i v = l := by
 obtain ⟨hi, rfl⟩ := List.getElem?_eq_some_iff.1 h
 exact List.set_getElem_self hi
theorem za0 {b : Bool} {k : TV → Prop} (h : tell b k) : k (.bool b) := h b rfl
theorem zna {a b : UInt8} (h : zd9 a = zd9 b) : a = b := by
 unfold zd9 at h
 exact UInt8.toNat_inj.1 (by omega)
theorem zfw : ∀ {s t : List UInt8}, s.map zd9 = t.map zd9 → s = t
 | [], [], _ => rfl
 | [], _ :: _, h => by cases h
 | _ :: _, [], h => by cases h
 | a :: s, b :: t, h => by
  simp only [List.map_cons, List.cons.injEq] at h
  rw [zna h.1, zfw h.2]
theorem znb {a k : Int} : (a == k) = decide (a = k) := by rw [Bool.eq_iff_iff]; simp
theorem zkY {s t : List UInt8} : (s == t) = decide (s.map zd9 = t.map zd9) := by
 rw [Bool.eq_iff_iff]
 simp only [beq_iff_eq, decide_eq_true_eq]
 exact ⟨fun h => by rw [h], zfw⟩
theorem zfT {op : BinOp} {x y : TV} {x' y' : V} (hx : Den ρ x x') (hy : Den ρ y y') {k : TV → Prop} (hk : binW op x y k) : ∃ v t, zb3 op x' y' = some v ∧ Den ρ t v ∧ k t := by
 unfold binW at hk
 split at hk
 ·rename_i a n b p
  rw [hx.int_inv, hy.int_inv]
  have I : ∀ (k : IntKind) (n : Int), Den ρ (.int k n) (.int k n) := fun k n => .base (.int k n)
  have Bo : ∀ b : Bool, Den ρ (.bool b) (.bool b) := fun b => .base (.bool b)
  cases op with
  | shl => exact ⟨_, _, by simp only [zb3, zdS]; rw [if_neg (by omega)], I _ _, hk.2⟩
  | shr => exact ⟨_, _, by simp only [zb3, zdS]; rw [if_neg (by omega)], I _ _, hk.2⟩
  | quo => obtain ⟨e, h0, hk⟩ := zaN hk; exact ⟨_, _, by simp only [zb3, zbS, of_decide_eq_true e, if_true, if_neg h0], I _ _, hk⟩
  | rem => obtain ⟨e, h0, hk⟩ := zaN hk; exact ⟨_, _, by simp only [zb3, zbS, of_decide_eq_true e, if_true, if_neg h0], I _ _, hk⟩
  | eql => obtain ⟨e, hk⟩ := zaN hk; exact ⟨_, _, by simp only [zb3, zbS, of_decide_eq_true e, if_true, znb], Bo _, za0 hk⟩
  | neq =>
   obtain ⟨e, hk⟩ := zaN hk
   refine ⟨_, _, by simp only [zb3, zbS, of_decide_eq_true e, if_true]; rfl, Bo _, ?_⟩
   have h1 := za0 hk
   have e2 : decide (n ≠ p) = (n != p) := by simp [bne, decide_not]; rfl
   rwa [e2] at h1
  | lss => obtain ⟨e, hk⟩ := zaN hk; exact ⟨_, _, by simp only [zb3, zbS, of_decide_eq_true e, if_true], Bo _, za0 hk⟩
  | leq => obtain ⟨e, hk⟩ := zaN hk; exact ⟨_, _, by simp only [zb3, zbS, of_decide_eq_true e, if_true], Bo _, za0 hk⟩
  | gtr => obtain ⟨e, hk⟩ := zaN hk; exact ⟨_, _, by simp only [zb3, zbS, of_decide_eq_true e, if_true], Bo _, za0 hk⟩
  | geq => obtain ⟨e, hk⟩ := zaN hk; exact ⟨_, _, by simp only [zb3, zbS, of_decide_eq_true e, if_true], Bo _, za0 hk⟩
  | _ => obtain ⟨e, hk⟩ := zaN hk; exact ⟨_, _, by simp only [zb3, zbS, of_decide_eq_true e, if_true], I _ _, hk⟩
 ·rename_i s t
  obtain ⟨s', rfl, rfl⟩ := hx.str_inv
  obtain ⟨t', rfl, rfl⟩ := hy.str_inv
  cases op with
  | add =>
   simp only [List.length_map] at hk
   obtain ⟨hk1, _, rfl, hk2⟩ := hk
   exact ⟨_, _, by simp only [zb3, zhL]; rw [if_pos hk1], by rw [← List.map_append]; exact .base (.str _), hk2⟩
  | eql => exact ⟨_, _, rfl, by rw [zkY]; exact .base (.bool _), za0 hk⟩
  | neq =>
   refine ⟨_, _, rfl, .base (.bool _), ?_⟩
   have h1 := za0 hk
   rwa [show decide (s'.map zd9 ≠ t'.map zd9) = !(s' == t') from by rw [zkY]; simp] at h1
  | _ => exact hk.elim
 ·exact hk.elim
theorem zkZ {k : LK} {x y : TV} {x' y' : V} (hx : Den ρ x x') (hy : Den ρ y y') {b : Bool} (h : zob k x y = some b) : zf5 k x' y' = some b := by
 unfold zob at h
 split at h
 ·rename_i a c k' d
  rw [hx.int_inv, hy.int_inv]
  cases hk : decide (a = k') with
  | true =>
   rw [hk] at h
   simp only [cond_true, Option.some.injEq] at h
   simp only [zf5, of_decide_eq_true hk, if_true, znb, h]
  | false => rw [hk] at h; cases h
 ·rw [hx.bool_inv, hy.bool_inv]; exact h
 ·obtain ⟨s', rfl, rfl⟩ := hx.str_inv
  obtain ⟨t', rfl, rfl⟩ := hy.str_inv
  simp only [Option.some.injEq] at h
  simp only [zf5, zkY, h]
 ·cases h
theorem zfx : ∀ {ks : List LK} {xs ys : List TV} {xs' ys' : List V} (_ : Pw (Den ρ) xs xs') (_ : Pw (Den ρ) ys ys') {b : Bool} (_ : zhf ks xs ys = some b), zbq ks xs' ys' = some b
 | [], [], [], xs', ys', hx, hy, b, h => by
  cases hx; cases hy; exact h
 | k :: ks, x :: xs, y :: ys, xs', ys', hx, hy, b, h => by
  cases hx with
  | cons h1 t1 =>
   cases hy with
   | cons h2 t2 =>
    simp only [zhf] at h
    cases h3 : zob k x y with
    | none => simp only [h3] at h; cases h
    | some c =>
     simp only [h3] at h
     cases h4 : zhf ks xs ys with
     | none => simp only [h4] at h; cases h
     | some d =>
      simp only [h4] at h
      have e1 := zkZ h1 h2 h3
      have e2 := zfx t1 t2 h4
      rw [zbq, e1, Option.bind_some, e2, Option.bind_some]; exact h
 | [], _ :: _, _, xs', ys', hx, hy, b, h => by cases h
 | [], [], _ :: _, xs', ys', hx, hy, b, h => by cases h
 | _ :: _, [], _, xs', ys', hx, hy, b, h => by cases h
 | _ :: _, _ :: _, [], xs', ys', hx, hy, b, h => by cases h
theorem znc {kind : EqK} {x y : TV} {x' y' : V} (hx : Den ρ x x') (hy : Den ρ y y') {b : Bool} (h : eqT kind x y = some b) : eqV kind x' y' = some b := by
 unfold eqT at h
 split at h
 ·rw [hx.nilp_inv, hy.nilp_inv]; exact h
 ·obtain ⟨b, rfl, _⟩ := hy.ptr_inv; rw [hx.nilp_inv]; exact h
 ·obtain ⟨b, rfl, _⟩ := hx.ptr_inv; rw [hy.nilp_inv]; exact h
 ·rw [hx.nilp_inv, hy.loc_inv]; exact h
 ·rw [hx.loc_inv, hy.nilp_inv]; exact h
 ·rw [hx.nils_inv, hy.nils_inv]; exact h
 ·rw [hx.nilf_inv, hy.nilf_inv]; exact h
 ·obtain ⟨b, rfl, _⟩ := hy.func_inv; rw [hx.nilf_inv]; exact h
 ·obtain ⟨b, rfl, _⟩ := hx.func_inv; rw [hy.nilf_inv]; exact h
 ·cases h
theorem zgj {c : Bool} {x y : Bool} : (bif c then x else y) = if c then x else y := by cases c <;> rfl
theorem zhb {neg : Bool} {kind : EqK} {x y : TV} {x' y' : V} (hx : Den ρ x x') (hy : Den ρ y y') {k : TV → Prop} (hk : eqW neg kind x y k) : ∃ b, eqV kind x' y' = some b ∧ k (.bool (if neg then !b else b)) := by
 unfold eqW at hk
 split at hk
 ·split at hk
  ·rw [hx.bool_inv, hy.bool_inv]
   have := za0 hk
   rw [zgj] at this
   exact ⟨_, rfl, this⟩
  ·exact hk.elim
 ·split at hk
  ·obtain ⟨xs', rfl, h1⟩ := hx.agg_inv
   obtain ⟨ys', rfl, h2⟩ := hy.agg_inv
   split at hk
   ·rename_i b hb
    have := za0 hk
    rw [zgj] at this
    exact ⟨b, zfx h1 h2 hb, this⟩
   ·exact hk.elim
  ·exact hk.elim
 ·split at hk
  ·rw [hy.nils_inv]
   rcases hx.sl_inv with ⟨ys, rfl, _⟩ | ⟨rfl, rfl⟩
   ·have := hk false (fun h => by cases h)
    rw [zgj] at this
    exact ⟨false, rfl, this⟩
   ·have := hk true (fun _ => rfl)
    rw [zgj] at this
    exact ⟨true, rfl, this⟩
  ·rw [hx.nils_inv]
   rcases hy.sl_inv with ⟨ys, rfl, _⟩ | ⟨rfl, rfl⟩
   ·have := hk false (fun h => by cases h)
    rw [zgj] at this
    exact ⟨false, rfl, this⟩
   ·have := hk true (fun _ => rfl)
    rw [zgj] at this
    exact ⟨true, rfl, this⟩
  ·rw [hx.nils_inv, hy.nils_inv]
   rw [zgj] at hk
   exact ⟨true, rfl, hk⟩
  ·exact hk.elim
 ·split at hk
  ·rename_i b hb
   rw [zgj] at hk
   exact ⟨b, znc hx hy hb, hk⟩
  ·exact hk.elim
theorem znd {op : UnOp} {x : TV} {x' : V} (hx : Den ρ x x') {k : TV → Prop} (hk : unW op x k) : ∃ v t, doUn op x' = some v ∧ Den ρ t v ∧ k t := by
 unfold unW at hk
 split at hk
 ·rw [hx.int_inv]; exact ⟨_, _, rfl, .base (.int _ _), hk⟩
 ·rw [hx.bool_inv]; exact ⟨_, _, rfl, .base (.bool _), hk⟩
 ·rw [hx.int_inv]; exact ⟨_, _, rfl, .base (.int _ _), hk⟩
 ·exact hk.elim
theorem zd8 {mx : Bool} {t : TV} {ts : List TV} {v : V} {vs : List V} (h1 : Den ρ t v) (h2 : Pw (Den ρ) ts vs) {k : TV → Prop} (hk : ze4 mx t ts k) : ∃ r w, zca mx v vs = some r ∧ Den ρ w r ∧ k w := by
 unfold ze4 at hk
 split at hk
 ·rename_i kd a kd' b
  rw [h1.int_inv]
  cases h2 with
  | cons h3 h4 =>
   cases h4
   rw [h3.int_inv]
   obtain ⟨_, hk⟩ := bifT hk
   cases mx with
   | false => exact ⟨_, _, by simp only [zca, zej, Option.bind_some, Bool.false_eq_true, if_false], .base (.int kd (if b < a then b else a)), by rw [show (if b < a then b else a) = min a b from by rw [Int.min_def]; split <;> split <;> omega]; exact hk⟩
   | true => exact ⟨_, _, by simp only [zca, zej, Option.bind_some, if_true], .base (.int kd (if a < b then b else a)), by rw [show (if a < b then b else a) = max a b from by rw [Int.max_def]; split <;> split <;> omega]; exact hk⟩
 ·exact hk.elim
theorem zhh : ∀ {s : List Int} {xs : List (List V)}, Pw (Pw Den0) (s.map by8) xs → (∀ b ∈ s, 0 ≤ b ∧ b < 256) → ∃ b : List UInt8, bytesOf xs = some b ∧ s = b.map zd9
 | [], xs, h, _ => by cases h; exact ⟨[], rfl, rfl⟩
 | n :: s, xs, h, hr => by
  cases h with
  | cons h1 h2 =>
   cases h1 with
   | cons h3 h4 =>
    cases h4
    cases h3 with
    | int k n =>
     obtain ⟨b, e1, e2⟩ := zhh h2 fun b hb => hr b (.tail _ hb)
     have hn := hr n (.head _)
     refine ⟨UInt8.ofNat n.toNat :: b, by simp only [bytesOf]; rw [if_pos hn, e1]; rfl, ?_⟩
     rw [List.map_cons, ← e2]
     congr 1
     unfold zd9
     rw [UInt8.toNat_ofNat']
     omega
theorem zmd {ρ : List Nat} {t : TV} {v : V} (h : Den ρ t v) (hf : t.flatA0 = true) : Den0 t v ∧ v.flat0 = true := by
 cases h with
 | base h0 =>
  refine ⟨h0, ?_⟩
  cases h0 with
  | undef v => cases hf
  | _ => rfl
 | func f h =>
  cases h with
  | nil => exact ⟨.func f, rfl⟩
  | cons _ _ => cases hf
 | _ => cases hf
theorem zk0 {ρ : List Nat} {cs : List TV} {cs' : List V} (h : Pw (Den ρ) cs cs') (hf : cs.all TV.flatA0 = true) : Pw Den0 cs cs' ∧ cs'.all V.flat0 = true := by
 induction h with
 | nil => exact ⟨.nil, rfl⟩
 | cons hr _ ih =>
  simp only [List.all_cons, Bool.and_eq_true] at hf
  obtain ⟨a, b⟩ := zmd hr hf.1
  obtain ⟨c, d⟩ := ih hf.2
  exact ⟨.cons a c, by simp only [List.all_cons, b, d, Bool.and_self]⟩
theorem zhi {ρ : List Nat} {t : TV} {v : V} (h : Den ρ t v) (hf : t.flatA = true) : (∀ ρ', Den ρ' t v) ∧ v.flat1 = true := by
 cases h with
 | agg h =>
  have := zk0 h hf
  exact ⟨fun ρ' => .agg this.1.base, this.2⟩
 | base h0 =>
  refine ⟨fun ρ' => .base h0, ?_⟩
  cases h0 with
  | undef v => cases hf
  | _ => rfl
 | func f h =>
  cases h with
  | nil => exact ⟨fun ρ' => .base (.func f), rfl⟩
  | cons _ _ => cases hf
 | _ => cases hf
theorem zfX {ρ : List Nat} {ts : List TV} {vs : List V} (h : Pw (Den ρ) ts vs) (hf : ts.all TV.flatA = true) : (∀ ρ', Pw (Den ρ') ts vs) ∧ vs.all V.flat1 = true := by
 induction h with
 | nil => exact ⟨fun _ => .nil, rfl⟩
 | cons hr _ ih =>
  simp only [List.all_cons, Bool.and_eq_true] at hf
  obtain ⟨a, b⟩ := zhi hr hf.1
  obtain ⟨c, d⟩ := ih hf.2
  exact ⟨fun ρ' => .cons (a ρ') (c ρ'), by simp only [List.all_cons, b, d, Bool.and_self]⟩
theorem zjQ {ρ : List Nat} {ts : List TV} {vs : List V} (h : Pw (Den ρ) ts vs) (hf : ts.all TV.flatA = true) : Pw (Den []) ts vs ∧ vs.all V.flat1 = true :=
 ⟨(zfX h hf).1 [], (zfX h hf).2⟩
theorem zne {ρ : List Nat} {t : TV} {v : V} (h : Den ρ t v) (hf : t.flatR = true) : (∀ ρ', Den ρ' t v) ∧ v.flat2 = true := by
 cases h with
 | tuple h =>
  have := zfX h hf
  exact ⟨fun ρ' => .tuple (this.1 ρ'), this.2⟩
 | base h0 =>
  refine ⟨fun ρ' => .base h0, ?_⟩
  cases h0 with
  | undef v => cases hf
  | _ => rfl
 | agg h => exact zhi (.agg h) hf
 | func f h => exact zhi (.func f h) hf
 | _ => cases hf
theorem zhj {q : Bool} {cf : CF} (h : Rel ρ L B M st) {op : AOp} {k : TV → Ts → Bs → Ms → Prop} (hk : zbs q cf op L B M k) :
  ∃ v st', evalOp cf st op = some (v, st') ∧ (op.isCall = true → st'.l = st.l ∧ (q = true → st'.m = st.m)) ∧ ∃ ρ' t L' B' M', Den ρ' t v ∧ Rel ρ' L' B' M' st' ∧ Fr ρ st.m ρ' st'.m ∧ k t L' B' M' := by
 have fin : ∀ {v : V} {t : TV}, evalOp cf st op = some (v, st) → op.isCall = false → Den ρ t v → k t L B M →
   ∃ v st', evalOp cf st op = some (v, st') ∧ (op.isCall = true → st'.l = st.l ∧ (q = true → st'.m = st.m)) ∧ ∃ ρ' t L' B' M', Den ρ' t v ∧ Rel ρ' L' B' M' st' ∧ Fr ρ st.m ρ' st'.m ∧ k t L' B' M' :=
  fun {v t} he hc hd hk => ⟨v, st, he, (fun hh => by rw [hc] at hh; cases hh), ρ, t, L, B, M, hd, h, .refl _ _, hk⟩
 have fin2 : ∀ {v : V} {σ' : Nat → V} {t : TV} {L' : Ts}, evalOp cf st op = some (v, { st with σ := σ' }) → op.isCall = false → Den ρ t v → Ag ρ L' σ' → k t L' B M →
   ∃ v st', evalOp cf st op = some (v, st') ∧ (op.isCall = true → st'.l = st.l ∧ (q = true → st'.m = st.m)) ∧ ∃ ρ' t L' B' M', Den ρ' t v ∧ Rel ρ' L' B' M' st' ∧ Fr ρ st.m ρ' st'.m ∧ k t L' B' M' :=
  fun {v σ' t L'} he hc hd ha hk => ⟨v, _, he, (fun hh => by rw [hc] at hh; cases hh), ρ, t, L', B, M, hd, h.sig ha, .refl _ _, hk⟩
 cases op with
 | mv x =>
  dsimp only [zbs] at hk
  obtain ⟨v, σ', e, t, L', hd, h1, hk⟩ := zaJ h.a hk
  exact fin2 e rfl hd h1 hk
 | mvK s =>
  dsimp only [zbs] at hk
  split at hk
  ·rename_i o z xs hv
   have hd := h.a s _ hv
   rcases hd.sl_inv with ⟨ys, e, hxy⟩ | ⟨e, rfl⟩
   ·exact fin2 (v := .slice false z ys) (σ' := upd st.σ s (.slice false z ys)) (by simp only [evalOp, e]) rfl (.base (.sl false z hxy)) (h.a.upd s (.base (.sl false z hxy))) hk
   ·refine fin2 (v := .nils) (σ' := st.σ) (t := .sl false z []) (by simp only [evalOp, e]) rfl (.base (.sln false z)) (fun s' t' ht' => ?_) hk
    rw [zbr] at ht'
    split at ht'
    ·rename_i e2; subst e2; cases ht'; rw [e]; exact .base (.sln false z)
    ·exact h.a s' t' ht'
  ·rename_i hv
   have hd := h.a s _ hv
   exact fin (by simp only [evalOp, hd.nils_inv]) rfl (.base .nils) hk
  ·exact hk.elim
 | pick c a b =>
  dsimp only [zbs] at hk
  obtain ⟨v, t, e, hd, hk⟩ := zaf h.a hk
  cases t with
  | bool c =>
   obtain ⟨w, t, e2, hd2, hk⟩ := zaf h.a hk
   rw [hd.bool_inv] at e
   exact fin (v := w) (by simp only [evalOp, e, Option.bind_some]; cases c <;> simp_all) rfl hd2 hk
  | _ => exact hk.elim
 | allocL j zero =>
  dsimp only [zbs] at hk
  obtain ⟨hz, hk⟩ := bifT hk
  obtain ⟨zs, hzs, hk⟩ := zcH (ρ := ρ) hk
  obtain ⟨L', h1, hk⟩ := zcq h.a (fun _ _ h => Den.killLV j h) hk
  exact ⟨.loc j 0, { st with l := upd st.l j zero, σ := killL j st.σ }, by simp only [evalOp]; rw [if_pos hz], (fun hh => by cases hh), ρ, .loc j 0, L', _, M, .loc j 0, ⟨h1, h.b.upd j hzs, h.m⟩, .refl _ _, hk⟩
 | allocM zero =>
  dsimp only [zbs] at hk
  obtain ⟨hz, hk⟩ := bifT hk
  obtain ⟨zs, hzs, hk⟩ := zcH (ρ := ρ) hk
  obtain ⟨hz2, hk⟩ := bifT hk
  refine ⟨.ptr st.m.length 0, { st with m := st.m ++ [zero] }, by simp only [evalOp]; rw [if_pos ⟨hz, zgy hzs hz2⟩], (fun hh => by cases hh), ρ ++ [st.m.length], .ptr M.length 0, L, B, _, .ptr 0 ?_, ⟨h.a.mono _, h.b.mono _, h.m.alloc hzs⟩, .alloc _ _ _, (by have hk' := zao.1 hk; exact hk')⟩
  rw [← h.m.2.1]; exact List.getElem?_concat_length ..
 | boxL j x =>
  dsimp only [zbs] at hk
  obtain ⟨v, σ', e, t, L1, hd, h1, hk⟩ := zaJ h.a hk
  obtain ⟨ho, hk⟩ := bifT hk
  obtain ⟨L', h2, hk⟩ := zcq h1 (fun _ _ h => Den.killLV j h) hk
  exact ⟨.loc j 0, { st with l := upd st.l j v.cells, σ := killL j σ' }, by simp only [evalOp, e, Option.bind_some]; rw [if_pos (hd.ok1 ho)], (fun hh => by cases hh), ρ, .loc j 0, L', _, M, .loc j 0, ⟨h2, h.b.upd j (hd.cells ho), h.m⟩, .refl _ _, hk⟩
 | boxM x =>
  dsimp only [zbs] at hk
  obtain ⟨v, σ', e, t, L1, hd, h1, hk⟩ := zaJ h.a hk
  obtain ⟨ho, hk⟩ := bifT hk
  refine ⟨.ptr st.m.length 0, { st with σ := σ', m := st.m ++ [v.cells] }, by simp only [evalOp, e, Option.bind_some]; rw [if_pos (hd.ok1 ho)], (fun hh => by cases hh), ρ ++ [st.m.length], .ptr M.length 0, L1, B, _, .ptr 0 ?_, ⟨h1.mono _, h.b.mono _, h.m.alloc (hd.cells ho)⟩, .alloc _ _ _, (by have hk' := zao.1 hk; exact hk')⟩
  rw [← h.m.2.1]; exact List.getElem?_concat_length ..
 | build zero parts =>
  dsimp only [zbs] at hk
  obtain ⟨zs, hzs, hk⟩ := zcH (ρ := ρ) hk
  obtain ⟨cs', σ', e, cs, L', hd, h1, hk⟩ := zdj h.a hzs hk
  exact fin2 (v := .agg cs') (by simp only [evalOp, e, Option.bind_some]) rfl (.agg hd) h1 hk
 | buildSlice sz zero len parts =>
  dsimp only [zbs] at hk
  obtain ⟨hz, hk⟩ := bifT hk
  simp only [Bool.and_eq_true] at hz
  obtain ⟨z1, z2⟩ := hz
  obtain ⟨zs, hzs, hk⟩ := zcH (ρ := ρ) hk
  obtain ⟨z3, hk⟩ := bifT hk
  obtain ⟨hz0, _⟩ := zoc hzs z3
  obtain ⟨cs', σ', e, cs, L', hd, h1, _, rfl, hk⟩ := zcX h.a (Pw.replicate hz0 len) hk
  exact fin2 (v := .slice true sz cs') (by simp only [evalOp]; rw [if_pos ⟨Nat.eq_of_beq_eq_true z1, z2⟩, e]; rfl) rfl (.base (.sl true sz hd)) h1 hk
 | load agg n p mode =>
  dsimp only [zbs] at hk
  obtain ⟨a, ta, e, hd, hk⟩ := zaf h.a hk
  obtain ⟨v, st', e2, t, B', M', hd2, h2, hf, hk⟩ := zdi h hd hk
  exact ⟨v, st', by simp only [evalOp, e, Option.bind_some, e2], (fun hh => by cases hh), ρ, t, L, B', M', hd2, h2, hf, hk⟩
 | store n p x =>
  dsimp only [zbs] at hk
  obtain ⟨v, σ', e, t, L1, hd, h1, hk⟩ := zaJ h.a hk
  obtain ⟨a, ta, e1, hda, hk⟩ := zaf (st := { st with σ := σ' }) h1 hk
  obtain ⟨ho, hk⟩ := bifT hk
  obtain ⟨st', e2, L', B', M', h2, hf, hk⟩ := zex (h.sig h1) (hd.cells ho) hda hk
  exact ⟨_, st', by simp only [evalOp, e, Option.bind_some, e1]; rw [if_pos (hd.ok1 ho), e2]; rfl, (fun hh => by cases hh), ρ, .undef, L', B', M', .undef' _, h2, hf, hk⟩
 | nilCheck x =>
  dsimp only [zbs] at hk
  obtain ⟨a, t, e, hd, hk⟩ := zaf h.a hk
  cases t with
  | ptr i o => obtain ⟨b, rfl, _⟩ := hd.ptr_inv; exact fin (by simp only [evalOp, e, Option.bind_some]) rfl hd hk
  | loc i o => have := hd.loc_inv; subst this; exact fin (by simp only [evalOp, e, Option.bind_some]) rfl hd hk
  | ro i o => obtain ⟨b, rfl, _⟩ := hd.ro_inv; exact fin (by simp only [evalOp, e, Option.bind_some]) rfl hd hk
  | el i o _ _ => obtain ⟨b, rfl, _⟩ := hd.el_inv; exact fin (by simp only [evalOp, e, Option.bind_some]) rfl hd hk
  | func i o => obtain ⟨b, rfl, _⟩ := hd.func_inv; exact fin (by simp only [evalOp, e, Option.bind_some]) rfl hd hk
  | _ => exact hk.elim
 | bin op x y =>
  dsimp only [zbs] at hk
  obtain ⟨a, ta, e, hd, hk⟩ := zaf h.a hk
  obtain ⟨b, tb, e1, hd1, hk⟩ := zaf h.a hk
  obtain ⟨v, t, e2, hd2, hk⟩ := zfT hd hd1 hk
  exact fin (by simp only [evalOp, e, e1, e2, Option.bind_some]) rfl hd2 hk
 | eq neg kind x y =>
  dsimp only [zbs] at hk
  obtain ⟨a, ta, e, hd, hk⟩ := zaf h.a hk
  obtain ⟨b, tb, e1, hd1, hk⟩ := zaf h.a hk
  obtain ⟨v, e2, hk⟩ := zhb hd hd1 hk
  exact fin (by simp only [evalOp, e, e1, e2, Option.bind_some]) rfl (.base (.bool _)) hk
 | un op x =>
  dsimp only [zbs] at hk
  obtain ⟨a, ta, e, hd, hk⟩ := zaf h.a hk
  obtain ⟨v, t, e2, hd2, hk⟩ := znd hd hk
  exact fin (by simp only [evalOp, e, e2, Option.bind_some]) rfl hd2 hk
 | conv kd x =>
  dsimp only [zbs] at hk
  obtain ⟨a, ta, e, hd, hk⟩ := zaf h.a hk
  cases ta with
  | int _ n => rw [hd.int_inv] at e; exact fin (by simp only [evalOp, e, Option.bind_some]) rfl (.base (.int _ _)) hk
  | _ => exact hk.elim
 | strStr x =>
  dsimp only [zbs] at hk
  obtain ⟨a, ta, e, hd, hk⟩ := zaf h.a hk
  cases ta with
  | str s => obtain ⟨b, rfl, rfl⟩ := hd.str_inv; exact fin (by simp only [evalOp, e, Option.bind_some]) rfl hd hk
  | _ => exact hk.elim
 | strBytes x =>
  dsimp only [zbs] at hk
  obtain ⟨a, ta, e, hd, hk⟩ := zaf h.a hk
  cases ta with
  | str s => obtain ⟨b, rfl, rfl⟩ := hd.str_inv; exact fin (by simp only [evalOp, e, Option.bind_some]) rfl (.base (.sl true 1 (zkW b))) hk
  | _ => exact hk.elim
 | bytesStr x =>
  dsimp only [zbs] at hk
  obtain ⟨a, ta, e, hd, hk⟩ := zaf h.a hk
  obtain ⟨xs, e1, ys, hxy, s, ⟨rfl, hr⟩, hk⟩ := zcW h hd hk
  obtain ⟨b, e2, rfl⟩ := zhh hxy hr
  exact fin (by simp only [evalOp, e, e1, e2, Option.bind_some]) rfl (.base (.str b)) hk
 | intStr x =>
  dsimp only [zbs] at hk
  obtain ⟨a, ta, e, hd, hk⟩ := zaf h.a hk
  cases ta with
  | int _ n => rw [hd.int_inv] at e; exact fin (by simp only [evalOp, e, Option.bind_some]) rfl (.base (.str _)) hk
  | _ => exact hk.elim
 | convB x =>
  dsimp only [zbs] at hk
  obtain ⟨v, σ', e, t, L1, hd, h1, hk⟩ := zaJ h.a hk
  cases t with
  | sl o z xs =>
   cases o with
   | false => exact hk.elim
   | true =>
    obtain ⟨hz, hne, hk⟩ := zaH hk
    rcases hd.sl_inv with ⟨ys, rfl, hxy⟩ | ⟨_, rfl⟩
    ·exact fin2 (v := .slice true 1 ys) (by simp only [evalOp, e, Option.bind_some]; rw [if_pos hz]) rfl (.base (.sl true 1 hxy)) h1 hk
    ·exact absurd rfl hne
  | _ => exact hk.elim
 | makeSlice sz zero l c =>
  dsimp only [zbs] at hk
  obtain ⟨a, ta, e, hd, hk⟩ := zaf h.a hk
  obtain ⟨b, tb, e1, hd1, hk⟩ := zaf h.a hk
  cases ta <;> try exact hk.elim
  cases tb <;> try exact hk.elim
  rw [hd.int_inv] at e
  rw [hd1.int_inv] at e1
  obtain ⟨hc, hk⟩ := hk
  obtain ⟨hz, hk⟩ := bifT hk
  simp only [Bool.and_eq_true] at hz
  obtain ⟨z1, z2⟩ := hz
  obtain ⟨zs, hzs, hk⟩ := zcH (ρ := ρ) hk
  obtain ⟨z3, _, rfl, hk⟩ := bifT hk
  obtain ⟨hz0, _⟩ := zoc hzs z3
  exact fin (by simp only [evalOp, e, e1, Option.bind_some]; rw [if_pos ⟨hc.1, hc.2.1, hc.2.2, Nat.eq_of_beq_eq_true z1, z2⟩]) rfl (.base (.sl true sz (Pw.replicate hz0 _))) hk
 | sliceS x lo hi =>
  dsimp only [zbs] at hk
  obtain ⟨a, ta, e, hd, hk⟩ := zaf h.a hk
  cases ta <;> try exact hk.elim
  obtain ⟨b, rfl, rfl⟩ := hd.str_inv
  obtain ⟨n, e1, hk⟩ := zbj h.a hk
  obtain ⟨l, e2, hc, _, rfl, hk⟩ := zbj h.a hk
  simp only [List.length_map] at hc e1
  exact fin (by simp only [evalOp, e, e1, e2, Option.bind_some]; rw [if_pos hc]) rfl (.base (.str _)) (by rw [List.map_take, List.map_drop]; exact hk)
 | sliceV sz x lo hi =>
  dsimp only [zbs] at hk
  obtain ⟨v, σ', e, t, L1, hd, h1, hk⟩ := zaJ h.a hk
  cases t <;> try exact hk.elim
  ·obtain ⟨q, e1, hk⟩ := zbj (st := { st with σ := σ' }) h1 hk
   obtain ⟨l, e2, hc, hk⟩ := zbj (st := { st with σ := σ' }) h1 hk
   rw [hd.nils_inv] at e
   exact fin2 (v := .nils) (by simp only [evalOp, e, e1, e2, Option.bind_some]; rw [if_pos hc]) rfl (.base .nils) h1 hk
  ·obtain ⟨hz, hk⟩ := zaH hk
   obtain ⟨n, e1, hk⟩ := zbj (st := { st with σ := σ' }) h1 hk
   obtain ⟨l, e2, hc, _, rfl, hk⟩ := zbj (st := { st with σ := σ' }) h1 hk
   rcases hd.sl_inv with ⟨ys, rfl, hxy⟩ | ⟨rfl, rfl⟩
   ·rw [hxy.length] at hc e1
    exact fin2 (v := .slice _ sz ((ys.drop l).take (n - l))) (by simp only [evalOp, e, e1, e2, Option.bind_some]; rw [if_pos ⟨hc.1, hc.2, hz⟩]) rfl (.base (.sl _ _ ((hxy.drop _).take _))) h1 hk
   ·simp only [List.length_nil] at hc e1
    refine fin2 (v := .nils) (by simp only [evalOp, e, e1, e2, Option.bind_some]; rw [if_pos (by omega)]) rfl ?_ h1 hk
    simp only [List.drop_nil, List.take_nil]
    exact .base (.sln _ _)
 | fieldAddr off x =>
  dsimp only [zbs] at hk
  obtain ⟨a, t, e, hd, hk⟩ := zaf h.a hk
  cases t with
  | ptr i o => obtain ⟨b, rfl, hb⟩ := hd.ptr_inv; exact fin (by simp only [evalOp, e, Option.bind_some]) rfl (.ptr _ hb) hk
  | loc i o => have := hd.loc_inv; subst this; exact fin (by simp only [evalOp, e, Option.bind_some]) rfl (.loc _ _) hk
  | ro i o => obtain ⟨b, rfl, hb⟩ := hd.ro_inv; exact fin (by simp only [evalOp, e, Option.bind_some]) rfl (.ro _ hb) hk
  | el i o _ _ => obtain ⟨b, rfl, hb⟩ := hd.el_inv; exact fin (by simp only [evalOp, e, Option.bind_some]) rfl (.el _ _ _ hb) hk
  | _ => exact hk.elim
 | field agg n off x =>
  dsimp only [zbs] at hk
  obtain ⟨a, t, e, hd, hk⟩ := zaf h.a hk
  cases t <;> try exact hk.elim
  rename_i cs
  obtain ⟨cs', rfl, hc⟩ := hd.agg_inv
  cases agg with
  | false =>
   obtain ⟨rfl, hk2⟩ := zaH hk
   cases hv : cs[off]? with
   | none => simp only [hv] at hk2
   | some v =>
    simp only [hv] at hk2
    obtain ⟨v', hv', hd2⟩ := hc.get hv
    exact fin (v := v') (by simp only [evalOp, e, Option.bind_some]; rw [if_pos (Nat.succ_le_of_lt (zai hv')), zhG hv']; rfl) rfl hd2 hk2
  | true =>
   obtain ⟨hl, hk⟩ := bifT hk
   have hl := zeA hl
   rw [hc.length] at hl
   exact fin (v := .agg _) (by simp only [evalOp, e, Option.bind_some]; rw [if_pos hl]; rfl) rfl (.agg ((hc.drop _).take _)) (by have hk' := zao.1 hk; exact hk')
 | indexArr len sz x i =>
  dsimp only [zbs] at hk
  obtain ⟨a, t, e, hd, hk⟩ := zaf h.a hk
  obtain ⟨b, ti, e1, hd1, hk⟩ := zaf h.a hk
  cases ti <;> try exact hk.elim
  rw [hd1.int_inv] at e1
  obtain ⟨hc, hk⟩ := hk
  cases t with
  | ptr i o => obtain ⟨b, rfl, hb⟩ := hd.ptr_inv; exact fin (by simp only [evalOp, e, e1, Option.bind_some]; rw [if_pos hc]) rfl (.ptr _ hb) hk
  | loc i o => have := hd.loc_inv; subst this; exact fin (by simp only [evalOp, e, e1, Option.bind_some]; rw [if_pos hc]) rfl (.loc _ _) hk
  | ro i o => obtain ⟨b, rfl, hb⟩ := hd.ro_inv; exact fin (by simp only [evalOp, e, e1, Option.bind_some]; rw [if_pos hc]) rfl (.ro _ hb) hk
  | el i o _ _ => obtain ⟨b, rfl, hb⟩ := hd.el_inv; exact fin (by simp only [evalOp, e, e1, Option.bind_some]; rw [if_pos hc]) rfl (.el _ _ _ hb) hk
  | _ => exact hk.elim
 | indexSl sz x i =>
  dsimp only [zbs] at hk
  obtain ⟨a, t, e, hd, hk⟩ := zaf h.a hk
  obtain ⟨b, ti, e1, hd1, hk⟩ := zaf h.a hk
  cases ti <;> try exact hk.elim
  rename_i kd n
  rw [hd1.int_inv] at e1
  cases t with
  | place r =>
   obtain ⟨r', rfl, hr⟩ := hd.place_inv
   obtain ⟨w, hd2, hk⟩ := hr.look h hk
   cases w with
   | sl own z xs =>
    cases own with
    | false =>
     obtain ⟨hz, h0, cs, hcs, hk⟩ := zaH hk
     rcases hd2.sl_inv with ⟨ys, e3, hxy⟩ | ⟨_, rfl⟩
     ·obtain ⟨cs', hcs', hc⟩ := hxy.get hcs
      have e2 := zax (d := []) hcs'
      exact fin (v := .ro cs' 0) (by simp only [evalOp, e, e1, Option.bind_some, e3]; rw [if_pos ⟨h0, by have := zai hcs'; omega, hz⟩, e2]) rfl (.ro 0 hc.base) hk
     ·simp at hcs
    | true =>
     obtain ⟨hz, h0, hk⟩ := zaH hk
     rcases hd2.sl_inv with ⟨ys, e3, hxy⟩ | ⟨_, rfl⟩
     ·rw [hxy.length] at h0
      exact fin (v := .el r' sz n.toNat 0) (by simp only [evalOp, e, e1, Option.bind_some, e3]; rw [if_pos ⟨h0.1, by omega, hz⟩]) rfl (.el _ _ _ hr) hk
     ·simp at h0
   | _ => exact hk.elim
  | sl own z xs =>
   cases own with
   | false =>
    obtain ⟨hz, h0, cs, hcs, hk⟩ := zaH hk
    rcases hd.sl_inv with ⟨ys, rfl, hxy⟩ | ⟨_, rfl⟩
    ·obtain ⟨cs', hcs', hc⟩ := hxy.get hcs
     have e2 := zax (d := []) hcs'
     exact fin (v := .ro cs' 0) (by simp only [evalOp, e, e1, Option.bind_some]; rw [if_pos ⟨h0, by have := zai hcs'; omega, hz⟩, e2]) rfl (.ro 0 hc.base) hk
    ·simp at hcs
   | true => exact hk.elim
  | _ => exact hk.elim
 | indexAgg agg len sz x i =>
  dsimp only [zbs] at hk
  obtain ⟨a, t, e, hd, hk⟩ := zaf h.a hk
  obtain ⟨b, ti, e1, hd1, hk⟩ := zaf h.a hk
  cases t <;> try exact hk.elim
  cases ti <;> try exact hk.elim
  rw [hd1.int_inv] at e1
  obtain ⟨cs', rfl, hcs⟩ := hd.agg_inv
  obtain ⟨hc, hk⟩ := hk
  rw [hcs.length] at hc
  cases agg with
  | false =>
   obtain ⟨rfl, v, hv, hk⟩ := zaH hk
   obtain ⟨v', hv', hd2⟩ := hcs.get hv
   exact fin (v := v') (by simp only [evalOp, e, e1, Option.bind_some]; rw [if_pos hc, zhG hv']; rfl) rfl hd2 hk
  | true => exact fin (v := .agg _) (by simp only [evalOp, e, e1, Option.bind_some]; rw [if_pos hc]; rfl) rfl (.agg ((hcs.drop _).take _)) hk
 | indexStr x i =>
  dsimp only [zbs] at hk
  obtain ⟨a, t, e, hd, hk⟩ := zaf h.a hk
  obtain ⟨b, ti, e1, hd1, hk⟩ := zaf h.a hk
  cases t <;> try exact hk.elim
  cases ti <;> try exact hk.elim
  rename_i n
  rw [hd1.int_inv] at e1
  obtain ⟨s', rfl, rfl⟩ := hd.str_inv
  obtain ⟨h0, c, hc, hk⟩ := hk
  rw [List.getElem?_map, Option.map_eq_some_iff] at hc
  obtain ⟨u, hu, rfl⟩ := hc
  have hlt := zai hu
  exact fin (v := .int .u8 (zd9 u)) (by simp only [evalOp, e, e1, Option.bind_some]; rw [if_pos ⟨h0, by omega⟩, zax hu]; rfl) rfl (.base (.int _ _)) hk
 | extract x i =>
  dsimp only [zbs] at hk
  obtain ⟨v, σ', e, t, L1, hd, h1, hk⟩ := zaJ h.a hk
  cases t <;> try exact hk.elim
  rename_i vs
  obtain ⟨vs', rfl, hvs⟩ := hd.tuple_inv
  cases hv : vs[i]? with
  | none => simp only [hv] at hk
  | some v =>
   simp only [hv] at hk
   obtain ⟨v', hv', hd2⟩ := hvs.get hv
   exact fin2 (v := v') (by simp only [evalOp, e, Option.bind_some]; rw [if_pos (zai hv'), zax hv']) rfl hd2 h1 hk
 | lend f sz x lo =>
  dsimp only [zbs] at hk
  obtain ⟨a, ta, e, hd, hk⟩ := zaf h.a hk
  obtain ⟨xs, e1, ys, hxy, hlo, zs, rfl, r, hr, hk⟩ := zkX h hd hk
  obtain ⟨hb, hk⟩ := bifT hk
  simp only [Bool.and_eq_true, Nat.ble_eq] at hb
  rw [hxy.length] at hlo
  obtain ⟨r', m', ρ', hcf, hd2, _, _, _, hq⟩ := hr [] [] [.slice false sz (xs.drop lo)] ⟨List.nodup_nil, rfl, fun i b h => by cases h⟩ (.cons (.base (.sl _ _ (hxy.drop lo))) .nil)
  obtain ⟨hb2, hd3⟩ := zod hd2 hb.2
  exact fin (v := r') (by simp only [evalOp, e, e1, Option.bind_some]; rw [if_pos ⟨hlo, hb.1⟩, hcf, hq rfl]; simp [hb2]) rfl (hd3 ρ) hk
 | callN f args w => exact hk.elim
 | tOp _ _ => exact hk.elim
 | loadW _ _ _ _ _ _ => exact hk.elim
 | callP f args =>
  dsimp only [zbs] at hk
  obtain ⟨vs, σ', e, ts, L1, hd, h1, hk⟩ := zcV h.a hk
  obtain ⟨ha, r, hr, hk⟩ := bifT hk
  obtain ⟨hrf, hk⟩ := bifT hk
  obtain ⟨r', m', ρ', hcf, hd2, _, _, _, hq⟩ := hr [] [] vs ⟨List.nodup_nil, rfl, fun i b h => by cases h⟩ (zjQ hd ha).1
  have hm : m' = [] := hq rfl
  subst hm
  obtain ⟨hd3, hf3⟩ := zne hd2 hrf
  exact ⟨r', { st with σ := σ' }, by simp only [evalOp, e, Option.bind_some]; rw [if_pos (zjQ hd ha).2, hcf]; simp [hf3], (fun hh => by cases hh), _, r, L1, B, M, hd3 ρ, ⟨h1, h.b, h.m⟩, .refl _ _, hk⟩
 | callF f args =>
  dsimp only [zbs] at hk
  obtain ⟨vs, σ', e, ts, L1, hd, h1, hk⟩ := zcV h.a hk
  obtain ⟨ha, r, M', hr, hk⟩ := bifT hk
  obtain ⟨r', m', ρ', hcf, hd2, hm, hf, _, hq⟩ := hr ρ st.m vs h.m hd
  have ⟨⟨ex, hex, _⟩, _, _⟩ := hf
  subst hex
  obtain ⟨L', h2, hk⟩ := zcq (h1.mono ex) (fun _ _ h => Den.killMV h) hk
  exact ⟨r', { st with σ := killM σ', m := m' }, by simp only [evalOp, e, Option.bind_some]; rw [if_pos (Pw.all (p := TV.okArg) (q := V.okArg) (fun _ _ h ho => Den.okArg h ho) hd ha), hcf]; rfl, fun _ => ⟨rfl, hq⟩, _, r, L', B, M', hd2, ⟨h2, h.b.mono ex, hm⟩, hf, hk⟩
 | callV f args =>
  dsimp only [zbs] at hk
  obtain ⟨fv, t, e0, hd0, hk⟩ := zaf h.a hk
  cases t <;> try exact hk.elim
  obtain ⟨cs', rfl, hcs⟩ := hd0.func_inv
  obtain ⟨vs, σ', e, ts, L1, hd, h1, hk⟩ := zcV h.a hk
  obtain ⟨ha, ha2, r, M', hr, hk⟩ := bifT hk
  obtain ⟨r', m', ρ', hcf, hd2, hm, hf, _, hq⟩ := hr ρ st.m _ h.m (hd.append hcs)
  have ⟨⟨ex, hex, _⟩, _, _⟩ := hf
  subst hex
  obtain ⟨L', h2, hk⟩ := zcq (h1.mono ex) (fun _ _ h => Den.killMV h) hk
  exact ⟨r', { st with σ := killM σ', m := m' }, by simp only [evalOp, e0, e, Option.bind_some]; rw [if_pos ⟨Pw.all (p := TV.okArg) (q := V.okArg) (fun _ _ h ho => Den.okArg h ho) hd ha, Pw.all (p := TV.okArg) (q := V.okArg) (fun _ _ h ho => Den.okArg h ho) hcs ha2⟩, hcf]; rfl, fun _ => ⟨rfl, hq⟩, _, r, L', B, M', hd2, ⟨h2, h.b.mono ex, hm⟩, hf, hk⟩
 | lenStr x =>
  dsimp only [zbs] at hk
  obtain ⟨a, t, e, hd, hk⟩ := zaf h.a hk
  cases t with
  | str s =>
   obtain ⟨b, rfl, rfl⟩ := hd.str_inv
   simp only [List.length_map] at hk
   exact fin (by simp only [evalOp, e, Option.bind_some]) rfl (.base (.int _ _)) hk
  | _ => exact hk.elim
 | lenSl x =>
  dsimp only [zbs] at hk
  obtain ⟨a, t, e, hd, hk⟩ := zaf h.a hk
  obtain ⟨xs, e1, ys, hxy, _, rfl, hk⟩ := zcW h hd hk
  rw [hxy.length] at hk
  exact fin (by simp only [evalOp, e, e1, Option.bind_some]) rfl (.base (.int _ _)) hk
 | lenC n => exact fin rfl rfl (.base (.int _ _)) hk
 | append sz x y =>
  dsimp only [zbs] at hk
  obtain ⟨p, σ1, e1, tp, L1, hd1, h1, hk⟩ := zaJ h.a hk
  obtain ⟨q', σ2, e2, tq, L2, hd2, h2, hk⟩ := zaJ (st := { st with σ := σ1 }) h1 hk
  obtain ⟨ys, e3, zs, hzs, hk⟩ := zb0 (st := { st with σ := σ2 }) (h.sig h2) hd2 hk
  have app : ∀ {xs z kk}, appW sz zs xs z kk → (xs.length + zs.length ≤ most ∧ z = sz) ∧ kk (.sl true sz (xs ++ zs)) := fun {xs z kk} ha => by
   obtain ⟨hz, hc, _, rfl, ha⟩ := zaH ha
   exact ⟨⟨hc, hz⟩, ha⟩
  have app0 : ∀ {kk : TV → Prop}, appW sz zs [] sz kk → ∃ v, (if ys.length ≤ most ∧ 0 < ys.length then some (V.slice true sz ys, ({ st with σ := σ2 } : St)) else if ys.length = 0 then some (.nils, { st with σ := σ2 }) else none) = some (v, { st with σ := σ2 }) ∧ Den ρ (.sl true sz zs) v ∧ kk (.sl true sz zs) := fun {kk} ha => by
   obtain ⟨⟨hm, _⟩, hk⟩ := app ha
   rw [hzs.length] at hm
   simp only [List.length_nil, Nat.zero_add] at hm
   by_cases h0 : 0 < ys.length
   ·exact ⟨_, by rw [if_pos ⟨hm, h0⟩], .base (.sl true sz hzs), hk⟩
   ·have hy : ys = [] := List.length_eq_zero_iff.1 (by omega)
    subst hy
    have hz0 : zs = [] := by cases hzs; rfl
    subst hz0
    exact ⟨_, by rw [if_neg (fun hh => h0 hh.2), if_pos (by simp)], .base (.sln true sz), hk⟩
  have fin3 : ∀ v t st', evalOp cf st (.append sz x y) = some (v, st') → ∀ L' B' M', Den ρ t v → Rel ρ L' B' M' st' → Fr ρ st.m ρ st'.m → k t L' B' M' → ∃ v st', evalOp cf st (.append sz x y) = some (v, st') ∧ ((AOp.append sz x y).isCall = true → st'.l = st.l ∧ (q = true → st'.m = st.m)) ∧ ∃ ρ' t L' B' M', Den ρ' t v ∧ Rel ρ' L' B' M' st' ∧ Fr ρ st.m ρ' st'.m ∧ k t L' B' M' :=
   fun v t st' e L' B' M' a b c d => ⟨v, st', e, (fun hh => by cases hh), ρ, t, L', B', M', a, b, c, d⟩
  cases tp with
  | nils =>
   obtain ⟨v, e, hd, hk⟩ := app0 hk
   rw [hd1.nils_inv] at e1
   exact fin3 v _ { st with σ := σ2 } (by simp only [evalOp, e1, e2, e3, Option.bind_some]; exact e) L2 B M hd (h.sig h2) (.refl _ _) hk
  | sl o z xs =>
   cases o with
   | false => exact hk.elim
   | true =>
    rcases hd1.sl_inv with ⟨ws, rfl, hxy⟩ | ⟨rfl, rfl⟩
    ·obtain ⟨hc, hk⟩ := app hk
     rw [hxy.length, hzs.length] at hc
     exact fin3 (.slice true sz (ws ++ ys)) _ { st with σ := σ2 } (by simp only [evalOp, e1, e2, e3, Option.bind_some]; rw [if_pos hc]) L2 B M (.base (.sl true sz (hxy.append hzs))) (h.sig h2) (.refl _ _) hk
    ·have hk' : appW sz zs [] sz fun v => k v L2 B M := by
      obtain ⟨hc, hk⟩ := app hk
      unfold appW
      rw [show Nat.beq sz sz = true by simp]
      exact ⟨hc.1, _, rfl, hk⟩
     obtain ⟨v, e, hd, hk⟩ := app0 hk'
     exact fin3 v _ { st with σ := σ2 } (by simp only [evalOp, e1, e2, e3, Option.bind_some]; exact e) L2 B M hd (h.sig h2) (.refl _ _) hk
  | place r =>
   obtain ⟨r', rfl, hr⟩ := hd1.place_inv
   have nilc : ∀ {z : Nat} {kk : TV → Prop}, appW sz zs [] z kk → appW sz zs [] sz kk := fun {z kk} hk => by
    obtain ⟨hc, hk⟩ := app hk
    unfold appW
    rw [show Nat.beq sz sz = true by simp]
    exact ⟨hc.1, _, rfl, hk⟩
   cases hr with
   | tmp s =>
    simp only at hk
    split at hk
    ·rename_i z xs hs
     rcases (h2 s _ hs).sl_inv with ⟨ws, e4, hxy⟩ | ⟨e4, rfl⟩
     ·obtain ⟨hc, hk⟩ := app hk
      rw [hxy.length, hzs.length] at hc
      have hl : look { st with σ := σ2 } (.tmp s) = .slice true z ws := e4
      exact fin3 (.slice true sz (ws ++ ys)) _ { st with σ := upd σ2 s .undef } (by simp only [evalOp, e1, e2, e3, Option.bind_some, hl]; rw [if_pos hc]) _ B M (.base (.sl true sz (hxy.append hzs))) (h.sig (h2.upd s (.undef' _))) (.refl _ _) hk
     ·obtain ⟨v, e, hd, hk⟩ := app0 (nilc hk)
      have hl : look { st with σ := σ2 } (.tmp s) = .nils := e4
      refine fin3 v _ { st with σ := σ2 } (by simp only [evalOp, e1, e2, e3, Option.bind_some, hl]; exact e) _ B M hd (h.sig (fun s' t' ht' => ?_)) (.refl _ _) hk
      rw [zbr] at ht'
      split at ht'
      ·cases ht'; exact .undef' _
      ·exact h2 s' t' ht'
    ·rename_i hs
     obtain ⟨v, e, hd, hk⟩ := app0 hk
     have hl : look { st with σ := σ2 } (.tmp s) = .nils := (h2 s _ hs).nils_inv
     exact fin3 v _ { st with σ := σ2 } (by simp only [evalOp, e1, e2, e3, Option.bind_some, hl]; exact e) L2 B M hd (h.sig h2) (.refl _ _) hk
    ·exact hk.elim
   | @mem i b o hi =>
    simp only at hk
    split at hk
    ·rename_i cs hcs
     obtain ⟨cs', hcs', hc0⟩ := h.m.get hi hcs
     have hcd := zax (d := []) hcs'
     split at hk
     ·rename_i z xs hs
      obtain ⟨w, hw, hd4⟩ := hc0.get hs
      have hl : look { st with σ := σ2 } (.mem b o) = w := by show (st.m.getD b []).getD o .undef = w; rw [hcd, zax hw]
      rcases hd4.sl_inv with ⟨ws, rfl, hxy⟩ | ⟨rfl, rfl⟩
      ·obtain ⟨hc, hk⟩ := app hk
       rw [hxy.length, hzs.length] at hc
       exact fin3 (.slice true sz (ws ++ ys)) _ { st with σ := σ2, m := st.m.set b (cs'.set o .undef) } (by simp only [evalOp, e1, e2, e3, Option.bind_some, hl, hcd]; rw [if_pos hc]) L2 B _ (.base (.sl true sz (hxy.append hzs))) ⟨h2, h.b, h.m.set hi (hc0.set (.undef' _) o)⟩ (.set hi _) ((by have hk' := zao.1 hk; have hk2 := zao.1 hk'; exact hk2))
      ·obtain ⟨v, e, hd, hk⟩ := app0 (nilc hk)
       refine fin3 v _ { st with σ := σ2 } (by simp only [evalOp, e1, e2, e3, Option.bind_some, hl]; exact e) L2 B _ hd ⟨h2, h.b, ?_⟩ (.refl _ _) ((by have hk' := zao.1 hk; have hk2 := zao.1 hk'; exact hk2))
       have hset : st.m = st.m.set b (cs'.set o .nils) := by
        have e5 : cs'.set o .nils = cs' := ziH hw
        rw [e5, ziH hcs']
       show Mg ρ _ st.m
       rw [hset]
       exact h.m.set hi (hc0.set (.undef' _) o)
     ·rename_i hs
      obtain ⟨w, hw, hd4⟩ := hc0.get hs
      have hl : look { st with σ := σ2 } (.mem b o) = .nils := by show (st.m.getD b []).getD o .undef = .nils; rw [hcd, zax hw, hd4.nils_inv]
      obtain ⟨v, e, hd, hk⟩ := app0 hk
      exact fin3 v _ { st with σ := σ2 } (by simp only [evalOp, e1, e2, e3, Option.bind_some, hl]; exact e) L2 B M hd (h.sig h2) (.refl _ _) hk
     ·exact hk.elim
    ·exact hk.elim
   | loc j o =>
    simp only at hk
    split at hk
    ·rename_i cs hcs
     have hc0 := h.b j cs hcs
     split at hk
     ·rename_i z xs hs
      obtain ⟨w, hw, hd4⟩ := hc0.get hs
      have hl : look { st with σ := σ2 } (.loc j o) = w := by show (st.l j).getD o .undef = w; rw [zax hw]
      rcases hd4.sl_inv with ⟨ws, rfl, hxy⟩ | ⟨rfl, rfl⟩
      ·obtain ⟨hc, hk⟩ := app hk
       rw [hxy.length, hzs.length] at hc
       exact fin3 (.slice true sz (ws ++ ys)) _ { st with σ := σ2, l := upd st.l j ((st.l j).set o .undef) } (by simp only [evalOp, e1, e2, e3, Option.bind_some, hl]; rw [if_pos hc]) L2 _ M (.base (.sl true sz (hxy.append hzs))) ⟨h2, h.b.upd j (hc0.set (.undef' _) o), h.m⟩ (.refl _ _) (by have hk' := zao.1 hk; exact hk')
      ·obtain ⟨v, e, hd, hk⟩ := app0 (nilc hk)
       refine fin3 v _ { st with σ := σ2 } (by simp only [evalOp, e1, e2, e3, Option.bind_some, hl]; exact e) L2 _ M hd ⟨h2, fun j' t' ht' => ?_, h.m⟩ (.refl _ _) (by have hk' := zao.1 hk; exact hk')
       rw [zbr] at ht'
       split at ht'
       ·rename_i e6; subst e6; cases ht'
        have e5 : (st.l j').set o .nils = st.l j' := ziH hw
        show Pw (Den ρ) _ (st.l j')
        rw [← e5]; exact hc0.set (.undef' _) o
       ·exact h.b j' t' ht'
     ·rename_i hs
      obtain ⟨w, hw, hd4⟩ := hc0.get hs
      have hl : look { st with σ := σ2 } (.loc j o) = .nils := by show (st.l j).getD o .undef = .nils; rw [zax hw, hd4.nils_inv]
      obtain ⟨v, e, hd, hk⟩ := app0 hk
      exact fin3 v _ { st with σ := σ2 } (by simp only [evalOp, e1, e2, e3, Option.bind_some, hl]; exact e) L2 B M hd (h.sig h2) (.refl _ _) hk
     ·exact hk.elim
    ·exact hk.elim
  | _ => exact hk.elim
 | minMax mx x ys =>
  dsimp only [zbs] at hk
  obtain ⟨a, t, e, hd, hk⟩ := zaf h.a hk
  obtain ⟨vs, ts, e1, hd1, hk⟩ := zcF h.a hk
  obtain ⟨r, w, hm, hd2, hk⟩ := zd8 hd hd1 hk
  exact fin (by simp only [evalOp, e, e1, hm, Option.bind_some]) rfl hd2 hk
 | mkFunc f captured =>
  dsimp only [zbs] at hk
  obtain ⟨vs, ts, e1, hd1, hk⟩ := zcF h.a hk
  obtain ⟨hc, hk⟩ := bifT hk
  exact fin (by simp only [evalOp, e1, Option.bind_some]; rw [if_pos (Pw.all (p := zhe) (q := Am.okCap) (fun _ _ h ho => Den.okCap h ho) hd1 hc)]) rfl (.func f hd1) hk
theorem zhk {s : Nat} {t : TV} (h : zkT s t = true) : t = .place (.tmp s) := by
 unfold zkT at h
 split at h
 ·rw [Nat.eq_of_beq_eq_true h]
 ·cases h
theorem zlt {s : Nat} {t : TV} (h : elAt s t = true) : ∃ z i k, t = .el (.tmp s) z i k := by
 unfold elAt at h
 split at h
 ·rw [Nat.eq_of_beq_eq_true h]; exact ⟨_, _, _, rfl⟩
 ·cases h
theorem Den.placeT {s : Nat} {v : V} (h : Den ρ (.place (.tmp s)) v) : v = .place (.tmp s) := by
 obtain ⟨r', rfl, hr⟩ := h.place_inv
 cases hr; rfl
theorem Den.elT {s z i k : Nat} {v : V} (h : Den ρ (.el (.tmp s) z i k) v) : v = .el (.tmp s) z i k := by
 obtain ⟨r', rfl, hr⟩ := h.el_inv
 cases hr; rfl
theorem zhl {cf : CF} (h : Ag ρ L st.σ) {s : Nat} {kk : TOp} {k : Prop} (hk : zkU s kk L k) {v : V} {st' : St} : (evalOp cf st (kk.under s) = some (v, st') → evalOp cf st (.tOp s kk) = some (v, st')) ∧ k := by
 cases kk with
 | place => exact ⟨fun he => he, hk⟩
 | index sz x i =>
  simp only [zkU] at hk
  split at hk
  ·rename_i t hf
   obtain ⟨h1, hk⟩ := bifT hk
   have hx := h x _ hf
   rw [zhk h1] at hx
   have hx := hx.placeT
   refine ⟨fun he => ?_, hk⟩
   simp only [TOp.under, evalOp, zeH hx, Option.bind_some, look] at he
   simp only [evalOp, zdA, tIs, hx, beq_self_eq_true, if_true]
   exact he
  ·exact hk.elim
 | len x =>
  simp only [zkU] at hk
  split at hk
  ·rename_i t hf
   obtain ⟨h1, hk⟩ := bifT hk
   have hx := h x _ hf
   rw [zhk h1] at hx
   have hx := hx.placeT
   refine ⟨fun he => ?_, hk⟩
   simp only [TOp.under, evalOp, zeH hx, Option.bind_some] at he
   simp only [evalOp, zdA, tIs, hx, beq_self_eq_true, if_true]
   exact he
  ·exact hk.elim
 | load agg n p =>
  simp only [zkU] at hk
  split at hk
  ·rename_i t hf
   obtain ⟨h1, hk2⟩ := bifT hk
   have hx := h p _ hf
   obtain ⟨z, i, o, rfl⟩ := zlt h1
   have hx := hx.elT
   refine ⟨fun he => ?_, hk2⟩
   simp only [TOp.under, evalOp, zkB hx, Option.bind_some, zaG, if_true, look] at he
   simp only [evalOp, zdA, hx, zkg, if_true]
   split at he
   ·split at he
    ·rename_i hc
     simp only [if_pos hc, Option.bind_some]
     exact he
    ·cases he
   ·cases he
  ·exact hk.elim
 | store n p x =>
  simp only [zkU] at hk
  obtain ⟨v1, σ', e, t, L', hd, h1, hk⟩ := zaJ h hk
  split at hk
  ·rename_i t hf
   obtain ⟨h2, hk2⟩ := bifT hk
   have hx := h1 p _ hf
   obtain ⟨z, i, o, rfl⟩ := zlt h2
   have hx := hx.elT
   refine ⟨fun he => ?_, hk2⟩
   have hg : getC { st with σ := σ' } (.t p) = some (.el (.tmp s) z i o) := zkB hx
   simp only [TOp.under, evalOp, e, Option.bind_some, hg] at he
   simp only [evalOp, zdA, e, Option.bind_some, hg, tEl, beq_self_eq_true, if_true]
   exact he
  ·exact hk.elim
theorem zme {s : Nat} {kk : TOp} : (AOp.tOp s kk).isCall = (kk.under s).isCall := by cases kk <;> rfl
theorem zdb {q : Bool} {cf : CF} (h : Rel ρ L B M st) {op : AOp} {k : TV → Ts → Bs → Ms → Prop} (hk : wpOp q cf op L B M k) :
  ∃ v st', evalOp cf st op = some (v, st') ∧ (op.isCall = true → st'.l = st.l ∧ (q = true → st'.m = st.m)) ∧ ∃ ρ' t L' B' M', Den ρ' t v ∧ Rel ρ' L' B' M' st' ∧ Fr ρ st.m ρ' st'.m ∧ k t L' B' M' := by
 by_cases hT : op.isT = true
 ·cases op <;> first | (cases hT; done) | skip
  rename_i s kk
  have hk : zkU s kk L (zbs q cf (kk.under s) L B M k) := hk
  obtain ⟨v, st', e, hc, r⟩ := zhj h (zhl (cf := cf) (v := .undef) (st' := st) h.a hk).2
  exact ⟨v, st', (zhl (cf := cf) h.a hk).1 e, by rw [zme]; exact hc, r⟩
 ·have : zbs q cf op L B M k := by
   cases op <;> first | exact hk | exact absurd rfl hT
  exact zhj h this
end
end Go.Proofs.YtakdnfneikbjjaaGreatDoor.Am.T

namespace Go.Proofs.YtakdnfneikbjjaaGreatDoor.Am.T
open Go.Proofs.YtakdnfneikbjjaaGreatDoor.Am
section
variable {ρ : List Nat} {cf : CF} {L : Ts} {B : Bs} {M : Ms} {st : St}
theorem zcG {σ : Nat → V} (h : Ag ρ L σ) {o : AOper} {t : TV} {v : V} (hd : Den ρ t v) {l : Nat → List V} {m : Am.Ms} {k : Ts → Prop} (hk : putW o t L k) : ∃ σ', zcS o (v, ⟨σ, l, m⟩) = some ⟨σ', l, m⟩ ∧ ∃ L', Ag ρ L' σ' ∧ k L' := by
  unfold putW at hk
  unfold zcS
  cases hdst : o.dst with
  | none =>
    simp only [hdst] at hk
    cases hkt : o.kt with
    | false =>
      rw [hkt] at hk
      exact ⟨σ, rfl, L, h, hk⟩
    | true =>
      rw [hkt] at hk
      simp only [cond_true] at hk
      obtain ⟨hs, hk⟩ := bifF hk
      have hu : t ≠ .undef := by rintro rfl; exact hk
      have hk2 : k L := by cases t <;> first | exact hk | exact absurd rfl hu
      exact ⟨σ, by simp [St.put, hd.selfPlace hu hs], L, h, hk2⟩
  | some d =>
    simp only [hdst] at hk
    cases hkt : o.kt with
    | false =>
      rw [hkt] at hk
      exact ⟨upd σ d v, by simp [St.put], _, h.upd d hd, hk⟩
    | true =>
      rw [hkt] at hk
      simp only [cond_true] at hk
      obtain ⟨hs, hk⟩ := bifF hk
      have hu : t ≠ .undef := by rintro rfl; exact hk
      have hk2 : mapK (killTV d) L fun L' => k ((d, t) :: L') := by cases t <;> first | exact hk | exact absurd rfl hu
      obtain ⟨L', h1, h2⟩ := zcq h (fun _ _ h => Den.killTV d h) hk2
      exact ⟨upd (killT d σ) d v, by simp [St.put, hd.selfPlace hu hs], _, Ag.upd h1 d hd, h2⟩
theorem zhm {σ : Nat → V} (h : Ag ρ L σ) {o : AOper} {l : Nat → List V} {m : Am.Ms} {k : Ts → Prop} (hk : zjN o L k) : ∃ σ', St.put ⟨σ, l, m⟩ o.kt o.dst (.tuple []) = ⟨σ', l, m⟩ ∧ ∃ L', Ag ρ L' σ' ∧ k L' := by
  unfold zjN at hk
  cases hdst : o.dst with
  | none => simp only [hdst] at hk; exact ⟨σ, rfl, L, h, hk⟩
  | some d =>
    simp only [hdst] at hk
    cases hkt : o.kt with
    | false => rw [hkt] at hk; exact ⟨_, rfl, _, h.upd d (.tuple .nil), hk⟩
    | true =>
      rw [hkt] at hk
      simp only [cond_true] at hk
      obtain ⟨L', h1, h2⟩ := zcq h (fun _ _ h => Den.killTV d h) hk
      exact ⟨_, rfl, _, Ag.upd h1 d (.tuple .nil), h2⟩
structure WPO (d : Bool) (cf : CF) (os : List AOper) (L : Ts) (B : Bs) (M : Ms) (K : Ts → Bs → Ms → Prop) : Prop where
  go : ∀ ρ st, Rel ρ L B M st → ∃ st', (if d then runD cf os st else za7 cf os st) = some st' ∧ ∃ ρ' L' B' M', Rel ρ' L' B' M' st' ∧ Fr ρ st.m ρ' st'.m ∧ K L' B' M'
theorem zcg : ∀ {os : List AOper} {ρ : List Nat} {L : Ts} {B : Bs} {M : Ms} {st : St} {k : Ts → Bs → Ms → Prop} (_ : Rel ρ L B M st) (_ : wpOps cf os L B M k),
    ∃ st', za7 cf os st = some st' ∧ ∃ ρ' L' B' M', Rel ρ' L' B' M' st' ∧ Fr ρ st.m ρ' st'.m ∧ k L' B' M'
  | [], ρ, L, B, M, st, k, h, hk => ⟨st, rfl, ρ, L, B, M, h, .refl _ _, hk⟩
  | o :: os, ρ, L, B, M, st, k, h, hk => by
    have doit : (wpOp false cf o.op L B M fun v L1 B1 m1 => putW o v L1 fun L2 => wpOps cf os L2 B1 m1 k) → ∃ st1, (evalOp cf st o.op).bind (zcS o) = some st1 ∧ ∃ st', za7 cf os st1 = some st' ∧ ∃ ρ' L' B' M', Rel ρ' L' B' M' st' ∧ Fr ρ st.m ρ' st'.m ∧ k L' B' M' := fun hk => by
      obtain ⟨v, st1, e, _, ρ1, t, L1, B1, M1, hd, h1, hf1, hk⟩ := zdb h hk
      obtain ⟨σ', e2, L2, h2, hk⟩ := zcG (l := st1.l) (m := st1.m) h1.a hd hk
      obtain ⟨st', e3, ρ', L', B', M', h3, hf3, hk⟩ := zcg (st := ⟨σ', st1.l, st1.m⟩) ⟨h2, h1.b, h1.m⟩ hk
      exact ⟨_, by rw [e]; exact e2, st', e3, ρ', L', B', M', h3, hf1.trans hf3, hk⟩
    have skip : ∀ {b want : Bool} {g : Nat}, (zjN o L fun L2 => wpOps cf os L2 B M k) → ∃ st', za7 cf os (st.put o.kt o.dst (.tuple [])) = some st' ∧ ∃ ρ' L' B' M', Rel ρ' L' B' M' st' ∧ Fr ρ st.m ρ' st'.m ∧ k L' B' M' := fun {b want g} hk => by
      obtain ⟨σ', e2, L2, h2, hk⟩ := zhm (l := st.l) (m := st.m) h.a hk
      obtain ⟨st', e3, r⟩ := zcg (st := ⟨σ', st.l, st.m⟩) ⟨h2, h.b, h.m⟩ hk
      exact ⟨st', by rw [e2]; exact e3, r⟩
    unfold wpOps at hk
    cases hg : o.guard with
    | none =>
      rw [hg] at hk
      obtain ⟨st1, e, st', e2, r⟩ := doit hk
      exact ⟨st', by simp only [za7, zb4, hg, e, Option.bind_some, e2], r⟩
    | some q =>
      obtain ⟨g, want⟩ := q
      rw [hg] at hk
      simp only at hk
      split at hk
      · rename_i b hf
        have hv := (h.a g _ hf).bool_inv
        by_cases hbw : b = want
        · subst hbw
          simp only [beq_self_eq_true, cond_true] at hk
          obtain ⟨st1, e, st', e2, r⟩ := doit hk
          exact ⟨st', by simp only [za7, zb4, hg, hv, if_true, e, Option.bind_some, e2], r⟩
        · have : (b == want) = false := by simpa using hbw
          rw [this] at hk
          simp only [cond_false] at hk
          obtain ⟨st', e3, r⟩ := skip (b := b) (want := want) (g := g) hk
          exact ⟨st', by simp only [za7, zb4, hg, hv]; rw [if_neg hbw]; exact e3, r⟩
      · rename_i hf
        obtain ⟨cs', hv, hcs⟩ := (h.a g _ hf).tuple_inv
        cases hcs
        obtain ⟨st', e3, r⟩ := skip (b := true) (want := want) (g := g) hk
        exact ⟨st', by simp only [za7, zb4, hg, hv]; exact e3, r⟩
      · exact hk.elim
theorem zcY (h : Ag ρ L st.σ) {lean : Bool} : ∀ {r : List Nat}, zft lean L r = true → (r.all fun s => rootOk lean (st.σ s)) = true
  | [], _ => rfl
  | s :: r, hr => by
    unfold zft at hr
    cases hf : fnd L s with
    | none => simp only [hf] at hr; cases hr
    | some v =>
      simp only [hf, Bool.and_eq_true] at hr
      rw [List.all_cons, Bool.and_eq_true]
      exact ⟨(h s v hf).rootOk hr.1, zcY h hr.2⟩
theorem zeK {t : TV} {v : V} (h : Den ρ t v) (hn : ziG t = true) : zfa v = true := by
  cases h with
  | base h0 => cases h0 <;> first | rfl | cases hn
  | loc j o => cases hn
  | _ => rfl
theorem zdk (h : Ag ρ L st.σ) : ∀ {r : List Nat}, ziD L r = true → (r.all fun s => zfa (st.σ s)) = true
  | [], _ => rfl
  | s :: r, hr => by
    unfold ziD at hr
    cases hf : fnd L s with
    | none => simp only [hf] at hr; cases hr
    | some v =>
      simp only [hf, Bool.and_eq_true] at hr
      rw [List.all_cons, Bool.and_eq_true]
      exact ⟨zeK (h s v hf) hr.1, zdk h hr.2⟩
theorem zjR {j : Nat} {t : TV} {v : V} (h : Den ρ t v) (hr : zm6 j t = true) : zii j v = true := by
  cases t with
  | loc i o => rw [h.loc_inv]; exact hr
  | _ => cases hr
theorem zey {j : Nat} (h : Ag ρ L st.σ) : ∀ {r : List Nat}, faW j L r = true → (r.all fun s => zii j (st.σ s)) = true
  | [], _ => rfl
  | s :: r, hr => by
    unfold faW at hr
    cases hf : fnd L s with
    | none => simp only [hf] at hr; cases hr
    | some v =>
      simp only [hf, Bool.and_eq_true] at hr
      rw [List.all_cons, Bool.and_eq_true]
      exact ⟨zjR (h s v hf) hr.1, zey h hr.2⟩
theorem znf {o : AOper} {t : TV} {v : V} (h : Den ρ t v) (hr : zm7 o t = true) : zek o v = true := by
  simp only [zm7, Bool.and_eq_true] at hr
  obtain ⟨h1, h2⟩ := hr
  simp only [zek, Bool.and_eq_true]
  refine ⟨h.rootOk h1, ?_⟩
  cases hm : o.mark with
  | none => rfl
  | quiet =>
    rw [hm] at h2
    simp only [Bool.and_eq_true] at h2
    simp only [Bool.and_eq_true]
    refine ⟨zeK h h2.1, ?_⟩
    cases h with
    | base h0 => cases h0 <;> first | rfl | cases h2.1
    | place _ => exact absurd h2.2 (by simp)
    | el _ _ _ _ => exact absurd h2.2 (by simp)
    | _ => rfl
  | mem =>
    rw [hm] at h2
    simp only [Bool.and_eq_true] at h2
    simp only [Bool.and_eq_true]
    refine ⟨zeK h h2.1, ?_⟩
    cases h with
    | base h0 => cases h0 <;> first | rfl | cases h2.1
    | place _ => exact absurd h2.2 (by simp)
    | el _ _ _ _ => exact absurd h2.2 (by simp)
    | _ => rfl
  | fa j => rw [hm] at h2; exact zjR h h2
  | _ => rw [hm] at h2; exact zeK h h2
theorem zjS {ts : List Nat} {st : St} : (clears ts st).m = st.m ∧ (clears ts st).l = st.l := ⟨zb8, zct⟩
theorem zng {st st' : St} {x : Opd} {v : V} (h : getO st x = some (v, st')) : st'.m = st.m ∧ st'.l = st.l := by
  rw [zbm h]; exact zjS
theorem zjT {st st' : St} {sz s : Nat} {y : Opd} {v : V} (hs : st.σ s = .nils ∨ ∃ o z xs, st.σ s = .slice o z xs) (he : evalOp cf st (.append sz (.u s .take) y) = some (v, st')) : st'.m = st.m ∧ st'.l = st.l := by
  simp only [evalOp, Option.bind_eq_some_iff] at he
  obtain ⟨p, hp, q, hq, ys, hys, he⟩ := he
  obtain ⟨pv, p2⟩ := p
  obtain ⟨qv, q2⟩ := q
  have hpv : pv = st.σ s := by
    simp only [getO, Option.some.injEq, Prod.mk.injEq] at hp
    exact hp.1.symm
  have e1 := zng hp
  have e2 := zng hq
  have e3 : q2.m = st.m ∧ q2.l = st.l := ⟨e2.1.trans e1.1, e2.2.trans e1.2⟩
  simp only at he
  subst hpv
  rcases hs with hs | ⟨o, z, xs, hs⟩
  · rw [hs] at he
    simp only at he
    split at he
    · cases he; exact e3
    · split at he
      · cases he; exact e3
      · cases he
  · rw [hs] at he
    cases o with
    | true =>
      simp only at he
      split at he
      · cases he; exact e3
      · cases he
    | false => cases he
theorem zoe {st st' : St} {f : Nat} {args : List Opd} {v : V} (he : evalOp cf st (.callP f args) = some (v, st')) : st'.m = st.m ∧ st'.l = st.l := by
  simp only [evalOp, Option.bind_eq_some_iff] at he
  obtain ⟨p, hp, he⟩ := he
  have e1 : p.2.m = st.m ∧ p.2.l = st.l := by rw [zbw hp]; exact zjS
  split at he
  · simp only [Option.bind_eq_some_iff] at he
    obtain ⟨q, _, he⟩ := he
    split at he
    · cases he; exact e1
    · cases he
  · cases he
theorem zjU (h : Ag ρ L st.σ) {op : AOp} {v : V} {st' : St} {k : Prop} (he : evalOp cf st op = some (v, st')) (hk : zm8 op L k) : (st'.m = st.m ∧ st'.l = st.l) ∧ k := by
  unfold zm8 at hk
  split at hk
  · exact ⟨zoe he, hk⟩
  · rename_i sz s y
    cases hf : fnd L s with
    | none => rw [hf] at hk; exact hk.elim
    | some t =>
      rw [hf] at hk
      have hd := h s t hf
      cases t with
      | sl o z xs =>
        refine ⟨zjT ?_ he, hk⟩
        rcases hd.sl_inv with ⟨ys, e, _⟩ | ⟨e, _⟩
        · exact .inr ⟨_, _, _, e⟩
        · exact .inl e
      | nils => exact ⟨zjT (.inl hd.nils_inv) he, hk⟩
      | _ => exact hk.elim
  · exact hk.elim
theorem ze5 (h : Ag ρ L st.σ) {o : AOper} {v : V} {st' : St} {k : Prop} (he : evalOp cf st o.op = some (v, st')) (hl : o.op.isCall = true → st'.l = st.l ∧ (zm5 o.mark = true → st'.m = st.m)) (hk : zkN o L k) : za8 o st st' = true ∧ k := by
  unfold zkN at hk
  unfold za8
  have ptr : ∀ mk, (match o.op.ptr? with
      | none => k
      | some p => rdC L p fun v => match v with
        | .loc i _ => bif mk == Mark.loc i then k else False
        | .ptr _ _ => bif mk == Mark.mem then k else False
        | .ro _ _ => bif mk == Mark.free then k else False
        | _ => False) → (match o.op.ptr? with
      | none => true
      | some p => match getC st p with
        | some (.loc i _) => mk == .loc i
        | some (.ptr _ _) => mk == .mem
        | some (.ro _ _) => mk == .free
        | _ => false) = true ∧ k := fun mk hk => by
    cases hp : o.op.ptr? with
    | none => rw [hp] at hk; exact ⟨rfl, hk⟩
    | some p =>
      rw [hp] at hk
      obtain ⟨v, t, e, hd, hk⟩ := zaf h hk
      simp only [e]
      cases t with
      | loc i o => rw [hd.loc_inv]; exact bifT hk
      | ptr i o => obtain ⟨b, rfl, _⟩ := hd.ptr_inv; exact bifT hk
      | ro i o => obtain ⟨b, rfl, _⟩ := hd.ro_inv; exact bifT hk
      | _ => exact hk.elim
  cases hm : o.mark with
  | none => rw [hm] at hk; exact ⟨rfl, hk⟩
  | cool =>
    rw [hm] at hk
    simp only at hk ⊢
    cases hp : o.op.ptr? with
    | some p => rw [hp] at hk; exact hk.elim
    | none =>
      rw [hp] at hk
      obtain ⟨h1, h2⟩ := bifT hk
      exact ⟨zdk h h1, h2⟩
  | fa j =>
    rw [hm] at hk
    obtain ⟨h1, h2⟩ := bifT hk
    exact ⟨zey h h1, h2⟩
  | quiet =>
    rw [hm] at hk
    have hp : (st'.m = st.m ∧ st'.l = st.l) ∧ k := by
      cases hc : o.op.isCall with
      | true =>
        simp only [hc, cond_true] at hk
        obtain ⟨h1, h2⟩ := hl hc
        exact ⟨⟨h2 (by rw [hm]; rfl), h1⟩, hk⟩
      | false =>
        simp only [hc, cond_false] at hk
        exact zjU h he hk
    exact ⟨by simp only [hp.1, and_self, decide_true], hp.2⟩
  | loc j => rw [hm] at hk; exact ptr _ hk
  | mem => rw [hm] at hk; exact ptr _ hk
  | free => rw [hm] at hk; exact ptr _ hk
theorem zmf {o : AOper} (h : zkV o.op = true) : o.lean = false := by
  cases ho : o.op <;> rw [ho] at h <;> first | (cases h; done) | skip
  unfold AOper.lean
  rw [ho]
  simp [AOp.pure, AOp.still, AOp.builds]
theorem znh {o : AOper} (h : zkV o.op = true) {v : V} {st st' : St} (he : evalOp cf st o.op = some (v, st')) : v = .undef := by
  cases ho : o.op <;> rw [ho] at h he <;> first | (cases h; done) | skip
  simp only [evalOp, Option.bind_eq_some_iff] at he
  obtain ⟨_, _, _, _, he⟩ := he
  split at he
  · simp only [Option.bind_eq_some_iff, Option.some.injEq, Prod.mk.injEq] at he
    obtain ⟨_, _, he, _⟩ := he
    exact he.symm
  · cases he
theorem zhc (h : Rel ρ L B M st) {o : AOper} {k : Ts → Bs → Ms → Prop} (hk : doD cf o L B M k) : ∃ st', zaq cf o st = some st' ∧ ∃ ρ' L' B' M', Rel ρ' L' B' M' st' ∧ Fr ρ st.m ρ' st'.m ∧ k L' B' M' := by
  unfold doD at hk
  by_cases hT : o.op.isT = true
  · rw [hT] at hk
    obtain ⟨v, st1, e, hl, ρ1, t, L1, B1, M1, hd, h1, hf1, hk⟩ := zdb h hk
    obtain ⟨σ', e2, L2, h2, hk⟩ := zcG (l := st1.l) (m := st1.m) h1.a hd hk
    refine ⟨⟨σ', st1.l, st1.m⟩, ?_, ρ1, L2, B1, M1, ⟨h2, h1.b, h1.m⟩, hf1, hk⟩
    unfold zaq
    rw [hT, if_pos rfl, e]
    exact e2
  have hT : o.op.isT = false := by simpa using hT
  rw [hT] at hk
  obtain ⟨hr, hk⟩ := bifT hk
  obtain ⟨v, st1, e, hl, ρ1, t, L1, B1, M1, hd, h1, hf1, hk⟩ := zdb h hk
  obtain ⟨hro, hk⟩ := bifT hk
  obtain ⟨hm, hk⟩ := ze5 h.a e hl hk
  obtain ⟨σ', e2, L2, h2, hk⟩ := zcG (l := st1.l) (m := st1.m) h1.a hd hk
  refine ⟨⟨σ', st1.l, st1.m⟩, ?_, ρ1, L2, B1, M1, ⟨h2, h1.b, h1.m⟩, hf1, hk⟩
  have hro2 : zek o v = true := by
    rw [Bool.or_eq_true] at hro
    rcases hro with hro | hro
    · unfold zoB at hro
      rw [Bool.and_eq_true] at hro
      obtain ⟨hro, hfa⟩ := hro
      have h1 := zmf hro
      rw [znh hro e]
      unfold zek
      rw [h1]
      cases hmk : o.mark with
      | fa _ => rw [hmk] at hfa; cases hfa
      | _ => rfl
    · exact znf hd hro
  unfold zaq
  rw [hT]
  simp only [Bool.false_eq_true, if_false]
  rw [if_pos (zcY h.a hr), e]
  simp only [Option.bind_some, putD, hro2, hm, Bool.and_self, if_true]
  exact e2
theorem zdl : ∀ {os : List AOper} {ρ : List Nat} {L : Ts} {B : Bs} {M : Ms} {st : St} {k : Ts → Bs → Ms → Prop} (_ : Rel ρ L B M st) (_ : wpD cf os L B M k),
    ∃ st', runD cf os st = some st' ∧ ∃ ρ' L' B' M', Rel ρ' L' B' M' st' ∧ Fr ρ st.m ρ' st'.m ∧ k L' B' M'
  | [], ρ, L, B, M, st, k, h, hk => ⟨st, rfl, ρ, L, B, M, h, .refl _ _, hk⟩
  | o :: os, ρ, L, B, M, st, k, h, hk => by
    have doit : (doD cf o L B M fun L2 B1 m1 => wpD cf os L2 B1 m1 k) → ∃ st1, zaq cf o st = some st1 ∧ ∃ st', runD cf os st1 = some st' ∧ ∃ ρ' L' B' M', Rel ρ' L' B' M' st' ∧ Fr ρ st.m ρ' st'.m ∧ k L' B' M' := fun hk => by
      obtain ⟨st1, e, ρ1, L1, B1, M1, h1, hf1, hk⟩ := zhc h hk
      obtain ⟨st', e3, ρ', L', B', M', h3, hf3, hk⟩ := zdl h1 hk
      exact ⟨_, e, st', e3, ρ', L', B', M', h3, hf1.trans hf3, hk⟩
    have skip : ∀ {b want : Bool} {g : Nat}, (zjN o L fun L2 => wpD cf os L2 B M k) → ∃ st', runD cf os (st.put o.kt o.dst (.tuple [])) = some st' ∧ ∃ ρ' L' B' M', Rel ρ' L' B' M' st' ∧ Fr ρ st.m ρ' st'.m ∧ k L' B' M' := fun {b want g} hk => by
      obtain ⟨σ', e2, L2, h2, hk⟩ := zhm (l := st.l) (m := st.m) h.a hk
      obtain ⟨st', e3, r⟩ := zdl (st := ⟨σ', st.l, st.m⟩) ⟨h2, h.b, h.m⟩ hk
      exact ⟨st', by rw [e2]; exact e3, r⟩
    unfold wpD at hk
    cases hg : o.guard with
    | none =>
      rw [hg] at hk
      obtain ⟨st1, e, st', e2, r⟩ := doit hk
      exact ⟨st', by simp only [runD, zcw, hg, e, Option.bind_some, e2], r⟩
    | some q =>
      obtain ⟨g, want⟩ := q
      rw [hg] at hk
      simp only at hk
      split at hk
      · rename_i b hf
        have hv := (h.a g _ hf).bool_inv
        by_cases hbw : b = want
        · subst hbw
          simp only [beq_self_eq_true, cond_true] at hk
          obtain ⟨st1, e, st', e2, r⟩ := doit hk
          exact ⟨st', by simp only [runD, zcw, hg, hv, if_true, e, Option.bind_some, e2], r⟩
        · have : (b == want) = false := by simpa using hbw
          rw [this] at hk
          simp only [cond_false] at hk
          obtain ⟨st', e3, r⟩ := skip (b := b) (want := want) (g := g) hk
          exact ⟨st', by simp only [runD, zcw, hg, hv]; rw [if_neg hbw]; exact e3, r⟩
      · rename_i hf
        obtain ⟨cs', hv, hcs⟩ := (h.a g _ hf).tuple_inv
        cases hcs
        obtain ⟨st', e3, r⟩ := skip (b := true) (want := want) (g := g) hk
        exact ⟨st', by simp only [runD, zcw, hg, hv]; exact e3, r⟩
      · exact hk.elim
theorem zad {os : List AOper} {K : Ts → Bs → Ms → Prop} (h : wpOps cf os L B M K) : WPO false cf os L B M K := ⟨fun _ _ hr => zcg hr h⟩
theorem zeg {os : List AOper} {K : Ts → Bs → Ms → Prop} (h : wpD cf os L B M K) : WPO true cf os L B M K := ⟨fun _ _ hr => zdl hr h⟩
theorem zbd {σ : Nat → V} (h : Ag ρ L σ) : ∀ {r : List Nat} {k : Ts → Prop}, zbH L r k → ∃ L', Ag ρ L' σ ∧ (∀ s v, fnd L' s = some v → s ∈ r) ∧ k L'
  | [], k, hk => ⟨[], fun s v hv => (nomatch hv), fun s v hv => (nomatch hv), hk⟩
  | s :: r, k, hk => by
    unfold zbH at hk
    cases hs : fnd L s with
    | none =>
      rw [hs] at hk
      obtain ⟨L', h1, h2, h3⟩ := zbd h hk
      exact ⟨L', h1, fun t v hv => .tail _ (h2 t v hv), h3⟩
    | some v =>
      rw [hs] at hk
      obtain ⟨L', h1, h2, h3⟩ := zbd h (k := fun r' => k ((s, v) :: r')) hk
      refine ⟨_, fun t x hx => ?_, fun t x hx => ?_, h3⟩
      · rw [zbr] at hx
        split at hx
        · rename_i e; subst e; cases hx; exact h _ _ hs
        · exact h1 t x hx
      · rw [zbr] at hx
        split at hx
        · rename_i e; subst e; exact .head _
        · exact .tail _ (h2 t x hx)
theorem za4 {l : Nat → List V} (h : AgB ρ B l) : ∀ {r : List Nat} {k : Bs → Prop}, zbH B r k → ∃ B', AgB ρ B' l ∧ k B'
  | [], k, hk => ⟨[], fun s v hv => (nomatch hv), hk⟩
  | s :: r, k, hk => by
    unfold zbH at hk
    cases hs : fnd B s with
    | none => rw [hs] at hk; exact za4 h hk
    | some v =>
      rw [hs] at hk
      obtain ⟨L', h1, h3⟩ := za4 h (k := fun r' => k ((s, v) :: r')) hk
      refine ⟨_, fun t x hx => ?_, h3⟩
      rw [zbr] at hx
      split at hx
      · rename_i e; subst e; cases hx; exact h _ _ hs
      · exact h1 t x hx
theorem zea : ∀ {a b : List AOper} {st : St}, za7 cf (a ++ b) st = (za7 cf a st).bind (za7 cf b)
  | [], b, st => rfl
  | o :: a, b, st => by
    show (zb4 cf o st).bind (za7 cf (a ++ b)) = ((zb4 cf o st).bind (za7 cf a)).bind (za7 cf b)
    rw [Option.bind_assoc]
    congr 1
    funext st1
    exact zea
theorem ze6 : ∀ {a b : List AOper} {st : St}, runD cf (a ++ b) st = (runD cf a st).bind (runD cf b)
  | [], b, st => rfl
  | o :: a, b, st => by
    show (zcw cf o st).bind (runD cf (a ++ b)) = ((zcw cf o st).bind (runD cf a)).bind (runD cf b)
    rw [Option.bind_assoc]
    congr 1
    funext st1
    exact ze6
def zjV {α : Type} (L : List (Nat × α)) : List Nat → List (Nat × α)
  | [] => []
  | s :: r => match fnd L s with
    | some v => (s, v) :: zjV L r
    | none => zjV L r
theorem zfY {α : Type} {L : List (Nat × α)} : ∀ {r : List Nat} {k : List (Nat × α) → Prop}, zbH L r k ↔ k (zjV L r)
  | [], k => Iff.rfl
  | s :: r, k => by
    unfold zbH zjV
    cases fnd L s with
    | none => exact zfY
    | some v => exact zfY (k := fun r' => k ((s, v) :: r'))
theorem zbn {d : Bool} {os : List AOper} {K : Ts → Bs → Ms → Prop} (n s : Nat) (lv : List Nat) (y : Bool)
    (h : WPO d cf (os.take n) L B M fun L1 B1 M1 => zbH L1 lv fun L' => L' = zjV ((s, .bool y) :: L) lv ∧ B1 = B ∧ M1 = M)
    (g : zbH ((s, .bool y) :: L) lv fun L2 => WPO d cf (os.drop n) L2 B M K) : WPO d cf os L B M K := by
  refine ⟨fun ρ st hr => ?_⟩
  obtain ⟨st1, e1, ρ1, L1, B1, M1, h1, hf1, hk⟩ := h.go ρ st hr
  obtain ⟨L', h2, _, rfl, rfl, rfl⟩ := zbd h1.a hk
  obtain ⟨st2, e2, ρ2, L3, B3, M3, h4, hf2, hk⟩ := (zfY.1 g).go ρ1 st1 ⟨h2, h1.b, h1.m⟩
  refine ⟨st2, ?_, ρ2, L3, B3, M3, h4, hf1.trans hf2, hk⟩
  rw [← List.take_append_drop n os]
  cases d with
  | false => simp only [Bool.false_eq_true, if_false] at e1 e2 ⊢; rw [zea, e1]; exact e2
  | true => simp only [if_true] at e1 e2 ⊢; rw [ze6, e1]; exact e2
variable {Q : Ex → Ts → Bs → Ms → Prop}
theorem zac {d : Bool} {os : List AOper} (lv lb : List Nat) (h : WPO d cf os L B M fun L1 B1 M1 => zbH L1 lv fun L2 => zbH B1 lb fun B2 => Q .normal L2 B2 M1) : WP cf (.region d os) L B M Q := by
  refine ⟨fun ρ st hr => ?_⟩
  obtain ⟨st1, e1, ρ1, L1, B1, M1, h1, hf1, hk⟩ := h.go ρ st hr
  obtain ⟨L', h2, _, hk⟩ := zbd h1.a hk
  obtain ⟨B', h3, hk⟩ := za4 h1.b hk
  refine ⟨.normal, st1, ?_, ρ1, L', B', M1, ⟨h2, h3, h1.m⟩, hf1, hk⟩
  cases d with
  | false => simp only [Bool.false_eq_true, if_false] at e1; simp only [exec, e1, Option.bind_some]
  | true => simp only [if_true] at e1; simp only [exec, e1, Option.bind_some]
theorem zat (h : Q .normal L B M) : WP cf .skip L B M Q := ⟨fun ρ st hr => ⟨_, st, rfl, ρ, L, B, M, hr, .refl _ _, h⟩⟩
theorem zaD (h : Q .ret L B M) : WP cf .ret L B M Q := ⟨fun ρ st hr => ⟨_, st, rfl, ρ, L, B, M, hr, .refl _ _, h⟩⟩
theorem zb1 {i : Nat} (h : Q (.exit i) L B M) : WP cf (.exit i) L B M Q := ⟨fun ρ st hr => ⟨_, st, rfl, ρ, L, B, M, hr, .refl _ _, h⟩⟩
theorem zaa {a b : ACode} (h : WP cf a L B M fun e L1 B1 M1 => match e with
    | .normal => WP cf b L1 B1 M1 Q
    | .exit i => Q (.exit i) L1 B1 M1
    | .ret => Q .ret L1 B1 M1) : WP cf (.seq a b) L B M Q := by
  refine ⟨fun ρ st hr => ?_⟩
  obtain ⟨e, st1, h1, ρ1, L1, B1, M1, h2, hf, hk⟩ := h.go ρ st hr
  cases e with
  | normal =>
    obtain ⟨e, st2, h4, ρ2, L2, B2, M2, h5, hf2, hk⟩ := hk.go ρ1 st1 h2
    exact ⟨e, st2, by simp only [exec, h1, Option.bind_some, h4], ρ2, L2, B2, M2, h5, hf.trans hf2, hk⟩
  | exit i => exact ⟨_, st1, by simp only [exec, h1, Option.bind_some], ρ1, L1, B1, M1, h2, hf, hk⟩
  | ret => exact ⟨_, st1, by simp only [exec, h1, Option.bind_some], ρ1, L1, B1, M1, h2, hf, hk⟩
theorem zam {s : Nat} {t e : ACode} {b : Bool} (hs : fnd L s = some (.bool b)) (ht : b = true → WP cf t L B M Q) (he : b = false → WP cf e L B M Q) : WP cf (.cond (.t s) t e) L B M Q := by
  refine ⟨fun ρ st hr => ?_⟩
  have hv := (hr.a s _ hs).bool_inv
  cases b with
  | true =>
    obtain ⟨e1, st1, h1, r⟩ := (ht rfl).go ρ st hr
    exact ⟨e1, st1, by simp only [exec, getC, hv, V.hasOwn, V.own1, V.own0]; exact h1, r⟩
  | false =>
    obtain ⟨e1, st1, h1, r⟩ := (he rfl).go ρ st hr
    exact ⟨e1, st1, by simp only [exec, getC, hv, V.hasOwn, V.own1, V.own0]; exact h1, r⟩
theorem zas {i : Nat} {b : ACode} (h : WP cf b L B M fun e L1 B1 M1 => match e with
    | .normal => Q .normal L1 B1 M1
    | .exit j => bif Nat.beq j i then Q .normal L1 B1 M1 else Q (.exit j) L1 B1 M1
    | .ret => Q .ret L1 B1 M1) : WP cf (.block i b) L B M Q := by
  refine ⟨fun ρ st hr => ?_⟩
  obtain ⟨e, st1, h1, ρ1, L1, B1, M1, h2, hf, hk⟩ := h.go ρ st hr
  cases e with
  | normal => exact ⟨.normal, st1, by simp only [exec, h1, Option.bind_some], ρ1, L1, B1, M1, h2, hf, hk⟩
  | exit j =>
    simp only at hk
    by_cases hj : j = i
    · subst hj
      have : Nat.beq j j = true := by simp
      rw [this] at hk
      exact ⟨.normal, st1, by simp only [exec, h1, Option.bind_some, if_true], ρ1, L1, B1, M1, h2, hf, hk⟩
    · have : Nat.beq j i = false := by
        cases hb : Nat.beq j i with
        | false => rfl
        | true => exact absurd (Nat.eq_of_beq_eq_true hb) hj
      rw [this] at hk
      exact ⟨.exit j, st1, by simp only [exec, h1, Option.bind_some]; rw [if_neg hj], ρ1, L1, B1, M1, h2, hf, hk⟩
  | ret => exact ⟨.ret, st1, by simp only [exec, h1, Option.bind_some], ρ1, L1, B1, M1, h2, hf, hk⟩
theorem zcx {R : Type} {c : ACode} (r : R) (X : R → Ex × Ts × Bs × Ms) (lv lb : Ex → List Nat)
    (h : WP cf c L B M fun e L1 B1 M1 => zbH L1 (lv e) fun L2 => zbH B1 (lb e) fun B2 => X r = (e, L2, B2, M1)) (g : Q (X r).1 (X r).2.1 (X r).2.2.1 (X r).2.2.2) : WP cf c L B M Q := by
  refine ⟨fun ρ st hr => ?_⟩
  obtain ⟨e, st1, h1, ρ1, L1, B1, M1, h2, hf, hk⟩ := h.go ρ st hr
  obtain ⟨L', h3, _, hk⟩ := zbd h2.a hk
  obtain ⟨B', h4, hk⟩ := za4 h2.b hk
  rw [hk] at g
  exact ⟨e, st1, h1, ρ1, L', B', M1, ⟨h3, h4, h2.m⟩, hf, g⟩
end
section
variable {S R : Type}
def ze7 (step : S → Option (S ⊕ R)) : Nat → S → Option R
  | 0, _ => none
  | n + 1, s => match step s with
    | none => none
    | some (.inl s') => ze7 step n s'
    | some (.inr r) => some r
open Classical in
noncomputable def iter (step : S → Option (S ⊕ R)) (s : S) : Option R :=
  if h : ∃ n r, ze7 step n s = some r then some h.choose_spec.choose else none
theorem zib {step : S → Option (S ⊕ R)} : ∀ {n : Nat} {s : S} {r : R}, ze7 step n s = some r → ze7 step (n + 1) s = some r
  | 0, _, _, h => by cases h
  | n + 1, s, r, h => by
    simp only [ze7] at h
    rw [ze7]
    cases hs : step s with
    | none => rw [hs] at h; cases h
    | some x =>
      rw [hs] at h
      cases x with
      | inl s' => exact zib h
      | inr r => exact h
theorem zlu {step : S → Option (S ⊕ R)} {n m : Nat} (hm : n ≤ m) {s : S} {r : R} (h : ze7 step n s = some r) : ze7 step m s = some r := by
  induction m with
  | zero => have : n = 0 := by omega
            subst this; exact h
  | succ m ih =>
    by_cases e : n = m + 1
    · subst e; exact h
    · exact zib (ih (by omega))
theorem zgz {step : S → Option (S ⊕ R)} {s : S} {r : R} : iter step s = some r ↔ ∃ n, ze7 step n s = some r := by
  unfold iter
  constructor
  · intro h
    split at h
    · rename_i hx
      have := hx.choose_spec.choose_spec
      simp only [Option.some.injEq] at h
      rw [← h]
      exact ⟨_, this⟩
    · cases h
  · rintro ⟨n, h⟩
    have hx : ∃ n r, ze7 step n s = some r := ⟨n, r, h⟩
    rw [dif_pos hx]
    have h1 := hx.choose_spec.choose_spec
    have h2 := zlu (Nat.le_max_left hx.choose n) h1
    have h3 := zlu (Nat.le_max_right hx.choose n) h
    rw [h2] at h3
    exact h3
theorem zbP {step : S → Option (S ⊕ R)} {s s' : S} (h : step s = some (.inl s')) : iter step s = iter step s' := by
  apply Option.ext
  intro r
  rw [zgz, zgz]
  constructor
  · rintro ⟨n, hn⟩
    cases n with
    | zero => cases hn
    | succ n => simp only [ze7, h] at hn; exact ⟨n, hn⟩
  · rintro ⟨n, hn⟩
    exact ⟨n + 1, by simp only [ze7, h]; exact hn⟩
theorem zbh {step : S → Option (S ⊕ R)} {s : S} {r : R} (h : step s = some (.inr r)) : iter step s = some r :=
  zgz.2 ⟨1, by simp only [ze7, h]⟩
theorem zch {cf : CF} {L : Ts} {B : Bs} {M : Ms} {Q : Ex → Ts → Bs → Ms → Prop} {live : List Nat} {b : ACode} {step : S → Option (S ⊕ R)} {s0 : S} {r0 : R} (h : iter step s0 = some r0)
    (lb : List Nat) (I : S → Ts × Bs × Ms) (lv lb2 : Ex → List Nat) (X : R → Ex × Ts × Bs × Ms)
    (h0 : zbH L live fun L0 => zbH B lb fun B0 => I s0 = (L0, B0, M))
    (hs : ∀ s x, step s = some x → WP cf b (I s).1 (I s).2.1 (I s).2.2 fun e L1 B1 M1 => match e with
      | .normal => zbH L1 live fun L2 => zbH B1 lb fun B2 => ∃ s', x = .inl s' ∧ I s' = (L2, B2, M1)
      | .exit i => zbH L1 (lv (.exit i)) fun L2 => zbH B1 (lb2 (.exit i)) fun B2 => ∃ r, x = .inr r ∧ X r = (.exit i, L2, B2, M1)
      | .ret => zbH L1 (lv .ret) fun L2 => zbH B1 (lb2 .ret) fun B2 => ∃ r, x = .inr r ∧ X r = (.ret, L2, B2, M1))
    (g : Q (X r0).1 (X r0).2.1 (X r0).2.2.1 (X r0).2.2.2) : WP cf (.loop live b) L B M Q := by
  have key : ∀ n s r, ze7 step n s = some r → ∀ ρ st, (∀ t v, fnd (I s).1 t = some v → t ∈ live) → Rel ρ (I s).1 (I s).2.1 (I s).2.2 st →
      ∃ e st', exec cf (.loop live b) st = some (e, st') ∧ ∃ ρ' L' B' M', Rel ρ' L' B' M' st' ∧ Fr ρ st.m ρ' st'.m ∧ X r = (e, L', B', M') := by
    intro n
    induction n with
    | zero => intro s r hn; cases hn
    | succ n ih =>
      intro s r hn ρ st hlive hR
      have hL' : Ag ρ (I s).1 (keep live st.σ) := fun t v hv => by
        unfold keep
        rw [if_pos (hlive t v hv)]; exact hR.a t v hv
      simp only [ze7] at hn
      cases hst : step s with
      | none => rw [hst] at hn; cases hn
      | some x =>
        rw [hst] at hn
        obtain ⟨e, st1, h1, ρ1, L1, B1, M1, h2, hf, hk⟩ := (hs s x hst).go ρ { st with σ := keep live st.σ } ⟨hL', hR.b, hR.m⟩
        have hstep := zjb (round := fun st => exec cf b { st with σ := keep live st.σ }) (st := st)
        cases e with
        | normal =>
          obtain ⟨L2, h4, h5, hk⟩ := zbd h2.a hk
          obtain ⟨B2, h7, s', rfl, hI⟩ := za4 h2.b hk
          simp only at hn
          obtain ⟨e, st2, h6, ρ2, L3, B3, M3, h8, hf2, hX⟩ := ih s' r hn ρ1 st1 (by rw [hI]; exact h5) (by rw [hI]; exact ⟨h4, h7, h2.m⟩)
          refine ⟨e, st2, ?_, ρ2, L3, B3, M3, h8, hf.trans hf2, hX⟩
          simp only [exec] at h6 ⊢
          rw [hstep, h1]
          exact h6
        | exit i =>
          obtain ⟨L2, h4, h5, hk⟩ := zbd h2.a hk
          obtain ⟨B2, h7, r', rfl, hI⟩ := za4 h2.b hk
          simp only [Option.some.injEq] at hn
          subst hn
          refine ⟨.exit i, st1, ?_, ρ1, L2, B2, M1, ⟨h4, h7, h2.m⟩, hf, hI⟩
          simp only [exec]
          rw [hstep, h1]; rfl
        | ret =>
          obtain ⟨L2, h4, h5, hk⟩ := zbd h2.a hk
          obtain ⟨B2, h7, r', rfl, hI⟩ := za4 h2.b hk
          simp only [Option.some.injEq] at hn
          subst hn
          refine ⟨.ret, st1, ?_, ρ1, L2, B2, M1, ⟨h4, h7, h2.m⟩, hf, hI⟩
          simp only [exec]
          rw [hstep, h1]; rfl
  refine ⟨fun ρ st hR => ?_⟩
  obtain ⟨n, hn⟩ := zgz.1 h
  obtain ⟨L0, h1, h2, hk⟩ := zbd hR.a h0
  obtain ⟨B0, h3, hI⟩ := za4 hR.b hk
  obtain ⟨e, st', h4, ρ', L', B', M', h5, hf, hX⟩ := key n s0 r0 hn ρ st (by rw [hI]; exact h2) (by rw [hI]; exact ⟨h1, h3, hR.m⟩)
  rw [hX] at g
  exact ⟨e, st', h4, ρ', L', B', M', h5, hf, g⟩
end
def resW : List ARes → Ts → Bs → Ms → (List TV → Ms → Prop) → Prop
  | [], _, _, m, k => k [] m
  | .tmp s :: r, L, B, m, k => match fnd L s with
    | some v => resW r ((s, .undef) :: L) B m fun vs m' => k (v :: vs) m'
    | none => False
  | .cell s agg n :: r, L, B, m, k => match fnd L s with
    | some a => loadW agg n .take L B m a fun v B' m' => resW r L B' m' fun vs m'' => k (v :: vs) m''
    | none => False
def zni : List TV → TV
  | [v] => v
  | vs => .tuple vs
def znj : Nat → List TV → Ts
  | _, [] => []
  | i, v :: r => (i, v) :: znj (i + 1) r
def TV.flat0 : TV → Bool
  | .bool _ | .int _ _ | .str _ | .nilp | .nils | .sl _ _ _ | .nilf | .nili | .undef => true
  | .func _ cs => cs.isEmpty
  | _ => false
def TV.flat1 : TV → Bool
  | .agg cs => cs.all TV.flat0
  | v => v.flat0
def zpK (M : Ms) : Bool := M.all fun cs => cs.all TV.flat0
section
variable {ρ : List Nat} {cf : CF} {L : Ts} {B : Bs} {M : Ms} {st : St}
theorem zdc : ∀ {rs : List ARes} {ρ : List Nat} {L : Ts} {B : Bs} {M : Ms} {st : St} {k : List TV → Ms → Prop} (_ : Rel ρ L B M st) (_ : resW rs L B M k), ∃ vs st', zdq st rs = some (vs, st') ∧ ∃ ts M', Pw (Den ρ) ts vs ∧ Mg ρ M' st'.m ∧ Fr ρ st.m ρ st'.m ∧ k ts M'
  | [], ρ, L, B, M, st, k, h, hk => ⟨[], st, rfl, [], M, .nil, h.m, .refl _ _, hk⟩
  | .tmp s :: r, ρ, L, B, M, st, k, h, hk => by
    unfold resW at hk
    cases hs : fnd L s with
    | none => simp only [hs] at hk
    | some v =>
      simp only [hs] at hk
      obtain ⟨vs, st', e, ts, M', h1, h2, hf, hk⟩ := zdc (st := { st with σ := upd st.σ s .undef }) (h.sig (h.a.upd s (.undef' _))) hk
      exact ⟨st.σ s :: vs, st', by simp only [zdq, e, Option.bind_some], v :: ts, M', .cons (h.a s v hs) h1, h2, hf, hk⟩
  | .cell s agg n :: r, ρ, L, B, M, st, k, h, hk => by
    unfold resW at hk
    cases hs : fnd L s with
    | none => simp only [hs] at hk
    | some a =>
      simp only [hs] at hk
      obtain ⟨v, st1, e, t, B1, M1, hd, h1, hf1, hk⟩ := zdi h (h.a s a hs) hk
      obtain ⟨vs, st', e3, ts, M', h2, h3, hf2, hk⟩ := zdc h1 hk
      exact ⟨v :: vs, st', by simp only [zdq, e, Option.bind_some, e3], t :: ts, M', .cons hd h2, h3, hf1.trans hf2, hk⟩
theorem zjW : ∀ {args : List TV} {args' : List V} (_ : Pw (Den ρ) args args') {i s : Nat} {t : TV}, fnd (znj i args) s = some t → i ≤ s ∧ Den ρ t (args'.getD (s - i) .undef)
  | [], _, _, i, s, v, h => by cases h
  | x :: args, y :: args', .cons h1 h2, i, s, v, h => by
    unfold znj at h
    rw [zbr] at h
    split at h
    · rename_i e; subst e; cases h; simpa using h1
    · obtain ⟨h3, h4⟩ := zjW h2 h
      refine ⟨by omega, ?_⟩
      rw [show s - i = (s - (i + 1)) + 1 from by omega]
      simpa using h4
theorem Den.flat0 {t : TV} {v : V} (h : Den ρ t v) (hf : t.flat0 = true) : Den0 t v := by
  cases h with
  | base h => exact h
  | func f h =>
    cases h with
    | nil => exact .func f
    | cons _ _ => cases hf
  | _ => cases hf
theorem Den.low0' {t : TV} {v : V} (h : Den ρ t v) (hf : t.low0 = true) : Den0 t v := by
  cases h with
  | base h => exact h
  | func f h =>
    cases h with
    | nil => exact .func f
    | cons _ _ => cases hf
  | _ => cases hf
theorem Pw.all_imp {α β : Type} {R R' : α → β → Prop} {p : α → Bool} (hm : ∀ x y, R x y → p x = true → R' x y) {l : List α} {l' : List β} (h : Pw R l l') (ha : l.all p = true) : Pw R' l l' := by
  induction h with
  | nil => exact .nil
  | cons hr _ ih =>
    simp only [List.all_cons, Bool.and_eq_true] at ha
    exact .cons (hm _ _ hr ha.1) (ih ha.2)
theorem Den.flat1 {t : TV} {v : V} (h : Den ρ t v) (hf : t.flat1 = true) (ρ' : List Nat) : Den ρ' t v := by
  cases h with
  | agg h => exact .agg (Pw.all_imp (p := TV.flat0) (fun _ _ h hf => .base (h.flat0 hf)) h hf)
  | base h => exact .base h
  | func f h =>
    cases h with
    | nil => exact .func f .nil
    | cons _ _ => cases hf
  | _ => cases hf
theorem Den.lower1 {t : TV} {v : V} (h : Den ρ t v) (hf : t.low1 = true) (ρ' : List Nat) : Den ρ' t v := by
  cases h with
  | agg h => exact .agg (Pw.all_imp (p := TV.low0) (fun _ _ h hf => .base (h.low0' hf)) h hf)
  | base h => exact .base h
  | func f h =>
    cases h with
    | nil => exact .func f .nil
    | cons _ _ => cases hf
  | _ => cases hf
theorem Den.lower {t : TV} {v : V} (h : Den ρ t v) (hf : t.low2 = true) (ρ' : List Nat) : Den ρ' t v := by
  cases h with
  | tuple h => exact .tuple (Pw.all_imp (p := TV.low1) (fun _ _ h hf => h.lower1 hf ρ') h hf)
  | agg h => exact (Den.agg h).lower1 hf ρ'
  | base h => exact .base h
  | func f h =>
    cases h with
    | nil => exact .func f .nil
    | cons _ _ => cases hf
  | _ => cases hf
theorem zmg {ts : List TV} {vs : List V} (h : Pw (Den ρ) ts vs) : Den ρ (zni ts) (zg8 vs) := by
  cases h with
  | nil => exact .tuple .nil
  | cons h t =>
    cases t with
    | nil => exact h
    | cons h2 t2 => exact .tuple (.cons h (.cons h2 t2))
theorem zps {af : AFunc} {args : List TV} {K : List TV → Ms → Prop} (hl : Nat.beq args.length af.np = true)
    (h : WP cf af.body (znj 0 args) [] M fun e L B M1 => match e with
      | .exit _ => False
      | _ => resW af.results L B M1 fun vs M2 => vs.all TV.ok1 = true ∧ K vs M2) {m : Am.Ms} {args' : List V} (hm : Mg ρ M m) (ha : Pw (Den ρ) args args') :
    ∃ vs m2 ρ' ts M2, runF cf af args' m = some (zg8 vs, if (zg8 vs).top2 ≤ m.length then m2.take m.length else m2) ∧ Pw (Den ρ') ts vs ∧ Mg ρ' M2 m2 ∧ Fr ρ m ρ' m2 ∧ K ts M2 := by
  obtain ⟨e, st, h1, ρ1, L, B, M1, hR, hf, hk⟩ := h.go ρ ⟨fun i => args'.getD i .undef, fun _ => [], m⟩ ⟨fun s v hv => by have := (zjW ha hv).2; simpa using this, fun s v hv => (nomatch hv), hm⟩
  have hlen : args'.length = af.np := by rw [← ha.length]; exact Nat.eq_of_beq_eq_true hl
  have fin : (resW af.results L B M1 fun vs M2 => vs.all TV.ok1 = true ∧ K vs M2) → (e = .normal ∨ e = .ret) → ∃ vs m2 ρ' ts M2, runF cf af args' m = some (zg8 vs, if (zg8 vs).top2 ≤ m.length then m2.take m.length else m2) ∧ Pw (Den ρ') ts vs ∧ Mg ρ' M2 m2 ∧ Fr ρ m ρ' m2 ∧ K ts M2 := fun hk he => by
    obtain ⟨vs, st', e2, ts, M2, h2, h3, hf2, ho, hK⟩ := zdc hR hk
    have hf3 := hf.trans hf2
    refine ⟨vs, st'.m, ρ1, ts, M2, ?_, h2, h3, hf3, hK⟩
    have er : zhM st af.results = some (zg8 vs, st') := by
      unfold zhM
      rw [e2]
      simp only [Option.bind_some]
      rw [if_pos (Pw.all (p := TV.ok1) (q := V.ok1) (fun _ _ h ho => Den.ok1 h ho) h2 ho)]
      match vs with
      | [] => rfl
      | [v] => rfl
      | v :: w :: r => rfl
    unfold runF
    rw [if_pos hlen, h1]
    rcases he with rfl | rfl
    · simp only [Option.bind_some, er]; rw [if_pos hf3.2.1]
    · simp only [Option.bind_some, er]; rw [if_pos hf3.2.1]
  cases e with
  | normal => exact fin hk (.inl rfl)
  | ret => exact fin hk (.inr rfl)
  | exit i => exact hk.elim
theorem Fr.take {m m2 : Am.Ms} {e : List Nat} (h : Fr ρ m (ρ ++ e) m2) : Fr ρ m ρ (m2.take m.length) ∧ (m2.take m.length).length = m.length := by
  obtain ⟨_, h2, h3⟩ := h
  have hl : (m2.take m.length).length = m.length := by rw [List.length_take]; omega
  exact ⟨⟨⟨[], by simp, by simp⟩, by omega, fun c hc hn => by rw [List.getElem?_take, if_pos hc]; exact h3 c hc hn⟩, hl⟩
theorem Mg.take {m m2 : Am.Ms} {e : List Nat} {M2 : Ms} (h0 : Mg ρ M m) (h : Mg (ρ ++ e) M2 m2) (hd : ∀ (i b : Nat) (cs : List TV) (cs' : List V), ρ[i]? = some b → M2[i]? = some cs → Pw (Den (ρ ++ e)) cs cs' → Pw (Den ρ) cs cs') : Mg ρ (M2.take M.length) (m2.take m.length) := by
  have hl := h.2.1
  have hl0 := h0.2.1
  rw [List.length_append] at hl
  refine ⟨h0.1, by rw [List.length_take]; omega, fun i b hi => ?_⟩
  obtain ⟨cs, cs', h1, h2, h3⟩ := h.2.2 i b (by rw [List.getElem?_append_left (zai hi)]; exact hi)
  have hlt := zai hi
  refine ⟨cs, cs', ?_, ?_, hd i b cs cs' hi h1 h3⟩
  · rw [List.getElem?_take, if_pos (by omega)]; exact h1
  · rw [List.getElem?_take, if_pos (h0.lt (List.mem_of_getElem? hi))]; exact h2
theorem za5 {T : Table} {f : Nat} {af : AFunc} (hf : T.code f = some af) {args : List TV} {r : TV} {M' : Ms} (hl : Nat.beq args.length af.np = true)
    (h : WP (RF T) af.body (znj 0 args) [] M fun e L B M1 => match e with
      | .exit _ => False
      | _ => resW af.results L B M1 fun vs M2 => vs.all TV.ok1 = true ∧ zni vs = r ∧ r.low2 = true ∧ M2.take M.length = M' ∧ zpK M' = true) : zan false (RF T) f args M r M' := by
  intro ρ m args' hm ha
  obtain ⟨vs, m2, ρ', ts, M2, h1, h2, h3, hfr, rfl, hr, rfl, hfl⟩ := zps hl h hm ha
  obtain ⟨e, rfl, _⟩ := hfr.1
  have hd := (zmg h2).lower hr ρ
  have ht : (zg8 vs).top2 = 0 := hd.low2 hr
  rw [if_pos (by omega)] at h1
  obtain ⟨hf1, hf2⟩ := hfr.take
  refine ⟨_, _, ρ, zpH hf h1, hd, hm.take h3 fun i b cs cs' hi hM hp => ?_, hf1, fun _ => hf2, fun hh => by cases hh⟩
  have hlt : i < M.length := by rw [← hm.2.1]; exact zai hi
  have hmem : cs ∈ M2.take M.length := List.mem_of_getElem? (i := i) (by rw [List.getElem?_take, if_pos hlt]; exact hM)
  have := List.all_eq_true.1 hfl cs hmem
  exact Pw.all_imp (p := TV.flat0) (fun _ _ h hf => .base (h.flat0 hf)) hp this
end
section
variable {cf : CF} {f : Nat} {args : List TV} {r : TV}
theorem zan.quiet (h : zan false cf f args [] r []) (hr : r.low2 = true) : zan true cf f args [] r [] := by
  intro ρ m args' hm ha
  obtain ⟨r', m', ρ', h1, h2, h3, h4, h5, _⟩ := h ρ m args' hm ha
  refine ⟨r', m', ρ', h1, h2, h3, h4, h5, fun _ => ?_⟩
  have hρ : ρ = [] := List.length_eq_zero_iff.1 hm.2.1
  subst hρ
  refine List.ext_getElem? fun i => ?_
  by_cases hi : i < m.length
  · exact h4.2.2 i hi (by simp)
  · rw [List.getElem?_eq_none (by rw [h5 hr]; omega), List.getElem?_eq_none (by omega)]
theorem zan.any {q : Bool} (h : zan true cf f args [] r []) (hr : r.low2 = true) (M : Ms) (ha : args.all TV.flat1 = true) : zan q cf f args M r M := by
  intro ρ m args' hm hd
  obtain ⟨r', m', ρ', h1, h2, _, _, _, h6⟩ := h [] m args' ⟨List.nodup_nil, rfl, fun i b hi => by simp at hi⟩ (Pw.all_imp (p := TV.flat1) (fun _ _ h hf => h.flat1 hf []) hd ha)
  have := h6 rfl
  subst this
  exact ⟨r', m', ρ, h1, h2.lower hr ρ, hm, .refl _ _, fun _ => rfl, fun _ => rfl⟩
def renT (π : List Nat) : TV → TV
  | .ptr i o => .ptr (π.getD i 0) o
  | t => t
def TV.argP : TV → Bool
  | .ptr j _ => Nat.beq j 0
  | t => t.flat1
theorem zan.sub {q : Bool} {i : Nat} {c c' : List TV} (h : zan q cf f args [c] r [c']) (hr : r.low2 = true) (M : Ms) (hi : M[i]? = some c) (ha : args.all TV.argP = true) (hc : c.all TV.flat0 = true) (hc' : c'.all TV.flat0 = true) : zan q cf f (args.map (renT [i])) M r (M.set i c') := by
  intro ρ m args' hm hd
  obtain ⟨b, cs', hb, hcs, hpw⟩ := hm.has hi
  have hm0 : Mg [b] [c] m := ⟨by simp, rfl, fun j d hj => by
    match j, hj with
    | 0, hj =>
      simp only [List.getElem?_cons_zero, Option.some.injEq] at hj
      subst hj
      exact ⟨c, cs', rfl, hcs, Pw.all_imp (p := TV.flat0) (fun _ _ h hf => .base (h.flat0 hf)) hpw hc⟩
    | j + 1, hj => simp at hj⟩
  have hargs : Pw (Den [b]) args args' := by
    clear h
    induction args generalizing args' with
    | nil => cases hd; exact .nil
    | cons t ts ih =>
      rw [List.map_cons] at hd
      simp only [List.all_cons, Bool.and_eq_true] at ha
      cases hd with
      | cons hd1 hd2 =>
        refine .cons ?_ (ih ha.2 _ hd2)
        have flat : ∀ {t : TV} {v : V}, Den ρ t v → t.flat1 = true → Den [b] t v := fun h hf => h.flat1 hf _
        cases t with
        | ptr j o =>
          have hj : j = 0 := Nat.eq_of_beq_eq_true ha.1
          subst hj
          obtain ⟨b2, rfl, hb2⟩ := Den.ptr_inv (show Den ρ (.ptr i o) _ from hd1)
          rw [hb] at hb2
          cases hb2
          exact .ptr o rfl
        | _ => exact flat hd1 ha.1
  obtain ⟨r', m', ρ', h1, h2, h3, h4, h5, h6⟩ := h [b] m args' hm0 hargs
  obtain ⟨⟨e, rfl, heb⟩, h7, h8⟩ := h4
  have he : e = [] := by
    have := h3.2.1
    simp only [List.length_append, List.length_cons, List.length_nil] at this
    exact List.length_eq_zero_iff.1 (by omega)
  subst he
  obtain ⟨d, d', g1, g2, g3⟩ := h3.2.2 0 b rfl
  simp only [List.getElem?_cons_zero, Option.some.injEq] at g1
  subst g1
  refine ⟨r', m', ρ, h1, h2.lower hr ρ, ⟨hm.1, by rw [List.length_set]; exact hm.2.1, fun j x hj => ?_⟩, ⟨⟨[], by simp, by simp⟩, h7, fun x hx hn => h8 x hx (fun hh => hn ?_)⟩, h5, h6⟩
  · obtain ⟨y, y', k1, k2, k3⟩ := hm.2.2 j x hj
    by_cases hij : i = j
    · subst hij
      rw [hb] at hj; cases hj
      exact ⟨_, d', List.getElem?_set_self (zai k1), g2, Pw.all_imp (p := TV.flat0) (fun _ _ h hf => .base (h.flat0 hf)) g3 hc'⟩
    · have hne : x ∉ [b] := fun hh => by
        rw [List.mem_singleton.1 hh] at hj
        exact hij (zjO hm.1 hb hj)
      exact ⟨y, y', by rw [List.getElem?_set_ne hij]; exact k1, by rw [h8 x (zai k2) hne]; exact k2, k3⟩
  · rw [List.mem_singleton.1 hh]; exact List.mem_of_getElem? hb
end
end Go.Proofs.YtakdnfneikbjjaaGreatDoor.Am.T

namespace Go.Proofs.YtakdnfneikbjjaaGreatDoor.Am.T
open Go.Proofs.YtakdnfneikbjjaaGreatDoor.Am
abbrev w64 (n : Int) : Int := IntKind.wrap .i64 n
def letB {α : Type} (b : Bool) (f : Bool → Option α) : Option α := f b
theorem zag {α : Type} {b c : Bool} {f : Bool → Option α} {r : α} (hc : b = c) (h : letB b f = some r) : f c = some r := by subst hc; exact h
theorem zab {α β : Type} {o : Option α} {f : α → Option β} {r : β} (h : o.bind f = some r) : ∃ x, o = some x ∧ f x = some r := Option.bind_eq_some_iff.1 h
theorem zaB {α : Type} {b : Bool} {x y : α} {r : α} (hb : b = true) (h : (bif b then x else y) = r) : x = r := by subst hb; exact h
theorem zaz {α : Type} {b : Bool} {x y : α} {r : α} (hb : b = false) (h : (bif b then x else y) = r) : y = r := by subst hb; exact h
def req (b : Bool) : Option Unit := bif b then some () else none
theorem znk {p : Prop} [Decidable p] {u : Unit} (h : req (decide p) = some u) : p := by
 unfold req at h
 cases hp : decide p with
 | true => exact of_decide_eq_true hp
 | false => rw [hp] at h; cases h
section
variable {α : Type}
def idx (l : List α) (i : Int) : Option α := if 0 ≤ i then l[i.toNat]? else none
theorem zef {l : List α} {i : Int} {x : α} (h : idx l i = some x) : 0 ≤ i := by
 unfold idx at h; split at h
 ·assumption
 ·cases h
theorem zoD {l : List α} {i : Int} {x : α} (h : idx l i = some x) : l[i.toNat]? = some x := by
 unfold idx at h; split at h
 ·exact h
 ·cases h
theorem zpt {l : List α} {i : Int} {x : α} (h : idx l i = some x) : i.toNat < l.length := zai (zoD h)
theorem zbe {l : List α} {i : Int} {x : α} (e : α → List TV) (h : idx l i = some x) : (l.map e)[i.toNat]? = some (e x) := by
 rw [List.getElem?_map, zoD h]; rfl
theorem zcu {l : List α} {i : Int} {x : α} (e : α → List TV) (h : idx l i = some x) : 0 ≤ i ∧ i.toNat < (l.map e).length := ⟨zef h, by rw [List.length_map]; exact zpt h⟩
def upI (l : List α) (i : Int) (x : α) : List α := l.set i.toNat x
theorem zhn {l : List α} {i : Int} {x : α} {e : α → List TV} {c : List TV} (h : e x = c) : (upI l i x).map e = (l.map e).set i.toNat c := by
 subst h; unfold upI; rw [List.map_set]
def app (a b : List α) : Option (List α) := if a.length + b.length ≤ most then some (a ++ b) else none
theorem zjX {a b y : List α} (e : α → List TV) (h : app a b = some y) : (a.map e).length + (b.map e).length ≤ most := by
 unfold app at h; split at h
 ·simpa using ‹_›
 ·cases h
theorem zjY {a b y : List α} (e : α → List TV) (h : app a b = some y) : y.map e = a.map e ++ b.map e := by
 unfold app at h; split at h
 ·cases h; exact List.map_append
 ·cases h
def subA (l : List α) (a : Int) : Option (List α) := if 0 ≤ a ∧ a ≤ l.length then some (l.drop a.toNat) else none
def subB (l : List α) (b : Int) : Option (List α) := if 0 ≤ b ∧ b ≤ l.length then some (l.take b.toNat) else none
theorem ziI {l y : List α} {a : Int} (h : subA l a = some y) : 0 ≤ a ∧ a ≤ l.length ∧ y = l.drop a.toNat := by
 unfold subA at h; split at h
 ·cases h; rename_i hh; exact ⟨hh.1, hh.2, rfl⟩
 ·cases h
theorem ziJ {l y : List α} {b : Int} (h : subB l b = some y) : 0 ≤ b ∧ b ≤ l.length ∧ y = l.take b.toNat := by
 unfold subB at h; split at h
 ·cases h; rename_i hh; exact ⟨hh.1, hh.2, rfl⟩
 ·cases h
theorem zpu {l y : List α} {a : Int} (h : subA l a = some y) : 0 ≤ a := (ziI h).1
theorem zo4 {l y : List α} {a : Int} (e : α → List TV) (h : subA l a = some y) : a.toNat ≤ (l.map e).length ∧ (l.map e).length ≤ (l.map e).length := by
 have := ziI h; rw [List.length_map]; omega
theorem zo5 {l y : List α} {a : Int} (e : α → List TV) (h : subA l a = some y) : y.map e = ((l.map e).drop a.toNat).take ((l.map e).length - a.toNat) := by
 obtain ⟨_, _, rfl⟩ := ziI h; rw [List.map_drop, List.take_of_length_le (by rw [List.length_drop]; omega)]
theorem zpv {l y : List α} {b : Int} (h : subB l b = some y) : 0 ≤ b := (ziJ h).1
theorem zo6 {l y : List α} {b : Int} (e : α → List TV) (h : subB l b = some y) : 0 ≤ b.toNat ∧ b.toNat ≤ (l.map e).length := by
 have := ziJ h; rw [List.length_map]; omega
theorem zo7 {l y : List α} {b : Int} (e : α → List TV) (h : subB l b = some y) : y.map e = ((l.map e).drop 0).take (b.toNat - 0) := by
 obtain ⟨_, _, rfl⟩ := ziJ h; rw [List.map_take]; rfl
def mkL (n c : Int) (z : α) : Option (List α) := if 0 ≤ n ∧ n ≤ c ∧ c ≤ most then some (List.replicate n.toNat z) else none
theorem zpw {n c : Int} {z : α} {y : List α} (h : mkL n c z = some y) : 0 ≤ n ∧ n ≤ c ∧ c ≤ (most : Int) := by
 unfold mkL at h; split at h
 ·assumption
 ·cases h
theorem zpx {n c : Int} {z : α} {y : List α} {e : α → List TV} {d : List TV} (hd : e z = d) (h : mkL n c z = some y) : y.map e = List.replicate n.toNat d := by
 subst hd
 unfold mkL at h; split at h
 ·cases h; rw [List.map_replicate]
 ·cases h
end
def ei64 (n : Int) : List TV := [.int .i64 n]
theorem zaQ {cf : CF} {L : Ts} {B : Bs} {M : Ms} {d : Bool} {os : List AOper} {K : Ts → Bs → Ms → Prop} (n : Nat)
  (h : WPO d cf (os.take n) L B M fun L1 B1 M1 => WPO d cf (os.drop n) L1 B1 M1 K) : WPO d cf os L B M K := by
 refine ⟨fun ρ st hr => ?_⟩
 obtain ⟨st1, e1, ρ1, L1, B1, M1, h1, hf1, hk⟩ := h.go ρ st hr
 obtain ⟨st2, e2, ρ2, L3, B3, M3, h4, hf2, hk⟩ := hk.go ρ1 st1 h1
 refine ⟨st2, ?_, ρ2, L3, B3, M3, h4, hf1.trans hf2, hk⟩
 rw [← List.take_append_drop n os]
 cases d with
 | false => simp only [Bool.false_eq_true, if_false] at e1 e2 ⊢; rw [zea, e1]; exact e2
 | true => simp only [if_true] at e1 e2 ⊢; rw [ze6, e1]; exact e2
end Go.Proofs.YtakdnfneikbjjaaGreatDoor.Am.T

namespace Go.Proofs.YtakdnfneikbjjaaGreatDoor.Am.T
variable {ρ : List Nat} {cf : CF} {f : Nat} {args : List TV} {M : Ms} {r : TV}
theorem zo8 (ρ : List Nat) (m : Am.Ms) : Fr ρ m ρ m := ⟨⟨[], (List.append_nil _).symm, fun _ h => by cases h⟩, Nat.le_refl _, fun _ _ _ => rfl⟩
theorem zan.pure (h : ∀ ρ m args', Pw (Den ρ) args args' → ∃ r', cf f args' m = some (r', m) ∧ Den ρ r r') : zan true cf f args M r M := fun ρ m a hM ha =>
 let ⟨r', e, hd⟩ := h ρ m a ha
 ⟨r', m, ρ, e, hd, hM, zo8 ρ m, fun _ => rfl, fun _ => rfl⟩
theorem zan.law {q : Bool} {b : Bool} {args' : List V} (h : zan q cf f args [] (.bool b) []) (ha : Pw (Den []) args args') : ∃ m', cf f args' [] = some (.bool b, m') := by
 obtain ⟨r', m', ρ', e, hd, _, _, _, _⟩ := h [] [] args' ⟨List.nodup_nil, rfl, fun i b h => by cases h⟩ ha
 cases hd with
 | base hd => cases hd; exact ⟨m', e⟩
theorem zpy {α β : Type} {R : α → β → Prop} {l : List β} (h : Pw R [] l) : l = [] := by cases h; rfl
end Go.Proofs.YtakdnfneikbjjaaGreatDoor.Am.T

set_option linter.all false
namespace Go.Proofs.YtakdnfneikbjjaaGreatDoor.Am.T
theorem zan.alive {cf : CF} {f : Nat} (h : ∀ m, cf f [] m = some (.bool true, m)) : zan true cf f [] [] (.bool true) [] :=
 zan.pure fun ρ m a ha => by
  rw [zpy ha]
  exact ⟨.bool true, h m, .base (.bool true)⟩
end Go.Proofs.YtakdnfneikbjjaaGreatDoor.Am.T

set_option linter.all false
namespace Go.Proofs.YtakdnfneikbjjaaGreatDoor.Am.T
variable {α : Type} {e : α → List TV} {cs : List α → List (List TV)}
theorem zgA (hm : ∀ l, cs l = l.map e) {l : List α} {i : Int} {x : α} (h : idx l i = some x) : (cs l)[i.toNat]? = some (e x) := by rw [hm]; exact zbe e h
theorem zof (hm : ∀ l, cs l = l.map e) {l y : List α} {a : Int} (h : subA l a = some y) : a.toNat ≤ (cs l).length ∧ (cs l).length ≤ (cs l).length := by rw [hm]; exact zo4 e h
theorem zog (hm : ∀ l, cs l = l.map e) {l y : List α} {a : Int} (h : subA l a = some y) : cs y = ((cs l).drop a.toNat).take ((cs l).length - a.toNat) := by rw [hm, hm]; exact zo5 e h
theorem lenR (hm : ∀ l, cs l = l.map e) {l : List α} : (cs l).length = l.length := by rw [hm, List.length_map]
end Go.Proofs.YtakdnfneikbjjaaGreatDoor.Am.T

set_option linter.all false
namespace Go.Proofs.YtakdnfneikbjjaaGreatDoor.Am.Lay10
open Go.Proofs.YtakdnfneikbjjaaGreatDoor.Am.T
noncomputable def zci : Option Bool := some true
theorem zeh {r : Bool} (h : zci = some r) : zan true (RF ET) 11 [] [] (.bool r) [] := by
 cases h
 exact zan.alive fun m => zpn rfl rfl
structure Size where
  Kind : Int
  N : Int
def Size.c (x : Size) : List TV := [.int .i64 x.Kind, .int .i64 x.N]
noncomputable def zcI (s_ : Size) : Option Int :=
  Option.bind (
    letB (decide (s_.Kind = 0)) fun c1 =>
    Option.bind (
      bif c1 then (
        some (.inl ()))
      else (
        letB (decide (s_.Kind = 1)) fun c3 =>
        (bif c3 then (
          letB (decide (s_.N ≥ 1)) fun c5 =>
          some (c5)) else some false).bind fun g4 =>
        (bif g4 then (
          letB (decide (s_.N ≤ 200)) fun c8 =>
          some (c8)) else some false).bind fun g7 =>
        Option.bind (
          bif g7 then (
            some (.inl ()))
          else (
            letB (decide (s_.Kind = 2)) fun c11 =>
            (bif c11 then (
              letB (decide (s_.N ≥ 1)) fun c13 =>
              some (c13)) else some false).bind fun g12 =>
            (bif g12 then (
              letB (decide (s_.N ≤ 100)) fun c16 =>
              some (c16)) else some false).bind fun g15 =>
            bif g15 then (
              some (.inl ()))
            else (
              some (.inr ()))) : Option (Unit ⊕ Unit)) fun j19 =>
        match j19 with
        | .inl z20 => (
          some (.inl ()))
        | .inr z21 => (
          some (.inr ()))) : Option (Unit ⊕ Unit)) fun j22 =>
    match j22 with
    | .inl z23 => (
      some (.inl ()))
    | .inr z24 => (
      some (.inr ())) : Option (Unit ⊕ Unit)) fun j25 =>
  match j25 with
  | .inl z26 => (
    some 0)
  | .inr z27 => (
    some 1)
set_option maxRecDepth 20000 in
theorem zeY {s_ : Size} {r : Int} (h : zcI s_ = some r) : zan true (RF ET) 58 [.agg (Size.c s_)] [] (.int .i64 r) [] := by
  refine zan.quiet (za5 (af := a58) rfl rfl ?_) rfl
  unfold zcI at h
  refine zaa ?_
  refine zac [1] [0] ?_
  refine zad ?_
  refine zaa ?_
  obtain ⟨j25, hj25, h⟩ := zab h
  refine zcx j25 (fun r => match r with | .inl z => (.normal, [], [(0, (Size.c s_))], []) | .inr z => (.ret, [(2, .int .i64 1)], [(0, (Size.c s_))], [])) (fun e => match e with | .normal => [] | .ret => [2] | _ => []) (fun e => match e with | .normal => [0] | .ret => [0] | _ => []) ?_ ?_
  · clear h
    replace h := hj25
    clear hj25
    refine zas ?_
    refine zaa ?_
    refine zac [1, 3] [0] ?_
    refine zad ?_
    refine fun c1 hc1 => ?_
    replace h := zag hc1 h
    obtain ⟨j22, hj22, h⟩ := zab h
    refine zcx j22 (fun r => match r with | .inl z => (.normal, [], [(0, (Size.c s_))], []) | .inr z => (.ret, [(2, .int .i64 1)], [(0, (Size.c s_))], [])) (fun e => match e with | .normal => [] | .ret => [2] | _ => []) (fun e => match e with | .normal => [0] | .ret => [0] | _ => []) ?_ ?_
    · clear h
      replace h := hj22
      clear hj22
      refine zam (b := c1) rfl (fun hb2 => ?_) (fun hb2 => ?_)
      · replace h := zaB hb2 h
        refine zat ?_
        cases h
        exact rfl
      · replace h := zaz hb2 h
        refine zaa ?_
        refine zac [1, 7] [0] ?_
        refine zaQ 4 ?_
        refine zad ?_
        refine fun c3 hc3 => ?_
        replace h := zag hc3 h
        obtain ⟨g4, hg4, h⟩ := zab h
        refine zbn 4 15 [1, 15] g4 ?_ ?_
        · clear h
          replace h := hg4
          clear hg4
          cases hb6 : c3 with
          | true =>
            replace h := zaB hb6 h
            refine zad ?_
            refine fun c5 hc5 => ?_
            replace h := zag hc5 h
            cases h
            exact ⟨rfl, rfl, rfl⟩
          | false =>
            replace h := zaz hb6 h
            cases h
            refine zad ?_
            exact ⟨rfl, rfl, rfl⟩
        refine zaQ 1 ?_
        refine zad ?_
        obtain ⟨g7, hg7, h⟩ := zab h
        refine zbn 4 20 [1, 20] g7 ?_ ?_
        · clear h
          replace h := hg7
          clear hg7
          cases hb9 : g4 with
          | true =>
            replace h := zaB hb9 h
            refine zad ?_
            refine fun c8 hc8 => ?_
            replace h := zag hc8 h
            cases h
            exact ⟨rfl, rfl, rfl⟩
          | false =>
            replace h := zaz hb9 h
            cases h
            refine zad ?_
            exact ⟨rfl, rfl, rfl⟩
        refine zad ?_
        obtain ⟨j19, hj19, h⟩ := zab h
        refine zcx j19 (fun r => match r with | .inl z => (.normal, [], [(0, (Size.c s_))], []) | .inr z => (.ret, [(2, .int .i64 1)], [(0, (Size.c s_))], [])) (fun e => match e with | .normal => [] | .ret => [2] | _ => []) (fun e => match e with | .normal => [0] | .ret => [0] | _ => []) ?_ ?_
        · clear h
          replace h := hj19
          clear hj19
          refine zam (b := g7) rfl (fun hb10 => ?_) (fun hb10 => ?_)
          · replace h := zaB hb10 h
            refine zat ?_
            cases h
            exact rfl
          · replace h := zaz hb10 h
            refine zaa ?_
            refine zac [21] [0] ?_
            refine zaQ 4 ?_
            refine zad ?_
            refine fun c11 hc11 => ?_
            replace h := zag hc11 h
            obtain ⟨g12, hg12, h⟩ := zab h
            refine zbn 4 29 [1, 29] g12 ?_ ?_
            · clear h
              replace h := hg12
              clear hg12
              cases hb14 : c11 with
              | true =>
                replace h := zaB hb14 h
                refine zad ?_
                refine fun c13 hc13 => ?_
                replace h := zag hc13 h
                cases h
                exact ⟨rfl, rfl, rfl⟩
              | false =>
                replace h := zaz hb14 h
                cases h
                refine zad ?_
                exact ⟨rfl, rfl, rfl⟩
            refine zaQ 1 ?_
            refine zad ?_
            obtain ⟨g15, hg15, h⟩ := zab h
            refine zbn 4 34 [34] g15 ?_ ?_
            · clear h
              replace h := hg15
              clear hg15
              cases hb17 : g12 with
              | true =>
                replace h := zaB hb17 h
                refine zad ?_
                refine fun c16 hc16 => ?_
                replace h := zag hc16 h
                cases h
                exact ⟨rfl, rfl, rfl⟩
              | false =>
                replace h := zaz hb17 h
                cases h
                refine zad ?_
                exact ⟨rfl, rfl, rfl⟩
            refine zad ?_
            refine zam (b := g15) rfl (fun hb18 => ?_) (fun hb18 => ?_)
            · replace h := zaB hb18 h
              refine zat ?_
              cases h
              exact rfl
            · replace h := zaz hb18 h
              refine zaa ?_
              refine zac [2] [0] ?_
              refine zad ?_
              refine zaD ?_
              cases h
              exact rfl
        rcases j19 with z20 | z21
        · cases h
          exact rfl
        · cases h
          exact rfl
    rcases j22 with z23 | z24
    · cases h
      exact rfl
    · cases h
      exact rfl
  rcases j25 with z26 | z27
  · refine zaa ?_
    refine zac [2] [0] ?_
    refine zad ?_
    refine zaD ?_
    cases h
    exact ⟨rfl, rfl, rfl, rfl, rfl⟩
  · cases h
    exact ⟨rfl, rfl, rfl, rfl, rfl⟩
structure Rect where
  X : Int
  Y : Int
  W : Int
  H : Int
def Rect.c (x : Rect) : List TV := [.int .i64 x.X, .int .i64 x.Y, .int .i64 x.W, .int .i64 x.H]
structure Plan where
  Kind : Int
  Size : Size
  Name : List Int
  Kids : List Plan
  Float : List Rect
mutual
def Plan.e' : Plan → List TV
  | ⟨a0, a1, a2, a3, a4⟩ => [.int .i64 a0, .int .i64 a1.Kind, .int .i64 a1.N, .str a2, .sl false 6 (Plan.cs a3), .sl false 4 (List.map Rect.c a4)]
def Plan.cs : List Plan → List (List TV)
  | [] => []
  | x :: l => Plan.e' x :: Plan.cs l
end
def Plan.e (x : Plan) : List TV := [.int .i64 x.Kind, .int .i64 x.Size.Kind, .int .i64 x.Size.N, .str x.Name, .sl false 6 (Plan.cs x.Kids), .sl false 4 (List.map Rect.c x.Float)]
theorem Plan.e_is (x : Plan) : Plan.e' x = Plan.e x := by
  cases x; simp only [Plan.e', Plan.e]
theorem Plan.cs_is : ∀ l : List Plan, Plan.cs l = l.map Plan.e
  | [] => rfl
  | x :: l => by rw [Plan.cs, Plan.e_is, Plan.cs_is l]; rfl
def Plan.c (x : Plan) : List TV := [.int .i64 x.Kind, .int .i64 x.Size.Kind, .int .i64 x.Size.N, .str x.Name, .sl true 6 (Plan.cs x.Kids), .sl false 4 (List.map Rect.c x.Float)]
noncomputable def layout_measureF_l1 (p : Plan) (deep : Int) (rec34 : Plan → Int → Int → Option (Bool × Int)) (t47 : Int) (leaves' : Int) : Option ((Int × Int) ⊕ ((Plan × Int) ⊕ Int)) :=
  letB (decide (t47 < (p.Kids.length : Int))) fun c29 =>
  bif c29 then (
    (idx p.Kids t47).bind fun x31 =>
    letB (decide (p.Kind = 4)) fun c32 =>
    (bif c32 then (
      letB (decide (x31.Kind ≠ 1)) fun c34 =>
      some (c34)) else some false).bind fun g33 =>
    bif g33 then (
      bif true then (
        some (.inr (.inl (x31, leaves'))))
      else (
        some (.inl (w64 (t47 + 1), leaves'))))
    else (
      (rec34 x31 (w64 (deep + 1)) leaves').bind fun y37 =>
      bif (!y37.1) then (
        some (.inr (.inl (x31, y37.2))))
      else (
        some (.inl (w64 (t47 + 1), y37.2)))))
  else (
    some (.inr (.inr leaves')))
noncomputable def zbo (rec34 : Plan → Int → Int → Option (Bool × Int)) (p : Plan) (deep : Int) (leaves : Int) : Option (Bool × Int) :=
  letB (decide (deep > 12)) fun c1 =>
  (bif c1 then some true else (
    (zcI p.Size).bind fun y3 =>
    letB (decide (y3 ≠ 0)) fun c4 =>
    some (c4))).bind fun g2 =>
  bif g2 then (
    some (false, leaves))
  else (
    Option.bind (
      letB (decide (p.Kind = 1)) fun c7 =>
      Option.bind (
        bif c7 then (
          letB (decide ((w64 (leaves + 1)) ≤ 24)) fun c9 =>
          some (.inr (c9, w64 (leaves + 1))))
        else (
          letB (decide (p.Kind = 2)) fun c10 =>
          Option.bind (
            bif c10 then (
              some (c10))
            else (
              letB (decide (p.Kind = 3)) fun c12 =>
              Option.bind (
                bif c12 then (
                  some (c12))
                else (
                  letB (decide (p.Kind = 4)) fun c14 =>
                  some (c14)) : Option Bool) fun j15 =>
              some (j15)) : Option Bool) fun j16 =>
          bif j16 then (
            some (.inl ()))
          else (
            some (.inr (false, leaves)))) : Option (Unit ⊕ (Bool × Int))) fun j18 =>
      match j18 with
      | .inl z19 => (
        some (.inl ()))
      | .inr z20 => (
        some (.inr (z20.1, z20.2))) : Option (Unit ⊕ (Bool × Int))) fun j21 =>
    match j21 with
    | .inl z22 => (
      letB (decide ((p.Kids.length : Int) < 1)) fun c24 =>
      (bif c24 then some true else (
        letB (decide ((p.Kids.length : Int) > 16)) fun c26 =>
        some (c26))).bind fun g25 =>
      bif g25 then (
        some (false, leaves))
      else (
        (iter (fun s => layout_measureF_l1 p deep rec34 s.1 s.2 : (Int × Int) → Option ((Int × Int) ⊕ ((Plan × Int) ⊕ Int))) (0, leaves)).bind fun j40 =>
        match j40 with
        | .inl z41 => (
          some (false, z41.2))
        | .inr z42 => (
          some (true, z42))))
    | .inr z23 => (
      some (z23.1, z23.2)))
set_option maxRecDepth 20000 in
theorem zfy {rec34 : Plan → Int → Int → Option (Bool × Int)} (rec34_ok : ∀ (a0 : Plan) (a1 : Int) (a2 : Int) (r : Bool × Int), rec34 a0 a1 a2 = some r → zan false (RF ET) 34 [.agg (Plan.e a0), .int .i64 a1, .ptr 0 0] [[.int .i64 a2]] (.bool r.1) [[.int .i64 r.2]]) {p : Plan} {deep : Int} {leaves : Int} {r : Bool × Int} (h : zbo rec34 p deep leaves = some r) : zan false (RF ET) 34 [.agg (Plan.e p), .int .i64 deep, .ptr 0 0] [[.int .i64 leaves]] (.bool r.1) [[.int .i64 r.2]] := by
  refine za5 (af := a34) rfl rfl ?_
  unfold zbo at h
  refine zaa ?_
  refine zac [1, 2, 3] [0] ?_
  refine zad ?_
  refine zaa ?_
  refine zaa ?_
  refine zac [1, 2, 3, 16] [0] ?_
  refine zaQ 3 ?_
  refine zad ?_
  refine fun c1 hc1 => ?_
  replace h := zag hc1 h
  obtain ⟨g2, hg2, h⟩ := zab h
  refine zbn 5 16 [1, 2, 3, 16] g2 ?_ ?_
  · clear h
    replace h := hg2
    clear hg2
    cases hb5 : c1 with
    | false =>
      replace h := zaz hb5 h
      refine zad ?_
      obtain ⟨y3, hy3, h⟩ := zab h
      refine ⟨_, zeY hy3, ?_⟩
      refine fun c4 hc4 => ?_
      replace h := zag hc4 h
      cases h
      exact ⟨rfl, rfl, rfl⟩
    | true =>
      replace h := zaB hb5 h
      cases h
      refine zad ?_
      exact ⟨rfl, rfl, rfl⟩
  refine zad ?_
  refine zam (b := g2) rfl (fun hb6 => ?_) (fun hb6 => ?_)
  · replace h := zaB hb6 h
    refine zaa ?_
    refine zac [6] [0] ?_
    refine zad ?_
    refine zaD ?_
    cases h
    exact ⟨rfl, rfl, rfl, rfl, rfl⟩
  · replace h := zaz hb6 h
    refine zat ?_
    refine zaa ?_
    refine zaa ?_
    refine zac [1, 2, 3, 18] [0] ?_
    refine zad ?_
    obtain ⟨j21, hj21, h⟩ := zab h
    refine zcx j21 (fun r => match r with | .inl z => (.normal, [(1, .int .i64 deep), (2, .ptr 0 0), (3, .loc 0 0)], [(0, (Plan.e p))], [[.int .i64 leaves]]) | .inr z => (.ret, [(6, .bool z.1)], [(0, (Plan.e p))], [[.int .i64 z.2]])) (fun e => match e with | .normal => [1, 2, 3] | .ret => [6] | _ => []) (fun e => match e with | .normal => [0] | .ret => [0] | _ => []) ?_ ?_
    · clear h
      replace h := hj21
      clear hj21
      refine zas ?_
      refine zaa ?_
      refine zac [1, 2, 3, 18, 19] [0] ?_
      refine zad ?_
      refine fun c7 hc7 => ?_
      replace h := zag hc7 h
      obtain ⟨j18, hj18, h⟩ := zab h
      refine zcx j18 (fun r => match r with | .inl z => (.normal, [(1, .int .i64 deep), (2, .ptr 0 0), (3, .loc 0 0)], [(0, (Plan.e p))], [[.int .i64 leaves]]) | .inr z => (.ret, [(6, .bool z.1)], [(0, (Plan.e p))], [[.int .i64 z.2]])) (fun e => match e with | .normal => [1, 2, 3] | .ret => [6] | _ => []) (fun e => match e with | .normal => [0] | .ret => [0] | _ => []) ?_ ?_
      · clear h
        replace h := hj18
        clear hj18
        refine zam (b := c7) rfl (fun hb8 => ?_) (fun hb8 => ?_)
        · replace h := zaB hb8 h
          refine zaa ?_
          refine zac [2] [0] ?_
          refine zad ?_
          refine zaa ?_
          refine zac [6] [0] ?_
          refine zad ?_
          refine fun c9 hc9 => ?_
          replace h := zag hc9 h
          refine zaD ?_
          cases h
          exact rfl
        · replace h := zaz hb8 h
          refine zaa ?_
          refine zaa ?_
          refine zac [1, 2, 3, 18, 30] [0] ?_
          refine zad ?_
          refine fun c10 hc10 => ?_
          replace h := zag hc10 h
          obtain ⟨j16, hj16, h⟩ := zab h
          refine zcx j16 (fun z => (.normal, [(1, .int .i64 deep), (2, .ptr 0 0), (3, .loc 0 0), (30, .bool z)], [(0, (Plan.e p))], [[.int .i64 leaves]])) (fun _ => [1, 2, 3, 30]) (fun _ => [0]) ?_ ?_
          · clear h
            replace h := hj16
            clear hj16
            refine zam (b := c10) rfl (fun hb11 => ?_) (fun hb11 => ?_)
            · replace h := zaB hb11 h
              refine zat ?_
              cases h
              exact rfl
            · replace h := zaz hb11 h
              refine zaa ?_
              refine zac [1, 2, 3, 18, 30] [0] ?_
              refine zad ?_
              refine fun c12 hc12 => ?_
              replace h := zag hc12 h
              obtain ⟨j15, hj15, h⟩ := zab h
              refine zcx j15 (fun z => (.normal, [(1, .int .i64 deep), (2, .ptr 0 0), (3, .loc 0 0), (30, .bool z)], [(0, (Plan.e p))], [[.int .i64 leaves]])) (fun _ => [1, 2, 3, 30]) (fun _ => [0]) ?_ ?_
              · clear h
                replace h := hj15
                clear hj15
                refine zam (b := c12) rfl (fun hb13 => ?_) (fun hb13 => ?_)
                · replace h := zaB hb13 h
                  refine zat ?_
                  cases h
                  exact rfl
                · replace h := zaz hb13 h
                  refine zac [1, 2, 3, 30] [0] ?_
                  refine zad ?_
                  refine fun c14 hc14 => ?_
                  replace h := zag hc14 h
                  cases h
                  exact rfl
              cases h
              exact rfl
          refine zam (b := j16) rfl (fun hb17 => ?_) (fun hb17 => ?_)
          · replace h := zaB hb17 h
            refine zat ?_
            cases h
            exact rfl
          · replace h := zaz hb17 h
            refine zaa ?_
            refine zac [6] [0] ?_
            refine zad ?_
            refine zaD ?_
            cases h
            exact rfl
      rcases j18 with z19 | z20
      · cases h
        exact rfl
      · cases h
        exact rfl
    rcases j21 with z22 | z23
    · refine zaa ?_
      refine zaa ?_
      refine zac [1, 2, 3, 43] [0] ?_
      refine zaQ 5 ?_
      refine zad ?_
      refine ⟨_, (lenR Plan.cs_is).symm, ?_⟩
      refine fun c24 hc24 => ?_
      replace h := zag hc24 h
      obtain ⟨g25, hg25, h⟩ := zab h
      refine zbn 5 43 [1, 2, 3, 43] g25 ?_ ?_
      · clear h
        replace h := hg25
        clear hg25
        cases hb27 : c24 with
        | false =>
          replace h := zaz hb27 h
          refine zad ?_
          refine ⟨_, (lenR Plan.cs_is).symm, ?_⟩
          refine fun c26 hc26 => ?_
          replace h := zag hc26 h
          cases h
          exact ⟨rfl, rfl, rfl⟩
        | true =>
          replace h := zaB hb27 h
          cases h
          refine zad ?_
          exact ⟨rfl, rfl, rfl⟩
      refine zad ?_
      refine zam (b := g25) rfl (fun hb28 => ?_) (fun hb28 => ?_)
      · replace h := zaB hb28 h
        refine zaa ?_
        refine zac [6] [0] ?_
        refine zad ?_
        refine zaD ?_
        cases h
        exact ⟨rfl, rfl, rfl, rfl, rfl⟩
      · replace h := zaz hb28 h
        refine zat ?_
        refine zaa ?_
        refine zaa ?_
        refine zac [1, 2, 3, 45, 46, 47] [0] ?_
        refine zad ?_
        refine ⟨_, (lenR Plan.cs_is).symm, ?_⟩
        refine zas ?_
        obtain ⟨j40, hj40, h⟩ := zab h
        refine zch hj40 [0] (fun s => ([(1, .int .i64 deep), (2, .ptr 0 0), (3, .loc 0 0), (45, .sl false 6 (Plan.cs p.Kids)), (46, .int .i64 (p.Kids.length : Int)), (47, .int .i64 s.1)], [(0, (Plan.e p))], [[.int .i64 s.2]])) (fun e => match e with | .ret => [6] | .exit 1 => [] | _ => []) (fun e => match e with | .ret => [0, 1] | .exit 1 => [0] | _ => []) (fun r => match r with | .inl z => (.ret, [(6, .bool false)], [(0, (Plan.e p)), (1, (Plan.e z.1))], [[.int .i64 z.2]]) | .inr z => (.exit 1, [], [(0, (Plan.e p))], [[.int .i64 z]])) ?_ ?_ ?_
        · exact rfl
        · clear h
          rintro ⟨t47, leaves'⟩ x h
          replace h : layout_measureF_l1 p deep rec34 t47 leaves' = some x := h
          unfold layout_measureF_l1 at h
          show T.WP _ _ [(1, .int .i64 deep), (2, .ptr 0 0), (3, .loc 0 0), (45, .sl false 6 (Plan.cs p.Kids)), (46, .int .i64 (p.Kids.length : Int)), (47, .int .i64 t47)] [(0, (Plan.e p))] [[.int .i64 leaves']] _
          refine zaa ?_
          refine zac [1, 2, 3, 45, 46, 47, 48] [0] ?_
          refine zad ?_
          refine fun c29 hc29 => ?_
          replace h := zag hc29 h
          refine zaa ?_
          refine zam (b := c29) rfl (fun hb30 => ?_) (fun hb30 => ?_)
          · replace h := zaB hb30 h
            refine zat ?_
            refine zaa ?_
            refine zas ?_
            refine zaa ?_
            refine zac [1, 2, 3, 8, 45, 46, 47] [0, 1] ?_
            refine zad ?_
            obtain ⟨x31, hx31, h⟩ := zab h
            refine And.intro (zef hx31) ⟨_, zgA Plan.cs_is hx31, ?_⟩
            refine ⟨.sl true 6 [], .sl _ _, ?_⟩
            refine ⟨.sl false 4 [], .sl _ _, ?_⟩
            refine zaa ?_
            refine zac [1, 2, 3, 45, 46, 47, 60, 61, 62, 63, 64, 65, 66] [0, 1] ?_
            refine zaQ 4 ?_
            refine zad ?_
            refine fun c32 hc32 => ?_
            replace h := zag hc32 h
            obtain ⟨g33, hg33, h⟩ := zab h
            refine zbn 4 58 [1, 2, 3, 8, 45, 46, 47, 58] g33 ?_ ?_
            · clear h
              replace h := hg33
              clear hg33
              cases hb35 : c32 with
              | true =>
                replace h := zaB hb35 h
                refine zad ?_
                refine fun c34 hc34 => ?_
                replace h := zag hc34 h
                cases h
                exact ⟨rfl, rfl, rfl⟩
              | false =>
                replace h := zaz hb35 h
                cases h
                refine zad ?_
                exact ⟨rfl, rfl, rfl⟩
            refine zad ?_
            cases hb36 : g33 with
            | true =>
              replace h := zaB hb36 h
              refine zam (b := true) rfl (fun hb39 => ?_) (fun hb39 => ?_)
              · replace h := zaB hb39 h
                refine zaa ?_
                refine zac [6] [0, 1] ?_
                refine zad ?_
                refine zaD ?_
                cases h
                exact ⟨_, rfl, rfl⟩
              · replace h := zaz hb39 h
                refine zat ?_
                refine zac [1, 2, 3, 45, 46, 47, 60, 61, 62, 63, 64, 65] [0, 1] ?_
                refine zad ?_
                cases h
                exact ⟨_, rfl, rfl⟩
            | false =>
              replace h := zaz hb36 h
              obtain ⟨y37, hy37, h⟩ := zab h
              refine ⟨_, _, zan.sub (i := 0) (rec34_ok _ _ _ _ hy37) rfl _ rfl rfl rfl rfl, ?_⟩
              refine zam (b := (!y37.1)) rfl (fun hb38 => ?_) (fun hb38 => ?_)
              · replace h := zaB hb38 h
                refine zaa ?_
                refine zac [6] [0, 1] ?_
                refine zad ?_
                refine zaD ?_
                cases h
                exact ⟨_, rfl, rfl⟩
              · replace h := zaz hb38 h
                refine zat ?_
                refine zac [1, 2, 3, 45, 46, 47, 61, 62, 63, 64, 65] [0, 1] ?_
                refine zad ?_
                cases h
                exact ⟨_, rfl, rfl⟩
          · replace h := zaz hb30 h
            refine zb1 ?_
            cases h
            exact ⟨_, rfl, rfl⟩
        rcases j40 with z41 | z42
        · cases h
          exact ⟨rfl, rfl, rfl, rfl, rfl⟩
        · refine zaa ?_
          refine zac [6] [0] ?_
          refine zad ?_
          refine zaD ?_
          cases h
          exact ⟨rfl, rfl, rfl, rfl, rfl⟩
    · cases h
      exact ⟨rfl, rfl, rfl, rfl, rfl⟩
noncomputable def zbp : Nat → (Plan → Int → Int → Option (Bool × Int))
  | 0 => fun _ _ _ => none
  | k + 1 => zbo ((zbp k))
theorem zdx : ∀ k, (∀ (a0 : Plan) (a1 : Int) (a2 : Int) (r : Bool × Int), ((zbp k)) a0 a1 a2 = some r → zan false (RF ET) 34 [.agg (Plan.e a0), .int .i64 a1, .ptr 0 0] [[.int .i64 a2]] (.bool r.1) [[.int .i64 r.2]])
  | 0 => (fun _ _ _ _ h => by cases h)
  | k + 1 => (fun _ _ _ _ h => zfy ((zdx k)) h)
noncomputable def zb6 (a0 : Plan) (a1 : Int) (a2 : Int) : Option (Bool × Int) := (zbp 30) a0 a1 a2
theorem zdO {a0 : Plan} {a1 : Int} {a2 : Int} {r : Bool × Int} (h : zb6 a0 a1 a2 = some r) : zan false (RF ET) 34 [.agg (Plan.e a0), .int .i64 a1, .ptr 0 0] [[.int .i64 a2]] (.bool r.1) [[.int .i64 r.2]] := (zdx 30) a0 a1 a2 r h
noncomputable def zcr (p : Plan) : Option Int :=
  (zb6 p 1 0).bind fun y1 =>
  (bif (!y1.1) then some true else (
    letB (decide ((p.Float.length : Int) > (w64 (24 - y1.2)))) fun c3 =>
    some (c3))).bind fun g2 =>
  bif g2 then (
    some 100)
  else (
    some 0)
set_option maxRecDepth 20000 in
theorem zeB {p : Plan} {r : Int} (h : zcr p = some r) : zan true (RF ET) 15 [.agg (Plan.e p)] [] (.int .i64 r) [] := by
  refine zan.quiet (za5 (af := a15) rfl rfl ?_) rfl
  unfold zcr at h
  refine zaa ?_
  refine zac [1] [0] ?_
  refine zad ?_
  refine zaa ?_
  refine zac [1, 3] [0] ?_
  refine zad ?_
  refine zaa ?_
  refine zaa ?_
  refine zac [14] [0] ?_
  refine zaQ 4 ?_
  refine zad ?_
  obtain ⟨y1, hy1, h⟩ := zab h
  refine ⟨_, _, zan.sub (i := 0) (zdO hy1) rfl _ rfl rfl rfl rfl, ?_⟩
  obtain ⟨g2, hg2, h⟩ := zab h
  refine zbn 7 14 [14] g2 ?_ ?_
  · clear h
    replace h := hg2
    clear hg2
    cases hb4 : (!y1.1) with
    | false =>
      replace h := zaz hb4 h
      refine zad ?_
      refine ⟨_, (List.length_map ..).symm, ?_⟩
      refine fun c3 hc3 => ?_
      replace h := zag hc3 h
      cases h
      exact ⟨rfl, rfl, rfl⟩
    | true =>
      replace h := zaB hb4 h
      cases h
      refine zad ?_
      exact ⟨rfl, rfl, rfl⟩
  refine zad ?_
  refine zam (b := g2) rfl (fun hb5 => ?_) (fun hb5 => ?_)
  · replace h := zaB hb5 h
    refine zaa ?_
    refine zac [2] [0] ?_
    refine zad ?_
    refine zaD ?_
    cases h
    exact ⟨rfl, rfl, rfl, rfl, rfl⟩
  · replace h := zaz hb5 h
    refine zat ?_
    refine zaa ?_
    refine zac [2] [0] ?_
    refine zad ?_
    refine zaD ?_
    cases h
    exact ⟨rfl, rfl, rfl, rfl, rfl⟩
noncomputable def zbk (n : Int) (lo : Int) (hi : Int) : Option Int :=
  some (max lo (min n hi))
set_option maxRecDepth 20000 in
theorem zbz {n : Int} {lo : Int} {hi : Int} {r : Int} (h : zbk n lo hi = some r) : zan true (RF ET) 55 [.int .i64 n, .int .i64 lo, .int .i64 hi] [] (.int .i64 r) [] := by
  refine zan.quiet (za5 (af := a55) rfl rfl ?_) rfl
  unfold zbk at h
  refine zaa ?_
  refine zac [0, 1, 2] [] ?_
  refine zad ?_
  refine zaa ?_
  refine zac [6] [] ?_
  refine zad ?_
  refine zaD ?_
  cases h
  exact ⟨rfl, rfl, rfl, rfl, rfl⟩
noncomputable def zaE (r_ : Rect) : Option Rect :=
  (zbk r_.X (-5000) 5000).bind fun y1 =>
  (zbk r_.Y (-5000) 5000).bind fun y2 =>
  (zbk r_.W 0 (min 200 (w64 (5000 - y1)))).bind fun y3 =>
  (zbk r_.H 0 (min 200 (w64 (5000 - y2)))).bind fun y4 =>
  letB (decide (y3 = 0)) fun c5 =>
  (bif c5 then some true else (
    letB (decide (y4 = 0)) fun c7 =>
    some (c7))).bind fun g6 =>
  bif g6 then (
    some (Rect.mk 0 0 0 0))
  else (
    some (Rect.mk y1 y2 y3 y4))
set_option maxRecDepth 20000 in
theorem zau {r_ : Rect} {r : Rect} (h : zaE r_ = some r) : zan true (RF ET) 25 [.agg (Rect.c r_)] [] (.agg (Rect.c r)) [] := by
  refine zan.quiet (za5 (af := a25) rfl rfl ?_) rfl
  unfold zaE at h
  refine zaa ?_
  refine zac [1, 2] [0, 1] ?_
  refine zad ?_
  refine zaa ?_
  refine zac [1, 2] [0, 1] ?_
  refine zeg ?_
  obtain ⟨y1, hy1, h⟩ := zab h
  refine ⟨_, zbz hy1, ?_⟩
  obtain ⟨y2, hy2, h⟩ := zab h
  refine ⟨_, zbz hy2, ?_⟩
  refine zaa ?_
  refine zac [1, 2] [0, 1] ?_
  refine zeg ?_
  obtain ⟨y3, hy3, h⟩ := zab h
  refine ⟨_, zbz hy3, ?_⟩
  obtain ⟨y4, hy4, h⟩ := zab h
  refine ⟨_, zbz hy4, ?_⟩
  refine zaa ?_
  refine zaa ?_
  refine zac [1, 2, 34] [0, 1] ?_
  refine zaQ 4 ?_
  refine zad ?_
  refine fun c5 hc5 => ?_
  replace h := zag hc5 h
  obtain ⟨g6, hg6, h⟩ := zab h
  refine zbn 4 34 [1, 2, 34] g6 ?_ ?_
  · clear h
    replace h := hg6
    clear hg6
    cases hb8 : c5 with
    | false =>
      replace h := zaz hb8 h
      refine zad ?_
      refine fun c7 hc7 => ?_
      replace h := zag hc7 h
      cases h
      exact ⟨rfl, rfl, rfl⟩
    | true =>
      replace h := zaB hb8 h
      cases h
      refine zad ?_
      exact ⟨rfl, rfl, rfl⟩
  refine zad ?_
  refine zam (b := g6) rfl (fun hb9 => ?_) (fun hb9 => ?_)
  · replace h := zaB hb9 h
    refine zaa ?_
    refine zac [2] [0, 1] ?_
    refine zad ?_
    refine zaD ?_
    cases h
    exact ⟨rfl, rfl, rfl, rfl, rfl⟩
  · replace h := zaz hb9 h
    refine zat ?_
    refine zaa ?_
    refine zac [2] [0, 1] ?_
    refine zad ?_
    refine zaD ?_
    cases h
    exact ⟨rfl, rfl, rfl, rfl, rfl⟩
noncomputable def zeL (a : Int) (b : Int) : Option Int :=
  letB (decide (a > 0)) fun c1 =>
  (bif c1 then (
    letB (decide (b > 0)) fun c3 =>
    some (c3)) else some false).bind fun g2 =>
  (bif g2 then (
    letB (decide ((w64 (a + b)) < 0)) fun c6 =>
    some (c6)) else some false).bind fun g5 =>
  bif g5 then (
    some 9223372036854775807)
  else (
    letB (decide (a < 0)) fun c9 =>
    (bif c9 then (
      letB (decide (b < 0)) fun c11 =>
      some (c11)) else some false).bind fun g10 =>
    (bif g10 then (
      letB (decide ((w64 (a + b)) ≥ 0)) fun c14 =>
      some (c14)) else some false).bind fun g13 =>
    bif g13 then (
      some (-9223372036854775808))
    else (
      some (w64 (a + b))))
set_option maxRecDepth 20000 in
theorem zho {a : Int} {b : Int} {r : Int} (h : zeL a b = some r) : zan true (RF ET) 60 [.int .i64 a, .int .i64 b] [] (.int .i64 r) [] := by
  refine zan.quiet (za5 (af := a60) rfl rfl ?_) rfl
  unfold zeL at h
  refine zaa ?_
  refine zac [0, 1] [] ?_
  refine zad ?_
  refine zaa ?_
  refine zac [0, 1, 5] [] ?_
  refine zad ?_
  refine zas ?_
  refine zaa ?_
  refine zac [0, 1, 5, 10] [] ?_
  refine zaQ 3 ?_
  refine zad ?_
  refine fun c1 hc1 => ?_
  replace h := zag hc1 h
  obtain ⟨g2, hg2, h⟩ := zab h
  refine zbn 3 16 [0, 1, 5, 16] g2 ?_ ?_
  · clear h
    replace h := hg2
    clear hg2
    cases hb4 : c1 with
    | true =>
      replace h := zaB hb4 h
      refine zad ?_
      refine fun c3 hc3 => ?_
      replace h := zag hc3 h
      cases h
      exact ⟨rfl, rfl, rfl⟩
    | false =>
      replace h := zaz hb4 h
      cases h
      refine zad ?_
      exact ⟨rfl, rfl, rfl⟩
  refine zaQ 1 ?_
  refine zad ?_
  obtain ⟨g5, hg5, h⟩ := zab h
  refine zbn 3 20 [0, 1, 5, 20] g5 ?_ ?_
  · clear h
    replace h := hg5
    clear hg5
    cases hb7 : g2 with
    | true =>
      replace h := zaB hb7 h
      refine zad ?_
      refine fun c6 hc6 => ?_
      replace h := zag hc6 h
      cases h
      exact ⟨rfl, rfl, rfl⟩
    | false =>
      replace h := zaz hb7 h
      cases h
      refine zad ?_
      exact ⟨rfl, rfl, rfl⟩
  refine zad ?_
  refine zam (b := g5) rfl (fun hb8 => ?_) (fun hb8 => ?_)
  · replace h := zaB hb8 h
    refine zaa ?_
    refine zac [4] [] ?_
    refine zad ?_
    refine zaD ?_
    cases h
    exact ⟨rfl, rfl, rfl, rfl, rfl⟩
  · replace h := zaz hb8 h
    refine zaa ?_
    refine zac [5, 21] [] ?_
    refine zaQ 3 ?_
    refine zad ?_
    refine fun c9 hc9 => ?_
    replace h := zag hc9 h
    obtain ⟨g10, hg10, h⟩ := zab h
    refine zbn 3 27 [5, 27] g10 ?_ ?_
    · clear h
      replace h := hg10
      clear hg10
      cases hb12 : c9 with
      | true =>
        replace h := zaB hb12 h
        refine zad ?_
        refine fun c11 hc11 => ?_
        replace h := zag hc11 h
        cases h
        exact ⟨rfl, rfl, rfl⟩
      | false =>
        replace h := zaz hb12 h
        cases h
        refine zad ?_
        exact ⟨rfl, rfl, rfl⟩
    refine zaQ 1 ?_
    refine zad ?_
    obtain ⟨g13, hg13, h⟩ := zab h
    refine zbn 3 31 [5, 31] g13 ?_ ?_
    · clear h
      replace h := hg13
      clear hg13
      cases hb15 : g10 with
      | true =>
        replace h := zaB hb15 h
        refine zad ?_
        refine fun c14 hc14 => ?_
        replace h := zag hc14 h
        cases h
        exact ⟨rfl, rfl, rfl⟩
      | false =>
        replace h := zaz hb15 h
        cases h
        refine zad ?_
        exact ⟨rfl, rfl, rfl⟩
    refine zad ?_
    refine zam (b := g13) rfl (fun hb16 => ?_) (fun hb16 => ?_)
    · replace h := zaB hb16 h
      refine zaa ?_
      refine zac [4] [] ?_
      refine zad ?_
      refine zaD ?_
      cases h
      exact ⟨rfl, rfl, rfl, rfl, rfl⟩
    · replace h := zaz hb16 h
      refine zaa ?_
      refine zac [4] [] ?_
      refine zad ?_
      refine zaD ?_
      cases h
      exact ⟨rfl, rfl, rfl, rfl, rfl⟩
noncomputable def zdP (r_ : Rect) (dx : Int) (dy : Int) : Option Rect :=
  (zaE r_).bind fun y1 =>
  (zeL y1.X dx).bind fun y2 =>
  (zeL y1.Y dy).bind fun y3 =>
  (zaE ({ y1 with X := y2, Y := y3 })).bind fun y4 =>
  some y4
set_option maxRecDepth 20000 in
theorem ziK {r_ : Rect} {dx : Int} {dy : Int} {r : Rect} (h : zdP r_ dx dy = some r) : zan true (RF ET) 28 [.agg (Rect.c r_), .int .i64 dx, .int .i64 dy] [] (.agg (Rect.c r)) [] := by
  refine zan.quiet (za5 (af := a28) rfl rfl ?_) rfl
  unfold zdP at h
  refine zaa ?_
  refine zac [1, 2, 3, 6] [0, 1] ?_
  refine zad ?_
  refine zaa ?_
  refine zac [1, 2, 3, 6] [0, 1] ?_
  refine zad ?_
  obtain ⟨y1, hy1, h⟩ := zab h
  refine ⟨_, zau hy1, ?_⟩
  refine zaa ?_
  refine zac [3, 6] [0, 1] ?_
  refine zeg ?_
  obtain ⟨y2, hy2, h⟩ := zab h
  refine ⟨_, zho hy2, ?_⟩
  obtain ⟨y3, hy3, h⟩ := zab h
  refine ⟨_, zho hy3, ?_⟩
  refine zaa ?_
  refine zac [6] [0, 1] ?_
  refine zad ?_
  obtain ⟨y4, hy4, h⟩ := zab h
  refine ⟨_, zau hy4, ?_⟩
  refine zaD ?_
  cases h
  exact ⟨rfl, rfl, rfl, rfl, rfl⟩
structure Spot where
  Pane : Int
  Rect : Rect
  Z : Int
  Title : Bool
def Spot.c (x : Spot) : List TV := [.int .i64 x.Pane, .int .i64 x.Rect.X, .int .i64 x.Rect.Y, .int .i64 x.Rect.W, .int .i64 x.Rect.H, .int .i64 x.Z, .bool x.Title]
structure Placer where
  spots : List Spot
def Placer.c (x : Placer) : List TV := [.sl true 7 (List.map Spot.c x.spots)]
def Placer.e (x : Placer) : List TV := [.sl false 7 (List.map Spot.c x.spots)]
noncomputable def zaM (x_ : Placer) (r_ : Rect) (z : Int) (title : Bool) : Option Placer :=
  (app x_.spots [(Spot.mk (x_.spots.length : Int) r_ z title)]).bind fun x1 =>
  some (Placer.mk x1)
set_option maxRecDepth 20000 in
theorem zbE {x_ : Placer} {r_ : Rect} {z : Int} {title : Bool} {r : Placer} (h : zaM x_ r_ z title = some r) : zan false (RF ET) 36 [.ptr 0 0, .agg (Rect.c r_), .int .i64 z, .bool title] [(Placer.c x_)] (.tuple []) [(Placer.c r)] := by
  refine za5 (af := a36) rfl rfl ?_
  unfold zaM at h
  refine zaa ?_
  refine zac [0, 2, 3, 5] [0] ?_
  refine zad ?_
  refine zac [] [0] ?_
  refine zeg ?_
  refine ⟨_, (List.length_map ..).symm, ?_⟩
  refine ⟨(List.map Spot.c ([(Spot.mk (x_.spots.length : Int) r_ z title)] : List Spot)), rfl, ?_⟩
  obtain ⟨x1, hx1, h⟩ := zab h
  refine And.intro (zjX Spot.c hx1) ⟨_, zjY Spot.c hx1, ?_⟩
  cases h
  exact ⟨rfl, rfl, rfl, rfl, rfl⟩
noncomputable def zcv (s_ : Size) : Option Bool :=
  (zcI s_).bind fun y1 =>
  letB (decide (y1 ≠ 0)) fun c2 =>
  some c2
set_option maxRecDepth 20000 in
theorem zgo {s_ : Size} {r : Bool} (h : zcv s_ = some r) : zan true (RF ET) 57 [.agg (Size.c s_)] [] (.bool r) [] := by
  refine zan.quiet (za5 (af := a57) rfl rfl ?_) rfl
  unfold zcv at h
  refine zaa ?_
  refine zac [1] [0] ?_
  refine zad ?_
  refine zaa ?_
  refine zac [2] [0] ?_
  refine zad ?_
  obtain ⟨y1, hy1, h⟩ := zab h
  refine ⟨_, zeY hy1, ?_⟩
  refine fun c2 hc2 => ?_
  replace h := zag hc2 h
  refine zaD ?_
  cases h
  exact ⟨rfl, rfl, rfl, rfl, rfl⟩
noncomputable def slices_IndexFunc_80_l1 (s_ : List Size) (f : Nat) (t8 : Int) : Option (Int ⊕ (Int ⊕ Unit)) :=
  letB (decide (t8 < (s_.length : Int))) fun c1 =>
  bif c1 then (
    (idx s_ t8).bind fun x3 =>
    ((bif decide (f = 57) then zcv x3 else none : Option Bool)).bind fun y4 =>
    bif y4 then (
      some (.inr (.inl t8)))
    else (
      some (.inl (w64 (t8 + 1)))))
  else (
    some (.inr (.inr ())))
noncomputable def zbK (s_ : List Size) (f : Nat) : Option Int :=
  (iter (fun s => slices_IndexFunc_80_l1 s_ f s : Int → Option (Int ⊕ (Int ⊕ Unit))) 0).bind fun j7 =>
  match j7 with
  | .inl z8 => (
    some z8)
  | .inr z9 => (
    some (-1))
set_option maxRecDepth 20000 in
theorem zei {s_ : List Size} {f : Nat} {r : Int} (h : zbK s_ f = some r) : zan true (RF ET) 80 [.sl false 2 (List.map Size.c s_), .func f []] [] (.int .i64 r) [] := by
  refine zan.quiet (za5 (af := a80) rfl rfl ?_) rfl
  unfold zbK at h
  refine zaa ?_
  refine zac [0, 1] [] ?_
  refine zad ?_
  refine zaa ?_
  refine zaa ?_
  refine zac [0, 1, 7, 8] [] ?_
  refine zad ?_
  refine ⟨_, (List.length_map ..).symm, ?_⟩
  refine zas ?_
  obtain ⟨j7, hj7, h⟩ := zab h
  refine zch hj7 [] (fun s => ([(0, .sl false 2 (List.map Size.c s_)), (1, .func f []), (7, .int .i64 (s_.length : Int)), (8, .int .i64 s)], [], [])) (fun e => match e with | .ret => [4] | .exit 0 => [] | _ => []) (fun e => match e with | .ret => [] | .exit 0 => [] | _ => []) (fun r => match r with | .inl z => (.ret, [(4, .int .i64 z)], [], []) | .inr z => (.exit 0, [], [], [])) ?_ ?_ ?_
  · exact rfl
  · clear h
    rintro t8 x h
    replace h : slices_IndexFunc_80_l1 s_ f t8 = some x := h
    unfold slices_IndexFunc_80_l1 at h
    show T.WP _ _ [(0, .sl false 2 (List.map Size.c s_)), (1, .func f []), (7, .int .i64 (s_.length : Int)), (8, .int .i64 t8)] [] [] _
    refine zaa ?_
    refine zac [0, 1, 7, 8, 9] [] ?_
    refine zad ?_
    refine fun c1 hc1 => ?_
    replace h := zag hc1 h
    refine zaa ?_
    refine zam (b := c1) rfl (fun hb2 => ?_) (fun hb2 => ?_)
    · replace h := zaB hb2 h
      refine zat ?_
      refine zaa ?_
      refine zas ?_
      refine zaa ?_
      refine zac [0, 1, 5, 7, 8] [] ?_
      refine zad ?_
      refine zaa ?_
      refine zac [0, 1, 5, 7, 8, 16] [] ?_
      refine zad ?_
      obtain ⟨x3, hx3, h⟩ := zab h
      refine And.intro (zef hx3) ⟨_, zbe Size.c hx3, ?_⟩
      refine And.intro rfl ?_
      obtain ⟨y4, hy4, h⟩ := zab h
      have d5 : ∀ {r : Bool}, (bif decide (f = 57) then zcv x3 else none : Option Bool) = some r → zan true (RF ET) f [.agg (Size.c x3)] [] (.bool r) [] := by
        intro r h
        by_cases hq : f = 57
        · rw [hq] at h ⊢
          exact zgo h
        replace h := zaz (decide_eq_false hq) h
        cases h
      refine ⟨_, _, zan.any (d5 hy4) rfl _ rfl, ?_⟩
      refine zam (b := y4) rfl (fun hb6 => ?_) (fun hb6 => ?_)
      · replace h := zaB hb6 h
        refine zaa ?_
        refine zac [4] [] ?_
        refine zad ?_
        refine zaD ?_
        cases h
        exact ⟨_, rfl, rfl⟩
      · replace h := zaz hb6 h
        refine zat ?_
        refine zac [0, 1, 7, 8] [] ?_
        refine zad ?_
        cases h
        exact ⟨_, rfl, rfl⟩
    · replace h := zaz hb2 h
      refine zb1 ?_
      cases h
      exact ⟨_, rfl, rfl⟩
  rcases j7 with z8 | z9
  · cases h
    exact ⟨rfl, rfl, rfl, rfl, rfl⟩
  · refine zaa ?_
    refine zac [4] [] ?_
    refine zad ?_
    refine zaD ?_
    cases h
    exact ⟨rfl, rfl, rfl, rfl, rfl⟩
noncomputable def zaX (s_ : List Size) (f : Nat) : Option Bool :=
  (zbK s_ f).bind fun y1 =>
  letB (decide (y1 ≥ 0)) fun c2 =>
  some c2
set_option maxRecDepth 20000 in
theorem zdB {s_ : List Size} {f : Nat} {r : Bool} (h : zaX s_ f = some r) : zan true (RF ET) 56 [.sl false 2 (List.map Size.c s_), .func f []] [] (.bool r) [] := by
  refine zan.quiet (za5 (af := a56) rfl rfl ?_) rfl
  unfold zaX at h
  refine zaa ?_
  refine zac [0, 1] [] ?_
  refine zad ?_
  refine zaa ?_
  refine zac [4] [] ?_
  refine zad ?_
  obtain ⟨y1, hy1, h⟩ := zab h
  refine ⟨_, _, zan.any (zei hy1) rfl _ rfl, ?_⟩
  refine fun c2 hc2 => ?_
  replace h := zag hc2 h
  refine zaD ?_
  cases h
  exact ⟨rfl, rfl, rfl, rfl, rfl⟩
noncomputable def zdm (total : Int) (s_ : Size) : Option Int :=
  letB (decide (s_.Kind = 1)) fun c1 =>
  bif c1 then (
    some s_.N)
  else (
    letB (decide (s_.Kind = 2)) fun c3 =>
    bif c3 then (
      some (max (w64 (Int.tdiv (w64 (total * s_.N)) 100)) 1))
    else (
      some 1))
set_option maxRecDepth 20000 in
theorem zhH {total : Int} {s_ : Size} {r : Int} (h : zdm total s_ = some r) : zan true (RF ET) 59 [.int .i64 total, .agg (Size.c s_)] [] (.int .i64 r) [] := by
  refine zan.quiet (za5 (af := a59) rfl rfl ?_) rfl
  unfold zdm at h
  refine zaa ?_
  refine zac [0, 3] [0] ?_
  refine zad ?_
  refine zaa ?_
  refine zaa ?_
  refine zac [0, 3, 6] [0] ?_
  refine zad ?_
  refine zas ?_
  refine zaa ?_
  refine zac [0, 3, 6, 7] [0] ?_
  refine zad ?_
  refine fun c1 hc1 => ?_
  replace h := zag hc1 h
  refine zam (b := c1) rfl (fun hb2 => ?_) (fun hb2 => ?_)
  · replace h := zaB hb2 h
    refine zaa ?_
    refine zac [4] [0] ?_
    refine zad ?_
    refine zaD ?_
    cases h
    exact ⟨rfl, rfl, rfl, rfl, rfl⟩
  · replace h := zaz hb2 h
    refine zaa ?_
    refine zac [0, 3, 11] [0] ?_
    refine zad ?_
    refine fun c3 hc3 => ?_
    replace h := zag hc3 h
    refine zam (b := c3) rfl (fun hb4 => ?_) (fun hb4 => ?_)
    · replace h := zaB hb4 h
      refine zaa ?_
      refine zac [4] [0] ?_
      refine zad ?_
      refine And.intro (by decide) ?_
      refine zaD ?_
      cases h
      exact ⟨rfl, rfl, rfl, rfl, rfl⟩
    · replace h := zaz hb4 h
      refine zat ?_
      refine zaa ?_
      refine zac [4] [0] ?_
      refine zad ?_
      refine zaD ?_
      cases h
      exact ⟨rfl, rfl, rfl, rfl, rfl⟩
noncomputable def solve_Share_l1 (total : Int) (sizes : List Size) (out : List Int) (flex : List Int) (left : Int) (t39 : Int) : Option ((List Int × List Int × Int × Int) ⊕ (List Int × List Int × Int)) :=
  letB (decide (t39 < (sizes.length : Int))) fun c13 =>
  bif c13 then (
    Option.bind (
      (idx sizes t39).bind fun x15 =>
      (zdm total x15).bind fun y16 =>
      (app out [y16]).bind fun x17 =>
      (idx x17 t39).bind fun x18 =>
      letB (decide (x15.Kind = 0)) fun c19 =>
      Option.bind (
        bif c19 then (
          (app flex [t39]).bind fun x21 =>
          some (x21))
        else (
          some (flex)) : Option (List Int)) fun j22 =>
      some ((x17, j22, w64 (left - x18), x15)) : Option (List Int × List Int × Int × Size)) fun j23 =>
    some (.inl (j23.1, j23.2.1, j23.2.2.1, w64 (t39 + 1))))
  else (
    some (.inr (out, flex, left)))
noncomputable def solve_Share_l2 (out' : List Int) (left' : Int) (i : Int) : Option ((List Int × Int × Int) ⊕ (List Int × Int)) :=
  letB (decide (left' < 0)) fun c25 =>
  bif c25 then (
    (idx out' i).bind fun x27 =>
    (idx out' i).bind fun x28 =>
    (idx out' i).bind fun x29 =>
    some (.inl (upI out' i (w64 (x28 - (min (w64 (x27 - 1)) (w64 (0 - left'))))), w64 (left' + (min (w64 (x27 - 1)) (w64 (0 - left')))), w64 (i - 1))))
  else (
    some (.inr (out', left')))
noncomputable def solve_Share_l3 (j24 : List Int × List Int × Int) (j30 : List Int × Int) (out'' : List Int) (t104 : Int) : Option ((List Int × Int) ⊕ List Int) :=
  letB (decide (t104 < (j24.2.1.length : Int))) fun c35 =>
  bif c35 then (
    Option.bind (
      (idx j24.2.1 t104).bind fun x37 =>
      (idx out'' x37).bind fun x38 =>
      (req (decide ((j24.2.1.length : Int) ≠ 0))).bind fun x39 =>
      (idx out'' x37).bind fun x40 =>
      (req (decide ((j24.2.1.length : Int) ≠ 0))).bind fun x41 =>
      letB (decide (t104 < (Int.tmod j30.2 (j24.2.1.length : Int)))) fun c42 =>
      Option.bind (
        bif c42 then (
          (idx (upI out'' x37 (w64 (x38 + (w64 (Int.tdiv j30.2 (j24.2.1.length : Int)))))) x37).bind fun x44 =>
          (idx (upI out'' x37 (w64 (x38 + (w64 (Int.tdiv j30.2 (j24.2.1.length : Int)))))) x37).bind fun x45 =>
          some (upI (upI out'' x37 (w64 (x38 + (w64 (Int.tdiv j30.2 (j24.2.1.length : Int)))))) x37 (w64 (x44 + 1))))
        else (
          some (upI out'' x37 (w64 (x38 + (w64 (Int.tdiv j30.2 (j24.2.1.length : Int))))))) : Option (List Int)) fun j46 =>
      some (j46) : Option (List Int)) fun j47 =>
    some (.inl (j47, w64 (t104 + 1))))
  else (
    some (.inr out''))
noncomputable def zbL (total : Int) (sizes : List Size) : Option (List Int × Int) :=
  letB (decide ((sizes.length : Int) = 0)) fun c1 =>
  (bif c1 then some true else (
    letB (decide (total > 200)) fun c3 =>
    some (c3))).bind fun g2 =>
  (bif g2 then some true else (
    (zaX sizes 57).bind fun y6 =>
    some (y6))).bind fun g5 =>
  bif g5 then (
    some ([], 1))
  else (
    letB (decide ((sizes.length : Int) > 16)) fun c9 =>
    bif c9 then (
      some ([], 3))
    else (
      letB (decide (total < (sizes.length : Int))) fun c11 =>
      bif c11 then (
        some ([], 90))
      else (
        (iter (fun s => solve_Share_l1 total sizes s.1 s.2.1 s.2.2.1 s.2.2.2 : (List Int × List Int × Int × Int) → Option ((List Int × List Int × Int × Int) ⊕ (List Int × List Int × Int))) ([], [], total, 0)).bind fun j24 =>
        (iter (fun s => solve_Share_l2 s.1 s.2.1 s.2.2 : (List Int × Int × Int) → Option ((List Int × Int × Int) ⊕ (List Int × Int))) (j24.1, j24.2.2, w64 ((j24.1.length : Int) - 1))).bind fun j30 =>
        letB (decide ((j24.2.1.length : Int) = 0)) fun c31 =>
        bif c31 then (
          (idx j30.1 (w64 ((j30.1.length : Int) - 1))).bind fun x33 =>
          (idx j30.1 (w64 ((j30.1.length : Int) - 1))).bind fun x34 =>
          some (upI j30.1 (w64 ((j30.1.length : Int) - 1)) (w64 (x33 + j30.2)), 0))
        else (
          (iter (fun s => solve_Share_l3 j24 j30 s.1 s.2 : (List Int × Int) → Option ((List Int × Int) ⊕ List Int)) (j30.1, 0)).bind fun j48 =>
          some (j48, 0)))))
set_option maxRecDepth 20000 in
theorem zhI {total : Int} {sizes : List Size} {r : List Int × Int} (h : zbL total sizes = some r) : zan true (RF ET) 27 [.int .i64 total, .sl false 2 (List.map Size.c sizes)] [] (.tuple [.sl false 1 (List.map ei64 r.1), .int .i64 r.2]) [] := by
  refine zan.quiet (za5 (af := a27) rfl rfl ?_) rfl
  unfold zbL at h
  refine zaa ?_
  refine zac [0, 1] [] ?_
  refine zad ?_
  refine ⟨.sl false 1 [], .sl _ _, ?_⟩
  refine zaa ?_
  refine zas ?_
  refine zaa ?_
  refine zac [0, 1, 15] [] ?_
  refine zaQ 4 ?_
  refine zad ?_
  refine ⟨_, (List.length_map ..).symm, ?_⟩
  refine fun c1 hc1 => ?_
  replace h := zag hc1 h
  obtain ⟨g2, hg2, h⟩ := zab h
  refine zbn 3 22 [0, 1, 22] g2 ?_ ?_
  · clear h
    replace h := hg2
    clear hg2
    cases hb4 : c1 with
    | false =>
      replace h := zaz hb4 h
      refine zad ?_
      refine fun c3 hc3 => ?_
      replace h := zag hc3 h
      cases h
      exact ⟨rfl, rfl, rfl⟩
    | true =>
      replace h := zaB hb4 h
      cases h
      refine zad ?_
      exact ⟨rfl, rfl, rfl⟩
  refine zaQ 1 ?_
  refine zad ?_
  obtain ⟨g5, hg5, h⟩ := zab h
  refine zbn 3 26 [0, 1, 26] g5 ?_ ?_
  · clear h
    replace h := hg5
    clear hg5
    cases hb7 : g2 with
    | false =>
      replace h := zaz hb7 h
      refine zad ?_
      obtain ⟨y6, hy6, h⟩ := zab h
      refine ⟨_, _, zan.any (zdB hy6) rfl _ rfl, ?_⟩
      cases h
      exact ⟨rfl, rfl, rfl⟩
    | true =>
      replace h := zaB hb7 h
      cases h
      refine zad ?_
      exact ⟨rfl, rfl, rfl⟩
  refine zad ?_
  refine zam (b := g5) rfl (fun hb8 => ?_) (fun hb8 => ?_)
  · replace h := zaB hb8 h
    refine zaa ?_
    refine zac [4, 5] [] ?_
    refine zad ?_
    refine ⟨.sl false 1 [], .sl _ _, ?_⟩
    refine zaD ?_
    cases h
    exact ⟨rfl, rfl, rfl, rfl, rfl⟩
  · replace h := zaz hb8 h
    refine zaa ?_
    refine zac [0, 1, 27] [] ?_
    refine zad ?_
    refine ⟨_, (List.length_map ..).symm, ?_⟩
    refine fun c9 hc9 => ?_
    replace h := zag hc9 h
    refine zam (b := c9) rfl (fun hb10 => ?_) (fun hb10 => ?_)
    · replace h := zaB hb10 h
      refine zaa ?_
      refine zac [4, 5] [] ?_
      refine zad ?_
      refine ⟨.sl false 1 [], .sl _ _, ?_⟩
      refine zaD ?_
      cases h
      exact ⟨rfl, rfl, rfl, rfl, rfl⟩
    · replace h := zaz hb10 h
      refine zaa ?_
      refine zac [0, 1, 31] [] ?_
      refine zad ?_
      refine ⟨_, (List.length_map ..).symm, ?_⟩
      refine fun c11 hc11 => ?_
      replace h := zag hc11 h
      refine zam (b := c11) rfl (fun hb12 => ?_) (fun hb12 => ?_)
      · replace h := zaB hb12 h
        refine zaa ?_
        refine zac [4, 5] [] ?_
        refine zad ?_
        refine ⟨.sl false 1 [], .sl _ _, ?_⟩
        refine zaD ?_
        cases h
        exact ⟨rfl, rfl, rfl, rfl, rfl⟩
      · replace h := zaz hb12 h
        refine zat ?_
        refine zaa ?_
        refine zac [0, 1, 6, 7] [] ?_
        refine zad ?_
        refine ⟨.sl true 1 [], .sl _ _, ?_⟩
        refine ⟨.sl true 1 [], .sl _ _, ?_⟩
        refine zaa ?_
        refine zac [0, 1, 6, 7, 8] [] ?_
        refine zad ?_
        refine zaa ?_
        refine zaa ?_
        refine zac [0, 6, 7, 8, 37, 38, 39] [] ?_
        refine zad ?_
        refine ⟨_, (List.length_map ..).symm, ?_⟩
        refine zas ?_
        obtain ⟨j24, hj24, h⟩ := zab h
        refine zch hj24 [] (fun s => ([(0, .int .i64 total), (6, .sl true 1 (List.map ei64 s.1)), (7, .sl true 1 (List.map ei64 s.2.1)), (8, .int .i64 s.2.2.1), (37, .sl false 2 (List.map Size.c sizes)), (38, .int .i64 (sizes.length : Int)), (39, .int .i64 s.2.2.2)], [], [])) (fun _ => [6, 7, 8]) (fun _ => []) (fun z => (.exit 1, [(6, .sl true 1 (List.map ei64 z.1)), (7, .sl true 1 (List.map ei64 z.2.1)), (8, .int .i64 z.2.2)], [], [])) ?_ ?_ ?_
        · exact rfl
        · clear h
          rintro ⟨out, flex, left, t39⟩ x h
          replace h : solve_Share_l1 total sizes out flex left t39 = some x := h
          unfold solve_Share_l1 at h
          show T.WP _ _ [(0, .int .i64 total), (6, .sl true 1 (List.map ei64 out)), (7, .sl true 1 (List.map ei64 flex)), (8, .int .i64 left), (37, .sl false 2 (List.map Size.c sizes)), (38, .int .i64 (sizes.length : Int)), (39, .int .i64 t39)] [] [] _
          refine zaa ?_
          refine zac [0, 6, 7, 8, 37, 38, 39, 40] [] ?_
          refine zad ?_
          refine fun c13 hc13 => ?_
          replace h := zag hc13 h
          refine zaa ?_
          refine zam (b := c13) rfl (fun hb14 => ?_) (fun hb14 => ?_)
          · replace h := zaB hb14 h
            refine zat ?_
            refine zaa ?_
            obtain ⟨j23, hj23, h⟩ := zab h
            refine zcx j23 (fun z => (.normal, [(0, .int .i64 total), (6, .sl true 1 (List.map ei64 z.1)), (7, .sl true 1 (List.map ei64 z.2.1)), (8, .int .i64 z.2.2.1), (37, .sl false 2 (List.map Size.c sizes)), (38, .int .i64 (sizes.length : Int)), (39, .int .i64 t39)], [(0, (Size.c z.2.2.2))], [])) (fun _ => [0, 6, 7, 8, 37, 38, 39]) (fun _ => [0]) ?_ ?_
            · clear h
              replace h := hj23
              clear hj23
              refine zas ?_
              refine zaa ?_
              refine zac [0, 6, 7, 8, 9, 10, 37, 38, 39] [0] ?_
              refine zad ?_
              obtain ⟨x15, hx15, h⟩ := zab h
              refine And.intro (zef hx15) ⟨_, zbe Size.c hx15, ?_⟩
              refine zaa ?_
              refine zac [0, 6, 7, 8, 9, 10, 37, 38, 39] [0] ?_
              refine zad ?_
              obtain ⟨y16, hy16, h⟩ := zab h
              refine ⟨_, zhH hy16, ?_⟩
              refine ⟨(List.map ei64 ([y16] : List Int)), rfl, ?_⟩
              obtain ⟨x17, hx17, h⟩ := zab h
              refine And.intro (zjX ei64 hx17) ⟨_, zjY ei64 hx17, ?_⟩
              refine zaa ?_
              refine zac [0, 6, 7, 8, 9, 10, 37, 38, 39] [0] ?_
              refine zad ?_
              obtain ⟨x18, hx18, h⟩ := zab h
              refine And.intro (zcu ei64 hx18) ?_
              refine ⟨_, zbe ei64 hx18, ?_⟩
              refine zaa ?_
              refine zac [0, 6, 7, 8, 9, 37, 38, 39, 58] [0] ?_
              refine zad ?_
              refine fun c19 hc19 => ?_
              replace h := zag hc19 h
              obtain ⟨j22, hj22, h⟩ := zab h
              refine zcx j22 (fun z => (.normal, [(0, .int .i64 total), (6, .sl true 1 (List.map ei64 x17)), (7, .sl true 1 (List.map ei64 z)), (8, .int .i64 (w64 (left - x18))), (37, .sl false 2 (List.map Size.c sizes)), (38, .int .i64 (sizes.length : Int)), (39, .int .i64 t39)], [(0, (Size.c x15))], [])) (fun _ => [0, 6, 7, 8, 37, 38, 39]) (fun _ => [0]) ?_ ?_
              · clear h
                replace h := hj22
                clear hj22
                refine zam (b := c19) rfl (fun hb20 => ?_) (fun hb20 => ?_)
                · replace h := zaB hb20 h
                  refine zac [0, 6, 7, 8, 37, 38, 39] [0] ?_
                  refine zad ?_
                  refine ⟨(List.map ei64 ([t39] : List Int)), rfl, ?_⟩
                  obtain ⟨x21, hx21, h⟩ := zab h
                  refine And.intro (zjX ei64 hx21) ⟨_, zjY ei64 hx21, ?_⟩
                  cases h
                  exact rfl
                · replace h := zaz hb20 h
                  refine zat ?_
                  cases h
                  exact rfl
              cases h
              exact rfl
            refine zac [0, 6, 7, 8, 37, 38, 39] [0] ?_
            refine zad ?_
            cases h
            exact ⟨_, rfl, rfl⟩
          · replace h := zaz hb14 h
            refine zb1 ?_
            cases h
            exact ⟨_, rfl, rfl⟩
        refine zaa ?_
        refine zaa ?_
        refine zac [6, 7, 8, 11] [] ?_
        refine zad ?_
        refine ⟨_, (List.length_map ..).symm, ?_⟩
        refine zas ?_
        obtain ⟨j30, hj30, h⟩ := zab h
        refine zch hj30 [] (fun s => ([(6, .sl true 1 (List.map ei64 s.1)), (7, .sl true 1 (List.map ei64 j24.2.1)), (8, .int .i64 s.2.1), (11, .int .i64 s.2.2)], [], [])) (fun _ => [6, 7, 8]) (fun _ => []) (fun z => (.exit 3, [(6, .sl true 1 (List.map ei64 z.1)), (7, .sl true 1 (List.map ei64 j24.2.1)), (8, .int .i64 z.2)], [], [])) ?_ ?_ ?_
        · exact rfl
        · clear h
          rintro ⟨out', left', i⟩ x h
          replace h : solve_Share_l2 out' left' i = some x := h
          unfold solve_Share_l2 at h
          show T.WP _ _ [(6, .sl true 1 (List.map ei64 out')), (7, .sl true 1 (List.map ei64 j24.2.1)), (8, .int .i64 left'), (11, .int .i64 i)] [] [] _
          refine zaa ?_
          refine zaa ?_
          refine zac [6, 7, 8, 11, 68] [] ?_
          refine zad ?_
          refine fun c25 hc25 => ?_
          replace h := zag hc25 h
          refine zam (b := c25) rfl (fun hb26 => ?_) (fun hb26 => ?_)
          · replace h := zaB hb26 h
            refine zat ?_
            refine zaa ?_
            refine zas ?_
            refine zaa ?_
            refine zac [6, 7, 8, 11, 12] [] ?_
            refine zad ?_
            obtain ⟨x27, hx27, h⟩ := zab h
            refine And.intro (zcu ei64 hx27) ?_
            refine ⟨_, zbe ei64 hx27, ?_⟩
            refine zaa ?_
            refine zac [6, 7, 8, 11, 12] [] ?_
            refine zad ?_
            obtain ⟨x28, hx28, h⟩ := zab h
            refine And.intro (zcu ei64 hx28) ?_
            refine ⟨_, zbe ei64 hx28, ?_⟩
            obtain ⟨x29, hx29, h⟩ := zab h
            refine And.intro (zcu ei64 hx29) ?_
            refine ⟨_, zbe ei64 hx29, ?_⟩
            refine ⟨_, zhn (e := ei64) (i := i) (x := w64 (x28 - (min (w64 (x27 - 1)) (w64 (0 - left'))))) rfl, ?_⟩
            refine zac [6, 7, 8, 11] [] ?_
            refine zad ?_
            refine zac [6, 7, 8, 11] [] ?_
            refine zad ?_
            cases h
            exact ⟨_, rfl, rfl⟩
          · replace h := zaz hb26 h
            refine zb1 ?_
            cases h
            exact ⟨_, rfl, rfl⟩
        refine zaa ?_
        refine zaa ?_
        refine zac [6, 7, 8, 91] [] ?_
        refine zad ?_
        refine ⟨_, (List.length_map ..).symm, ?_⟩
        refine fun c31 hc31 => ?_
        replace h := zag hc31 h
        refine zam (b := c31) rfl (fun hb32 => ?_) (fun hb32 => ?_)
        · replace h := zaB hb32 h
          refine zaa ?_
          refine zac [6] [] ?_
          refine zad ?_
          refine ⟨_, (List.length_map ..).symm, ?_⟩
          obtain ⟨x33, hx33, h⟩ := zab h
          refine And.intro (zcu ei64 hx33) ?_
          refine ⟨_, zbe ei64 hx33, ?_⟩
          obtain ⟨x34, hx34, h⟩ := zab h
          refine And.intro (zcu ei64 hx34) ?_
          refine ⟨_, zbe ei64 hx34, ?_⟩
          refine ⟨_, zhn (e := ei64) (i := w64 ((j30.1.length : Int) - 1)) (x := w64 (x33 + j30.2)) rfl, ?_⟩
          refine zaa ?_
          refine zac [4, 5] [] ?_
          refine zad ?_
          refine zaD ?_
          cases h
          exact ⟨rfl, rfl, rfl, rfl, rfl⟩
        · replace h := zaz hb32 h
          refine zat ?_
          refine zaa ?_
          refine zaa ?_
          refine zac [6, 7, 8, 102, 103, 104] [] ?_
          refine zad ?_
          refine ⟨_, (List.length_map ..).symm, ?_⟩
          refine zas ?_
          obtain ⟨j48, hj48, h⟩ := zab h
          refine zch hj48 [] (fun s => ([(6, .sl true 1 (List.map ei64 s.1)), (7, .sl true 1 (List.map ei64 j24.2.1)), (8, .int .i64 j30.2), (102, .place (.tmp 7)), (103, .int .i64 (j24.2.1.length : Int)), (104, .int .i64 s.2)], [], [])) (fun _ => [6]) (fun _ => []) (fun z => (.exit 5, [(6, .sl true 1 (List.map ei64 z))], [], [])) ?_ ?_ ?_
          · exact rfl
          · clear h
            rintro ⟨out'', t104⟩ x h
            replace h : solve_Share_l3 j24 j30 out'' t104 = some x := h
            unfold solve_Share_l3 at h
            show T.WP _ _ [(6, .sl true 1 (List.map ei64 out'')), (7, .sl true 1 (List.map ei64 j24.2.1)), (8, .int .i64 j30.2), (102, .place (.tmp 7)), (103, .int .i64 (j24.2.1.length : Int)), (104, .int .i64 t104)] [] [] _
            refine zaa ?_
            refine zac [6, 7, 8, 102, 103, 104, 105] [] ?_
            refine zad ?_
            refine fun c35 hc35 => ?_
            replace h := zag hc35 h
            refine zaa ?_
            refine zam (b := c35) rfl (fun hb36 => ?_) (fun hb36 => ?_)
            · replace h := zaB hb36 h
              refine zat ?_
              refine zaa ?_
              obtain ⟨j47, hj47, h⟩ := zab h
              refine zcx j47 (fun z => (.normal, [(6, .sl true 1 (List.map ei64 z)), (7, .sl true 1 (List.map ei64 j24.2.1)), (8, .int .i64 j30.2), (102, .place (.tmp 7)), (103, .int .i64 (j24.2.1.length : Int)), (104, .int .i64 t104)], [], [])) (fun _ => [6, 7, 8, 102, 103, 104]) (fun _ => []) ?_ ?_
              · clear h
                replace h := hj47
                clear hj47
                refine zas ?_
                refine zaa ?_
                refine zac [6, 7, 8, 13, 14, 102, 103, 104] [] ?_
                refine zad ?_
                obtain ⟨x37, hx37, h⟩ := zab h
                refine And.intro (zcu ei64 hx37) ?_
                refine ⟨_, zbe ei64 hx37, ?_⟩
                refine zaa ?_
                refine zac [6, 7, 8, 13, 14, 102, 103, 104] [] ?_
                refine zeg ?_
                obtain ⟨x38, hx38, h⟩ := zab h
                refine And.intro (zcu ei64 hx38) ?_
                refine ⟨_, zbe ei64 hx38, ?_⟩
                refine ⟨_, (List.length_map ..).symm, ?_⟩
                obtain ⟨x39, hx39, h⟩ := zab h
                refine And.intro (znk hx39) ?_
                obtain ⟨x40, hx40, h⟩ := zab h
                refine And.intro (zcu ei64 hx40) ?_
                refine ⟨_, zbe ei64 hx40, ?_⟩
                refine ⟨_, zhn (e := ei64) (i := x37) (x := w64 (x38 + (w64 (Int.tdiv j30.2 (j24.2.1.length : Int))))) rfl, ?_⟩
                refine zaa ?_
                refine zac [6, 7, 8, 14, 102, 103, 104, 124] [] ?_
                refine zad ?_
                refine ⟨_, (List.length_map ..).symm, ?_⟩
                obtain ⟨x41, hx41, h⟩ := zab h
                refine And.intro (znk hx41) ?_
                refine fun c42 hc42 => ?_
                replace h := zag hc42 h
                obtain ⟨j46, hj46, h⟩ := zab h
                refine zcx j46 (fun z => (.normal, [(6, .sl true 1 (List.map ei64 z)), (7, .sl true 1 (List.map ei64 j24.2.1)), (8, .int .i64 j30.2), (102, .place (.tmp 7)), (103, .int .i64 (j24.2.1.length : Int)), (104, .int .i64 t104)], [], [])) (fun _ => [6, 7, 8, 102, 103, 104]) (fun _ => []) ?_ ?_
                · clear h
                  replace h := hj46
                  clear hj46
                  refine zam (b := c42) rfl (fun hb43 => ?_) (fun hb43 => ?_)
                  · replace h := zaB hb43 h
                    refine zac [6, 7, 8, 102, 103, 104] [] ?_
                    refine zad ?_
                    obtain ⟨x44, hx44, h⟩ := zab h
                    refine And.intro (zcu ei64 hx44) ?_
                    refine ⟨_, zbe ei64 hx44, ?_⟩
                    obtain ⟨x45, hx45, h⟩ := zab h
                    refine And.intro (zcu ei64 hx45) ?_
                    refine ⟨_, zbe ei64 hx45, ?_⟩
                    refine ⟨_, zhn (e := ei64) (i := x37) (x := w64 (x44 + 1)) rfl, ?_⟩
                    cases h
                    exact rfl
                  · replace h := zaz hb43 h
                    refine zat ?_
                    cases h
                    exact rfl
                cases h
                exact rfl
              refine zac [6, 7, 8, 102, 103, 104] [] ?_
              refine zad ?_
              cases h
              exact ⟨_, rfl, rfl⟩
            · replace h := zaz hb36 h
              refine zb1 ?_
              cases h
              exact ⟨_, rfl, rfl⟩
          refine zaa ?_
          refine zac [4, 5] [] ?_
          refine zad ?_
          refine zaD ?_
          cases h
          exact ⟨rfl, rfl, rfl, rfl, rfl⟩
noncomputable def rect_Cut_l1 (across : Bool) (x2 : List Int) (out : List Rect) (t19 : Int) (r_' : Rect) : Option ((List Rect × Int × Rect) ⊕ (List Rect × Rect)) :=
  letB (decide (t19 < (x2.length : Int))) fun c3 =>
  bif c3 then (
    Option.bind (
      (idx x2 t19).bind fun x5 =>
      Option.bind (
        bif across then (
          (zbk x5 0 r_'.H).bind fun y7 =>
          some (({ r_' with Y := w64 (r_'.Y + y7), H := w64 (r_'.H - y7) }, { r_' with H := y7 })))
        else (
          (zbk x5 0 r_'.W).bind fun y8 =>
          some (({ r_' with X := w64 (r_'.X + y8), W := w64 (r_'.W - y8) }, { r_' with W := y8 }))) : Option (Rect × Rect)) fun j9 =>
      (zaE j9.2).bind fun y10 =>
      (app out [y10]).bind fun x11 =>
      some ((x11, j9.1, j9.2)) : Option (List Rect × Rect × Rect)) fun j12 =>
    some (.inl (j12.1, w64 (t19 + 1), j12.2.1)))
  else (
    some (.inr (out, r_')))
noncomputable def zeM (r_ : Rect) (sizes : List Int) (across : Bool) : Option (List Rect) :=
  (zaE r_).bind fun y1 =>
  (subB sizes (min (sizes.length : Int) 16)).bind fun x2 =>
  (iter (fun s => rect_Cut_l1 across x2 s.1 s.2.1 s.2.2 : (List Rect × Int × Rect) → Option ((List Rect × Int × Rect) ⊕ (List Rect × Rect))) ([], 0, y1)).bind fun j13 =>
  some j13.1
set_option maxRecDepth 20000 in
theorem zhp {r_ : Rect} {sizes : List Int} {across : Bool} {r : List Rect} (h : zeM r_ sizes across = some r) : zan true (RF ET) 81 [.agg (Rect.c r_), .sl false 1 (List.map ei64 sizes), .bool across] [] (.sl true 4 (List.map Rect.c r)) [] := by
  refine zan.quiet (za5 (af := a81) rfl rfl ?_) rfl
  unfold zeM at h
  refine zaa ?_
  refine zac [1, 2, 3] [0] ?_
  refine zad ?_
  refine ⟨.sl false 4 [], .sl _ _, ?_⟩
  refine zaa ?_
  refine zac [1, 2, 3] [0] ?_
  refine zad ?_
  obtain ⟨y1, hy1, h⟩ := zab h
  refine ⟨_, zau hy1, ?_⟩
  refine zaa ?_
  refine zac [1, 2, 3, 7] [0] ?_
  refine zad ?_
  refine ⟨.sl true 4 [], .sl _ _, ?_⟩
  refine zaa ?_
  refine zaa ?_
  refine zac [2, 3, 7, 17, 18, 19] [0] ?_
  refine zad ?_
  refine ⟨_, (List.length_map ..).symm, ?_⟩
  obtain ⟨x2, hx2, h⟩ := zab h
  refine And.intro (zpv hx2) (And.intro (zo6 ei64 hx2) ⟨_, zo7 ei64 hx2, ?_⟩)
  refine ⟨_, (List.length_map ..).symm, ?_⟩
  refine zas ?_
  obtain ⟨j13, hj13, h⟩ := zab h
  refine zch hj13 [0] (fun s => ([(2, .bool across), (3, .loc 0 0), (7, .sl true 4 (List.map Rect.c s.1)), (17, .sl false 1 (List.map ei64 x2)), (18, .int .i64 (x2.length : Int)), (19, .int .i64 s.2.1)], [(0, (Rect.c s.2.2))], [])) (fun _ => [7]) (fun _ => [0]) (fun z => (.exit 0, [(7, .sl true 4 (List.map Rect.c z.1))], [(0, (Rect.c z.2))], [])) ?_ ?_ ?_
  · exact rfl
  · clear h
    rintro ⟨out, t19, r_'⟩ x h
    replace h : rect_Cut_l1 across x2 out t19 r_' = some x := h
    unfold rect_Cut_l1 at h
    show T.WP _ _ [(2, .bool across), (3, .loc 0 0), (7, .sl true 4 (List.map Rect.c out)), (17, .sl false 1 (List.map ei64 x2)), (18, .int .i64 (x2.length : Int)), (19, .int .i64 t19)] [(0, (Rect.c r_'))] [] _
    refine zaa ?_
    refine zac [2, 3, 7, 17, 18, 19, 20] [0] ?_
    refine zad ?_
    refine fun c3 hc3 => ?_
    replace h := zag hc3 h
    refine zaa ?_
    refine zam (b := c3) rfl (fun hb4 => ?_) (fun hb4 => ?_)
    · replace h := zaB hb4 h
      refine zat ?_
      refine zaa ?_
      obtain ⟨j12, hj12, h⟩ := zab h
      refine zcx j12 (fun z => (.normal, [(2, .bool across), (3, .loc 0 0), (7, .sl true 4 (List.map Rect.c z.1)), (17, .sl false 1 (List.map ei64 x2)), (18, .int .i64 (x2.length : Int)), (19, .int .i64 t19)], [(0, (Rect.c z.2.1)), (1, (Rect.c z.2.2))], [])) (fun _ => [2, 3, 7, 17, 18, 19]) (fun _ => [0, 1]) ?_ ?_
      · clear h
        replace h := hj12
        clear hj12
        refine zas ?_
        refine zaa ?_
        refine zac [2, 3, 7, 9, 17, 18, 19] [0] ?_
        refine zad ?_
        obtain ⟨x5, hx5, h⟩ := zab h
        refine And.intro (zef hx5) ⟨_, zbe ei64 hx5, ?_⟩
        refine zaa ?_
        refine zac [2, 3, 7, 9, 10, 17, 18, 19] [0, 1] ?_
        refine zad ?_
        refine zaa ?_
        refine zaa ?_
        refine zac [2, 3, 7, 9, 10, 17, 18, 19, 24] [0, 1] ?_
        refine zad ?_
        obtain ⟨j9, hj9, h⟩ := zab h
        refine zcx j9 (fun z => (.normal, [(2, .bool across), (3, .loc 0 0), (7, .sl true 4 (List.map Rect.c out)), (10, .loc 1 0), (17, .sl false 1 (List.map ei64 x2)), (18, .int .i64 (x2.length : Int)), (19, .int .i64 t19)], [(0, (Rect.c z.1)), (1, (Rect.c z.2))], [])) (fun _ => [2, 3, 7, 10, 17, 18, 19]) (fun _ => [0, 1]) ?_ ?_
        · clear h
          replace h := hj9
          clear hj9
          refine zam (b := across) rfl (fun hb6 => ?_) (fun hb6 => ?_)
          · replace h := zaB hb6 h
            refine zaa ?_
            refine zac [2, 3, 7, 10, 17, 18, 19] [0, 1] ?_
            refine zad ?_
            obtain ⟨y7, hy7, h⟩ := zab h
            refine ⟨_, zbz hy7, ?_⟩
            refine zac [2, 3, 7, 10, 17, 18, 19] [0, 1] ?_
            refine zeg ?_
            cases h
            exact rfl
          · replace h := zaz hb6 h
            refine zaa ?_
            refine zac [2, 3, 7, 10, 17, 18, 19] [0, 1] ?_
            refine zad ?_
            obtain ⟨y8, hy8, h⟩ := zab h
            refine ⟨_, zbz hy8, ?_⟩
            refine zac [2, 3, 7, 10, 17, 18, 19] [0, 1] ?_
            refine zeg ?_
            cases h
            exact rfl
        refine zac [2, 3, 7, 17, 18, 19] [0, 1] ?_
        refine zad ?_
        obtain ⟨y10, hy10, h⟩ := zab h
        refine ⟨_, zau hy10, ?_⟩
        refine ⟨(List.map Rect.c ([y10] : List Rect)), rfl, ?_⟩
        obtain ⟨x11, hx11, h⟩ := zab h
        refine And.intro (zjX Rect.c hx11) ⟨_, zjY Rect.c hx11, ?_⟩
        cases h
        exact rfl
      refine zac [2, 3, 7, 17, 18, 19] [0, 1] ?_
      refine zad ?_
      cases h
      exact ⟨_, rfl, rfl⟩
    · replace h := zaz hb4 h
      refine zb1 ?_
      cases h
      exact ⟨_, rfl, rfl⟩
  refine zaa ?_
  refine zac [6] [0] ?_
  refine zad ?_
  refine zaD ?_
  cases h
  exact ⟨rfl, rfl, rfl, rfl, rfl⟩
noncomputable def layout_placer_layF_l8 (x6 : List Plan) (t24 : Int) (r_' : Rect) (x_' : Placer) : Option ((Int × Rect × Placer) ⊕ (Rect × Placer)) :=
  letB (decide (t24 < (x6.length : Int))) fun c7 =>
  bif c7 then (
    (zaE ({ r_' with H := min 1 (max (w64 (r_'.H - 1)) 0) })).bind fun y9 =>
    (zaM x_' y9 0 true).bind fun y10 =>
    some (.inl (w64 (t24 + 1), { r_' with Y := w64 (r_'.Y + (min 1 (max (w64 (r_'.H - 1)) 0))), H := w64 (r_'.H - (min 1 (max (w64 (r_'.H - 1)) 0))) }, y10)))
  else (
    some (.inr (r_', x_')))
noncomputable def zaR (rec35 : Placer → Plan → Rect → Option Placer) (rec62 : Placer → Plan → Rect → Option Placer) (x_ : Placer) (p : Plan) (r_ : Rect) : Option Placer :=
  Option.bind (
    letB (decide (p.Kind = 1)) fun c1 =>
    Option.bind (
      bif c1 then (
        (zaM x_ r_ 0 false).bind fun y3 =>
        some ((r_, y3)))
      else (
        letB (decide (p.Kind = 4)) fun c4 =>
        Option.bind (
          bif c4 then (
            (subA p.Kids 1).bind fun x6 =>
            (iter (fun s => layout_placer_layF_l8 x6 s.1 s.2.1 s.2.2 : (Int × Rect × Placer) → Option ((Int × Rect × Placer) ⊕ (Rect × Placer))) (0, r_, x_)).bind fun j11 =>
            (zaE j11.1).bind fun y12 =>
            (zaM j11.2 y12 0 false).bind fun y13 =>
            some ((j11.1, y13)))
          else (
            (rec62 x_ p r_).bind fun y14 =>
            some ((r_, y14))) : Option (Rect × Placer)) fun j15 =>
        some ((j15.1, j15.2))) : Option (Rect × Placer)) fun j16 =>
    some ((j16.1, j16.2)) : Option (Rect × Placer)) fun j17 =>
  some j17.2
set_option maxRecDepth 20000 in
theorem zeC {rec35 : Placer → Plan → Rect → Option Placer} {rec62 : Placer → Plan → Rect → Option Placer} (rec35_ok : ∀ (a0 : Placer) (a1 : Plan) (a2 : Rect) (r : Placer), rec35 a0 a1 a2 = some r → zan false (RF ET) 35 [.ptr 0 0, .agg (Plan.e a1), .agg (Rect.c a2)] [(Placer.c a0)] (.tuple []) [(Placer.c r)]) (rec62_ok : ∀ (a0 : Placer) (a1 : Plan) (a2 : Rect) (r : Placer), rec62 a0 a1 a2 = some r → zan false (RF ET) 62 [.ptr 0 0, .agg (Plan.e a1), .agg (Rect.c a2)] [(Placer.c a0)] (.tuple []) [(Placer.c r)]) {x_ : Placer} {p : Plan} {r_ : Rect} {r : Placer} (h : zaR rec35 rec62 x_ p r_ = some r) : zan false (RF ET) 35 [.ptr 0 0, .agg (Plan.e p), .agg (Rect.c r_)] [(Placer.c x_)] (.tuple []) [(Placer.c r)] := by
  refine za5 (af := a35) rfl rfl ?_
  unfold zaR at h
  refine zaa ?_
  refine zac [0, 4, 5] [0, 1] ?_
  refine zad ?_
  refine zaa ?_
  refine zac [0, 4, 5, 8] [0, 1] ?_
  refine zad ?_
  obtain ⟨j17, hj17, h⟩ := zab h
  refine zcx j17 (fun z => (.normal, [], [(0, (Plan.e p)), (1, (Rect.c z.1))], [(Placer.c z.2)])) (fun _ => []) (fun _ => [0, 1]) ?_ ?_
  · clear h
    replace h := hj17
    clear hj17
    refine zas ?_
    refine zaa ?_
    refine zac [0, 4, 5, 8, 13] [0, 1] ?_
    refine zad ?_
    refine fun c1 hc1 => ?_
    replace h := zag hc1 h
    obtain ⟨j16, hj16, h⟩ := zab h
    refine zcx j16 (fun z => (.normal, [], [(0, (Plan.e p)), (1, (Rect.c z.1))], [(Placer.c z.2)])) (fun _ => []) (fun _ => [0, 1]) ?_ ?_
    · clear h
      replace h := hj16
      clear hj16
      refine zam (b := c1) rfl (fun hb2 => ?_) (fun hb2 => ?_)
      · replace h := zaB hb2 h
        refine zac [] [0, 1] ?_
        refine zad ?_
        obtain ⟨y3, hy3, h⟩ := zab h
        refine ⟨_, _, zan.sub (i := 0) (zbE hy3) rfl _ rfl rfl rfl rfl, ?_⟩
        cases h
        exact rfl
      · replace h := zaz hb2 h
        refine zaa ?_
        refine zac [0, 4, 5, 18] [0, 1] ?_
        refine zad ?_
        refine fun c4 hc4 => ?_
        replace h := zag hc4 h
        obtain ⟨j15, hj15, h⟩ := zab h
        refine zcx j15 (fun z => (.normal, [], [(0, (Plan.e p)), (1, (Rect.c z.1))], [(Placer.c z.2)])) (fun _ => []) (fun _ => [0, 1]) ?_ ?_
        · clear h
          replace h := hj15
          clear hj15
          refine zam (b := c4) rfl (fun hb5 => ?_) (fun hb5 => ?_)
          · replace h := zaB hb5 h
            refine zaa ?_
            refine zaa ?_
            refine zac [0, 5, 23, 24] [0, 1] ?_
            refine zad ?_
            obtain ⟨x6, hx6, h⟩ := zab h
            refine And.intro (zpu hx6) (And.intro (zof Plan.cs_is hx6) ⟨_, zog Plan.cs_is hx6, ?_⟩)
            refine ⟨_, (lenR Plan.cs_is).symm, ?_⟩
            refine zas ?_
            obtain ⟨j11, hj11, h⟩ := zab h
            refine zch hj11 [0, 1] (fun s => ([(0, .ptr 0 0), (5, .loc 1 0), (23, .int .i64 (x6.length : Int)), (24, .int .i64 s.1)], [(0, (Plan.e p)), (1, (Rect.c s.2.1))], [(Placer.c s.2.2)])) (fun _ => [0, 5]) (fun _ => [0, 1]) (fun z => (.exit 1, [(0, .ptr 0 0), (5, .loc 1 0)], [(0, (Plan.e p)), (1, (Rect.c z.1))], [(Placer.c z.2)])) ?_ ?_ ?_
            · exact rfl
            · clear h
              rintro ⟨t24, r_', x_'⟩ x h
              replace h : layout_placer_layF_l8 x6 t24 r_' x_' = some x := h
              unfold layout_placer_layF_l8 at h
              show T.WP _ _ [(0, .ptr 0 0), (5, .loc 1 0), (23, .int .i64 (x6.length : Int)), (24, .int .i64 t24)] [(0, (Plan.e p)), (1, (Rect.c r_'))] [(Placer.c x_')] _
              refine zaa ?_
              refine zac [0, 5, 23, 24, 25] [0, 1] ?_
              refine zad ?_
              refine fun c7 hc7 => ?_
              replace h := zag hc7 h
              refine zaa ?_
              refine zam (b := c7) rfl (fun hb8 => ?_) (fun hb8 => ?_)
              · replace h := zaB hb8 h
                refine zat ?_
                refine zaa ?_
                refine zas ?_
                refine zaa ?_
                refine zac [0, 5, 6, 23, 24] [0, 1, 2] ?_
                refine zad ?_
                refine zaa ?_
                refine zac [0, 5, 6, 23, 24] [0, 1, 2] ?_
                refine zad ?_
                refine zaa ?_
                refine zac [0, 5, 6, 23, 24] [0, 1, 2] ?_
                refine zeg ?_
                refine zac [0, 5, 23, 24] [0, 1, 2] ?_
                refine zad ?_
                obtain ⟨y9, hy9, h⟩ := zab h
                refine ⟨_, zau hy9, ?_⟩
                obtain ⟨y10, hy10, h⟩ := zab h
                refine ⟨_, _, zan.sub (i := 0) (zbE hy10) rfl _ rfl rfl rfl rfl, ?_⟩
                refine zac [0, 5, 23, 24] [0, 1, 2] ?_
                refine zad ?_
                cases h
                exact ⟨_, rfl, rfl⟩
              · replace h := zaz hb8 h
                refine zb1 ?_
                cases h
                exact ⟨_, rfl, rfl⟩
            refine zac [] [0, 1] ?_
            refine zad ?_
            obtain ⟨y12, hy12, h⟩ := zab h
            refine ⟨_, zau hy12, ?_⟩
            obtain ⟨y13, hy13, h⟩ := zab h
            refine ⟨_, _, zan.sub (i := 0) (zbE hy13) rfl _ rfl rfl rfl rfl, ?_⟩
            cases h
            exact rfl
          · replace h := zaz hb5 h
            refine zac [] [0, 1] ?_
            refine zad ?_
            obtain ⟨y14, hy14, h⟩ := zab h
            refine ⟨_, _, zan.sub (i := 0) (rec62_ok _ _ _ _ hy14) rfl _ rfl rfl rfl rfl, ?_⟩
            cases h
            exact rfl
        cases h
        exact rfl
    cases h
    exact rfl
  cases h
  exact ⟨rfl, rfl, rfl, rfl, rfl⟩
noncomputable def layout_placer_splitF_l1 (p : Plan) (sizes : List Size) (t27 : Int) : Option ((List Size × Int) ⊕ List Size) :=
  letB (decide (t27 < (p.Kids.length : Int))) fun c4 =>
  bif c4 then (
    (idx p.Kids t27).bind fun x6 =>
    (app sizes [x6.Size]).bind fun x7 =>
    some (.inl (x7, w64 (t27 + 1))))
  else (
    some (.inr sizes))
noncomputable def layout_placer_splitF_l3 (x12 : List Int) (lengths : List Int) (t50 : Int) : Option ((List Int × Int) ⊕ List Int) :=
  letB (decide (t50 < (x12.length : Int))) fun c13 =>
  bif c13 then (
    (idx lengths t50).bind fun x15 =>
    some (.inl (upI lengths t50 1, w64 (t50 + 1))))
  else (
    some (.inr lengths))
noncomputable def layout_placer_splitF_l4 (p : Plan) (rec35 : Placer → Plan → Rect → Option Placer) (y17 : List Rect) (t62 : Int) (x_' : Placer) : Option ((Int × Placer) ⊕ Placer) :=
  letB (decide (t62 < (y17.length : Int))) fun c18 =>
  bif c18 then (
    (idx y17 t62).bind fun x20 =>
    (idx p.Kids t62).bind fun x21 =>
    (rec35 x_' x21 x20).bind fun y22 =>
    some (.inl (w64 (t62 + 1), y22)))
  else (
    some (.inr x_'))
noncomputable def layout_placer_splitF_l5 (p : Plan) (rec35 : Placer → Plan → Rect → Option Placer) (y24 : List Rect) (t62' : Int) (x_'' : Placer) : Option ((Int × Placer) ⊕ Placer) :=
  letB (decide (t62' < (y24.length : Int))) fun c25 =>
  bif c25 then (
    (idx y24 t62').bind fun x27 =>
    (idx p.Kids t62').bind fun x28 =>
    (rec35 x_'' x28 x27).bind fun y29 =>
    some (.inl (w64 (t62' + 1), y29)))
  else (
    some (.inr x_''))
noncomputable def zbg (rec35 : Placer → Plan → Rect → Option Placer) (rec62 : Placer → Plan → Rect → Option Placer) (x_ : Placer) (p : Plan) (r_ : Rect) : Option Placer :=
  letB (decide (p.Kind = 3)) fun c1 =>
  Option.bind (
    bif c1 then (
      some (r_.H))
    else (
      some (r_.W)) : Option Int) fun j3 =>
  (iter (fun s => layout_placer_splitF_l1 p s.1 s.2 : (List Size × Int) → Option ((List Size × Int) ⊕ List Size)) ([], 0)).bind fun j8 =>
  (zbL j3 j8).bind fun y9 =>
  letB (decide (y9.2 ≠ 0)) fun c10 =>
  bif c10 then (
    (mkL (j8.length : Int) (j8.length : Int) (0 : Int)).bind fun x12 =>
    (iter (fun s => layout_placer_splitF_l3 x12 s.1 s.2 : (List Int × Int) → Option ((List Int × Int) ⊕ List Int)) (x12, 0)).bind fun j16 =>
    (zeM r_ j16 c1).bind fun y17 =>
    (iter (fun s => layout_placer_splitF_l4 p rec35 y17 s.1 s.2 : (Int × Placer) → Option ((Int × Placer) ⊕ Placer)) (0, x_)).bind fun j23 =>
    some j23)
  else (
    (zeM r_ y9.1 c1).bind fun y24 =>
    (iter (fun s => layout_placer_splitF_l5 p rec35 y24 s.1 s.2 : (Int × Placer) → Option ((Int × Placer) ⊕ Placer)) (0, x_)).bind fun j30 =>
    some j30)
set_option maxRecDepth 20000 in
theorem zeb {rec35 : Placer → Plan → Rect → Option Placer} {rec62 : Placer → Plan → Rect → Option Placer} (rec35_ok : ∀ (a0 : Placer) (a1 : Plan) (a2 : Rect) (r : Placer), rec35 a0 a1 a2 = some r → zan false (RF ET) 35 [.ptr 0 0, .agg (Plan.e a1), .agg (Rect.c a2)] [(Placer.c a0)] (.tuple []) [(Placer.c r)]) (rec62_ok : ∀ (a0 : Placer) (a1 : Plan) (a2 : Rect) (r : Placer), rec62 a0 a1 a2 = some r → zan false (RF ET) 62 [.ptr 0 0, .agg (Plan.e a1), .agg (Rect.c a2)] [(Placer.c a0)] (.tuple []) [(Placer.c r)]) {x_ : Placer} {p : Plan} {r_ : Rect} {r : Placer} (h : zbg rec35 rec62 x_ p r_ = some r) : zan false (RF ET) 62 [.ptr 0 0, .agg (Plan.e p), .agg (Rect.c r_)] [(Placer.c x_)] (.tuple []) [(Placer.c r)] := by
  refine za5 (af := a62) rfl rfl ?_
  unfold zbg at h
  refine zaa ?_
  refine zac [0, 4, 5] [0, 1] ?_
  refine zad ?_
  refine zaa ?_
  refine zac [0, 4, 5, 6, 7] [0, 1] ?_
  refine zeg ?_
  refine fun c1 hc1 => ?_
  replace h := zag hc1 h
  refine zaa ?_
  refine zaa ?_
  refine zac [0, 4, 5, 6, 7, 21] [0, 1] ?_
  refine zad ?_
  obtain ⟨j3, hj3, h⟩ := zab h
  refine zcx j3 (fun z => (.normal, [(0, .ptr 0 0), (4, .loc 0 0), (5, .loc 1 0), (6, .int .i64 z), (7, .bool c1)], [(0, (Plan.e p)), (1, (Rect.c r_))], [(Placer.c x_)])) (fun _ => [0, 4, 5, 6, 7]) (fun _ => [0, 1]) ?_ ?_
  · clear h
    replace h := hj3
    clear hj3
    refine zam (b := c1) rfl (fun hb2 => ?_) (fun hb2 => ?_)
    · replace h := zaB hb2 h
      refine zac [0, 4, 5, 6, 7] [0, 1] ?_
      refine zad ?_
      cases h
      exact rfl
    · replace h := zaz hb2 h
      refine zat ?_
      cases h
      exact rfl
  refine zaa ?_
  refine zac [0, 4, 5, 6, 7, 8] [0, 1] ?_
  refine zad ?_
  refine ⟨.sl true 2 [], .sl _ _, ?_⟩
  refine zaa ?_
  refine zaa ?_
  refine zac [0, 4, 5, 6, 7, 8, 25, 26, 27] [0, 1] ?_
  refine zad ?_
  refine ⟨_, (lenR Plan.cs_is).symm, ?_⟩
  refine zas ?_
  obtain ⟨j8, hj8, h⟩ := zab h
  refine zch hj8 [0, 1] (fun s => ([(0, .ptr 0 0), (4, .loc 0 0), (5, .loc 1 0), (6, .int .i64 j3), (7, .bool c1), (8, .sl true 2 (List.map Size.c s.1)), (25, .sl false 6 (Plan.cs p.Kids)), (26, .int .i64 (p.Kids.length : Int)), (27, .int .i64 s.2)], [(0, (Plan.e p)), (1, (Rect.c r_))], [(Placer.c x_)])) (fun _ => [0, 4, 5, 6, 7, 8]) (fun _ => [0, 1]) (fun z => (.exit 0, [(0, .ptr 0 0), (4, .loc 0 0), (5, .loc 1 0), (6, .int .i64 j3), (7, .bool c1), (8, .sl true 2 (List.map Size.c z))], [(0, (Plan.e p)), (1, (Rect.c r_))], [(Placer.c x_)])) ?_ ?_ ?_
  · exact rfl
  · clear h
    rintro ⟨sizes, t27⟩ x h
    replace h : layout_placer_splitF_l1 p sizes t27 = some x := h
    unfold layout_placer_splitF_l1 at h
    show T.WP _ _ [(0, .ptr 0 0), (4, .loc 0 0), (5, .loc 1 0), (6, .int .i64 j3), (7, .bool c1), (8, .sl true 2 (List.map Size.c sizes)), (25, .sl false 6 (Plan.cs p.Kids)), (26, .int .i64 (p.Kids.length : Int)), (27, .int .i64 t27)] [(0, (Plan.e p)), (1, (Rect.c r_))] [(Placer.c x_)] _
    refine zaa ?_
    refine zac [0, 4, 5, 6, 7, 8, 25, 26, 27, 28] [0, 1] ?_
    refine zad ?_
    refine fun c4 hc4 => ?_
    replace h := zag hc4 h
    refine zaa ?_
    refine zam (b := c4) rfl (fun hb5 => ?_) (fun hb5 => ?_)
    · replace h := zaB hb5 h
      refine zat ?_
      refine zaa ?_
      refine zas ?_
      refine zaa ?_
      refine zac [0, 4, 5, 6, 7, 8, 10, 25, 26, 27] [0, 1, 2] ?_
      refine zad ?_
      obtain ⟨x6, hx6, h⟩ := zab h
      refine And.intro (zef hx6) ⟨_, zgA Plan.cs_is hx6, ?_⟩
      refine ⟨.sl true 6 [], .sl _ _, ?_⟩
      refine ⟨.sl false 4 [], .sl _ _, ?_⟩
      refine zac [0, 4, 5, 6, 7, 8, 25, 26, 27] [0, 1, 2] ?_
      refine zad ?_
      refine ⟨(List.map Size.c ([x6.Size] : List Size)), rfl, ?_⟩
      obtain ⟨x7, hx7, h⟩ := zab h
      refine And.intro (zjX Size.c hx7) ⟨_, zjY Size.c hx7, ?_⟩
      refine zac [0, 4, 5, 6, 7, 8, 25, 26, 27] [0, 1, 2] ?_
      refine zad ?_
      cases h
      exact ⟨_, rfl, rfl⟩
    · replace h := zaz hb5 h
      refine zb1 ?_
      cases h
      exact ⟨_, rfl, rfl⟩
  refine zaa ?_
  refine zac [0, 4, 5, 7, 8, 11, 12] [0, 1] ?_
  refine zad ?_
  obtain ⟨y9, hy9, h⟩ := zab h
  refine ⟨_, zhI hy9, ?_⟩
  refine zaa ?_
  refine zaa ?_
  refine zac [0, 4, 5, 7, 8, 11, 44] [0, 1] ?_
  refine zad ?_
  refine fun c10 hc10 => ?_
  replace h := zag hc10 h
  refine zam (b := c10) rfl (fun hb11 => ?_) (fun hb11 => ?_)
  · replace h := zaB hb11 h
    refine zaa ?_
    refine zac [0, 4, 5, 7, 11] [0, 1] ?_
    refine zad ?_
    refine ⟨_, (List.length_map ..).symm, ?_⟩
    obtain ⟨x12, hx12, h⟩ := zab h
    refine And.intro (zpw hx12) ?_
    refine ⟨_, zpx (e := ei64) rfl hx12, ?_⟩
    refine zaa ?_
    refine zac [0, 4, 5, 7, 11, 49, 50] [0, 1] ?_
    refine zad ?_
    refine ⟨_, (List.length_map ..).symm, ?_⟩
    refine zas ?_
    obtain ⟨j16, hj16, h⟩ := zab h
    refine zch hj16 [0, 1] (fun s => ([(0, .ptr 0 0), (4, .loc 0 0), (5, .loc 1 0), (7, .bool c1), (11, .sl true 1 (List.map ei64 s.1)), (49, .int .i64 (x12.length : Int)), (50, .int .i64 s.2)], [(0, (Plan.e p)), (1, (Rect.c r_))], [(Placer.c x_)])) (fun _ => [0, 4, 5, 7, 11]) (fun _ => [0, 1]) (fun z => (.exit 2, [(0, .ptr 0 0), (4, .loc 0 0), (5, .loc 1 0), (7, .bool c1), (11, .sl true 1 (List.map ei64 z))], [(0, (Plan.e p)), (1, (Rect.c r_))], [(Placer.c x_)])) ?_ ?_ ?_
    · exact rfl
    · clear h
      rintro ⟨lengths, t50⟩ x h
      replace h : layout_placer_splitF_l3 x12 lengths t50 = some x := h
      unfold layout_placer_splitF_l3 at h
      show T.WP _ _ [(0, .ptr 0 0), (4, .loc 0 0), (5, .loc 1 0), (7, .bool c1), (11, .sl true 1 (List.map ei64 lengths)), (49, .int .i64 (x12.length : Int)), (50, .int .i64 t50)] [(0, (Plan.e p)), (1, (Rect.c r_))] [(Placer.c x_)] _
      refine zaa ?_
      refine zac [0, 4, 5, 7, 11, 49, 50, 51] [0, 1] ?_
      refine zad ?_
      refine fun c13 hc13 => ?_
      replace h := zag hc13 h
      refine zaa ?_
      refine zam (b := c13) rfl (fun hb14 => ?_) (fun hb14 => ?_)
      · replace h := zaB hb14 h
        refine zat ?_
        refine zaa ?_
        refine zas ?_
        refine zaa ?_
        refine zac [0, 4, 5, 7, 11, 13, 49, 50] [0, 1] ?_
        refine zad ?_
        refine zac [0, 4, 5, 7, 11, 49, 50] [0, 1] ?_
        refine zad ?_
        obtain ⟨x15, hx15, h⟩ := zab h
        refine And.intro (zcu ei64 hx15) ?_
        refine ⟨_, zbe ei64 hx15, ?_⟩
        refine ⟨_, zhn (e := ei64) (i := t50) (x := 1) rfl, ?_⟩
        refine zac [0, 4, 5, 7, 11, 49, 50] [0, 1] ?_
        refine zad ?_
        cases h
        exact ⟨_, rfl, rfl⟩
      · replace h := zaz hb14 h
        refine zb1 ?_
        cases h
        exact ⟨_, rfl, rfl⟩
    refine zaa ?_
    refine zac [0, 4, 60, 61, 62] [0, 1] ?_
    refine zad ?_
    obtain ⟨y17, hy17, h⟩ := zab h
    refine ⟨_, zhp hy17, ?_⟩
    refine ⟨_, (List.length_map ..).symm, ?_⟩
    refine zas ?_
    obtain ⟨j23, hj23, h⟩ := zab h
    refine zch hj23 [0, 1] (fun s => ([(0, .ptr 0 0), (4, .loc 0 0), (60, .sl true 4 (List.map Rect.c y17)), (61, .int .i64 (y17.length : Int)), (62, .int .i64 s.1)], [(0, (Plan.e p)), (1, (Rect.c r_))], [(Placer.c s.2)])) (fun _ => []) (fun _ => [0, 1]) (fun z => (.exit 4, [], [(0, (Plan.e p)), (1, (Rect.c r_))], [(Placer.c z)])) ?_ ?_ ?_
    · exact rfl
    · clear h
      rintro ⟨t62, x_'⟩ x h
      replace h : layout_placer_splitF_l4 p rec35 y17 t62 x_' = some x := h
      unfold layout_placer_splitF_l4 at h
      show T.WP _ _ [(0, .ptr 0 0), (4, .loc 0 0), (60, .sl true 4 (List.map Rect.c y17)), (61, .int .i64 (y17.length : Int)), (62, .int .i64 t62)] [(0, (Plan.e p)), (1, (Rect.c r_))] [(Placer.c x_')] _
      refine zaa ?_
      refine zac [0, 4, 60, 61, 62, 63] [0, 1] ?_
      refine zad ?_
      refine fun c18 hc18 => ?_
      replace h := zag hc18 h
      refine zaa ?_
      refine zam (b := c18) rfl (fun hb19 => ?_) (fun hb19 => ?_)
      · replace h := zaB hb19 h
        refine zat ?_
        refine zaa ?_
        refine zas ?_
        refine zaa ?_
        refine zac [0, 4, 14, 15, 60, 61, 62] [0, 1, 3] ?_
        refine zad ?_
        obtain ⟨x20, hx20, h⟩ := zab h
        refine And.intro (zcu Rect.c hx20) ?_
        refine ⟨_, zbe Rect.c hx20, ?_⟩
        refine zac [0, 4, 60, 61, 62] [0, 1, 3] ?_
        refine zeg ?_
        obtain ⟨x21, hx21, h⟩ := zab h
        refine And.intro (zef hx21) ⟨_, zgA Plan.cs_is hx21, ?_⟩
        obtain ⟨y22, hy22, h⟩ := zab h
        refine ⟨_, _, zan.sub (i := 0) (rec35_ok _ _ _ _ hy22) rfl _ rfl rfl rfl rfl, ?_⟩
        refine zac [0, 4, 60, 61, 62] [0, 1, 3] ?_
        refine zad ?_
        cases h
        exact ⟨_, rfl, rfl⟩
      · replace h := zaz hb19 h
        refine zb1 ?_
        cases h
        exact ⟨_, rfl, rfl⟩
    cases h
    exact ⟨rfl, rfl, rfl, rfl, rfl⟩
  · replace h := zaz hb11 h
    refine zat ?_
    refine zaa ?_
    refine zac [0, 4, 60, 61, 62] [0, 1] ?_
    refine zad ?_
    obtain ⟨y24, hy24, h⟩ := zab h
    refine ⟨_, zhp hy24, ?_⟩
    refine ⟨_, (List.length_map ..).symm, ?_⟩
    refine zas ?_
    obtain ⟨j30, hj30, h⟩ := zab h
    refine zch hj30 [0, 1] (fun s => ([(0, .ptr 0 0), (4, .loc 0 0), (60, .sl true 4 (List.map Rect.c y24)), (61, .int .i64 (y24.length : Int)), (62, .int .i64 s.1)], [(0, (Plan.e p)), (1, (Rect.c r_))], [(Placer.c s.2)])) (fun _ => []) (fun _ => [0, 1]) (fun z => (.exit 4, [], [(0, (Plan.e p)), (1, (Rect.c r_))], [(Placer.c z)])) ?_ ?_ ?_
    · exact rfl
    · clear h
      rintro ⟨t62', x_''⟩ x h
      replace h : layout_placer_splitF_l5 p rec35 y24 t62' x_'' = some x := h
      unfold layout_placer_splitF_l5 at h
      show T.WP _ _ [(0, .ptr 0 0), (4, .loc 0 0), (60, .sl true 4 (List.map Rect.c y24)), (61, .int .i64 (y24.length : Int)), (62, .int .i64 t62')] [(0, (Plan.e p)), (1, (Rect.c r_))] [(Placer.c x_'')] _
      refine zaa ?_
      refine zac [0, 4, 60, 61, 62, 63] [0, 1] ?_
      refine zad ?_
      refine fun c25 hc25 => ?_
      replace h := zag hc25 h
      refine zaa ?_
      refine zam (b := c25) rfl (fun hb26 => ?_) (fun hb26 => ?_)
      · replace h := zaB hb26 h
        refine zat ?_
        refine zaa ?_
        refine zas ?_
        refine zaa ?_
        refine zac [0, 4, 14, 15, 60, 61, 62] [0, 1, 3] ?_
        refine zad ?_
        obtain ⟨x27, hx27, h⟩ := zab h
        refine And.intro (zcu Rect.c hx27) ?_
        refine ⟨_, zbe Rect.c hx27, ?_⟩
        refine zac [0, 4, 60, 61, 62] [0, 1, 3] ?_
        refine zeg ?_
        obtain ⟨x28, hx28, h⟩ := zab h
        refine And.intro (zef hx28) ⟨_, zgA Plan.cs_is hx28, ?_⟩
        obtain ⟨y29, hy29, h⟩ := zab h
        refine ⟨_, _, zan.sub (i := 0) (rec35_ok _ _ _ _ hy29) rfl _ rfl rfl rfl rfl, ?_⟩
        refine zac [0, 4, 60, 61, 62] [0, 1, 3] ?_
        refine zad ?_
        cases h
        exact ⟨_, rfl, rfl⟩
      · replace h := zaz hb26 h
        refine zb1 ?_
        cases h
        exact ⟨_, rfl, rfl⟩
    cases h
    exact ⟨rfl, rfl, rfl, rfl, rfl⟩
noncomputable def zah : Nat → (Placer → Plan → Rect → Option Placer) × (Placer → Plan → Rect → Option Placer)
  | 0 => (fun _ _ _ => none, fun _ _ _ => none)
  | k + 1 => (zaR ((zah k).1) ((zah k).2), zbg ((zah k).1) ((zah k).2))
theorem za6 : ∀ k, (∀ (a0 : Placer) (a1 : Plan) (a2 : Rect) (r : Placer), ((zah k).1) a0 a1 a2 = some r → zan false (RF ET) 35 [.ptr 0 0, .agg (Plan.e a1), .agg (Rect.c a2)] [(Placer.c a0)] (.tuple []) [(Placer.c r)]) ∧ (∀ (a0 : Placer) (a1 : Plan) (a2 : Rect) (r : Placer), ((zah k).2) a0 a1 a2 = some r → zan false (RF ET) 62 [.ptr 0 0, .agg (Plan.e a1), .agg (Rect.c a2)] [(Placer.c a0)] (.tuple []) [(Placer.c r)])
  | 0 => ⟨(fun _ _ _ _ h => by cases h), (fun _ _ _ _ h => by cases h)⟩
  | k + 1 => ⟨(fun _ _ _ _ h => zeC ((za6 k).1) ((za6 k).2) h), (fun _ _ _ _ h => zeb ((za6 k).1) ((za6 k).2) h)⟩
noncomputable def zcJ (a0 : Placer) (a1 : Plan) (a2 : Rect) : Option Placer := (zah 30).1 a0 a1 a2
theorem zeP {a0 : Placer} {a1 : Plan} {a2 : Rect} {r : Placer} (h : zcJ a0 a1 a2 = some r) : zan false (RF ET) 35 [.ptr 0 0, .agg (Plan.e a1), .agg (Rect.c a2)] [(Placer.c a0)] (.tuple []) [(Placer.c r)] := (za6 30).1 a0 a1 a2 r h
noncomputable def zeD (r_ : Rect) (box : Rect) : Option Rect :=
  (zaE r_).bind fun y1 =>
  (zaE box).bind fun y2 =>
  (zbk y1.X y2.X (w64 ((w64 (y2.X + y2.W)) - (min y1.W y2.W)))).bind fun y3 =>
  (zbk y1.Y y2.Y (w64 ((w64 (y2.Y + y2.H)) - (min y1.H y2.H)))).bind fun y4 =>
  (zaE (Rect.mk y3 y4 (min y1.W y2.W) (min y1.H y2.H))).bind fun y5 =>
  some y5
set_option maxRecDepth 20000 in
theorem zjZ {r_ : Rect} {box : Rect} {r : Rect} (h : zeD r_ box = some r) : zan true (RF ET) 37 [.agg (Rect.c r_), .agg (Rect.c box)] [] (.agg (Rect.c r)) [] := by
  refine zan.quiet (za5 (af := a37) rfl rfl ?_) rfl
  unfold zeD at h
  refine zaa ?_
  refine zac [2, 3, 4] [0, 1, 2] ?_
  refine zad ?_
  refine zaa ?_
  refine zac [2, 3, 4] [0, 1, 2] ?_
  refine zeg ?_
  obtain ⟨y1, hy1, h⟩ := zab h
  refine ⟨_, zau hy1, ?_⟩
  obtain ⟨y2, hy2, h⟩ := zab h
  refine ⟨_, zau hy2, ?_⟩
  refine zaa ?_
  refine zac [2, 3, 4] [0, 1, 2] ?_
  refine zeg ?_
  refine zaa ?_
  refine zac [2, 3, 4] [0, 1, 2] ?_
  refine zad ?_
  obtain ⟨y3, hy3, h⟩ := zab h
  refine ⟨_, zbz hy3, ?_⟩
  refine zaa ?_
  refine zac [2, 4] [0, 1, 2] ?_
  refine zad ?_
  obtain ⟨y4, hy4, h⟩ := zab h
  refine ⟨_, zbz hy4, ?_⟩
  refine zaa ?_
  refine zac [4] [0, 1, 2] ?_
  refine zad ?_
  obtain ⟨y5, hy5, h⟩ := zab h
  refine ⟨_, zau hy5, ?_⟩
  refine zaD ?_
  cases h
  exact ⟨rfl, rfl, rfl, rfl, rfl⟩
noncomputable def layout_Place_l1 (p : Plan) (y4 : Rect) (t22 : Int) (x_ : Placer) : Option ((Int × Placer) ⊕ Placer) :=
  letB (decide (t22 < (p.Float.length : Int))) fun c6 =>
  bif c6 then (
    (idx p.Float t22).bind fun x8 =>
    (zdP x8 y4.X y4.Y).bind fun y9 =>
    (zeD y9 y4).bind fun y10 =>
    (zaM x_ y10 (w64 (t22 + 1)) false).bind fun y11 =>
    some (.inl (w64 (t22 + 1), y11)))
  else (
    some (.inr x_))
noncomputable def zbW (p : Plan) (r_ : Rect) : Option (List Spot) :=
  (zcr p).bind fun y1 =>
  letB (decide (y1 ≠ 0)) fun c2 =>
  bif c2 then (
    some [])
  else (
    (zaE r_).bind fun y4 =>
    (zcJ (Placer.mk []) p y4).bind fun y5 =>
    (iter (fun s => layout_Place_l1 p y4 s.1 s.2 : (Int × Placer) → Option ((Int × Placer) ⊕ Placer)) (0, y5)).bind fun j12 =>
    some j12.spots)
set_option maxRecDepth 20000 in
theorem zhq {p : Plan} {r_ : Rect} {r : List Spot} (h : zbW p r_ = some r) : zan true (RF ET) 13 [.agg (Plan.e p), .agg (Rect.c r_)] [] (.sl true 7 (List.map Spot.c r)) [] := by
  refine zan.quiet (za5 (af := a13) rfl rfl ?_) rfl
  unfold zbW at h
  refine zaa ?_
  refine zac [2, 3] [0, 1] ?_
  refine zad ?_
  refine ⟨.sl true 7 [], .sl _ _, ?_⟩
  refine zaa ?_
  refine zaa ?_
  refine zac [2, 3, 10] [0, 1] ?_
  refine zad ?_
  obtain ⟨y1, hy1, h⟩ := zab h
  refine ⟨_, _, zan.any (zeB hy1) rfl _ rfl, ?_⟩
  refine fun c2 hc2 => ?_
  replace h := zag hc2 h
  refine zam (b := c2) rfl (fun hb3 => ?_) (fun hb3 => ?_)
  · replace h := zaB hb3 h
    refine zaa ?_
    refine zac [4] [0, 1] ?_
    refine zad ?_
    refine ⟨.sl true 7 [], .sl _ _, ?_⟩
    refine zaD ?_
    cases h
    exact ⟨rfl, rfl, rfl, rfl, rfl⟩
  · replace h := zaz hb3 h
    refine zat ?_
    refine zaa ?_
    refine zac [2, 3] [0, 1] ?_
    refine zad ?_
    obtain ⟨y4, hy4, h⟩ := zab h
    refine ⟨_, zau hy4, ?_⟩
    refine zaa ?_
    refine zac [2, 3, 5] [0, 1] ?_
    refine zad ?_
    refine ⟨.sl true 7 [], .sl _ _, ?_⟩
    refine zaa ?_
    refine zac [2, 3, 5] [0, 1] ?_
    refine zad ?_
    obtain ⟨y5, hy5, h⟩ := zab h
    refine ⟨_, _, zan.sub (i := 0) (zeP hy5) rfl _ rfl rfl rfl rfl, ?_⟩
    refine zaa ?_
    refine zaa ?_
    refine zac [3, 5, 20, 21, 22] [0, 1] ?_
    refine zad ?_
    refine ⟨_, (List.length_map ..).symm, ?_⟩
    refine zas ?_
    obtain ⟨j12, hj12, h⟩ := zab h
    refine zch hj12 [0, 1] (fun s => ([(3, .loc 1 0), (5, .ptr 0 0), (20, .sl false 4 (List.map Rect.c p.Float)), (21, .int .i64 (p.Float.length : Int)), (22, .int .i64 s.1)], [(0, (Plan.e p)), (1, (Rect.c y4))], [(Placer.c s.2)])) (fun _ => [5]) (fun _ => [0, 1]) (fun z => (.exit 0, [(5, .ptr 0 0)], [(0, (Plan.e p)), (1, (Rect.c y4))], [(Placer.c z)])) ?_ ?_ ?_
    · exact rfl
    · clear h
      rintro ⟨t22, x_⟩ x h
      replace h : layout_Place_l1 p y4 t22 x_ = some x := h
      unfold layout_Place_l1 at h
      show T.WP _ _ [(3, .loc 1 0), (5, .ptr 0 0), (20, .sl false 4 (List.map Rect.c p.Float)), (21, .int .i64 (p.Float.length : Int)), (22, .int .i64 t22)] [(0, (Plan.e p)), (1, (Rect.c y4))] [(Placer.c x_)] _
      refine zaa ?_
      refine zac [3, 5, 20, 21, 22, 23] [0, 1] ?_
      refine zad ?_
      refine fun c6 hc6 => ?_
      replace h := zag hc6 h
      refine zaa ?_
      refine zam (b := c6) rfl (fun hb7 => ?_) (fun hb7 => ?_)
      · replace h := zaB hb7 h
        refine zat ?_
        refine zaa ?_
        refine zas ?_
        refine zaa ?_
        refine zac [3, 5, 6, 7, 20, 21, 22] [0, 1, 2] ?_
        refine zad ?_
        obtain ⟨x8, hx8, h⟩ := zab h
        refine And.intro (zef hx8) ⟨_, zbe Rect.c hx8, ?_⟩
        refine zac [3, 5, 20, 21, 22] [0, 1, 2] ?_
        refine zeg ?_
        obtain ⟨y9, hy9, h⟩ := zab h
        refine ⟨_, ziK hy9, ?_⟩
        obtain ⟨y10, hy10, h⟩ := zab h
        refine ⟨_, zjZ hy10, ?_⟩
        obtain ⟨y11, hy11, h⟩ := zab h
        refine ⟨_, _, zan.sub (i := 0) (zbE hy11) rfl _ rfl rfl rfl rfl, ?_⟩
        refine zac [3, 5, 20, 21, 22] [0, 1, 2] ?_
        refine zad ?_
        cases h
        exact ⟨_, rfl, rfl⟩
      · replace h := zaz hb7 h
        refine zb1 ?_
        cases h
        exact ⟨_, rfl, rfl⟩
    refine zaa ?_
    refine zac [4] [0, 1] ?_
    refine zad ?_
    refine zaD ?_
    cases h
    exact ⟨rfl, rfl, rfl, rfl, rfl⟩
noncomputable def zdd (r_ : Rect) : Option Bool :=
  (zaE r_).bind fun y1 =>
  letB (decide (y1.W = 0)) fun c2 =>
  some c2
set_option maxRecDepth 20000 in
theorem zfz {r_ : Rect} {r : Bool} (h : zdd r_ = some r) : zan true (RF ET) 29 [.agg (Rect.c r_)] [] (.bool r) [] := by
  refine zan.quiet (za5 (af := a29) rfl rfl ?_) rfl
  unfold zdd at h
  refine zaa ?_
  refine zac [1] [0] ?_
  refine zad ?_
  refine zaa ?_
  refine zac [2] [0] ?_
  refine zad ?_
  obtain ⟨y1, hy1, h⟩ := zab h
  refine ⟨_, zau hy1, ?_⟩
  refine fun c2 hc2 => ?_
  replace h := zag hc2 h
  refine zaD ?_
  cases h
  exact ⟨rfl, rfl, rfl, rfl, rfl⟩
noncomputable def zbX (p : Plan) : Option (Int × Int) :=
  (zcr p).bind fun y1 =>
  letB (decide (y1 ≠ 0)) fun c2 =>
  bif c2 then (
    some (0, 0))
  else (
    (zb6 p 1 0).bind fun y4 =>
    some (y4.2, (p.Float.length : Int)))
set_option maxRecDepth 20000 in
theorem zhr {p : Plan} {r : Int × Int} (h : zbX p = some r) : zan true (RF ET) 12 [.agg (Plan.e p)] [] (.tuple [.int .i64 r.1, .int .i64 r.2]) [] := by
  refine zan.quiet (za5 (af := a12) rfl rfl ?_) rfl
  unfold zbX at h
  refine zaa ?_
  refine zac [1] [0] ?_
  refine zad ?_
  refine zaa ?_
  refine zaa ?_
  refine zac [1, 7] [0] ?_
  refine zad ?_
  obtain ⟨y1, hy1, h⟩ := zab h
  refine ⟨_, _, zan.any (zeB hy1) rfl _ rfl, ?_⟩
  refine fun c2 hc2 => ?_
  replace h := zag hc2 h
  refine zam (b := c2) rfl (fun hb3 => ?_) (fun hb3 => ?_)
  · replace h := zaB hb3 h
    refine zaa ?_
    refine zac [2, 3] [0] ?_
    refine zad ?_
    refine zaD ?_
    cases h
    exact ⟨rfl, rfl, rfl, rfl, rfl⟩
  · replace h := zaz hb3 h
    refine zat ?_
    refine zaa ?_
    refine zac [1, 4] [0] ?_
    refine zad ?_
    refine zaa ?_
    refine zac [1, 4] [0] ?_
    refine zad ?_
    obtain ⟨y4, hy4, h⟩ := zab h
    refine ⟨_, _, zan.sub (i := 0) (zdO hy4) rfl _ rfl rfl rfl rfl, ?_⟩
    refine zaa ?_
    refine zac [2, 3] [0] ?_
    refine zeg ?_
    refine ⟨_, (List.length_map ..).symm, ?_⟩
    refine zaD ?_
    cases h
    exact ⟨rfl, rfl, rfl, rfl, rfl⟩
noncomputable def zdy (x_ : Int) (y : Int) (right : Int) (bottom : Int) : Option Rect :=
  (zaE (Rect.mk x_ y (w64 (right - x_)) (w64 (bottom - y)))).bind fun y1 =>
  some y1
set_option maxRecDepth 20000 in
theorem zhs {x_ : Int} {y : Int} {right : Int} {bottom : Int} {r : Rect} (h : zdy x_ y right bottom = some r) : zan true (RF ET) 61 [.int .i64 x_, .int .i64 y, .int .i64 right, .int .i64 bottom] [] (.agg (Rect.c r)) [] := by
  refine zan.quiet (za5 (af := a61) rfl rfl ?_) rfl
  unfold zdy at h
  refine zaa ?_
  refine zac [0, 1, 2, 3, 8] [0] ?_
  refine zad ?_
  refine zaa ?_
  refine zac [8] [0] ?_
  refine zad ?_
  obtain ⟨y1, hy1, h⟩ := zab h
  refine ⟨_, zau hy1, ?_⟩
  refine zaD ?_
  cases h
  exact ⟨rfl, rfl, rfl, rfl, rfl⟩
noncomputable def zdQ (a : Rect) (b : Rect) : Option Rect :=
  (zaE a).bind fun y1 =>
  (zaE b).bind fun y2 =>
  (zdy (max y1.X y2.X) (max y1.Y y2.Y) (min (w64 (y1.X + y1.W)) (w64 (y2.X + y2.W))) (min (w64 (y1.Y + y1.H)) (w64 (y2.Y + y2.H)))).bind fun y3 =>
  some y3
set_option maxRecDepth 20000 in
theorem zgk {a : Rect} {b : Rect} {r : Rect} (h : zdQ a b = some r) : zan true (RF ET) 32 [.agg (Rect.c a), .agg (Rect.c b)] [] (.agg (Rect.c r)) [] := by
  refine zan.quiet (za5 (af := a32) rfl rfl ?_) rfl
  unfold zdQ at h
  refine zaa ?_
  refine zac [2, 3, 4] [0, 1, 2] ?_
  refine zad ?_
  refine zaa ?_
  refine zac [2, 3, 4] [0, 1, 2] ?_
  refine zeg ?_
  obtain ⟨y1, hy1, h⟩ := zab h
  refine ⟨_, zau hy1, ?_⟩
  obtain ⟨y2, hy2, h⟩ := zab h
  refine ⟨_, zau hy2, ?_⟩
  refine zaa ?_
  refine zac [4] [0, 1, 2] ?_
  refine zad ?_
  obtain ⟨y3, hy3, h⟩ := zab h
  refine ⟨_, zhs hy3, ?_⟩
  refine zaD ?_
  cases h
  exact ⟨rfl, rfl, rfl, rfl, rfl⟩
noncomputable def zdn (a : Rect) (b : Rect) : Option Bool :=
  (zdQ a b).bind fun y1 =>
  (zaE a).bind fun y2 =>
  letB ((decide (y1.X = y2.X) && (decide (y1.Y = y2.Y) && (decide (y1.W = y2.W) && (decide (y1.H = y2.H) && true))))) fun c3 =>
  some c3
set_option maxRecDepth 20000 in
theorem zhJ {a : Rect} {b : Rect} {r : Bool} (h : zdn a b = some r) : zan true (RF ET) 30 [.agg (Rect.c a), .agg (Rect.c b)] [] (.bool r) [] := by
  refine zan.quiet (za5 (af := a30) rfl rfl ?_) rfl
  unfold zdn at h
  refine zaa ?_
  refine zac [2, 3] [0, 1] ?_
  refine zad ?_
  refine zaa ?_
  refine zac [4] [0, 1] ?_
  refine zeg ?_
  obtain ⟨y1, hy1, h⟩ := zab h
  refine ⟨_, zgk hy1, ?_⟩
  obtain ⟨y2, hy2, h⟩ := zab h
  refine ⟨_, zau hy2, ?_⟩
  refine fun c3 hc3 => ?_
  replace h := zag hc3 h
  refine zaD ?_
  cases h
  exact ⟨rfl, rfl, rfl, rfl, rfl⟩
noncomputable def zcZ (r_ : Rect) : Option Int :=
  (zaE r_).bind fun y1 =>
  some (w64 (y1.W * y1.H))
set_option maxRecDepth 20000 in
theorem zgl {r_ : Rect} {r : Int} (h : zcZ r_ = some r) : zan true (RF ET) 31 [.agg (Rect.c r_)] [] (.int .i64 r) [] := by
  refine zan.quiet (za5 (af := a31) rfl rfl ?_) rfl
  unfold zcZ at h
  refine zaa ?_
  refine zac [1] [0] ?_
  refine zad ?_
  refine zaa ?_
  refine zac [1] [0] ?_
  refine zad ?_
  obtain ⟨y1, hy1, h⟩ := zab h
  refine ⟨_, zau hy1, ?_⟩
  refine zaa ?_
  refine zac [2] [0] ?_
  refine zad ?_
  refine zaD ?_
  cases h
  exact ⟨rfl, rfl, rfl, rfl, rfl⟩
noncomputable def casementlaw10_room_l1 (s_ : List Spot) (t7 : Int) : Option (Int ⊕ (Spot ⊕ Unit)) :=
  letB (decide (t7 < (s_.length : Int))) fun c1 =>
  bif c1 then (
    (idx s_ t7).bind fun x3 =>
    letB (decide (x3.Z = 0)) fun c4 =>
    (bif c4 then (
      (zdd x3.Rect).bind fun y6 =>
      some (y6)) else some false).bind fun g5 =>
    bif g5 then (
      some (.inr (.inl x3)))
    else (
      some (.inl (w64 (t7 + 1)))))
  else (
    some (.inr (.inr ())))
noncomputable def zbQ (s_ : List Spot) : Option Bool :=
  (iter (fun s => casementlaw10_room_l1 s_ s : Int → Option (Int ⊕ (Spot ⊕ Unit))) 0).bind fun j9 =>
  match j9 with
  | .inl z10 => (
    some false)
  | .inr z11 => (
    some true)
set_option maxRecDepth 20000 in
theorem zeE {s_ : List Spot} {r : Bool} (h : zbQ s_ = some r) : zan true (RF ET) 33 [.sl false 7 (List.map Spot.c s_)] [] (.bool r) [] := by
  refine zan.quiet (za5 (af := a33) rfl rfl ?_) rfl
  unfold zbQ at h
  refine zaa ?_
  refine zac [0] [] ?_
  refine zad ?_
  refine zaa ?_
  refine zaa ?_
  refine zac [5, 6, 7] [] ?_
  refine zad ?_
  refine ⟨_, (List.length_map ..).symm, ?_⟩
  refine zas ?_
  obtain ⟨j9, hj9, h⟩ := zab h
  refine zch hj9 [] (fun s => ([(5, .sl false 7 (List.map Spot.c s_)), (6, .int .i64 (s_.length : Int)), (7, .int .i64 s)], [], [])) (fun e => match e with | .ret => [2] | .exit 0 => [] | _ => []) (fun e => match e with | .ret => [0] | .exit 0 => [] | _ => []) (fun r => match r with | .inl z => (.ret, [(2, .bool false)], [(0, (Spot.c z))], []) | .inr z => (.exit 0, [], [], [])) ?_ ?_ ?_
  · exact rfl
  · clear h
    rintro t7 x h
    replace h : casementlaw10_room_l1 s_ t7 = some x := h
    unfold casementlaw10_room_l1 at h
    show T.WP _ _ [(5, .sl false 7 (List.map Spot.c s_)), (6, .int .i64 (s_.length : Int)), (7, .int .i64 t7)] [] [] _
    refine zaa ?_
    refine zac [5, 6, 7, 8] [] ?_
    refine zad ?_
    refine fun c1 hc1 => ?_
    replace h := zag hc1 h
    refine zaa ?_
    refine zam (b := c1) rfl (fun hb2 => ?_) (fun hb2 => ?_)
    · replace h := zaB hb2 h
      refine zat ?_
      refine zaa ?_
      refine zas ?_
      refine zaa ?_
      refine zac [4, 5, 6, 7] [0] ?_
      refine zad ?_
      obtain ⟨x3, hx3, h⟩ := zab h
      refine And.intro (zef hx3) ⟨_, zbe Spot.c hx3, ?_⟩
      refine zaa ?_
      refine zac [5, 6, 7, 18] [0] ?_
      refine zaQ 4 ?_
      refine zad ?_
      refine fun c4 hc4 => ?_
      replace h := zag hc4 h
      obtain ⟨g5, hg5, h⟩ := zab h
      refine zbn 4 18 [5, 6, 7, 18] g5 ?_ ?_
      · clear h
        replace h := hg5
        clear hg5
        cases hb7 : c4 with
        | true =>
          replace h := zaB hb7 h
          refine zad ?_
          obtain ⟨y6, hy6, h⟩ := zab h
          refine ⟨_, zfz hy6, ?_⟩
          cases h
          exact ⟨rfl, rfl, rfl⟩
        | false =>
          replace h := zaz hb7 h
          cases h
          refine zad ?_
          exact ⟨rfl, rfl, rfl⟩
      refine zad ?_
      refine zam (b := g5) rfl (fun hb8 => ?_) (fun hb8 => ?_)
      · replace h := zaB hb8 h
        refine zaa ?_
        refine zac [2] [0] ?_
        refine zad ?_
        refine zaD ?_
        cases h
        exact ⟨_, rfl, rfl⟩
      · replace h := zaz hb8 h
        refine zat ?_
        refine zac [5, 6, 7] [0] ?_
        refine zad ?_
        cases h
        exact ⟨_, rfl, rfl⟩
    · replace h := zaz hb2 h
      refine zb1 ?_
      cases h
      exact ⟨_, rfl, rfl⟩
  rcases j9 with z10 | z11
  · cases h
    exact ⟨rfl, rfl, rfl, rfl, rfl⟩
  · refine zaa ?_
    refine zac [2] [] ?_
    refine zad ?_
    refine zaD ?_
    cases h
    exact ⟨rfl, rfl, rfl, rfl, rfl⟩
noncomputable def casementlaw10_LayoutCovers_l6 (y3 : List Spot) (t30 : Int) (x9 : Spot) (t78 : Int) : Option (Int ⊕ (Unit ⊕ Unit)) :=
  letB (decide (t78 < t30)) fun c31 =>
  bif c31 then (
    (idx y3 t78).bind fun x33 =>
    (zdQ x9.Rect x33.Rect).bind fun y34 =>
    (zdd y34).bind fun y35 =>
    bif (!y35) then (
      some (.inr (.inl ())))
    else (
      some (.inl (w64 (t78 + 1)))))
  else (
    some (.inr (.inr ())))
noncomputable def casementlaw10_LayoutCovers_l7 (r_ : Rect) (y3 : List Spot) (y4 : Int × Int) (area : Int) (t30 : Int) : Option ((Int × Int) ⊕ (Spot ⊕ Int)) :=
  letB (decide (t30 < (y3.length : Int))) fun c7 =>
  bif c7 then (
    Option.bind (
      (idx y3 t30).bind fun x9 =>
      letB (decide (x9.Pane ≠ t30)) fun c10 =>
      (bif c10 then some true else (
        (zdn x9.Rect r_).bind fun y12 =>
        some ((!y12)))).bind fun g11 =>
      (bif g11 then some true else (
        letB (decide (x9.Z = 0)) fun c15 =>
        letB (decide (t30 < y4.1)) fun c16 =>
        letB (!(c15 == c16)) fun c17 =>
        some (c17))).bind fun g14 =>
      (bif g14 then some true else (
        letB (decide (x9.Z < 0)) fun c20 =>
        some (c20))).bind fun g19 =>
      (bif g19 then some true else (
        letB (decide (x9.Z > 0)) fun c23 =>
        (bif c23 then (
          some (x9.Title)) else some false).bind fun g24 =>
        some (g24))).bind fun g22 =>
      bif g22 then (
        some (.inr x9))
      else (
        letB (decide (t30 ≥ y4.1)) fun c28 =>
        bif c28 then (
          some (.inl (area, x9)))
        else (
          (zcZ x9.Rect).bind fun y30 =>
          (iter (fun s => casementlaw10_LayoutCovers_l6 y3 t30 x9 s : Int → Option (Int ⊕ (Unit ⊕ Unit))) 0).bind fun j37 =>
          match j37 with
          | .inl z38 => (
            some (.inr x9))
          | .inr z39 => (
            some (.inl (w64 (area + y30), x9))))) : Option ((Int × Spot) ⊕ Spot)) fun j40 =>
    match j40 with
    | .inl z41 => (
      some (.inl (z41.1, w64 (t30 + 1))))
    | .inr z42 => (
      some (.inr (.inl z42))))
  else (
    some (.inr (.inr area)))
noncomputable def zaS (p : Plan) (r_ : Rect) : Option Bool :=
  (zci).bind fun y1 =>
  bif (!y1) then (
    some false)
  else (
    (zbW p r_).bind fun y3 =>
    (zbX p).bind fun y4 =>
    letB (decide ((y3.length : Int) ≠ (w64 (y4.1 + y4.2)))) fun c5 =>
    bif c5 then (
      some false)
    else (
      (iter (fun s => casementlaw10_LayoutCovers_l7 r_ y3 y4 s.1 s.2 : (Int × Int) → Option ((Int × Int) ⊕ (Spot ⊕ Int))) (0, 0)).bind fun j43 =>
      match j43 with
      | .inl z44 => (
        some false)
      | .inr z45 => (
        letB (decide (y4.1 = 0)) fun c46 =>
        (bif c46 then some true else (
          (zbQ y3).bind fun y48 =>
          some ((!y48)))).bind fun g47 =>
        (bif g47 then some true else (
          (zcZ r_).bind fun y51 =>
          letB (decide (z45 = y51)) fun c52 =>
          some (c52))).bind fun g50 =>
        some g50)))
set_option maxRecDepth 20000 in
theorem zc3 {p : Plan} {r_ : Rect} {r : Bool} (h : zaS p r_ = some r) : zan true (RF ET) 10 [.agg (Plan.e p), .agg (Rect.c r_)] [] (.bool r) [] := by
  refine zan.quiet (za5 (af := a10) rfl rfl ?_) rfl
  unfold zaS at h
  refine zaa ?_
  refine zac [2, 3] [0, 1] ?_
  refine zad ?_
  refine zaa ?_
  refine zaa ?_
  refine zac [2, 3, 13] [0, 1] ?_
  refine zad ?_
  obtain ⟨y1, hy1, h⟩ := zab h
  refine ⟨_, zeh hy1, ?_⟩
  refine zam (b := (!y1)) rfl (fun hb2 => ?_) (fun hb2 => ?_)
  · replace h := zaB hb2 h
    refine zaa ?_
    refine zac [4] [0, 1] ?_
    refine zad ?_
    refine zaD ?_
    cases h
    exact ⟨rfl, rfl, rfl, rfl, rfl⟩
  · replace h := zaz hb2 h
    refine zat ?_
    refine zaa ?_
    refine zac [2, 3, 5] [0, 1] ?_
    refine zad ?_
    obtain ⟨y3, hy3, h⟩ := zab h
    refine ⟨_, _, zan.any (zhq hy3) rfl _ rfl, ?_⟩
    refine zaa ?_
    refine zac [3, 5, 6, 7] [0, 1] ?_
    refine zad ?_
    obtain ⟨y4, hy4, h⟩ := zab h
    refine ⟨_, _, zan.any (zhr hy4) rfl _ rfl, ?_⟩
    refine zaa ?_
    refine zaa ?_
    refine zac [3, 5, 6, 27] [0, 1] ?_
    refine zad ?_
    refine ⟨_, (List.length_map ..).symm, ?_⟩
    refine fun c5 hc5 => ?_
    replace h := zag hc5 h
    refine zam (b := c5) rfl (fun hb6 => ?_) (fun hb6 => ?_)
    · replace h := zaB hb6 h
      refine zaa ?_
      refine zac [4] [0, 1] ?_
      refine zad ?_
      refine zaD ?_
      cases h
      exact ⟨rfl, rfl, rfl, rfl, rfl⟩
    · replace h := zaz hb6 h
      refine zat ?_
      refine zaa ?_
      refine zac [3, 5, 6, 8] [0, 1] ?_
      refine zad ?_
      refine zaa ?_
      refine zaa ?_
      refine zac [3, 5, 6, 8, 28, 29, 30] [0, 1] ?_
      refine zad ?_
      refine ⟨_, (List.length_map ..).symm, ?_⟩
      refine zas ?_
      obtain ⟨j43, hj43, h⟩ := zab h
      refine zch hj43 [0, 1] (fun s => ([(3, .loc 1 0), (5, .sl false 7 (List.map Spot.c y3)), (6, .int .i64 y4.1), (8, .int .i64 s.1), (28, .sl false 7 (List.map Spot.c y3)), (29, .int .i64 (y3.length : Int)), (30, .int .i64 s.2)], [(0, (Plan.e p)), (1, (Rect.c r_))], [])) (fun e => match e with | .ret => [4] | .exit 0 => [3, 5, 6, 8] | _ => []) (fun e => match e with | .ret => [0, 1, 2] | .exit 0 => [0, 1] | _ => []) (fun r => match r with | .inl z => (.ret, [(4, .bool false)], [(0, (Plan.e p)), (1, (Rect.c r_)), (2, (Spot.c z))], []) | .inr z => (.exit 0, [(3, .loc 1 0), (5, .sl false 7 (List.map Spot.c y3)), (6, .int .i64 y4.1), (8, .int .i64 z)], [(0, (Plan.e p)), (1, (Rect.c r_))], [])) ?_ ?_ ?_
      · exact rfl
      · clear h
        rintro ⟨area, t30⟩ x h
        replace h : casementlaw10_LayoutCovers_l7 r_ y3 y4 area t30 = some x := h
        unfold casementlaw10_LayoutCovers_l7 at h
        show T.WP _ _ [(3, .loc 1 0), (5, .sl false 7 (List.map Spot.c y3)), (6, .int .i64 y4.1), (8, .int .i64 area), (28, .sl false 7 (List.map Spot.c y3)), (29, .int .i64 (y3.length : Int)), (30, .int .i64 t30)] [(0, (Plan.e p)), (1, (Rect.c r_))] [] _
        refine zaa ?_
        refine zac [3, 5, 6, 8, 28, 29, 30, 31] [0, 1] ?_
        refine zad ?_
        refine fun c7 hc7 => ?_
        replace h := zag hc7 h
        refine zaa ?_
        refine zam (b := c7) rfl (fun hb8 => ?_) (fun hb8 => ?_)
        · replace h := zaB hb8 h
          refine zat ?_
          refine zaa ?_
          obtain ⟨j40, hj40, h⟩ := zab h
          refine zcx j40 (fun r => match r with | .inl z => (.normal, [(3, .loc 1 0), (5, .sl false 7 (List.map Spot.c y3)), (6, .int .i64 y4.1), (8, .int .i64 z.1), (28, .sl false 7 (List.map Spot.c y3)), (29, .int .i64 (y3.length : Int)), (30, .int .i64 t30)], [(0, (Plan.e p)), (1, (Rect.c r_)), (2, (Spot.c z.2))], []) | .inr z => (.ret, [(4, .bool false)], [(0, (Plan.e p)), (1, (Rect.c r_)), (2, (Spot.c z))], [])) (fun e => match e with | .normal => [3, 5, 6, 8, 28, 29, 30] | .ret => [4] | _ => []) (fun e => match e with | .normal => [0, 1, 2] | .ret => [0, 1, 2] | _ => []) ?_ ?_
          · clear h
            replace h := hj40
            clear hj40
            refine zas ?_
            refine zaa ?_
            refine zac [3, 5, 6, 8, 9, 10, 28, 29, 30] [0, 1, 2] ?_
            refine zad ?_
            obtain ⟨x9, hx9, h⟩ := zab h
            refine And.intro (zef hx9) ⟨_, zbe Spot.c hx9, ?_⟩
            refine zaa ?_
            refine zaa ?_
            refine zac [3, 5, 6, 8, 9, 10, 28, 29, 30, 68] [0, 1, 2] ?_
            refine zaQ 5 ?_
            refine zad ?_
            refine fun c10 hc10 => ?_
            replace h := zag hc10 h
            obtain ⟨g11, hg11, h⟩ := zab h
            refine zbn 6 45 [3, 5, 6, 8, 9, 10, 28, 29, 30, 45] g11 ?_ ?_
            · clear h
              replace h := hg11
              clear hg11
              cases hb13 : c10 with
              | false =>
                replace h := zaz hb13 h
                refine zad ?_
                obtain ⟨y12, hy12, h⟩ := zab h
                refine ⟨_, zhJ hy12, ?_⟩
                cases h
                exact ⟨rfl, rfl, rfl⟩
              | true =>
                replace h := zaB hb13 h
                cases h
                refine zad ?_
                exact ⟨rfl, rfl, rfl⟩
            refine zaQ 1 ?_
            refine zad ?_
            obtain ⟨g14, hg14, h⟩ := zab h
            refine zbn 8 54 [3, 5, 6, 8, 9, 10, 28, 29, 30, 54] g14 ?_ ?_
            · clear h
              replace h := hg14
              clear hg14
              cases hb18 : g11 with
              | false =>
                replace h := zaz hb18 h
                refine zad ?_
                refine fun c15 hc15 => ?_
                replace h := zag hc15 h
                refine fun c16 hc16 => ?_
                replace h := zag hc16 h
                refine fun c17 hc17 => ?_
                replace h := zag hc17 h
                cases h
                exact ⟨rfl, rfl, rfl⟩
              | true =>
                replace h := zaB hb18 h
                cases h
                refine zad ?_
                exact ⟨rfl, rfl, rfl⟩
            refine zaQ 1 ?_
            refine zad ?_
            obtain ⟨g19, hg19, h⟩ := zab h
            refine zbn 4 59 [3, 5, 6, 8, 9, 10, 28, 29, 30, 59] g19 ?_ ?_
            · clear h
              replace h := hg19
              clear hg19
              cases hb21 : g14 with
              | false =>
                replace h := zaz hb21 h
                refine zad ?_
                refine fun c20 hc20 => ?_
                replace h := zag hc20 h
                cases h
                exact ⟨rfl, rfl, rfl⟩
              | true =>
                replace h := zaB hb21 h
                cases h
                refine zad ?_
                exact ⟨rfl, rfl, rfl⟩
            refine zaQ 1 ?_
            refine zad ?_
            obtain ⟨g22, hg22, h⟩ := zab h
            refine zbn 8 68 [3, 5, 6, 8, 9, 10, 28, 29, 30, 68] g22 ?_ ?_
            · clear h
              replace h := hg22
              clear hg22
              cases hb26 : g19 with
              | false =>
                replace h := zaz hb26 h
                refine zaQ 4 ?_
                refine zad ?_
                refine fun c23 hc23 => ?_
                replace h := zag hc23 h
                obtain ⟨g24, hg24, h⟩ := zab h
                refine zbn 3 67 [3, 5, 6, 8, 9, 10, 28, 29, 30, 60, 67] g24 ?_ ?_
                · clear h
                  replace h := hg24
                  clear hg24
                  cases hb25 : c23 with
                  | true =>
                    replace h := zaB hb25 h
                    refine zad ?_
                    cases h
                    exact ⟨rfl, rfl, rfl⟩
                  | false =>
                    replace h := zaz hb25 h
                    cases h
                    refine zad ?_
                    exact ⟨rfl, rfl, rfl⟩
                refine zad ?_
                cases h
                exact ⟨rfl, rfl, rfl⟩
              | true =>
                replace h := zaB hb26 h
                cases h
                refine zad ?_
                exact ⟨rfl, rfl, rfl⟩
            refine zad ?_
            refine zam (b := g22) rfl (fun hb27 => ?_) (fun hb27 => ?_)
            · replace h := zaB hb27 h
              refine zaa ?_
              refine zac [4] [0, 1, 2] ?_
              refine zad ?_
              refine zaD ?_
              cases h
              exact rfl
            · replace h := zaz hb27 h
              refine zat ?_
              refine zaa ?_
              refine zaa ?_
              refine zac [3, 5, 6, 8, 9, 10, 28, 29, 30, 71] [0, 1, 2] ?_
              refine zad ?_
              refine fun c28 hc28 => ?_
              replace h := zag hc28 h
              refine zam (b := c28) rfl (fun hb29 => ?_) (fun hb29 => ?_)
              · replace h := zaB hb29 h
                refine zb1 ?_
                cases h
                exact rfl
              · replace h := zaz hb29 h
                refine zat ?_
                refine zaa ?_
                refine zac [3, 5, 6, 8, 9, 10, 28, 29, 30] [0, 1, 2] ?_
                refine zad ?_
                obtain ⟨y30, hy30, h⟩ := zab h
                refine ⟨_, zgl hy30, ?_⟩
                refine zaa ?_
                refine zac [3, 5, 6, 8, 10, 28, 29, 30, 77, 78] [0, 1, 2] ?_
                refine zad ?_
                refine zas ?_
                obtain ⟨j37, hj37, h⟩ := zab h
                refine zch hj37 [0, 1, 2] (fun s => ([(3, .loc 1 0), (5, .sl false 7 (List.map Spot.c y3)), (6, .int .i64 y4.1), (8, .int .i64 (w64 (area + y30))), (10, .loc 2 0), (28, .sl false 7 (List.map Spot.c y3)), (29, .int .i64 (y3.length : Int)), (30, .int .i64 t30), (77, .int .i64 t30), (78, .int .i64 s)], [(0, (Plan.e p)), (1, (Rect.c r_)), (2, (Spot.c x9))], [])) (fun e => match e with | .ret => [4] | .exit 2 => [3, 5, 6, 8, 28, 29, 30] | _ => []) (fun e => match e with | .ret => [0, 1, 2] | .exit 2 => [0, 1, 2] | _ => []) (fun r => match r with | .inl z => (.ret, [(4, .bool false)], [(0, (Plan.e p)), (1, (Rect.c r_)), (2, (Spot.c x9))], []) | .inr z => (.exit 2, [(3, .loc 1 0), (5, .sl false 7 (List.map Spot.c y3)), (6, .int .i64 y4.1), (8, .int .i64 (w64 (area + y30))), (28, .sl false 7 (List.map Spot.c y3)), (29, .int .i64 (y3.length : Int)), (30, .int .i64 t30)], [(0, (Plan.e p)), (1, (Rect.c r_)), (2, (Spot.c x9))], [])) ?_ ?_ ?_
                · exact rfl
                · clear h
                  rintro t78 x h
                  replace h : casementlaw10_LayoutCovers_l6 y3 t30 x9 t78 = some x := h
                  unfold casementlaw10_LayoutCovers_l6 at h
                  show T.WP _ _ [(3, .loc 1 0), (5, .sl false 7 (List.map Spot.c y3)), (6, .int .i64 y4.1), (8, .int .i64 (w64 (area + y30))), (10, .loc 2 0), (28, .sl false 7 (List.map Spot.c y3)), (29, .int .i64 (y3.length : Int)), (30, .int .i64 t30), (77, .int .i64 t30), (78, .int .i64 t78)] [(0, (Plan.e p)), (1, (Rect.c r_)), (2, (Spot.c x9))] [] _
                  refine zaa ?_
                  refine zac [3, 5, 6, 8, 10, 28, 29, 30, 77, 78, 79] [0, 1, 2] ?_
                  refine zad ?_
                  refine fun c31 hc31 => ?_
                  replace h := zag hc31 h
                  refine zaa ?_
                  refine zam (b := c31) rfl (fun hb32 => ?_) (fun hb32 => ?_)
                  · replace h := zaB hb32 h
                    refine zat ?_
                    refine zaa ?_
                    refine zas ?_
                    refine zaa ?_
                    refine zac [3, 5, 6, 8, 10, 11, 28, 29, 30, 77, 78] [0, 1, 2] ?_
                    refine zad ?_
                    refine zaa ?_
                    refine zac [3, 5, 6, 8, 10, 28, 29, 30, 77, 78, 90] [0, 1, 2] ?_
                    refine zeg ?_
                    obtain ⟨x33, hx33, h⟩ := zab h
                    refine And.intro (zef hx33) ⟨_, zbe Spot.c hx33, ?_⟩
                    obtain ⟨y34, hy34, h⟩ := zab h
                    refine ⟨_, zgk hy34, ?_⟩
                    obtain ⟨y35, hy35, h⟩ := zab h
                    refine ⟨_, zfz hy35, ?_⟩
                    refine zam (b := (!y35)) rfl (fun hb36 => ?_) (fun hb36 => ?_)
                    · replace h := zaB hb36 h
                      refine zaa ?_
                      refine zac [4] [0, 1, 2] ?_
                      refine zad ?_
                      refine zaD ?_
                      cases h
                      exact ⟨_, rfl, rfl⟩
                    · replace h := zaz hb36 h
                      refine zat ?_
                      refine zac [3, 5, 6, 8, 10, 28, 29, 30, 77, 78] [0, 1, 2] ?_
                      refine zad ?_
                      cases h
                      exact ⟨_, rfl, rfl⟩
                  · replace h := zaz hb32 h
                    refine zb1 ?_
                    cases h
                    exact ⟨_, rfl, rfl⟩
                rcases j37 with z38 | z39
                · cases h
                  exact rfl
                · cases h
                  exact rfl
          rcases j40 with z41 | z42
          · refine zac [3, 5, 6, 8, 28, 29, 30] [0, 1, 2] ?_
            refine zad ?_
            cases h
            exact ⟨_, rfl, rfl⟩
          · cases h
            exact ⟨_, rfl, rfl⟩
        · replace h := zaz hb8 h
          refine zb1 ?_
          cases h
          exact ⟨_, rfl, rfl⟩
      rcases j43 with z44 | z45
      · cases h
        exact ⟨rfl, rfl, rfl, rfl, rfl⟩
      · refine zaa ?_
        refine zac [4] [0, 1] ?_
        refine zaQ 3 ?_
        refine zad ?_
        refine fun c46 hc46 => ?_
        replace h := zag hc46 h
        obtain ⟨g47, hg47, h⟩ := zab h
        refine zbn 4 99 [3, 8, 99] g47 ?_ ?_
        · clear h
          replace h := hg47
          clear hg47
          cases hb49 : c46 with
          | false =>
            replace h := zaz hb49 h
            refine zad ?_
            obtain ⟨y48, hy48, h⟩ := zab h
            refine ⟨_, zeE hy48, ?_⟩
            cases h
            exact ⟨rfl, rfl, rfl⟩
          | true =>
            replace h := zaB hb49 h
            cases h
            refine zad ?_
            exact ⟨rfl, rfl, rfl⟩
        refine zaQ 1 ?_
        refine zad ?_
        obtain ⟨g50, hg50, h⟩ := zab h
        refine zbn 5 105 [105] g50 ?_ ?_
        · clear h
          replace h := hg50
          clear hg50
          cases hb53 : g47 with
          | false =>
            replace h := zaz hb53 h
            refine zad ?_
            obtain ⟨y51, hy51, h⟩ := zab h
            refine ⟨_, zgl hy51, ?_⟩
            refine fun c52 hc52 => ?_
            replace h := zag hc52 h
            cases h
            exact ⟨rfl, rfl, rfl⟩
          | true =>
            replace h := zaB hb53 h
            cases h
            refine zad ?_
            exact ⟨rfl, rfl, rfl⟩
        refine zad ?_
        refine zaD ?_
        cases h
        exact ⟨rfl, rfl, rfl, rfl, rfl⟩
end Go.Proofs.YtakdnfneikbjjaaGreatDoor.Am.Lay10

set_option linter.all false
namespace Go.Proofs.YtakdnfneikbjjaaGreatDoor.Am.Lay10
open Go.Proofs.YtakdnfneikbjjaaGreatDoor.Am.T
theorem or_s {c d : Bool} : (bif c then some true else some d) = some (c || d) := by cases c <;> rfl
theorem zpz {c d : Bool} : (bif c then some d else some false) = some (c && d) := by cases c <;> rfl
theorem znl : most = 4294967296 := rfl
theorem zaw {n : Int} (h1 : -9223372036854775808 ≤ n) (h2 : n ≤ 9223372036854775807) : w64 n = n := by
  simp only [IntKind.wrap_i64]; omega
theorem zpA {α : Type} {d : α} {l : List α} {i : Int} (h0 : 0 ≤ i) (h : i < l.length) : idx l i = some (l.getD i.toNat d) := by
  unfold idx
  have h2 : i.toNat < l.length := by omega
  simp [h0, h2]
def cl (n lo hi : Int) : Int := max lo (min n hi)
def cleanT (r : Rect) : Rect :=
  let x := cl r.X (-5000) 5000
  let y := cl r.Y (-5000) 5000
  let w := cl r.W 0 (min 200 (5000 - x))
  let h := cl r.H 0 (min 200 (5000 - y))
  if w = 0 ∨ h = 0 then ⟨0, 0, 0, 0⟩ else ⟨x, y, w, h⟩
theorem zba {n lo hi : Int} (h : lo ≤ hi) : lo ≤ cl n lo hi ∧ cl n lo hi ≤ hi := by unfold cl; omega
theorem zbM (r : Rect) : zaE r = some (cleanT r) := by
  have hx := zba (n := r.X) (show (-5000 : Int) ≤ 5000 by omega)
  have hy := zba (n := r.Y) (show (-5000 : Int) ≤ 5000 by omega)
  unfold zaE zbk cleanT
  simp only [Option.bind_some, letB, or_s]
  rw [show max (-5000) (min r.X 5000) = cl r.X (-5000) 5000 from rfl, show max (-5000) (min r.Y 5000) = cl r.Y (-5000) 5000 from rfl]
  generalize cl r.X (-5000) 5000 = x at *
  generalize cl r.Y (-5000) 5000 = y at *
  rw [zaw (by omega) (by omega), zaw (by omega) (by omega)]
  rw [show max 0 (min r.W (min 200 (5000 - x))) = cl r.W 0 (min 200 (5000 - x)) from rfl, show max 0 (min r.H (min 200 (5000 - y))) = cl r.H 0 (min 200 (5000 - y)) from rfl]
  by_cases h1 : cl r.W 0 (min 200 (5000 - x)) = 0
  · rw [decide_eq_true h1, if_pos (.inl h1)]; rfl
  · rw [decide_eq_false h1]
    by_cases h2 : cl r.H 0 (min 200 (5000 - y)) = 0
    · rw [decide_eq_true h2, if_pos (.inr h2)]; rfl
    · rw [decide_eq_false h2, if_neg (by omega)]; rfl
end Go.Proofs.YtakdnfneikbjjaaGreatDoor.Am.Lay10
