/-
  No cell of these rows narrows 'for every input' (looked for: loops, veiled, ifaces, maps, wideKeys, modest, calm, conditions, laid).
  DERIVED. THE GIVEN ROWS OF THIS SEAT. 4 by the template 'for every input the law returns true; each argument reads behind the call as it read before'; 0 by the template 'total and deterministic' (their statements: YtpfelpmmejhjaaaTotals.lean).
  GIVEN WITH THE SEED: the statements are not yours to turn. If you find one false, say at which input.
  Laid BY PROGRAM, IN A SANDBOX (cutbox-rows.mjs): the forced cells as the released guide's own fill.sh prints them over the translation 0f5373424db1b70d… (all of the seat's roots in one cut). By AI agents, Wed Nov 11 2026. No macro, syntax, notation, axiom, sorry.
-/
import Derived.Test.YtpfelpmmejhjaaaChecked
import GoSem.Claim
import GoSem.ClaimJoined
import GoSem.ClaimMapViews
import Derived.JoinedTies
import Derived.KernelRfl
namespace Go.Proofs.Ytpfelpmmejhjaaa
/- THE CELL 'sum', in the pinned program and in every row, IS THE sha256 OF THE DUMP (.gsa) THAT YtpfelpmmejhjaaaProg.lean LOADS. Nothing in Lean hashes anything: it is a label: what it is worth is what the hold of that sum in a sandbox is worth. -/
noncomputable def Try.pinned : Pinned := { name := "ytpfelpmmejhjaaa", sum := "0f5373424db1b70d3c037538d640c1a5025b8a9b6fe615260ecdc7b3974a5671", checked := Try.checked }
namespace Rows
def none {H : Type} : Left H := { results := [], args := [] }

/-- 'casementlaw16.BusOrder': WHATEVER THE INPUT: true; the input reads as it did. -/
def busOrderSpec : ChangeSpec := { name := "busOrder", fn := fun _ => fun
  | [d1, d2, d3] => { results := [.lit (.bool true)], args := [d1, d2, d3] }
  | _ => none }
def busOrderRow : OpenClaim := { program := "ytpfelpmmejhjaaa", sum := "0f5373424db1b70d3c037538d640c1a5025b8a9b6fe615260ecdc7b3974a5671", func := "casement/casementlaw16.BusOrder", spec := "busOrder", apart := false }
def BusOrderSaid : Prop := busOrderRow.holds Try.pinned (OpenSpec.ofChange busOrderSpec)

/-- ITS FALSE NEIGHBOUR: 'it returns false'. Refute it at one input. -/
def busOrderWrong : ChangeSpec := { name := "busOrder", fn := fun _ => fun
  | [d1, d2, d3] => { results := [.lit (.bool false)], args := [d1, d2, d3] }
  | _ => none }
def BusOrderWrongFalsely : Prop := busOrderRow.holds Try.pinned (OpenSpec.ofChange busOrderWrong)

/-- 'casementlaw16.BusPlays': WHATEVER THE INPUT: true; the input reads as it did. -/
def busPlaysSpec : ChangeSpec := { name := "busPlays", fn := fun _ => fun
  | [d] => { results := [.lit (.bool true)], args := [d] }
  | _ => none }
def busPlaysRow : OpenClaim := { program := "ytpfelpmmejhjaaa", sum := "0f5373424db1b70d3c037538d640c1a5025b8a9b6fe615260ecdc7b3974a5671", func := "casement/casementlaw16.BusPlays", spec := "busPlays", apart := false }
def BusPlaysSaid : Prop := busPlaysRow.holds Try.pinned (OpenSpec.ofChange busPlaysSpec)

/-- ITS FALSE NEIGHBOUR: 'it returns false'. Refute it at one input. -/
def busPlaysWrong : ChangeSpec := { name := "busPlays", fn := fun _ => fun
  | [d] => { results := [.lit (.bool false)], args := [d] }
  | _ => none }
def BusPlaysWrongFalsely : Prop := busPlaysRow.holds Try.pinned (OpenSpec.ofChange busPlaysWrong)

/-- 'casementlaw16.BusApart': WHATEVER THE INPUT: true; the input reads as it did. -/
def busApartSpec : ChangeSpec := { name := "busApart", fn := fun _ => fun
  | [d] => { results := [.lit (.bool true)], args := [d] }
  | _ => none }
def busApartRow : OpenClaim := { program := "ytpfelpmmejhjaaa", sum := "0f5373424db1b70d3c037538d640c1a5025b8a9b6fe615260ecdc7b3974a5671", func := "casement/casementlaw16.BusApart", spec := "busApart", apart := false }
def BusApartSaid : Prop := busApartRow.holds Try.pinned (OpenSpec.ofChange busApartSpec)

/-- ITS FALSE NEIGHBOUR: 'it returns false'. Refute it at one input. -/
def busApartWrong : ChangeSpec := { name := "busApart", fn := fun _ => fun
  | [d] => { results := [.lit (.bool false)], args := [d] }
  | _ => none }
def BusApartWrongFalsely : Prop := busApartRow.holds Try.pinned (OpenSpec.ofChange busApartWrong)

/-- 'casementlaw16.BusFull': WHATEVER THE INPUT: true; the input reads as it did. -/
def busFullSpec : ChangeSpec := { name := "busFull", fn := fun _ => fun
  | [d1, d2] => { results := [.lit (.bool true)], args := [d1, d2] }
  | _ => none }
def busFullRow : OpenClaim := { program := "ytpfelpmmejhjaaa", sum := "0f5373424db1b70d3c037538d640c1a5025b8a9b6fe615260ecdc7b3974a5671", func := "casement/casementlaw16.BusFull", spec := "busFull", apart := false }
def BusFullSaid : Prop := busFullRow.holds Try.pinned (OpenSpec.ofChange busFullSpec)

/-- ITS FALSE NEIGHBOUR: 'it returns false'. Refute it at one input. -/
def busFullWrong : ChangeSpec := { name := "busFull", fn := fun _ => fun
  | [d1, d2] => { results := [.lit (.bool false)], args := [d1, d2] }
  | _ => none }
def BusFullWrongFalsely : Prop := busFullRow.holds Try.pinned (OpenSpec.ofChange busFullWrong)

/- THE SECOND FORM. 'bulk': how many values and letters a reading holds, each counted each time it is reached (what is shared counts as often as it is met; a slice's spare places count too). A statement '..UptoSaid' is the law's where the arguments, and the package variables that the reading takes, are together of bulk at most 1048576: NARROWER than '..Said'. Prove '..Said' where nothing that the law and all that it calls make is longer than what came in: it says more and counts as full. Else prove '..UptoSaid'. A law counts once. -/
mutual
def uptoBulk {H : Type} : DataW H → Nat
  | .lit (.string bytes) => bytes.length + 1
  | .lit _ => 1
  | .nil => 1
  | .ptr d => uptoBulk d + 1
  | .slice elems spare => uptoBulkAll elems + uptoBulkAll spare + 1
  | .agg parts => uptoBulkAll parts + 1
  | .iface _ d => uptoBulk d + 1
  | .map entries => uptoBulkEntries entries + 1
  | .held _ => 1
def uptoBulkAll {H : Type} : List (DataW H) → Nat
  | [] => 0
  | d :: r => uptoBulk d + uptoBulkAll r
def uptoBulkEntries {H : Type} : List (Lit × DataW H) → Nat
  | [] => 0
  | x :: r => uptoBulkEntry x + uptoBulkEntries r
def uptoBulkEntry {H : Type} : Lit × DataW H → Nat
  | (.string bytes, d) => bytes.length + uptoBulk d + 1
  | (_, d) => uptoBulk d + 1
 end
def uptoSmall : (H : Type) → List (DataW H) → Bool := fun _ ds => decide (uptoBulkAll ds ≤ 1048576)
def OpenSpec.upto (s : _root_.Go.ChangeSpec) : _root_.Go.OpenSpec := { _root_.Go.OpenSpec.ofChange s with cond := some uptoSmall }

/-- 'casementlaw16.BusOrder', WHERE WHAT IT READS IS OF BULK AT MOST 1048576: true; the input reads as it did. -/
def busOrderUptoRow : OpenClaim := { program := "ytpfelpmmejhjaaa", sum := "0f5373424db1b70d3c037538d640c1a5025b8a9b6fe615260ecdc7b3974a5671", func := "casement/casementlaw16.BusOrder", spec := "busOrder", apart := false, narrowed := true }
def BusOrderUptoSaid : Prop := busOrderUptoRow.holds Try.pinned (OpenSpec.upto busOrderSpec)

/-- 'casementlaw16.BusPlays', WHERE WHAT IT READS IS OF BULK AT MOST 1048576: true; the input reads as it did. -/
def busPlaysUptoRow : OpenClaim := { program := "ytpfelpmmejhjaaa", sum := "0f5373424db1b70d3c037538d640c1a5025b8a9b6fe615260ecdc7b3974a5671", func := "casement/casementlaw16.BusPlays", spec := "busPlays", apart := false, narrowed := true }
def BusPlaysUptoSaid : Prop := busPlaysUptoRow.holds Try.pinned (OpenSpec.upto busPlaysSpec)

/-- 'casementlaw16.BusApart', WHERE WHAT IT READS IS OF BULK AT MOST 1048576: true; the input reads as it did. -/
def busApartUptoRow : OpenClaim := { program := "ytpfelpmmejhjaaa", sum := "0f5373424db1b70d3c037538d640c1a5025b8a9b6fe615260ecdc7b3974a5671", func := "casement/casementlaw16.BusApart", spec := "busApart", apart := false, narrowed := true }
def BusApartUptoSaid : Prop := busApartUptoRow.holds Try.pinned (OpenSpec.upto busApartSpec)

/-- 'casementlaw16.BusFull', WHERE WHAT IT READS IS OF BULK AT MOST 1048576: true; the input reads as it did. -/
def busFullUptoRow : OpenClaim := { program := "ytpfelpmmejhjaaa", sum := "0f5373424db1b70d3c037538d640c1a5025b8a9b6fe615260ecdc7b3974a5671", func := "casement/casementlaw16.BusFull", spec := "busFull", apart := false, narrowed := true }
def BusFullUptoSaid : Prop := busFullUptoRow.holds Try.pinned (OpenSpec.upto busFullSpec)

end Rows
end Go.Proofs.Ytpfelpmmejhjaaa
