/-
  No cell of these rows narrows 'for every input' (looked for: loops, veiled, ifaces, maps, wideKeys, modest, calm, conditions, laid).
  DERIVED. THE GIVEN ROWS OF THIS SEAT. 3 by the template 'for every input the law returns true; each argument reads behind the call as it read before'; 0 by the template 'total and deterministic' (their statements: YtfgbnnmaooillaaTotals.lean).
  GIVEN WITH THE SEED: the statements are not yours to turn. If you find one false, say at which input.
  Laid BY PROGRAM, IN A SANDBOX (cutbox-rows.mjs): the forced cells as the released guide's own fill.sh prints them over the translation 79a299440b25cf30… (all of the seat's roots in one cut). By AI agents, Wed Nov 11 2026. No macro, syntax, notation, axiom, sorry.
-/
import Derived.Test.YtfgbnnmaooillaaChecked
import GoSem.Claim
import GoSem.ClaimJoined
import GoSem.ClaimMapViews
import Derived.JoinedTies
import Derived.KernelRfl
namespace Go.Proofs.Ytfgbnnmaooillaa
/- THE CELL 'sum', in the pinned program and in every row, IS THE sha256 OF THE DUMP (.gsa) THAT YtfgbnnmaooillaaProg.lean LOADS. Nothing in Lean hashes anything: it is a label: what it is worth is what the hold of that sum in a sandbox is worth. -/
noncomputable def Try.pinned : Pinned := { name := "ytfgbnnmaooillaa", sum := "79a299440b25cf30b2b53e06f5213c8c0db9b8b5f63e1de9fec47d38abd9a734", checked := Try.checked }
namespace Rows
def none {H : Type} : Left H := { results := [], args := [] }

/-- 'dynamolaw20.SlotMore': WHATEVER THE INPUT: true; the input reads as it did. -/
def slotMoreSpec : ChangeSpec := { name := "slotMore", fn := fun _ => fun
  | [d1, d2, d3, d4, d5] => { results := [.lit (.bool true)], args := [d1, d2, d3, d4, d5] }
  | _ => none }
def slotMoreRow : OpenClaim := { program := "ytfgbnnmaooillaa", sum := "79a299440b25cf30b2b53e06f5213c8c0db9b8b5f63e1de9fec47d38abd9a734", func := "dynamo/dynamolaw20.SlotMore", spec := "slotMore", apart := false }
def SlotMoreSaid : Prop := slotMoreRow.holds Try.pinned (OpenSpec.ofChange slotMoreSpec)

/-- ITS FALSE NEIGHBOUR: 'it returns false'. Refute it at one input. -/
def slotMoreWrong : ChangeSpec := { name := "slotMore", fn := fun _ => fun
  | [d1, d2, d3, d4, d5] => { results := [.lit (.bool false)], args := [d1, d2, d3, d4, d5] }
  | _ => none }
def SlotMoreWrongFalsely : Prop := slotMoreRow.holds Try.pinned (OpenSpec.ofChange slotMoreWrong)

/-- 'dynamolaw20.SlotShifts': WHATEVER THE INPUT: true; the input reads as it did. -/
def slotShiftsSpec : ChangeSpec := { name := "slotShifts", fn := fun _ => fun
  | [d1, d2, d3, d4] => { results := [.lit (.bool true)], args := [d1, d2, d3, d4] }
  | _ => none }
def slotShiftsRow : OpenClaim := { program := "ytfgbnnmaooillaa", sum := "79a299440b25cf30b2b53e06f5213c8c0db9b8b5f63e1de9fec47d38abd9a734", func := "dynamo/dynamolaw20.SlotShifts", spec := "slotShifts", unfollowed := true, recurses := true, apart := false }
def SlotShiftsSaid : Prop := slotShiftsRow.holds Try.pinned (OpenSpec.ofChange slotShiftsSpec)

/-- ITS FALSE NEIGHBOUR: 'it returns false'. Refute it at one input. -/
def slotShiftsWrong : ChangeSpec := { name := "slotShifts", fn := fun _ => fun
  | [d1, d2, d3, d4] => { results := [.lit (.bool false)], args := [d1, d2, d3, d4] }
  | _ => none }
def SlotShiftsWrongFalsely : Prop := slotShiftsRow.holds Try.pinned (OpenSpec.ofChange slotShiftsWrong)

/-- 'dynamolaw20.SlotPasts': WHATEVER THE INPUT: true; the input reads as it did. -/
def slotPastsSpec : ChangeSpec := { name := "slotPasts", fn := fun _ => fun
  | [d1, d2, d3] => { results := [.lit (.bool true)], args := [d1, d2, d3] }
  | _ => none }
def slotPastsRow : OpenClaim := { program := "ytfgbnnmaooillaa", sum := "79a299440b25cf30b2b53e06f5213c8c0db9b8b5f63e1de9fec47d38abd9a734", func := "dynamo/dynamolaw20.SlotPasts", spec := "slotPasts", unfollowed := true, recurses := true, apart := false }
def SlotPastsSaid : Prop := slotPastsRow.holds Try.pinned (OpenSpec.ofChange slotPastsSpec)

/-- ITS FALSE NEIGHBOUR: 'it returns false'. Refute it at one input. -/
def slotPastsWrong : ChangeSpec := { name := "slotPasts", fn := fun _ => fun
  | [d1, d2, d3] => { results := [.lit (.bool false)], args := [d1, d2, d3] }
  | _ => none }
def SlotPastsWrongFalsely : Prop := slotPastsRow.holds Try.pinned (OpenSpec.ofChange slotPastsWrong)

/- THE SECOND FORM. 'bulk': how many values and letters a reading holds, each counted each time it is reached (what is shared counts as often as it is met; a slice's spare places count too). A statement '..UptoSaid' is the law's where the arguments, and the package variables that the reading takes, are together of bulk at most 1048576: NARROWER than '..Said'. Prove '..Said' where nothing that the law and all that it calls make is longer than what came in: it says more and counts as full. Else prove '..UptoSaid'. A law counts once. -/
mutual
def uptoBulk {H : Type} : DataW H → Nat
  | .lit (.string bytes) => bytes.length + 1
  | .lit _ => 1
  | .nil => 1
  | .ptr d => uptoBulk d + 1
  | .slice elems spare => uptoBulkAll elems + uptoBulkAll spare + 1
  | .agg parts => uptoBulkAll parts + 1
  | .iface _ d => uptoBulk d + 1
  | .map entries => uptoBulkEntries entries + 1
  | .held _ => 1
def uptoBulkAll {H : Type} : List (DataW H) → Nat
  | [] => 0
  | d :: r => uptoBulk d + uptoBulkAll r
def uptoBulkEntries {H : Type} : List (Lit × DataW H) → Nat
  | [] => 0
  | x :: r => uptoBulkEntry x + uptoBulkEntries r
def uptoBulkEntry {H : Type} : Lit × DataW H → Nat
  | (.string bytes, d) => bytes.length + uptoBulk d + 1
  | (_, d) => uptoBulk d + 1
 end
def uptoSmall : (H : Type) → List (DataW H) → Bool := fun _ ds => decide (uptoBulkAll ds ≤ 1048576)
def OpenSpec.upto (s : _root_.Go.ChangeSpec) : _root_.Go.OpenSpec := { _root_.Go.OpenSpec.ofChange s with cond := some uptoSmall }

/-- 'dynamolaw20.SlotMore', WHERE WHAT IT READS IS OF BULK AT MOST 1048576: true; the input reads as it did. -/
def slotMoreUptoRow : OpenClaim := { program := "ytfgbnnmaooillaa", sum := "79a299440b25cf30b2b53e06f5213c8c0db9b8b5f63e1de9fec47d38abd9a734", func := "dynamo/dynamolaw20.SlotMore", spec := "slotMore", apart := false, narrowed := true }
def SlotMoreUptoSaid : Prop := slotMoreUptoRow.holds Try.pinned (OpenSpec.upto slotMoreSpec)

/-- 'dynamolaw20.SlotShifts', WHERE WHAT IT READS IS OF BULK AT MOST 1048576: true; the input reads as it did. -/
def slotShiftsUptoRow : OpenClaim := { program := "ytfgbnnmaooillaa", sum := "79a299440b25cf30b2b53e06f5213c8c0db9b8b5f63e1de9fec47d38abd9a734", func := "dynamo/dynamolaw20.SlotShifts", spec := "slotShifts", unfollowed := true, recurses := true, apart := false, narrowed := true }
def SlotShiftsUptoSaid : Prop := slotShiftsUptoRow.holds Try.pinned (OpenSpec.upto slotShiftsSpec)

/-- 'dynamolaw20.SlotPasts', WHERE WHAT IT READS IS OF BULK AT MOST 1048576: true; the input reads as it did. -/
def slotPastsUptoRow : OpenClaim := { program := "ytfgbnnmaooillaa", sum := "79a299440b25cf30b2b53e06f5213c8c0db9b8b5f63e1de9fec47d38abd9a734", func := "dynamo/dynamolaw20.SlotPasts", spec := "slotPasts", unfollowed := true, recurses := true, apart := false, narrowed := true }
def SlotPastsUptoSaid : Prop := slotPastsUptoRow.holds Try.pinned (OpenSpec.upto slotPastsSpec)

end Rows
end Go.Proofs.Ytfgbnnmaooillaa
