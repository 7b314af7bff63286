/-
  NARROWER THAN 'FOR EVERY INPUT', by the rows' own cells (each row's printed sentence says how): ClaimBack: laid · ClaimTakes: laid · ClaimTwo: laid · ClaimCounts: laid · SlotPlays: laid · SlotTouch: laid · ClaimApart: laid · SlotRooms: laid.
  DERIVED. THE GIVEN ROWS OF THIS SEAT. 8 by the template 'for every input the law returns true; each argument reads behind the call as it read before'; 0 by the template 'total and deterministic' (their statements: YtfgbnnmaooillaaDoorTotals.lean).
  GIVEN WITH THE SEED: the statements are not yours to turn. If you find one false, say at which input.
  Laid BY PROGRAM, IN A SANDBOX (cutbox-rows.mjs): the forced cells as the released guide's own fill.sh prints them over the translation aac0ccf4f5747b43… (all of the seat's roots in one cut). By AI agents, Wed Nov 11 2026. No macro, syntax, notation, axiom, sorry.
-/
import Derived.Test.YtfgbnnmaooillaaDoorChecked
import GoSem.Claim
import GoSem.ClaimJoined
import GoSem.ClaimMapViews
import Derived.JoinedTies
import Derived.KernelRfl
namespace Go.Proofs.YtfgbnnmaooillaaDoor
/- THE CELL 'sum', in the pinned program and in every row, IS THE sha256 OF THE DUMP (.gsa) THAT YtfgbnnmaooillaaDoorProg.lean LOADS. Nothing in Lean hashes anything: it is a label: what it is worth is what the hold of that sum in a sandbox is worth. -/
noncomputable def Tryd.pinned : Pinned := { name := "ytfgbnnmaooillaadoor", sum := "aac0ccf4f5747b436b20523a7e93e90e78713c9c4d7287c79b4a0a1cba1cf0b5", checked := Tryd.checked }
namespace Rows
def none {H : Type} : Left H := { results := [], args := [] }

/- WHAT THE LISTED PACKAGE-LEVEL VARIABLES READ AS WHEN THE CALL BEGINS. Each datum BY PROGRAM (the guide's laid-datum.mjs) off the statement by which the dump's own 'gosem.cut.vars' lays the variable. In a bare row this is a premise. The card (YtfgbnnmaooillaaDoorCards.lean) ties it to the program's text. -/
def laid_errors_errorType {H : Type} : DataW H := .iface "internal/reflectlite.rtype" (.agg [.ptr (.lit (.string [101, 114, 114, 111, 114]))])

/-- 'dynamolaw18.ClaimBack': WHATEVER THE INPUT: true; the input reads as it did. -/
def claimBackSpec : ChangeSpec := { name := "claimBack", fn := fun _ => fun
  | [d1, d2, d3] => { results := [.lit (.bool true)], args := [d1, d2, d3] }
  | _ => none }
def claimBackRow : OpenClaim := { program := "ytfgbnnmaooillaadoor", sum := "aac0ccf4f5747b436b20523a7e93e90e78713c9c4d7287c79b4a0a1cba1cf0b5", func := "dynamo/dynamolaw18.ClaimBack", spec := "claimBack", inPlace := ["internal/reflectlite.ValueOf", "(internal/reflectlite.Value).Type", "(internal/reflectlite.Value).IsNil", "internal/reflectlite.TypeOf", "(internal/reflectlite.Value).Elem", "(internal/reflectlite.Value).Set"], unfollowed := true, recurses := true, named := ["errors.errorType"], apart := false, laid := [("errors.errorType", laid_errors_errorType)] }
def ClaimBackSaid : Prop := claimBackRow.holds Tryd.pinned (OpenSpec.ofChange claimBackSpec)

/-- ITS FALSE NEIGHBOUR: 'it returns false'. Refute it at one input. -/
def claimBackWrong : ChangeSpec := { name := "claimBack", fn := fun _ => fun
  | [d1, d2, d3] => { results := [.lit (.bool false)], args := [d1, d2, d3] }
  | _ => none }
def ClaimBackWrongFalsely : Prop := claimBackRow.holds Tryd.pinned (OpenSpec.ofChange claimBackWrong)

/-- 'dynamolaw18.ClaimTakes': WHATEVER THE INPUT: true; the input reads as it did. -/
def claimTakesSpec : ChangeSpec := { name := "claimTakes", fn := fun _ => fun
  | [d1, d2, d3] => { results := [.lit (.bool true)], args := [d1, d2, d3] }
  | _ => none }
def claimTakesRow : OpenClaim := { program := "ytfgbnnmaooillaadoor", sum := "aac0ccf4f5747b436b20523a7e93e90e78713c9c4d7287c79b4a0a1cba1cf0b5", func := "dynamo/dynamolaw18.ClaimTakes", spec := "claimTakes", inPlace := ["internal/reflectlite.ValueOf", "(internal/reflectlite.Value).Type", "(internal/reflectlite.Value).IsNil", "internal/reflectlite.TypeOf", "(internal/reflectlite.Value).Elem", "(internal/reflectlite.Value).Set"], unfollowed := true, recurses := true, named := ["errors.errorType"], apart := false, laid := [("errors.errorType", laid_errors_errorType)] }
def ClaimTakesSaid : Prop := claimTakesRow.holds Tryd.pinned (OpenSpec.ofChange claimTakesSpec)

/-- ITS FALSE NEIGHBOUR: 'it returns false'. Refute it at one input. -/
def claimTakesWrong : ChangeSpec := { name := "claimTakes", fn := fun _ => fun
  | [d1, d2, d3] => { results := [.lit (.bool false)], args := [d1, d2, d3] }
  | _ => none }
def ClaimTakesWrongFalsely : Prop := claimTakesRow.holds Tryd.pinned (OpenSpec.ofChange claimTakesWrong)

/-- 'dynamolaw18.ClaimTwo': WHATEVER THE INPUT: true; the input reads as it did. -/
def claimTwoSpec : ChangeSpec := { name := "claimTwo", fn := fun _ => fun
  | [d1, d2] => { results := [.lit (.bool true)], args := [d1, d2] }
  | _ => none }
def claimTwoRow : OpenClaim := { program := "ytfgbnnmaooillaadoor", sum := "aac0ccf4f5747b436b20523a7e93e90e78713c9c4d7287c79b4a0a1cba1cf0b5", func := "dynamo/dynamolaw18.ClaimTwo", spec := "claimTwo", inPlace := ["internal/reflectlite.ValueOf", "(internal/reflectlite.Value).Type", "(internal/reflectlite.Value).IsNil", "internal/reflectlite.TypeOf", "(internal/reflectlite.Value).Elem", "(internal/reflectlite.Value).Set"], unfollowed := true, recurses := true, named := ["errors.errorType"], apart := false, laid := [("errors.errorType", laid_errors_errorType)] }
def ClaimTwoSaid : Prop := claimTwoRow.holds Tryd.pinned (OpenSpec.ofChange claimTwoSpec)

/-- ITS FALSE NEIGHBOUR: 'it returns false'. Refute it at one input. -/
def claimTwoWrong : ChangeSpec := { name := "claimTwo", fn := fun _ => fun
  | [d1, d2] => { results := [.lit (.bool false)], args := [d1, d2] }
  | _ => none }
def ClaimTwoWrongFalsely : Prop := claimTwoRow.holds Tryd.pinned (OpenSpec.ofChange claimTwoWrong)

/-- 'dynamolaw18.ClaimCounts': WHATEVER THE INPUT: true; the input reads as it did. -/
def claimCountsSpec : ChangeSpec := { name := "claimCounts", fn := fun _ => fun
  | [d] => { results := [.lit (.bool true)], args := [d] }
  | _ => none }
def claimCountsRow : OpenClaim := { program := "ytfgbnnmaooillaadoor", sum := "aac0ccf4f5747b436b20523a7e93e90e78713c9c4d7287c79b4a0a1cba1cf0b5", func := "dynamo/dynamolaw18.ClaimCounts", spec := "claimCounts", inPlace := ["internal/reflectlite.ValueOf", "(internal/reflectlite.Value).Type", "(internal/reflectlite.Value).IsNil", "internal/reflectlite.TypeOf", "(internal/reflectlite.Value).Elem", "(internal/reflectlite.Value).Set"], unfollowed := true, recurses := true, named := ["errors.errorType"], apart := false, laid := [("errors.errorType", laid_errors_errorType)] }
def ClaimCountsSaid : Prop := claimCountsRow.holds Tryd.pinned (OpenSpec.ofChange claimCountsSpec)

/-- ITS FALSE NEIGHBOUR: 'it returns false'. Refute it at one input. -/
def claimCountsWrong : ChangeSpec := { name := "claimCounts", fn := fun _ => fun
  | [d] => { results := [.lit (.bool false)], args := [d] }
  | _ => none }
def ClaimCountsWrongFalsely : Prop := claimCountsRow.holds Tryd.pinned (OpenSpec.ofChange claimCountsWrong)

/-- 'dynamolaw20.SlotPlays': WHATEVER THE INPUT: true; the input reads as it did. -/
def slotPlaysSpec : ChangeSpec := { name := "slotPlays", fn := fun _ => fun
  | [d1, d2, d3, d4, d5] => { results := [.lit (.bool true)], args := [d1, d2, d3, d4, d5] }
  | _ => none }
def slotPlaysRow : OpenClaim := { program := "ytfgbnnmaooillaadoor", sum := "aac0ccf4f5747b436b20523a7e93e90e78713c9c4d7287c79b4a0a1cba1cf0b5", func := "dynamo/dynamolaw20.SlotPlays", spec := "slotPlays", inPlace := ["internal/reflectlite.ValueOf", "(internal/reflectlite.Value).Type", "(internal/reflectlite.Value).IsNil", "internal/reflectlite.TypeOf", "(internal/reflectlite.Value).Elem", "(internal/reflectlite.Value).Set"], unfollowed := true, recurses := true, named := ["errors.errorType"], apart := false, laid := [("errors.errorType", laid_errors_errorType)] }
def SlotPlaysSaid : Prop := slotPlaysRow.holds Tryd.pinned (OpenSpec.ofChange slotPlaysSpec)

/-- ITS FALSE NEIGHBOUR: 'it returns false'. Refute it at one input. -/
def slotPlaysWrong : ChangeSpec := { name := "slotPlays", fn := fun _ => fun
  | [d1, d2, d3, d4, d5] => { results := [.lit (.bool false)], args := [d1, d2, d3, d4, d5] }
  | _ => none }
def SlotPlaysWrongFalsely : Prop := slotPlaysRow.holds Tryd.pinned (OpenSpec.ofChange slotPlaysWrong)

/-- 'dynamolaw20.SlotTouch': WHATEVER THE INPUT: true; the input reads as it did. -/
def slotTouchSpec : ChangeSpec := { name := "slotTouch", fn := fun _ => fun
  | [d1, d2, d3, d4] => { results := [.lit (.bool true)], args := [d1, d2, d3, d4] }
  | _ => none }
def slotTouchRow : OpenClaim := { program := "ytfgbnnmaooillaadoor", sum := "aac0ccf4f5747b436b20523a7e93e90e78713c9c4d7287c79b4a0a1cba1cf0b5", func := "dynamo/dynamolaw20.SlotTouch", spec := "slotTouch", inPlace := ["internal/reflectlite.ValueOf", "(internal/reflectlite.Value).Type", "(internal/reflectlite.Value).IsNil", "internal/reflectlite.TypeOf", "(internal/reflectlite.Value).Elem", "(internal/reflectlite.Value).Set"], unfollowed := true, recurses := true, named := ["errors.errorType"], apart := false, laid := [("errors.errorType", laid_errors_errorType)] }
def SlotTouchSaid : Prop := slotTouchRow.holds Tryd.pinned (OpenSpec.ofChange slotTouchSpec)

/-- ITS FALSE NEIGHBOUR: 'it returns false'. Refute it at one input. -/
def slotTouchWrong : ChangeSpec := { name := "slotTouch", fn := fun _ => fun
  | [d1, d2, d3, d4] => { results := [.lit (.bool false)], args := [d1, d2, d3, d4] }
  | _ => none }
def SlotTouchWrongFalsely : Prop := slotTouchRow.holds Tryd.pinned (OpenSpec.ofChange slotTouchWrong)

/-- 'dynamolaw18.ClaimApart': WHATEVER THE INPUT: true; the input reads as it did. -/
def claimApartSpec : ChangeSpec := { name := "claimApart", fn := fun _ => fun
  | [d1, d2, d3] => { results := [.lit (.bool true)], args := [d1, d2, d3] }
  | _ => none }
def claimApartRow : OpenClaim := { program := "ytfgbnnmaooillaadoor", sum := "aac0ccf4f5747b436b20523a7e93e90e78713c9c4d7287c79b4a0a1cba1cf0b5", func := "dynamo/dynamolaw18.ClaimApart", spec := "claimApart", inPlace := ["internal/reflectlite.ValueOf", "(internal/reflectlite.Value).Type", "(internal/reflectlite.Value).IsNil", "internal/reflectlite.TypeOf", "(internal/reflectlite.Value).Elem", "(internal/reflectlite.Value).Set"], unfollowed := true, recurses := true, named := ["errors.errorType"], apart := false, laid := [("errors.errorType", laid_errors_errorType)] }
def ClaimApartSaid : Prop := claimApartRow.holds Tryd.pinned (OpenSpec.ofChange claimApartSpec)

/-- ITS FALSE NEIGHBOUR: 'it returns false'. Refute it at one input. -/
def claimApartWrong : ChangeSpec := { name := "claimApart", fn := fun _ => fun
  | [d1, d2, d3] => { results := [.lit (.bool false)], args := [d1, d2, d3] }
  | _ => none }
def ClaimApartWrongFalsely : Prop := claimApartRow.holds Tryd.pinned (OpenSpec.ofChange claimApartWrong)

/-- 'dynamolaw20.SlotRooms': WHATEVER THE INPUT: true; the input reads as it did. -/
def slotRoomsSpec : ChangeSpec := { name := "slotRooms", fn := fun _ => fun
  | [d1, d2, d3] => { results := [.lit (.bool true)], args := [d1, d2, d3] }
  | _ => none }
def slotRoomsRow : OpenClaim := { program := "ytfgbnnmaooillaadoor", sum := "aac0ccf4f5747b436b20523a7e93e90e78713c9c4d7287c79b4a0a1cba1cf0b5", func := "dynamo/dynamolaw20.SlotRooms", spec := "slotRooms", inPlace := ["internal/reflectlite.ValueOf", "(internal/reflectlite.Value).Type", "(internal/reflectlite.Value).IsNil", "internal/reflectlite.TypeOf", "(internal/reflectlite.Value).Elem", "(internal/reflectlite.Value).Set"], unfollowed := true, recurses := true, named := ["errors.errorType"], apart := false, laid := [("errors.errorType", laid_errors_errorType)] }
def SlotRoomsSaid : Prop := slotRoomsRow.holds Tryd.pinned (OpenSpec.ofChange slotRoomsSpec)

/-- ITS FALSE NEIGHBOUR: 'it returns false'. Refute it at one input. -/
def slotRoomsWrong : ChangeSpec := { name := "slotRooms", fn := fun _ => fun
  | [d1, d2, d3] => { results := [.lit (.bool false)], args := [d1, d2, d3] }
  | _ => none }
def SlotRoomsWrongFalsely : Prop := slotRoomsRow.holds Tryd.pinned (OpenSpec.ofChange slotRoomsWrong)

/- THE SECOND FORM. 'bulk': how many values and letters a reading holds, each counted each time it is reached (what is shared counts as often as it is met; a slice's spare places count too). A statement '..UptoSaid' is the law's where the arguments, and the package variables that the reading takes, are together of bulk at most 1048576: NARROWER than '..Said'. Prove '..Said' where nothing that the law and all that it calls make is longer than what came in: it says more and counts as full. Else prove '..UptoSaid'. A law counts once. -/
mutual
def uptoBulk {H : Type} : DataW H → Nat
  | .lit (.string bytes) => bytes.length + 1
  | .lit _ => 1
  | .nil => 1
  | .ptr d => uptoBulk d + 1
  | .slice elems spare => uptoBulkAll elems + uptoBulkAll spare + 1
  | .agg parts => uptoBulkAll parts + 1
  | .iface _ d => uptoBulk d + 1
  | .map entries => uptoBulkEntries entries + 1
  | .held _ => 1
def uptoBulkAll {H : Type} : List (DataW H) → Nat
  | [] => 0
  | d :: r => uptoBulk d + uptoBulkAll r
def uptoBulkEntries {H : Type} : List (Lit × DataW H) → Nat
  | [] => 0
  | x :: r => uptoBulkEntry x + uptoBulkEntries r
def uptoBulkEntry {H : Type} : Lit × DataW H → Nat
  | (.string bytes, d) => bytes.length + uptoBulk d + 1
  | (_, d) => uptoBulk d + 1
 end
def uptoSmall : (H : Type) → List (DataW H) → Bool := fun _ ds => decide (uptoBulkAll ds ≤ 1048576)
def OpenSpec.upto (s : _root_.Go.ChangeSpec) : _root_.Go.OpenSpec := { _root_.Go.OpenSpec.ofChange s with cond := some uptoSmall }

/-- 'dynamolaw18.ClaimBack', WHERE WHAT IT READS IS OF BULK AT MOST 1048576: true; the input reads as it did. -/
def claimBackUptoRow : OpenClaim := { program := "ytfgbnnmaooillaadoor", sum := "aac0ccf4f5747b436b20523a7e93e90e78713c9c4d7287c79b4a0a1cba1cf0b5", func := "dynamo/dynamolaw18.ClaimBack", spec := "claimBack", inPlace := ["internal/reflectlite.ValueOf", "(internal/reflectlite.Value).Type", "(internal/reflectlite.Value).IsNil", "internal/reflectlite.TypeOf", "(internal/reflectlite.Value).Elem", "(internal/reflectlite.Value).Set"], unfollowed := true, recurses := true, named := ["errors.errorType"], apart := false, laid := [("errors.errorType", laid_errors_errorType)], narrowed := true }
def ClaimBackUptoSaid : Prop := claimBackUptoRow.holds Tryd.pinned (OpenSpec.upto claimBackSpec)

/-- 'dynamolaw18.ClaimTakes', WHERE WHAT IT READS IS OF BULK AT MOST 1048576: true; the input reads as it did. -/
def claimTakesUptoRow : OpenClaim := { program := "ytfgbnnmaooillaadoor", sum := "aac0ccf4f5747b436b20523a7e93e90e78713c9c4d7287c79b4a0a1cba1cf0b5", func := "dynamo/dynamolaw18.ClaimTakes", spec := "claimTakes", inPlace := ["internal/reflectlite.ValueOf", "(internal/reflectlite.Value).Type", "(internal/reflectlite.Value).IsNil", "internal/reflectlite.TypeOf", "(internal/reflectlite.Value).Elem", "(internal/reflectlite.Value).Set"], unfollowed := true, recurses := true, named := ["errors.errorType"], apart := false, laid := [("errors.errorType", laid_errors_errorType)], narrowed := true }
def ClaimTakesUptoSaid : Prop := claimTakesUptoRow.holds Tryd.pinned (OpenSpec.upto claimTakesSpec)

/-- 'dynamolaw18.ClaimTwo', WHERE WHAT IT READS IS OF BULK AT MOST 1048576: true; the input reads as it did. -/
def claimTwoUptoRow : OpenClaim := { program := "ytfgbnnmaooillaadoor", sum := "aac0ccf4f5747b436b20523a7e93e90e78713c9c4d7287c79b4a0a1cba1cf0b5", func := "dynamo/dynamolaw18.ClaimTwo", spec := "claimTwo", inPlace := ["internal/reflectlite.ValueOf", "(internal/reflectlite.Value).Type", "(internal/reflectlite.Value).IsNil", "internal/reflectlite.TypeOf", "(internal/reflectlite.Value).Elem", "(internal/reflectlite.Value).Set"], unfollowed := true, recurses := true, named := ["errors.errorType"], apart := false, laid := [("errors.errorType", laid_errors_errorType)], narrowed := true }
def ClaimTwoUptoSaid : Prop := claimTwoUptoRow.holds Tryd.pinned (OpenSpec.upto claimTwoSpec)

/-- 'dynamolaw18.ClaimCounts', WHERE WHAT IT READS IS OF BULK AT MOST 1048576: true; the input reads as it did. -/
def claimCountsUptoRow : OpenClaim := { program := "ytfgbnnmaooillaadoor", sum := "aac0ccf4f5747b436b20523a7e93e90e78713c9c4d7287c79b4a0a1cba1cf0b5", func := "dynamo/dynamolaw18.ClaimCounts", spec := "claimCounts", inPlace := ["internal/reflectlite.ValueOf", "(internal/reflectlite.Value).Type", "(internal/reflectlite.Value).IsNil", "internal/reflectlite.TypeOf", "(internal/reflectlite.Value).Elem", "(internal/reflectlite.Value).Set"], unfollowed := true, recurses := true, named := ["errors.errorType"], apart := false, laid := [("errors.errorType", laid_errors_errorType)], narrowed := true }
def ClaimCountsUptoSaid : Prop := claimCountsUptoRow.holds Tryd.pinned (OpenSpec.upto claimCountsSpec)

/-- 'dynamolaw20.SlotPlays', WHERE WHAT IT READS IS OF BULK AT MOST 1048576: true; the input reads as it did. -/
def slotPlaysUptoRow : OpenClaim := { program := "ytfgbnnmaooillaadoor", sum := "aac0ccf4f5747b436b20523a7e93e90e78713c9c4d7287c79b4a0a1cba1cf0b5", func := "dynamo/dynamolaw20.SlotPlays", spec := "slotPlays", inPlace := ["internal/reflectlite.ValueOf", "(internal/reflectlite.Value).Type", "(internal/reflectlite.Value).IsNil", "internal/reflectlite.TypeOf", "(internal/reflectlite.Value).Elem", "(internal/reflectlite.Value).Set"], unfollowed := true, recurses := true, named := ["errors.errorType"], apart := false, laid := [("errors.errorType", laid_errors_errorType)], narrowed := true }
def SlotPlaysUptoSaid : Prop := slotPlaysUptoRow.holds Tryd.pinned (OpenSpec.upto slotPlaysSpec)

/-- 'dynamolaw20.SlotTouch', WHERE WHAT IT READS IS OF BULK AT MOST 1048576: true; the input reads as it did. -/
def slotTouchUptoRow : OpenClaim := { program := "ytfgbnnmaooillaadoor", sum := "aac0ccf4f5747b436b20523a7e93e90e78713c9c4d7287c79b4a0a1cba1cf0b5", func := "dynamo/dynamolaw20.SlotTouch", spec := "slotTouch", inPlace := ["internal/reflectlite.ValueOf", "(internal/reflectlite.Value).Type", "(internal/reflectlite.Value).IsNil", "internal/reflectlite.TypeOf", "(internal/reflectlite.Value).Elem", "(internal/reflectlite.Value).Set"], unfollowed := true, recurses := true, named := ["errors.errorType"], apart := false, laid := [("errors.errorType", laid_errors_errorType)], narrowed := true }
def SlotTouchUptoSaid : Prop := slotTouchUptoRow.holds Tryd.pinned (OpenSpec.upto slotTouchSpec)

/-- 'dynamolaw18.ClaimApart', WHERE WHAT IT READS IS OF BULK AT MOST 1048576: true; the input reads as it did. -/
def claimApartUptoRow : OpenClaim := { program := "ytfgbnnmaooillaadoor", sum := "aac0ccf4f5747b436b20523a7e93e90e78713c9c4d7287c79b4a0a1cba1cf0b5", func := "dynamo/dynamolaw18.ClaimApart", spec := "claimApart", inPlace := ["internal/reflectlite.ValueOf", "(internal/reflectlite.Value).Type", "(internal/reflectlite.Value).IsNil", "internal/reflectlite.TypeOf", "(internal/reflectlite.Value).Elem", "(internal/reflectlite.Value).Set"], unfollowed := true, recurses := true, named := ["errors.errorType"], apart := false, laid := [("errors.errorType", laid_errors_errorType)], narrowed := true }
def ClaimApartUptoSaid : Prop := claimApartUptoRow.holds Tryd.pinned (OpenSpec.upto claimApartSpec)

/-- 'dynamolaw20.SlotRooms', WHERE WHAT IT READS IS OF BULK AT MOST 1048576: true; the input reads as it did. -/
def slotRoomsUptoRow : OpenClaim := { program := "ytfgbnnmaooillaadoor", sum := "aac0ccf4f5747b436b20523a7e93e90e78713c9c4d7287c79b4a0a1cba1cf0b5", func := "dynamo/dynamolaw20.SlotRooms", spec := "slotRooms", inPlace := ["internal/reflectlite.ValueOf", "(internal/reflectlite.Value).Type", "(internal/reflectlite.Value).IsNil", "internal/reflectlite.TypeOf", "(internal/reflectlite.Value).Elem", "(internal/reflectlite.Value).Set"], unfollowed := true, recurses := true, named := ["errors.errorType"], apart := false, laid := [("errors.errorType", laid_errors_errorType)], narrowed := true }
def SlotRoomsUptoSaid : Prop := slotRoomsUptoRow.holds Tryd.pinned (OpenSpec.upto slotRoomsSpec)

end Rows
end Go.Proofs.YtfgbnnmaooillaaDoor
