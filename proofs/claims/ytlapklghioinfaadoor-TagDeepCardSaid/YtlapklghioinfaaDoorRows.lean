/-
  NARROWER THAN 'FOR EVERY INPUT', by the rows' own cells (each row's printed sentence says how): TagTexts: laid · TagNil: laid · TagMore: laid · TagDeep: laid · VoltParts: laid · VoltFull: laid · VoltSets: laid · TagNums: laid · VoltPlays: laid · VoltBack: laid · VoltKeeps: laid · TagUnlike: laid.
  DERIVED. THE GIVEN ROWS OF THIS SEAT. 12 by the template 'for every input the law returns true; each argument reads behind the call as it read before'; 0 by the template 'total and deterministic' (their statements: YtlapklghioinfaaDoorTotals.lean).
  GIVEN WITH THE SEED: the statements are not yours to turn. If you find one false, say at which input.
  Laid BY PROGRAM, IN A SANDBOX (cutbox-rows.mjs): the forced cells as the released guide's own fill.sh prints them over the translation 10def5fc8a59044a… (all of the seat's roots in one cut). By AI agents, Wed Nov 11 2026. No macro, syntax, notation, axiom, sorry.
-/
import Derived.Test.YtlapklghioinfaaDoorChecked
import GoSem.Claim
import GoSem.ClaimJoined
import GoSem.ClaimMapViews
import Derived.JoinedTies
import Derived.KernelRfl
namespace Go.Proofs.YtlapklghioinfaaDoor
/- THE CELL 'sum', in the pinned program and in every row, IS THE sha256 OF THE DUMP (.gsa) THAT YtlapklghioinfaaDoorProg.lean LOADS. Nothing in Lean hashes anything: it is a label: what it is worth is what the hold of that sum in a sandbox is worth. -/
noncomputable def Tryd.pinned : Pinned := { name := "ytlapklghioinfaadoor", sum := "10def5fc8a59044a9916275a3f41fc455ebe88704d116f553a3ef68c9357220a", checked := Tryd.checked }
namespace Rows
def none {H : Type} : Left H := { results := [], args := [] }

/- WHAT THE LISTED PACKAGE-LEVEL VARIABLES READ AS WHEN THE CALL BEGINS. Each datum BY PROGRAM (the guide's laid-datum.mjs) off the statement by which the dump's own 'gosem.cut.vars' lays the variable. In a bare row this is a premise. The card (YtlapklghioinfaaDoorCards.lean) ties it to the program's text. -/
def laid_errors_errorType {H : Type} : DataW H := .iface "internal/reflectlite.rtype" (.agg [.ptr (.lit (.string [101, 114, 114, 111, 114]))])

/-- 'dynamolaw01.TagTexts': WHATEVER THE INPUT: true; the input reads as it did. -/
def tagTextsSpec : ChangeSpec := { name := "tagTexts", fn := fun _ => fun
  | [d1, d2] => { results := [.lit (.bool true)], args := [d1, d2] }
  | _ => none }
def tagTextsRow : OpenClaim := { program := "ytlapklghioinfaadoor", sum := "10def5fc8a59044a9916275a3f41fc455ebe88704d116f553a3ef68c9357220a", func := "dynamo/dynamolaw01.TagTexts", spec := "tagTexts", inPlace := ["internal/reflectlite.ValueOf", "(internal/reflectlite.Value).Type", "(internal/reflectlite.Value).IsNil", "internal/reflectlite.TypeOf", "(internal/reflectlite.Value).Elem", "(internal/reflectlite.Value).Set"], unfollowed := true, recurses := true, named := ["errors.errorType"], apart := false, laid := [("errors.errorType", laid_errors_errorType)] }
def TagTextsSaid : Prop := tagTextsRow.holds Tryd.pinned (OpenSpec.ofChange tagTextsSpec)

/-- ITS FALSE NEIGHBOUR: 'it returns false'. Refute it at one input. -/
def tagTextsWrong : ChangeSpec := { name := "tagTexts", fn := fun _ => fun
  | [d1, d2] => { results := [.lit (.bool false)], args := [d1, d2] }
  | _ => none }
def TagTextsWrongFalsely : Prop := tagTextsRow.holds Tryd.pinned (OpenSpec.ofChange tagTextsWrong)

/-- 'dynamolaw01.TagNil': WHATEVER THE INPUT: true; the input reads as it did. -/
def tagNilSpec : ChangeSpec := { name := "tagNil", fn := fun _ => fun
  | [d] => { results := [.lit (.bool true)], args := [d] }
  | _ => none }
def tagNilRow : OpenClaim := { program := "ytlapklghioinfaadoor", sum := "10def5fc8a59044a9916275a3f41fc455ebe88704d116f553a3ef68c9357220a", func := "dynamo/dynamolaw01.TagNil", spec := "tagNil", inPlace := ["internal/reflectlite.ValueOf", "(internal/reflectlite.Value).Type", "(internal/reflectlite.Value).IsNil", "internal/reflectlite.TypeOf", "(internal/reflectlite.Value).Elem", "(internal/reflectlite.Value).Set"], unfollowed := true, recurses := true, named := ["errors.errorType"], apart := false, laid := [("errors.errorType", laid_errors_errorType)] }
def TagNilSaid : Prop := tagNilRow.holds Tryd.pinned (OpenSpec.ofChange tagNilSpec)

/-- ITS FALSE NEIGHBOUR: 'it returns false'. Refute it at one input. -/
def tagNilWrong : ChangeSpec := { name := "tagNil", fn := fun _ => fun
  | [d] => { results := [.lit (.bool false)], args := [d] }
  | _ => none }
def TagNilWrongFalsely : Prop := tagNilRow.holds Tryd.pinned (OpenSpec.ofChange tagNilWrong)

/-- 'dynamolaw01.TagMore': WHATEVER THE INPUT: true; the input reads as it did. -/
def tagMoreSpec : ChangeSpec := { name := "tagMore", fn := fun _ => fun
  | [d1, d2, d3] => { results := [.lit (.bool true)], args := [d1, d2, d3] }
  | _ => none }
def tagMoreRow : OpenClaim := { program := "ytlapklghioinfaadoor", sum := "10def5fc8a59044a9916275a3f41fc455ebe88704d116f553a3ef68c9357220a", func := "dynamo/dynamolaw01.TagMore", spec := "tagMore", inPlace := ["internal/reflectlite.ValueOf", "(internal/reflectlite.Value).Type", "(internal/reflectlite.Value).IsNil", "internal/reflectlite.TypeOf", "(internal/reflectlite.Value).Elem", "(internal/reflectlite.Value).Set"], unfollowed := true, recurses := true, named := ["errors.errorType"], apart := false, laid := [("errors.errorType", laid_errors_errorType)] }
def TagMoreSaid : Prop := tagMoreRow.holds Tryd.pinned (OpenSpec.ofChange tagMoreSpec)

/-- ITS FALSE NEIGHBOUR: 'it returns false'. Refute it at one input. -/
def tagMoreWrong : ChangeSpec := { name := "tagMore", fn := fun _ => fun
  | [d1, d2, d3] => { results := [.lit (.bool false)], args := [d1, d2, d3] }
  | _ => none }
def TagMoreWrongFalsely : Prop := tagMoreRow.holds Tryd.pinned (OpenSpec.ofChange tagMoreWrong)

/-- 'dynamolaw01.TagDeep': WHATEVER THE INPUT: true; the input reads as it did. -/
def tagDeepSpec : ChangeSpec := { name := "tagDeep", fn := fun _ => fun
  | [d1, d2, d3] => { results := [.lit (.bool true)], args := [d1, d2, d3] }
  | _ => none }
def tagDeepRow : OpenClaim := { program := "ytlapklghioinfaadoor", sum := "10def5fc8a59044a9916275a3f41fc455ebe88704d116f553a3ef68c9357220a", func := "dynamo/dynamolaw01.TagDeep", spec := "tagDeep", inPlace := ["internal/reflectlite.ValueOf", "(internal/reflectlite.Value).Type", "(internal/reflectlite.Value).IsNil", "internal/reflectlite.TypeOf", "(internal/reflectlite.Value).Elem", "(internal/reflectlite.Value).Set"], unfollowed := true, recurses := true, named := ["errors.errorType"], apart := false, laid := [("errors.errorType", laid_errors_errorType)] }
def TagDeepSaid : Prop := tagDeepRow.holds Tryd.pinned (OpenSpec.ofChange tagDeepSpec)

/-- ITS FALSE NEIGHBOUR: 'it returns false'. Refute it at one input. -/
def tagDeepWrong : ChangeSpec := { name := "tagDeep", fn := fun _ => fun
  | [d1, d2, d3] => { results := [.lit (.bool false)], args := [d1, d2, d3] }
  | _ => none }
def TagDeepWrongFalsely : Prop := tagDeepRow.holds Tryd.pinned (OpenSpec.ofChange tagDeepWrong)

/-- 'dynamolaw19.VoltParts': WHATEVER THE INPUT: true; the input reads as it did. -/
def voltPartsSpec : ChangeSpec := { name := "voltParts", fn := fun _ => fun
  | [d1, d2, d3] => { results := [.lit (.bool true)], args := [d1, d2, d3] }
  | _ => none }
def voltPartsRow : OpenClaim := { program := "ytlapklghioinfaadoor", sum := "10def5fc8a59044a9916275a3f41fc455ebe88704d116f553a3ef68c9357220a", func := "dynamo/dynamolaw19.VoltParts", spec := "voltParts", inPlace := ["internal/reflectlite.ValueOf", "(internal/reflectlite.Value).Type", "(internal/reflectlite.Value).IsNil", "internal/reflectlite.TypeOf", "(internal/reflectlite.Value).Elem", "(internal/reflectlite.Value).Set"], unfollowed := true, recurses := true, named := ["errors.errorType"], apart := false, laid := [("errors.errorType", laid_errors_errorType)] }
def VoltPartsSaid : Prop := voltPartsRow.holds Tryd.pinned (OpenSpec.ofChange voltPartsSpec)

/-- ITS FALSE NEIGHBOUR: 'it returns false'. Refute it at one input. -/
def voltPartsWrong : ChangeSpec := { name := "voltParts", fn := fun _ => fun
  | [d1, d2, d3] => { results := [.lit (.bool false)], args := [d1, d2, d3] }
  | _ => none }
def VoltPartsWrongFalsely : Prop := voltPartsRow.holds Tryd.pinned (OpenSpec.ofChange voltPartsWrong)

/-- 'dynamolaw19.VoltFull': WHATEVER THE INPUT: true; the input reads as it did. -/
def voltFullSpec : ChangeSpec := { name := "voltFull", fn := fun _ => fun
  | [d] => { results := [.lit (.bool true)], args := [d] }
  | _ => none }
def voltFullRow : OpenClaim := { program := "ytlapklghioinfaadoor", sum := "10def5fc8a59044a9916275a3f41fc455ebe88704d116f553a3ef68c9357220a", func := "dynamo/dynamolaw19.VoltFull", spec := "voltFull", inPlace := ["internal/reflectlite.ValueOf", "(internal/reflectlite.Value).Type", "(internal/reflectlite.Value).IsNil", "internal/reflectlite.TypeOf", "(internal/reflectlite.Value).Elem", "(internal/reflectlite.Value).Set"], unfollowed := true, recurses := true, named := ["errors.errorType"], apart := false, laid := [("errors.errorType", laid_errors_errorType)] }
def VoltFullSaid : Prop := voltFullRow.holds Tryd.pinned (OpenSpec.ofChange voltFullSpec)

/-- ITS FALSE NEIGHBOUR: 'it returns false'. Refute it at one input. -/
def voltFullWrong : ChangeSpec := { name := "voltFull", fn := fun _ => fun
  | [d] => { results := [.lit (.bool false)], args := [d] }
  | _ => none }
def VoltFullWrongFalsely : Prop := voltFullRow.holds Tryd.pinned (OpenSpec.ofChange voltFullWrong)

/-- 'dynamolaw19.VoltSets': WHATEVER THE INPUT: true; the input reads as it did. -/
def voltSetsSpec : ChangeSpec := { name := "voltSets", fn := fun _ => fun
  | [d1, d2] => { results := [.lit (.bool true)], args := [d1, d2] }
  | _ => none }
def voltSetsRow : OpenClaim := { program := "ytlapklghioinfaadoor", sum := "10def5fc8a59044a9916275a3f41fc455ebe88704d116f553a3ef68c9357220a", func := "dynamo/dynamolaw19.VoltSets", spec := "voltSets", inPlace := ["internal/reflectlite.ValueOf", "(internal/reflectlite.Value).Type", "(internal/reflectlite.Value).IsNil", "internal/reflectlite.TypeOf", "(internal/reflectlite.Value).Elem", "(internal/reflectlite.Value).Set"], unfollowed := true, recurses := true, named := ["errors.errorType"], apart := false, laid := [("errors.errorType", laid_errors_errorType)] }
def VoltSetsSaid : Prop := voltSetsRow.holds Tryd.pinned (OpenSpec.ofChange voltSetsSpec)

/-- ITS FALSE NEIGHBOUR: 'it returns false'. Refute it at one input. -/
def voltSetsWrong : ChangeSpec := { name := "voltSets", fn := fun _ => fun
  | [d1, d2] => { results := [.lit (.bool false)], args := [d1, d2] }
  | _ => none }
def VoltSetsWrongFalsely : Prop := voltSetsRow.holds Tryd.pinned (OpenSpec.ofChange voltSetsWrong)

/-- 'dynamolaw01.TagNums': WHATEVER THE INPUT: true; the input reads as it did. -/
def tagNumsSpec : ChangeSpec := { name := "tagNums", fn := fun _ => fun
  | [d1, d2, d3] => { results := [.lit (.bool true)], args := [d1, d2, d3] }
  | _ => none }
def tagNumsRow : OpenClaim := { program := "ytlapklghioinfaadoor", sum := "10def5fc8a59044a9916275a3f41fc455ebe88704d116f553a3ef68c9357220a", func := "dynamo/dynamolaw01.TagNums", spec := "tagNums", inPlace := ["internal/reflectlite.ValueOf", "(internal/reflectlite.Value).Type", "(internal/reflectlite.Value).IsNil", "internal/reflectlite.TypeOf", "(internal/reflectlite.Value).Elem", "(internal/reflectlite.Value).Set"], unfollowed := true, recurses := true, named := ["errors.errorType"], apart := false, laid := [("errors.errorType", laid_errors_errorType)] }
def TagNumsSaid : Prop := tagNumsRow.holds Tryd.pinned (OpenSpec.ofChange tagNumsSpec)

/-- ITS FALSE NEIGHBOUR: 'it returns false'. Refute it at one input. -/
def tagNumsWrong : ChangeSpec := { name := "tagNums", fn := fun _ => fun
  | [d1, d2, d3] => { results := [.lit (.bool false)], args := [d1, d2, d3] }
  | _ => none }
def TagNumsWrongFalsely : Prop := tagNumsRow.holds Tryd.pinned (OpenSpec.ofChange tagNumsWrong)

/-- 'dynamolaw19.VoltPlays': WHATEVER THE INPUT: true; the input reads as it did. -/
def voltPlaysSpec : ChangeSpec := { name := "voltPlays", fn := fun _ => fun
  | [d1, d2, d3] => { results := [.lit (.bool true)], args := [d1, d2, d3] }
  | _ => none }
def voltPlaysRow : OpenClaim := { program := "ytlapklghioinfaadoor", sum := "10def5fc8a59044a9916275a3f41fc455ebe88704d116f553a3ef68c9357220a", func := "dynamo/dynamolaw19.VoltPlays", spec := "voltPlays", inPlace := ["internal/reflectlite.ValueOf", "(internal/reflectlite.Value).Type", "(internal/reflectlite.Value).IsNil", "internal/reflectlite.TypeOf", "(internal/reflectlite.Value).Elem", "(internal/reflectlite.Value).Set"], unfollowed := true, recurses := true, named := ["errors.errorType"], apart := false, laid := [("errors.errorType", laid_errors_errorType)] }
def VoltPlaysSaid : Prop := voltPlaysRow.holds Tryd.pinned (OpenSpec.ofChange voltPlaysSpec)

/-- ITS FALSE NEIGHBOUR: 'it returns false'. Refute it at one input. -/
def voltPlaysWrong : ChangeSpec := { name := "voltPlays", fn := fun _ => fun
  | [d1, d2, d3] => { results := [.lit (.bool false)], args := [d1, d2, d3] }
  | _ => none }
def VoltPlaysWrongFalsely : Prop := voltPlaysRow.holds Tryd.pinned (OpenSpec.ofChange voltPlaysWrong)

/-- 'dynamolaw19.VoltBack': WHATEVER THE INPUT: true; the input reads as it did. -/
def voltBackSpec : ChangeSpec := { name := "voltBack", fn := fun _ => fun
  | [d1, d2] => { results := [.lit (.bool true)], args := [d1, d2] }
  | _ => none }
def voltBackRow : OpenClaim := { program := "ytlapklghioinfaadoor", sum := "10def5fc8a59044a9916275a3f41fc455ebe88704d116f553a3ef68c9357220a", func := "dynamo/dynamolaw19.VoltBack", spec := "voltBack", inPlace := ["internal/reflectlite.ValueOf", "(internal/reflectlite.Value).Type", "(internal/reflectlite.Value).IsNil", "internal/reflectlite.TypeOf", "(internal/reflectlite.Value).Elem", "(internal/reflectlite.Value).Set"], unfollowed := true, recurses := true, named := ["errors.errorType"], apart := false, laid := [("errors.errorType", laid_errors_errorType)] }
def VoltBackSaid : Prop := voltBackRow.holds Tryd.pinned (OpenSpec.ofChange voltBackSpec)

/-- ITS FALSE NEIGHBOUR: 'it returns false'. Refute it at one input. -/
def voltBackWrong : ChangeSpec := { name := "voltBack", fn := fun _ => fun
  | [d1, d2] => { results := [.lit (.bool false)], args := [d1, d2] }
  | _ => none }
def VoltBackWrongFalsely : Prop := voltBackRow.holds Tryd.pinned (OpenSpec.ofChange voltBackWrong)

/-- 'dynamolaw19.VoltKeeps': WHATEVER THE INPUT: true; the input reads as it did. -/
def voltKeepsSpec : ChangeSpec := { name := "voltKeeps", fn := fun _ => fun
  | [d1, d2, d3] => { results := [.lit (.bool true)], args := [d1, d2, d3] }
  | _ => none }
def voltKeepsRow : OpenClaim := { program := "ytlapklghioinfaadoor", sum := "10def5fc8a59044a9916275a3f41fc455ebe88704d116f553a3ef68c9357220a", func := "dynamo/dynamolaw19.VoltKeeps", spec := "voltKeeps", inPlace := ["internal/reflectlite.ValueOf", "(internal/reflectlite.Value).Type", "(internal/reflectlite.Value).IsNil", "internal/reflectlite.TypeOf", "(internal/reflectlite.Value).Elem", "(internal/reflectlite.Value).Set"], unfollowed := true, recurses := true, named := ["errors.errorType"], apart := false, laid := [("errors.errorType", laid_errors_errorType)] }
def VoltKeepsSaid : Prop := voltKeepsRow.holds Tryd.pinned (OpenSpec.ofChange voltKeepsSpec)

/-- ITS FALSE NEIGHBOUR: 'it returns false'. Refute it at one input. -/
def voltKeepsWrong : ChangeSpec := { name := "voltKeeps", fn := fun _ => fun
  | [d1, d2, d3] => { results := [.lit (.bool false)], args := [d1, d2, d3] }
  | _ => none }
def VoltKeepsWrongFalsely : Prop := voltKeepsRow.holds Tryd.pinned (OpenSpec.ofChange voltKeepsWrong)

/-- 'dynamolaw01.TagUnlike': WHATEVER THE INPUT: true; the input reads as it did. -/
def tagUnlikeSpec : ChangeSpec := { name := "tagUnlike", fn := fun _ => fun
  | [d1, d2, d3] => { results := [.lit (.bool true)], args := [d1, d2, d3] }
  | _ => none }
def tagUnlikeRow : OpenClaim := { program := "ytlapklghioinfaadoor", sum := "10def5fc8a59044a9916275a3f41fc455ebe88704d116f553a3ef68c9357220a", func := "dynamo/dynamolaw01.TagUnlike", spec := "tagUnlike", inPlace := ["internal/reflectlite.ValueOf", "(internal/reflectlite.Value).Type", "(internal/reflectlite.Value).IsNil", "internal/reflectlite.TypeOf", "(internal/reflectlite.Value).Elem", "(internal/reflectlite.Value).Set"], unfollowed := true, recurses := true, named := ["errors.errorType"], apart := false, laid := [("errors.errorType", laid_errors_errorType)] }
def TagUnlikeSaid : Prop := tagUnlikeRow.holds Tryd.pinned (OpenSpec.ofChange tagUnlikeSpec)

/-- ITS FALSE NEIGHBOUR: 'it returns false'. Refute it at one input. -/
def tagUnlikeWrong : ChangeSpec := { name := "tagUnlike", fn := fun _ => fun
  | [d1, d2, d3] => { results := [.lit (.bool false)], args := [d1, d2, d3] }
  | _ => none }
def TagUnlikeWrongFalsely : Prop := tagUnlikeRow.holds Tryd.pinned (OpenSpec.ofChange tagUnlikeWrong)

/- THE SECOND FORM. 'bulk': how many values and letters a reading holds, each counted each time it is reached (what is shared counts as often as it is met; a slice's spare places count too). A statement '..UptoSaid' is the law's where the arguments, and the package variables that the reading takes, are together of bulk at most 1048576: NARROWER than '..Said'. Prove '..Said' where nothing that the law and all that it calls make is longer than what came in: it says more and counts as full. Else prove '..UptoSaid'. A law counts once. -/
mutual
def uptoBulk {H : Type} : DataW H → Nat
  | .lit (.string bytes) => bytes.length + 1
  | .lit _ => 1
  | .nil => 1
  | .ptr d => uptoBulk d + 1
  | .slice elems spare => uptoBulkAll elems + uptoBulkAll spare + 1
  | .agg parts => uptoBulkAll parts + 1
  | .iface _ d => uptoBulk d + 1
  | .map entries => uptoBulkEntries entries + 1
  | .held _ => 1
def uptoBulkAll {H : Type} : List (DataW H) → Nat
  | [] => 0
  | d :: r => uptoBulk d + uptoBulkAll r
def uptoBulkEntries {H : Type} : List (Lit × DataW H) → Nat
  | [] => 0
  | x :: r => uptoBulkEntry x + uptoBulkEntries r
def uptoBulkEntry {H : Type} : Lit × DataW H → Nat
  | (.string bytes, d) => bytes.length + uptoBulk d + 1
  | (_, d) => uptoBulk d + 1
 end
def uptoSmall : (H : Type) → List (DataW H) → Bool := fun _ ds => decide (uptoBulkAll ds ≤ 1048576)
def OpenSpec.upto (s : _root_.Go.ChangeSpec) : _root_.Go.OpenSpec := { _root_.Go.OpenSpec.ofChange s with cond := some uptoSmall }

/-- 'dynamolaw01.TagTexts', WHERE WHAT IT READS IS OF BULK AT MOST 1048576: true; the input reads as it did. -/
def tagTextsUptoRow : OpenClaim := { program := "ytlapklghioinfaadoor", sum := "10def5fc8a59044a9916275a3f41fc455ebe88704d116f553a3ef68c9357220a", func := "dynamo/dynamolaw01.TagTexts", spec := "tagTexts", inPlace := ["internal/reflectlite.ValueOf", "(internal/reflectlite.Value).Type", "(internal/reflectlite.Value).IsNil", "internal/reflectlite.TypeOf", "(internal/reflectlite.Value).Elem", "(internal/reflectlite.Value).Set"], unfollowed := true, recurses := true, named := ["errors.errorType"], apart := false, laid := [("errors.errorType", laid_errors_errorType)], narrowed := true }
def TagTextsUptoSaid : Prop := tagTextsUptoRow.holds Tryd.pinned (OpenSpec.upto tagTextsSpec)

/-- 'dynamolaw01.TagNil', WHERE WHAT IT READS IS OF BULK AT MOST 1048576: true; the input reads as it did. -/
def tagNilUptoRow : OpenClaim := { program := "ytlapklghioinfaadoor", sum := "10def5fc8a59044a9916275a3f41fc455ebe88704d116f553a3ef68c9357220a", func := "dynamo/dynamolaw01.TagNil", spec := "tagNil", inPlace := ["internal/reflectlite.ValueOf", "(internal/reflectlite.Value).Type", "(internal/reflectlite.Value).IsNil", "internal/reflectlite.TypeOf", "(internal/reflectlite.Value).Elem", "(internal/reflectlite.Value).Set"], unfollowed := true, recurses := true, named := ["errors.errorType"], apart := false, laid := [("errors.errorType", laid_errors_errorType)], narrowed := true }
def TagNilUptoSaid : Prop := tagNilUptoRow.holds Tryd.pinned (OpenSpec.upto tagNilSpec)

/-- 'dynamolaw01.TagMore', WHERE WHAT IT READS IS OF BULK AT MOST 1048576: true; the input reads as it did. -/
def tagMoreUptoRow : OpenClaim := { program := "ytlapklghioinfaadoor", sum := "10def5fc8a59044a9916275a3f41fc455ebe88704d116f553a3ef68c9357220a", func := "dynamo/dynamolaw01.TagMore", spec := "tagMore", inPlace := ["internal/reflectlite.ValueOf", "(internal/reflectlite.Value).Type", "(internal/reflectlite.Value).IsNil", "internal/reflectlite.TypeOf", "(internal/reflectlite.Value).Elem", "(internal/reflectlite.Value).Set"], unfollowed := true, recurses := true, named := ["errors.errorType"], apart := false, laid := [("errors.errorType", laid_errors_errorType)], narrowed := true }
def TagMoreUptoSaid : Prop := tagMoreUptoRow.holds Tryd.pinned (OpenSpec.upto tagMoreSpec)

/-- 'dynamolaw01.TagDeep', WHERE WHAT IT READS IS OF BULK AT MOST 1048576: true; the input reads as it did. -/
def tagDeepUptoRow : OpenClaim := { program := "ytlapklghioinfaadoor", sum := "10def5fc8a59044a9916275a3f41fc455ebe88704d116f553a3ef68c9357220a", func := "dynamo/dynamolaw01.TagDeep", spec := "tagDeep", inPlace := ["internal/reflectlite.ValueOf", "(internal/reflectlite.Value).Type", "(internal/reflectlite.Value).IsNil", "internal/reflectlite.TypeOf", "(internal/reflectlite.Value).Elem", "(internal/reflectlite.Value).Set"], unfollowed := true, recurses := true, named := ["errors.errorType"], apart := false, laid := [("errors.errorType", laid_errors_errorType)], narrowed := true }
def TagDeepUptoSaid : Prop := tagDeepUptoRow.holds Tryd.pinned (OpenSpec.upto tagDeepSpec)

/-- 'dynamolaw19.VoltParts', WHERE WHAT IT READS IS OF BULK AT MOST 1048576: true; the input reads as it did. -/
def voltPartsUptoRow : OpenClaim := { program := "ytlapklghioinfaadoor", sum := "10def5fc8a59044a9916275a3f41fc455ebe88704d116f553a3ef68c9357220a", func := "dynamo/dynamolaw19.VoltParts", spec := "voltParts", inPlace := ["internal/reflectlite.ValueOf", "(internal/reflectlite.Value).Type", "(internal/reflectlite.Value).IsNil", "internal/reflectlite.TypeOf", "(internal/reflectlite.Value).Elem", "(internal/reflectlite.Value).Set"], unfollowed := true, recurses := true, named := ["errors.errorType"], apart := false, laid := [("errors.errorType", laid_errors_errorType)], narrowed := true }
def VoltPartsUptoSaid : Prop := voltPartsUptoRow.holds Tryd.pinned (OpenSpec.upto voltPartsSpec)

/-- 'dynamolaw19.VoltFull', WHERE WHAT IT READS IS OF BULK AT MOST 1048576: true; the input reads as it did. -/
def voltFullUptoRow : OpenClaim := { program := "ytlapklghioinfaadoor", sum := "10def5fc8a59044a9916275a3f41fc455ebe88704d116f553a3ef68c9357220a", func := "dynamo/dynamolaw19.VoltFull", spec := "voltFull", inPlace := ["internal/reflectlite.ValueOf", "(internal/reflectlite.Value).Type", "(internal/reflectlite.Value).IsNil", "internal/reflectlite.TypeOf", "(internal/reflectlite.Value).Elem", "(internal/reflectlite.Value).Set"], unfollowed := true, recurses := true, named := ["errors.errorType"], apart := false, laid := [("errors.errorType", laid_errors_errorType)], narrowed := true }
def VoltFullUptoSaid : Prop := voltFullUptoRow.holds Tryd.pinned (OpenSpec.upto voltFullSpec)

/-- 'dynamolaw19.VoltSets', WHERE WHAT IT READS IS OF BULK AT MOST 1048576: true; the input reads as it did. -/
def voltSetsUptoRow : OpenClaim := { program := "ytlapklghioinfaadoor", sum := "10def5fc8a59044a9916275a3f41fc455ebe88704d116f553a3ef68c9357220a", func := "dynamo/dynamolaw19.VoltSets", spec := "voltSets", inPlace := ["internal/reflectlite.ValueOf", "(internal/reflectlite.Value).Type", "(internal/reflectlite.Value).IsNil", "internal/reflectlite.TypeOf", "(internal/reflectlite.Value).Elem", "(internal/reflectlite.Value).Set"], unfollowed := true, recurses := true, named := ["errors.errorType"], apart := false, laid := [("errors.errorType", laid_errors_errorType)], narrowed := true }
def VoltSetsUptoSaid : Prop := voltSetsUptoRow.holds Tryd.pinned (OpenSpec.upto voltSetsSpec)

/-- 'dynamolaw01.TagNums', WHERE WHAT IT READS IS OF BULK AT MOST 1048576: true; the input reads as it did. -/
def tagNumsUptoRow : OpenClaim := { program := "ytlapklghioinfaadoor", sum := "10def5fc8a59044a9916275a3f41fc455ebe88704d116f553a3ef68c9357220a", func := "dynamo/dynamolaw01.TagNums", spec := "tagNums", inPlace := ["internal/reflectlite.ValueOf", "(internal/reflectlite.Value).Type", "(internal/reflectlite.Value).IsNil", "internal/reflectlite.TypeOf", "(internal/reflectlite.Value).Elem", "(internal/reflectlite.Value).Set"], unfollowed := true, recurses := true, named := ["errors.errorType"], apart := false, laid := [("errors.errorType", laid_errors_errorType)], narrowed := true }
def TagNumsUptoSaid : Prop := tagNumsUptoRow.holds Tryd.pinned (OpenSpec.upto tagNumsSpec)

/-- 'dynamolaw19.VoltPlays', WHERE WHAT IT READS IS OF BULK AT MOST 1048576: true; the input reads as it did. -/
def voltPlaysUptoRow : OpenClaim := { program := "ytlapklghioinfaadoor", sum := "10def5fc8a59044a9916275a3f41fc455ebe88704d116f553a3ef68c9357220a", func := "dynamo/dynamolaw19.VoltPlays", spec := "voltPlays", inPlace := ["internal/reflectlite.ValueOf", "(internal/reflectlite.Value).Type", "(internal/reflectlite.Value).IsNil", "internal/reflectlite.TypeOf", "(internal/reflectlite.Value).Elem", "(internal/reflectlite.Value).Set"], unfollowed := true, recurses := true, named := ["errors.errorType"], apart := false, laid := [("errors.errorType", laid_errors_errorType)], narrowed := true }
def VoltPlaysUptoSaid : Prop := voltPlaysUptoRow.holds Tryd.pinned (OpenSpec.upto voltPlaysSpec)

/-- 'dynamolaw19.VoltBack', WHERE WHAT IT READS IS OF BULK AT MOST 1048576: true; the input reads as it did. -/
def voltBackUptoRow : OpenClaim := { program := "ytlapklghioinfaadoor", sum := "10def5fc8a59044a9916275a3f41fc455ebe88704d116f553a3ef68c9357220a", func := "dynamo/dynamolaw19.VoltBack", spec := "voltBack", inPlace := ["internal/reflectlite.ValueOf", "(internal/reflectlite.Value).Type", "(internal/reflectlite.Value).IsNil", "internal/reflectlite.TypeOf", "(internal/reflectlite.Value).Elem", "(internal/reflectlite.Value).Set"], unfollowed := true, recurses := true, named := ["errors.errorType"], apart := false, laid := [("errors.errorType", laid_errors_errorType)], narrowed := true }
def VoltBackUptoSaid : Prop := voltBackUptoRow.holds Tryd.pinned (OpenSpec.upto voltBackSpec)

/-- 'dynamolaw19.VoltKeeps', WHERE WHAT IT READS IS OF BULK AT MOST 1048576: true; the input reads as it did. -/
def voltKeepsUptoRow : OpenClaim := { program := "ytlapklghioinfaadoor", sum := "10def5fc8a59044a9916275a3f41fc455ebe88704d116f553a3ef68c9357220a", func := "dynamo/dynamolaw19.VoltKeeps", spec := "voltKeeps", inPlace := ["internal/reflectlite.ValueOf", "(internal/reflectlite.Value).Type", "(internal/reflectlite.Value).IsNil", "internal/reflectlite.TypeOf", "(internal/reflectlite.Value).Elem", "(internal/reflectlite.Value).Set"], unfollowed := true, recurses := true, named := ["errors.errorType"], apart := false, laid := [("errors.errorType", laid_errors_errorType)], narrowed := true }
def VoltKeepsUptoSaid : Prop := voltKeepsUptoRow.holds Tryd.pinned (OpenSpec.upto voltKeepsSpec)

/-- 'dynamolaw01.TagUnlike', WHERE WHAT IT READS IS OF BULK AT MOST 1048576: true; the input reads as it did. -/
def tagUnlikeUptoRow : OpenClaim := { program := "ytlapklghioinfaadoor", sum := "10def5fc8a59044a9916275a3f41fc455ebe88704d116f553a3ef68c9357220a", func := "dynamo/dynamolaw01.TagUnlike", spec := "tagUnlike", inPlace := ["internal/reflectlite.ValueOf", "(internal/reflectlite.Value).Type", "(internal/reflectlite.Value).IsNil", "internal/reflectlite.TypeOf", "(internal/reflectlite.Value).Elem", "(internal/reflectlite.Value).Set"], unfollowed := true, recurses := true, named := ["errors.errorType"], apart := false, laid := [("errors.errorType", laid_errors_errorType)], narrowed := true }
def TagUnlikeUptoSaid : Prop := tagUnlikeUptoRow.holds Tryd.pinned (OpenSpec.upto tagUnlikeSpec)

end Rows
end Go.Proofs.YtlapklghioinfaaDoor
