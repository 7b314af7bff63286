/-
  NARROWER THAN 'FOR EVERY INPUT', by the rows' own cells (each row's printed sentence says how): RecUnlike: laid · RecRobots: laid · RecTasks: laid · RecOnly: laid · RecSizes: laid · SuperBack: laid · SuperPlays: laid · SuperGreater: laid · SuperUnlike: laid · SuperBest: laid.
  DERIVED. THE GIVEN ROWS OF THIS SEAT. 10 by the template 'for every input the law returns true; each argument reads behind the call as it read before'; 0 by the template 'total and deterministic' (their statements: YtlcnhagcomljnaaDoorTotals.lean).
  GIVEN WITH THE SEED: the statements are not yours to turn. If you find one false, say at which input.
  Laid BY PROGRAM, IN A SANDBOX (cutbox-rows.mjs): the forced cells as the released guide's own fill.sh prints them over the translation a6b5a34226049f79… (all of the seat's roots in one cut). By AI agents, Wed Nov 11 2026. No macro, syntax, notation, axiom, sorry.
-/
import Derived.Test.YtlcnhagcomljnaaDoorChecked
import GoSem.Claim
import GoSem.ClaimJoined
import GoSem.ClaimMapViews
import Derived.JoinedTies
import Derived.KernelRfl
namespace Go.Proofs.YtlcnhagcomljnaaDoor
/- THE CELL 'sum', in the pinned program and in every row, IS THE sha256 OF THE DUMP (.gsa) THAT YtlcnhagcomljnaaDoorProg.lean LOADS. Nothing in Lean hashes anything: it is a label: what it is worth is what the hold of that sum in a sandbox is worth. -/
noncomputable def Tryd.pinned : Pinned := { name := "ytlcnhagcomljnaadoor", sum := "a6b5a34226049f79a4c1a657573fa77ac89936639fca269d98066f3492228fc6", checked := Tryd.checked }
namespace Rows
def none {H : Type} : Left H := { results := [], args := [] }

/- WHAT THE LISTED PACKAGE-LEVEL VARIABLES READ AS WHEN THE CALL BEGINS. Each datum BY PROGRAM (the guide's laid-datum.mjs) off the statement by which the dump's own 'gosem.cut.vars' lays the variable. In a bare row this is a premise. The card (YtlcnhagcomljnaaDoorCards.lean) ties it to the program's text. -/
def laid_errors_errorType {H : Type} : DataW H := .iface "internal/reflectlite.rtype" (.agg [.ptr (.lit (.string [101, 114, 114, 111, 114]))])

/-- 'dynamolaw12.RecUnlike': WHATEVER THE INPUT: true; the input reads as it did. -/
def recUnlikeSpec : ChangeSpec := { name := "recUnlike", fn := fun _ => fun
  | [d1, d2] => { results := [.lit (.bool true)], args := [d1, d2] }
  | _ => none }
def recUnlikeRow : OpenClaim := { program := "ytlcnhagcomljnaadoor", sum := "a6b5a34226049f79a4c1a657573fa77ac89936639fca269d98066f3492228fc6", func := "dynamo/dynamolaw12.RecUnlike", spec := "recUnlike", inPlace := ["internal/abi.NoEscape", "internal/reflectlite.ValueOf", "(internal/reflectlite.Value).Type", "(internal/reflectlite.Value).IsNil", "internal/reflectlite.TypeOf", "(internal/reflectlite.Value).Elem", "(internal/reflectlite.Value).Set"], unfollowed := true, recurses := true, named := ["errors.errorType"], apart := false, laid := [("errors.errorType", laid_errors_errorType)] }
def RecUnlikeSaid : Prop := recUnlikeRow.holds Tryd.pinned (OpenSpec.ofChange recUnlikeSpec)

/-- ITS FALSE NEIGHBOUR: 'it returns false'. Refute it at one input. -/
def recUnlikeWrong : ChangeSpec := { name := "recUnlike", fn := fun _ => fun
  | [d1, d2] => { results := [.lit (.bool false)], args := [d1, d2] }
  | _ => none }
def RecUnlikeWrongFalsely : Prop := recUnlikeRow.holds Tryd.pinned (OpenSpec.ofChange recUnlikeWrong)

/-- 'dynamolaw12.RecRobots': WHATEVER THE INPUT: true; the input reads as it did. -/
def recRobotsSpec : ChangeSpec := { name := "recRobots", fn := fun _ => fun
  | [d] => { results := [.lit (.bool true)], args := [d] }
  | _ => none }
def recRobotsRow : OpenClaim := { program := "ytlcnhagcomljnaadoor", sum := "a6b5a34226049f79a4c1a657573fa77ac89936639fca269d98066f3492228fc6", func := "dynamo/dynamolaw12.RecRobots", spec := "recRobots", inPlace := ["internal/abi.NoEscape", "internal/reflectlite.ValueOf", "(internal/reflectlite.Value).Type", "(internal/reflectlite.Value).IsNil", "internal/reflectlite.TypeOf", "(internal/reflectlite.Value).Elem", "(internal/reflectlite.Value).Set"], unfollowed := true, recurses := true, named := ["errors.errorType"], apart := false, laid := [("errors.errorType", laid_errors_errorType)] }
def RecRobotsSaid : Prop := recRobotsRow.holds Tryd.pinned (OpenSpec.ofChange recRobotsSpec)

/-- ITS FALSE NEIGHBOUR: 'it returns false'. Refute it at one input. -/
def recRobotsWrong : ChangeSpec := { name := "recRobots", fn := fun _ => fun
  | [d] => { results := [.lit (.bool false)], args := [d] }
  | _ => none }
def RecRobotsWrongFalsely : Prop := recRobotsRow.holds Tryd.pinned (OpenSpec.ofChange recRobotsWrong)

/-- 'dynamolaw12.RecTasks': WHATEVER THE INPUT: true; the input reads as it did. -/
def recTasksSpec : ChangeSpec := { name := "recTasks", fn := fun _ => fun
  | [d1, d2] => { results := [.lit (.bool true)], args := [d1, d2] }
  | _ => none }
def recTasksRow : OpenClaim := { program := "ytlcnhagcomljnaadoor", sum := "a6b5a34226049f79a4c1a657573fa77ac89936639fca269d98066f3492228fc6", func := "dynamo/dynamolaw12.RecTasks", spec := "recTasks", inPlace := ["internal/abi.NoEscape", "internal/reflectlite.ValueOf", "(internal/reflectlite.Value).Type", "(internal/reflectlite.Value).IsNil", "internal/reflectlite.TypeOf", "(internal/reflectlite.Value).Elem", "(internal/reflectlite.Value).Set"], unfollowed := true, recurses := true, named := ["errors.errorType"], apart := false, laid := [("errors.errorType", laid_errors_errorType)] }
def RecTasksSaid : Prop := recTasksRow.holds Tryd.pinned (OpenSpec.ofChange recTasksSpec)

/-- ITS FALSE NEIGHBOUR: 'it returns false'. Refute it at one input. -/
def recTasksWrong : ChangeSpec := { name := "recTasks", fn := fun _ => fun
  | [d1, d2] => { results := [.lit (.bool false)], args := [d1, d2] }
  | _ => none }
def RecTasksWrongFalsely : Prop := recTasksRow.holds Tryd.pinned (OpenSpec.ofChange recTasksWrong)

/-- 'dynamolaw12.RecOnly': WHATEVER THE INPUT: true; the input reads as it did. -/
def recOnlySpec : ChangeSpec := { name := "recOnly", fn := fun _ => fun
  | [d] => { results := [.lit (.bool true)], args := [d] }
  | _ => none }
def recOnlyRow : OpenClaim := { program := "ytlcnhagcomljnaadoor", sum := "a6b5a34226049f79a4c1a657573fa77ac89936639fca269d98066f3492228fc6", func := "dynamo/dynamolaw12.RecOnly", spec := "recOnly", inPlace := ["internal/abi.NoEscape", "internal/reflectlite.ValueOf", "(internal/reflectlite.Value).Type", "(internal/reflectlite.Value).IsNil", "internal/reflectlite.TypeOf", "(internal/reflectlite.Value).Elem", "(internal/reflectlite.Value).Set"], unfollowed := true, recurses := true, named := ["errors.errorType"], apart := false, laid := [("errors.errorType", laid_errors_errorType)] }
def RecOnlySaid : Prop := recOnlyRow.holds Tryd.pinned (OpenSpec.ofChange recOnlySpec)

/-- ITS FALSE NEIGHBOUR: 'it returns false'. Refute it at one input. -/
def recOnlyWrong : ChangeSpec := { name := "recOnly", fn := fun _ => fun
  | [d] => { results := [.lit (.bool false)], args := [d] }
  | _ => none }
def RecOnlyWrongFalsely : Prop := recOnlyRow.holds Tryd.pinned (OpenSpec.ofChange recOnlyWrong)

/-- 'dynamolaw12.RecSizes': WHATEVER THE INPUT: true; the input reads as it did. -/
def recSizesSpec : ChangeSpec := { name := "recSizes", fn := fun _ => fun
  | [d] => { results := [.lit (.bool true)], args := [d] }
  | _ => none }
def recSizesRow : OpenClaim := { program := "ytlcnhagcomljnaadoor", sum := "a6b5a34226049f79a4c1a657573fa77ac89936639fca269d98066f3492228fc6", func := "dynamo/dynamolaw12.RecSizes", spec := "recSizes", inPlace := ["internal/abi.NoEscape", "internal/reflectlite.ValueOf", "(internal/reflectlite.Value).Type", "(internal/reflectlite.Value).IsNil", "internal/reflectlite.TypeOf", "(internal/reflectlite.Value).Elem", "(internal/reflectlite.Value).Set"], unfollowed := true, recurses := true, named := ["errors.errorType"], apart := false, laid := [("errors.errorType", laid_errors_errorType)] }
def RecSizesSaid : Prop := recSizesRow.holds Tryd.pinned (OpenSpec.ofChange recSizesSpec)

/-- ITS FALSE NEIGHBOUR: 'it returns false'. Refute it at one input. -/
def recSizesWrong : ChangeSpec := { name := "recSizes", fn := fun _ => fun
  | [d] => { results := [.lit (.bool false)], args := [d] }
  | _ => none }
def RecSizesWrongFalsely : Prop := recSizesRow.holds Tryd.pinned (OpenSpec.ofChange recSizesWrong)

/-- 'dynamolaw07.SuperBack': WHATEVER THE INPUT: true; the input reads as it did. -/
def superBackSpec : ChangeSpec := { name := "superBack", fn := fun _ => fun
  | [d] => { results := [.lit (.bool true)], args := [d] }
  | _ => none }
def superBackRow : OpenClaim := { program := "ytlcnhagcomljnaadoor", sum := "a6b5a34226049f79a4c1a657573fa77ac89936639fca269d98066f3492228fc6", func := "dynamo/dynamolaw07.SuperBack", spec := "superBack", inPlace := ["internal/reflectlite.TypeOf", "internal/reflectlite.ValueOf", "(internal/reflectlite.Value).Type", "(internal/reflectlite.Value).IsNil", "(internal/reflectlite.Value).Elem", "(internal/reflectlite.Value).Set"], unfollowed := true, recurses := true, named := ["errors.errorType"], apart := false, laid := [("errors.errorType", laid_errors_errorType)] }
def SuperBackSaid : Prop := superBackRow.holds Tryd.pinned (OpenSpec.ofChange superBackSpec)

/-- ITS FALSE NEIGHBOUR: 'it returns false'. Refute it at one input. -/
def superBackWrong : ChangeSpec := { name := "superBack", fn := fun _ => fun
  | [d] => { results := [.lit (.bool false)], args := [d] }
  | _ => none }
def SuperBackWrongFalsely : Prop := superBackRow.holds Tryd.pinned (OpenSpec.ofChange superBackWrong)

/-- 'dynamolaw07.SuperPlays': WHATEVER THE INPUT: true; the input reads as it did. -/
def superPlaysSpec : ChangeSpec := { name := "superPlays", fn := fun _ => fun
  | [d1, d2] => { results := [.lit (.bool true)], args := [d1, d2] }
  | _ => none }
def superPlaysRow : OpenClaim := { program := "ytlcnhagcomljnaadoor", sum := "a6b5a34226049f79a4c1a657573fa77ac89936639fca269d98066f3492228fc6", func := "dynamo/dynamolaw07.SuperPlays", spec := "superPlays", inPlace := ["internal/reflectlite.TypeOf", "internal/reflectlite.ValueOf", "(internal/reflectlite.Value).Type", "(internal/reflectlite.Value).IsNil", "(internal/reflectlite.Value).Elem", "(internal/reflectlite.Value).Set"], unfollowed := true, recurses := true, named := ["errors.errorType"], apart := false, laid := [("errors.errorType", laid_errors_errorType)] }
def SuperPlaysSaid : Prop := superPlaysRow.holds Tryd.pinned (OpenSpec.ofChange superPlaysSpec)

/-- ITS FALSE NEIGHBOUR: 'it returns false'. Refute it at one input. -/
def superPlaysWrong : ChangeSpec := { name := "superPlays", fn := fun _ => fun
  | [d1, d2] => { results := [.lit (.bool false)], args := [d1, d2] }
  | _ => none }
def SuperPlaysWrongFalsely : Prop := superPlaysRow.holds Tryd.pinned (OpenSpec.ofChange superPlaysWrong)

/-- 'dynamolaw07.SuperGreater': WHATEVER THE INPUT: true; the input reads as it did. -/
def superGreaterSpec : ChangeSpec := { name := "superGreater", fn := fun _ => fun
  | [d1, d2, d3, d4] => { results := [.lit (.bool true)], args := [d1, d2, d3, d4] }
  | _ => none }
def superGreaterRow : OpenClaim := { program := "ytlcnhagcomljnaadoor", sum := "a6b5a34226049f79a4c1a657573fa77ac89936639fca269d98066f3492228fc6", func := "dynamo/dynamolaw07.SuperGreater", spec := "superGreater", inPlace := ["internal/reflectlite.TypeOf", "internal/reflectlite.ValueOf", "(internal/reflectlite.Value).Type", "(internal/reflectlite.Value).IsNil", "(internal/reflectlite.Value).Elem", "(internal/reflectlite.Value).Set"], unfollowed := true, recurses := true, named := ["errors.errorType"], apart := false, laid := [("errors.errorType", laid_errors_errorType)] }
def SuperGreaterSaid : Prop := superGreaterRow.holds Tryd.pinned (OpenSpec.ofChange superGreaterSpec)

/-- ITS FALSE NEIGHBOUR: 'it returns false'. Refute it at one input. -/
def superGreaterWrong : ChangeSpec := { name := "superGreater", fn := fun _ => fun
  | [d1, d2, d3, d4] => { results := [.lit (.bool false)], args := [d1, d2, d3, d4] }
  | _ => none }
def SuperGreaterWrongFalsely : Prop := superGreaterRow.holds Tryd.pinned (OpenSpec.ofChange superGreaterWrong)

/-- 'dynamolaw07.SuperUnlike': WHATEVER THE INPUT: true; the input reads as it did. -/
def superUnlikeSpec : ChangeSpec := { name := "superUnlike", fn := fun _ => fun
  | [d1, d2] => { results := [.lit (.bool true)], args := [d1, d2] }
  | _ => none }
def superUnlikeRow : OpenClaim := { program := "ytlcnhagcomljnaadoor", sum := "a6b5a34226049f79a4c1a657573fa77ac89936639fca269d98066f3492228fc6", func := "dynamo/dynamolaw07.SuperUnlike", spec := "superUnlike", inPlace := ["internal/reflectlite.TypeOf", "internal/reflectlite.ValueOf", "(internal/reflectlite.Value).Type", "(internal/reflectlite.Value).IsNil", "(internal/reflectlite.Value).Elem", "(internal/reflectlite.Value).Set"], unfollowed := true, recurses := true, named := ["errors.errorType"], apart := false, laid := [("errors.errorType", laid_errors_errorType)] }
def SuperUnlikeSaid : Prop := superUnlikeRow.holds Tryd.pinned (OpenSpec.ofChange superUnlikeSpec)

/-- ITS FALSE NEIGHBOUR: 'it returns false'. Refute it at one input. -/
def superUnlikeWrong : ChangeSpec := { name := "superUnlike", fn := fun _ => fun
  | [d1, d2] => { results := [.lit (.bool false)], args := [d1, d2] }
  | _ => none }
def SuperUnlikeWrongFalsely : Prop := superUnlikeRow.holds Tryd.pinned (OpenSpec.ofChange superUnlikeWrong)

/-- 'dynamolaw07.SuperBest': WHATEVER THE INPUT: true; the input reads as it did. -/
def superBestSpec : ChangeSpec := { name := "superBest", fn := fun _ => fun
  | [d1, d2] => { results := [.lit (.bool true)], args := [d1, d2] }
  | _ => none }
def superBestRow : OpenClaim := { program := "ytlcnhagcomljnaadoor", sum := "a6b5a34226049f79a4c1a657573fa77ac89936639fca269d98066f3492228fc6", func := "dynamo/dynamolaw07.SuperBest", spec := "superBest", inPlace := ["internal/reflectlite.TypeOf", "internal/reflectlite.ValueOf", "(internal/reflectlite.Value).Type", "(internal/reflectlite.Value).IsNil", "(internal/reflectlite.Value).Elem", "(internal/reflectlite.Value).Set"], unfollowed := true, recurses := true, named := ["errors.errorType"], apart := false, laid := [("errors.errorType", laid_errors_errorType)] }
def SuperBestSaid : Prop := superBestRow.holds Tryd.pinned (OpenSpec.ofChange superBestSpec)

/-- ITS FALSE NEIGHBOUR: 'it returns false'. Refute it at one input. -/
def superBestWrong : ChangeSpec := { name := "superBest", fn := fun _ => fun
  | [d1, d2] => { results := [.lit (.bool false)], args := [d1, d2] }
  | _ => none }
def SuperBestWrongFalsely : Prop := superBestRow.holds Tryd.pinned (OpenSpec.ofChange superBestWrong)

/- THE SECOND FORM. 'bulk': how many values and letters a reading holds, each counted each time it is reached (what is shared counts as often as it is met; a slice's spare places count too). A statement '..UptoSaid' is the law's where the arguments, and the package variables that the reading takes, are together of bulk at most 1048576: NARROWER than '..Said'. Prove '..Said' where nothing that the law and all that it calls make is longer than what came in: it says more and counts as full. Else prove '..UptoSaid'. A law counts once. -/
mutual
def uptoBulk {H : Type} : DataW H → Nat
  | .lit (.string bytes) => bytes.length + 1
  | .lit _ => 1
  | .nil => 1
  | .ptr d => uptoBulk d + 1
  | .slice elems spare => uptoBulkAll elems + uptoBulkAll spare + 1
  | .agg parts => uptoBulkAll parts + 1
  | .iface _ d => uptoBulk d + 1
  | .map entries => uptoBulkEntries entries + 1
  | .held _ => 1
def uptoBulkAll {H : Type} : List (DataW H) → Nat
  | [] => 0
  | d :: r => uptoBulk d + uptoBulkAll r
def uptoBulkEntries {H : Type} : List (Lit × DataW H) → Nat
  | [] => 0
  | x :: r => uptoBulkEntry x + uptoBulkEntries r
def uptoBulkEntry {H : Type} : Lit × DataW H → Nat
  | (.string bytes, d) => bytes.length + uptoBulk d + 1
  | (_, d) => uptoBulk d + 1
 end
def uptoSmall : (H : Type) → List (DataW H) → Bool := fun _ ds => decide (uptoBulkAll ds ≤ 1048576)
def OpenSpec.upto (s : _root_.Go.ChangeSpec) : _root_.Go.OpenSpec := { _root_.Go.OpenSpec.ofChange s with cond := some uptoSmall }

/-- 'dynamolaw12.RecUnlike', WHERE WHAT IT READS IS OF BULK AT MOST 1048576: true; the input reads as it did. -/
def recUnlikeUptoRow : OpenClaim := { program := "ytlcnhagcomljnaadoor", sum := "a6b5a34226049f79a4c1a657573fa77ac89936639fca269d98066f3492228fc6", func := "dynamo/dynamolaw12.RecUnlike", spec := "recUnlike", inPlace := ["internal/abi.NoEscape", "internal/reflectlite.ValueOf", "(internal/reflectlite.Value).Type", "(internal/reflectlite.Value).IsNil", "internal/reflectlite.TypeOf", "(internal/reflectlite.Value).Elem", "(internal/reflectlite.Value).Set"], unfollowed := true, recurses := true, named := ["errors.errorType"], apart := false, laid := [("errors.errorType", laid_errors_errorType)], narrowed := true }
def RecUnlikeUptoSaid : Prop := recUnlikeUptoRow.holds Tryd.pinned (OpenSpec.upto recUnlikeSpec)

/-- 'dynamolaw12.RecRobots', WHERE WHAT IT READS IS OF BULK AT MOST 1048576: true; the input reads as it did. -/
def recRobotsUptoRow : OpenClaim := { program := "ytlcnhagcomljnaadoor", sum := "a6b5a34226049f79a4c1a657573fa77ac89936639fca269d98066f3492228fc6", func := "dynamo/dynamolaw12.RecRobots", spec := "recRobots", inPlace := ["internal/abi.NoEscape", "internal/reflectlite.ValueOf", "(internal/reflectlite.Value).Type", "(internal/reflectlite.Value).IsNil", "internal/reflectlite.TypeOf", "(internal/reflectlite.Value).Elem", "(internal/reflectlite.Value).Set"], unfollowed := true, recurses := true, named := ["errors.errorType"], apart := false, laid := [("errors.errorType", laid_errors_errorType)], narrowed := true }
def RecRobotsUptoSaid : Prop := recRobotsUptoRow.holds Tryd.pinned (OpenSpec.upto recRobotsSpec)

/-- 'dynamolaw12.RecTasks', WHERE WHAT IT READS IS OF BULK AT MOST 1048576: true; the input reads as it did. -/
def recTasksUptoRow : OpenClaim := { program := "ytlcnhagcomljnaadoor", sum := "a6b5a34226049f79a4c1a657573fa77ac89936639fca269d98066f3492228fc6", func := "dynamo/dynamolaw12.RecTasks", spec := "recTasks", inPlace := ["internal/abi.NoEscape", "internal/reflectlite.ValueOf", "(internal/reflectlite.Value).Type", "(internal/reflectlite.Value).IsNil", "internal/reflectlite.TypeOf", "(internal/reflectlite.Value).Elem", "(internal/reflectlite.Value).Set"], unfollowed := true, recurses := true, named := ["errors.errorType"], apart := false, laid := [("errors.errorType", laid_errors_errorType)], narrowed := true }
def RecTasksUptoSaid : Prop := recTasksUptoRow.holds Tryd.pinned (OpenSpec.upto recTasksSpec)

/-- 'dynamolaw12.RecOnly', WHERE WHAT IT READS IS OF BULK AT MOST 1048576: true; the input reads as it did. -/
def recOnlyUptoRow : OpenClaim := { program := "ytlcnhagcomljnaadoor", sum := "a6b5a34226049f79a4c1a657573fa77ac89936639fca269d98066f3492228fc6", func := "dynamo/dynamolaw12.RecOnly", spec := "recOnly", inPlace := ["internal/abi.NoEscape", "internal/reflectlite.ValueOf", "(internal/reflectlite.Value).Type", "(internal/reflectlite.Value).IsNil", "internal/reflectlite.TypeOf", "(internal/reflectlite.Value).Elem", "(internal/reflectlite.Value).Set"], unfollowed := true, recurses := true, named := ["errors.errorType"], apart := false, laid := [("errors.errorType", laid_errors_errorType)], narrowed := true }
def RecOnlyUptoSaid : Prop := recOnlyUptoRow.holds Tryd.pinned (OpenSpec.upto recOnlySpec)

/-- 'dynamolaw12.RecSizes', WHERE WHAT IT READS IS OF BULK AT MOST 1048576: true; the input reads as it did. -/
def recSizesUptoRow : OpenClaim := { program := "ytlcnhagcomljnaadoor", sum := "a6b5a34226049f79a4c1a657573fa77ac89936639fca269d98066f3492228fc6", func := "dynamo/dynamolaw12.RecSizes", spec := "recSizes", inPlace := ["internal/abi.NoEscape", "internal/reflectlite.ValueOf", "(internal/reflectlite.Value).Type", "(internal/reflectlite.Value).IsNil", "internal/reflectlite.TypeOf", "(internal/reflectlite.Value).Elem", "(internal/reflectlite.Value).Set"], unfollowed := true, recurses := true, named := ["errors.errorType"], apart := false, laid := [("errors.errorType", laid_errors_errorType)], narrowed := true }
def RecSizesUptoSaid : Prop := recSizesUptoRow.holds Tryd.pinned (OpenSpec.upto recSizesSpec)

/-- 'dynamolaw07.SuperBack', WHERE WHAT IT READS IS OF BULK AT MOST 1048576: true; the input reads as it did. -/
def superBackUptoRow : OpenClaim := { program := "ytlcnhagcomljnaadoor", sum := "a6b5a34226049f79a4c1a657573fa77ac89936639fca269d98066f3492228fc6", func := "dynamo/dynamolaw07.SuperBack", spec := "superBack", inPlace := ["internal/reflectlite.TypeOf", "internal/reflectlite.ValueOf", "(internal/reflectlite.Value).Type", "(internal/reflectlite.Value).IsNil", "(internal/reflectlite.Value).Elem", "(internal/reflectlite.Value).Set"], unfollowed := true, recurses := true, named := ["errors.errorType"], apart := false, laid := [("errors.errorType", laid_errors_errorType)], narrowed := true }
def SuperBackUptoSaid : Prop := superBackUptoRow.holds Tryd.pinned (OpenSpec.upto superBackSpec)

/-- 'dynamolaw07.SuperPlays', WHERE WHAT IT READS IS OF BULK AT MOST 1048576: true; the input reads as it did. -/
def superPlaysUptoRow : OpenClaim := { program := "ytlcnhagcomljnaadoor", sum := "a6b5a34226049f79a4c1a657573fa77ac89936639fca269d98066f3492228fc6", func := "dynamo/dynamolaw07.SuperPlays", spec := "superPlays", inPlace := ["internal/reflectlite.TypeOf", "internal/reflectlite.ValueOf", "(internal/reflectlite.Value).Type", "(internal/reflectlite.Value).IsNil", "(internal/reflectlite.Value).Elem", "(internal/reflectlite.Value).Set"], unfollowed := true, recurses := true, named := ["errors.errorType"], apart := false, laid := [("errors.errorType", laid_errors_errorType)], narrowed := true }
def SuperPlaysUptoSaid : Prop := superPlaysUptoRow.holds Tryd.pinned (OpenSpec.upto superPlaysSpec)

/-- 'dynamolaw07.SuperGreater', WHERE WHAT IT READS IS OF BULK AT MOST 1048576: true; the input reads as it did. -/
def superGreaterUptoRow : OpenClaim := { program := "ytlcnhagcomljnaadoor", sum := "a6b5a34226049f79a4c1a657573fa77ac89936639fca269d98066f3492228fc6", func := "dynamo/dynamolaw07.SuperGreater", spec := "superGreater", inPlace := ["internal/reflectlite.TypeOf", "internal/reflectlite.ValueOf", "(internal/reflectlite.Value).Type", "(internal/reflectlite.Value).IsNil", "(internal/reflectlite.Value).Elem", "(internal/reflectlite.Value).Set"], unfollowed := true, recurses := true, named := ["errors.errorType"], apart := false, laid := [("errors.errorType", laid_errors_errorType)], narrowed := true }
def SuperGreaterUptoSaid : Prop := superGreaterUptoRow.holds Tryd.pinned (OpenSpec.upto superGreaterSpec)

/-- 'dynamolaw07.SuperUnlike', WHERE WHAT IT READS IS OF BULK AT MOST 1048576: true; the input reads as it did. -/
def superUnlikeUptoRow : OpenClaim := { program := "ytlcnhagcomljnaadoor", sum := "a6b5a34226049f79a4c1a657573fa77ac89936639fca269d98066f3492228fc6", func := "dynamo/dynamolaw07.SuperUnlike", spec := "superUnlike", inPlace := ["internal/reflectlite.TypeOf", "internal/reflectlite.ValueOf", "(internal/reflectlite.Value).Type", "(internal/reflectlite.Value).IsNil", "(internal/reflectlite.Value).Elem", "(internal/reflectlite.Value).Set"], unfollowed := true, recurses := true, named := ["errors.errorType"], apart := false, laid := [("errors.errorType", laid_errors_errorType)], narrowed := true }
def SuperUnlikeUptoSaid : Prop := superUnlikeUptoRow.holds Tryd.pinned (OpenSpec.upto superUnlikeSpec)

/-- 'dynamolaw07.SuperBest', WHERE WHAT IT READS IS OF BULK AT MOST 1048576: true; the input reads as it did. -/
def superBestUptoRow : OpenClaim := { program := "ytlcnhagcomljnaadoor", sum := "a6b5a34226049f79a4c1a657573fa77ac89936639fca269d98066f3492228fc6", func := "dynamo/dynamolaw07.SuperBest", spec := "superBest", inPlace := ["internal/reflectlite.TypeOf", "internal/reflectlite.ValueOf", "(internal/reflectlite.Value).Type", "(internal/reflectlite.Value).IsNil", "(internal/reflectlite.Value).Elem", "(internal/reflectlite.Value).Set"], unfollowed := true, recurses := true, named := ["errors.errorType"], apart := false, laid := [("errors.errorType", laid_errors_errorType)], narrowed := true }
def SuperBestUptoSaid : Prop := superBestUptoRow.holds Tryd.pinned (OpenSpec.upto superBestSpec)

end Rows
end Go.Proofs.YtlcnhagcomljnaaDoor
