/-
  NARROWER THAN 'FOR EVERY INPUT', by the rows' own cells (each row's printed sentence says how): DiskPlays: laid · FrameBack: laid · FramePlays: laid · FrameUnlike: laid · FrameDisks: laid · FrameTorn: laid · SuperBack: laid · SuperPlays: laid · SuperGreater: laid · SuperUnlike: laid · SuperBest: laid · PagerFills: laid · PagerAgain: laid · PagerRefuses: laid · PagerPlays: laid · PagerTorn: laid.
  DERIVED. THE GIVEN ROWS OF THIS SEAT. 16 by the template 'for every input the law returns true; each argument reads behind the call as it read before'; 0 by the template 'total and deterministic' (their statements: YtmnkgcgmbdkjaaaDoorTotals.lean).
  GIVEN WITH THE SEED: the statements are not yours to turn. If you find one false, say at which input.
  Laid BY PROGRAM, IN A SANDBOX (cutbox-rows.mjs): the forced cells as the released guide's own fill.sh prints them over the translation 8719f8cb6ed559e4… (all of the seat's roots in one cut). By AI agents, Wed Nov 11 2026. No macro, syntax, notation, axiom, sorry.
-/
import Derived.Test.YtmnkgcgmbdkjaaaDoorChecked
import GoSem.Claim
import GoSem.ClaimJoined
import GoSem.ClaimMapViews
import Derived.JoinedTies
import Derived.KernelRfl
namespace Go.Proofs.YtmnkgcgmbdkjaaaDoor
/- THE CELL 'sum', in the pinned program and in every row, IS THE sha256 OF THE DUMP (.gsa) THAT YtmnkgcgmbdkjaaaDoorProg.lean LOADS. Nothing in Lean hashes anything: it is a label: what it is worth is what the hold of that sum in a sandbox is worth. -/
noncomputable def Tryd.pinned : Pinned := { name := "ytmnkgcgmbdkjaaadoor", sum := "8719f8cb6ed559e4cb5106901f1ad0054a9705ce19b427245e62df86403bc6ad", checked := Tryd.checked }
namespace Rows
def none {H : Type} : Left H := { results := [], args := [] }

/- WHAT THE LISTED PACKAGE-LEVEL VARIABLES READ AS WHEN THE CALL BEGINS. Each datum BY PROGRAM (the guide's laid-datum.mjs) off the statement by which the dump's own 'gosem.cut.vars' lays the variable. In a bare row this is a premise. The card (YtmnkgcgmbdkjaaaDoorCards.lean) ties it to the program's text. -/
def laid_errors_errorType {H : Type} : DataW H := .iface "internal/reflectlite.rtype" (.agg [.ptr (.lit (.string [101, 114, 114, 111, 114]))])

/-- 'dynamolaw04.DiskPlays': WHATEVER THE INPUT: true; the input reads as it did. -/
def diskPlaysSpec : ChangeSpec := { name := "diskPlays", fn := fun _ => fun
  | [d1, d2] => { results := [.lit (.bool true)], args := [d1, d2] }
  | _ => none }
def diskPlaysRow : OpenClaim := { program := "ytmnkgcgmbdkjaaadoor", sum := "8719f8cb6ed559e4cb5106901f1ad0054a9705ce19b427245e62df86403bc6ad", func := "dynamo/dynamolaw04.DiskPlays", spec := "diskPlays", inPlace := ["internal/reflectlite.ValueOf", "(internal/reflectlite.Value).Type", "(internal/reflectlite.Value).IsNil", "internal/reflectlite.TypeOf", "(internal/reflectlite.Value).Elem", "(internal/reflectlite.Value).Set"], unfollowed := true, recurses := true, named := ["errors.errorType"], apart := false, laid := [("errors.errorType", laid_errors_errorType)] }
def DiskPlaysSaid : Prop := diskPlaysRow.holds Tryd.pinned (OpenSpec.ofChange diskPlaysSpec)

/-- ITS FALSE NEIGHBOUR: 'it returns false'. Refute it at one input. -/
def diskPlaysWrong : ChangeSpec := { name := "diskPlays", fn := fun _ => fun
  | [d1, d2] => { results := [.lit (.bool false)], args := [d1, d2] }
  | _ => none }
def DiskPlaysWrongFalsely : Prop := diskPlaysRow.holds Tryd.pinned (OpenSpec.ofChange diskPlaysWrong)

/-- 'dynamolaw05.FrameBack': WHATEVER THE INPUT: true; the input reads as it did. -/
def frameBackSpec : ChangeSpec := { name := "frameBack", fn := fun _ => fun
  | [d1, d2, d3, d4] => { results := [.lit (.bool true)], args := [d1, d2, d3, d4] }
  | _ => none }
def frameBackRow : OpenClaim := { program := "ytmnkgcgmbdkjaaadoor", sum := "8719f8cb6ed559e4cb5106901f1ad0054a9705ce19b427245e62df86403bc6ad", func := "dynamo/dynamolaw05.FrameBack", spec := "frameBack", inPlace := ["internal/reflectlite.ValueOf", "(internal/reflectlite.Value).Type", "(internal/reflectlite.Value).IsNil", "internal/reflectlite.TypeOf", "(internal/reflectlite.Value).Elem", "(internal/reflectlite.Value).Set"], unfollowed := true, recurses := true, named := ["errors.errorType"], apart := false, laid := [("errors.errorType", laid_errors_errorType)] }
def FrameBackSaid : Prop := frameBackRow.holds Tryd.pinned (OpenSpec.ofChange frameBackSpec)

/-- ITS FALSE NEIGHBOUR: 'it returns false'. Refute it at one input. -/
def frameBackWrong : ChangeSpec := { name := "frameBack", fn := fun _ => fun
  | [d1, d2, d3, d4] => { results := [.lit (.bool false)], args := [d1, d2, d3, d4] }
  | _ => none }
def FrameBackWrongFalsely : Prop := frameBackRow.holds Tryd.pinned (OpenSpec.ofChange frameBackWrong)

/-- 'dynamolaw05.FramePlays': WHATEVER THE INPUT: true; the input reads as it did. -/
def framePlaysSpec : ChangeSpec := { name := "framePlays", fn := fun _ => fun
  | [d1, d2, d3, d4] => { results := [.lit (.bool true)], args := [d1, d2, d3, d4] }
  | _ => none }
def framePlaysRow : OpenClaim := { program := "ytmnkgcgmbdkjaaadoor", sum := "8719f8cb6ed559e4cb5106901f1ad0054a9705ce19b427245e62df86403bc6ad", func := "dynamo/dynamolaw05.FramePlays", spec := "framePlays", inPlace := ["internal/reflectlite.ValueOf", "(internal/reflectlite.Value).Type", "(internal/reflectlite.Value).IsNil", "internal/reflectlite.TypeOf", "(internal/reflectlite.Value).Elem", "(internal/reflectlite.Value).Set"], unfollowed := true, recurses := true, named := ["errors.errorType"], apart := false, laid := [("errors.errorType", laid_errors_errorType)] }
def FramePlaysSaid : Prop := framePlaysRow.holds Tryd.pinned (OpenSpec.ofChange framePlaysSpec)

/-- ITS FALSE NEIGHBOUR: 'it returns false'. Refute it at one input. -/
def framePlaysWrong : ChangeSpec := { name := "framePlays", fn := fun _ => fun
  | [d1, d2, d3, d4] => { results := [.lit (.bool false)], args := [d1, d2, d3, d4] }
  | _ => none }
def FramePlaysWrongFalsely : Prop := framePlaysRow.holds Tryd.pinned (OpenSpec.ofChange framePlaysWrong)

/-- 'dynamolaw05.FrameUnlike': WHATEVER THE INPUT: true; the input reads as it did. -/
def frameUnlikeSpec : ChangeSpec := { name := "frameUnlike", fn := fun _ => fun
  | [d1, d2, d3, d4] => { results := [.lit (.bool true)], args := [d1, d2, d3, d4] }
  | _ => none }
def frameUnlikeRow : OpenClaim := { program := "ytmnkgcgmbdkjaaadoor", sum := "8719f8cb6ed559e4cb5106901f1ad0054a9705ce19b427245e62df86403bc6ad", func := "dynamo/dynamolaw05.FrameUnlike", spec := "frameUnlike", inPlace := ["internal/reflectlite.ValueOf", "(internal/reflectlite.Value).Type", "(internal/reflectlite.Value).IsNil", "internal/reflectlite.TypeOf", "(internal/reflectlite.Value).Elem", "(internal/reflectlite.Value).Set"], unfollowed := true, recurses := true, named := ["errors.errorType"], apart := false, laid := [("errors.errorType", laid_errors_errorType)] }
def FrameUnlikeSaid : Prop := frameUnlikeRow.holds Tryd.pinned (OpenSpec.ofChange frameUnlikeSpec)

/-- ITS FALSE NEIGHBOUR: 'it returns false'. Refute it at one input. -/
def frameUnlikeWrong : ChangeSpec := { name := "frameUnlike", fn := fun _ => fun
  | [d1, d2, d3, d4] => { results := [.lit (.bool false)], args := [d1, d2, d3, d4] }
  | _ => none }
def FrameUnlikeWrongFalsely : Prop := frameUnlikeRow.holds Tryd.pinned (OpenSpec.ofChange frameUnlikeWrong)

/-- 'dynamolaw05.FrameDisks': WHATEVER THE INPUT: true; the input reads as it did. -/
def frameDisksSpec : ChangeSpec := { name := "frameDisks", fn := fun _ => fun
  | [d1, d2, d3, d4] => { results := [.lit (.bool true)], args := [d1, d2, d3, d4] }
  | _ => none }
def frameDisksRow : OpenClaim := { program := "ytmnkgcgmbdkjaaadoor", sum := "8719f8cb6ed559e4cb5106901f1ad0054a9705ce19b427245e62df86403bc6ad", func := "dynamo/dynamolaw05.FrameDisks", spec := "frameDisks", inPlace := ["internal/reflectlite.ValueOf", "(internal/reflectlite.Value).Type", "(internal/reflectlite.Value).IsNil", "internal/reflectlite.TypeOf", "(internal/reflectlite.Value).Elem", "(internal/reflectlite.Value).Set"], unfollowed := true, recurses := true, named := ["errors.errorType"], apart := false, laid := [("errors.errorType", laid_errors_errorType)] }
def FrameDisksSaid : Prop := frameDisksRow.holds Tryd.pinned (OpenSpec.ofChange frameDisksSpec)

/-- ITS FALSE NEIGHBOUR: 'it returns false'. Refute it at one input. -/
def frameDisksWrong : ChangeSpec := { name := "frameDisks", fn := fun _ => fun
  | [d1, d2, d3, d4] => { results := [.lit (.bool false)], args := [d1, d2, d3, d4] }
  | _ => none }
def FrameDisksWrongFalsely : Prop := frameDisksRow.holds Tryd.pinned (OpenSpec.ofChange frameDisksWrong)

/-- 'dynamolaw05.FrameTorn': WHATEVER THE INPUT: true; the input reads as it did. -/
def frameTornSpec : ChangeSpec := { name := "frameTorn", fn := fun _ => fun
  | [d1, d2, d3] => { results := [.lit (.bool true)], args := [d1, d2, d3] }
  | _ => none }
def frameTornRow : OpenClaim := { program := "ytmnkgcgmbdkjaaadoor", sum := "8719f8cb6ed559e4cb5106901f1ad0054a9705ce19b427245e62df86403bc6ad", func := "dynamo/dynamolaw05.FrameTorn", spec := "frameTorn", inPlace := ["internal/reflectlite.ValueOf", "(internal/reflectlite.Value).Type", "(internal/reflectlite.Value).IsNil", "internal/reflectlite.TypeOf", "(internal/reflectlite.Value).Elem", "(internal/reflectlite.Value).Set"], unfollowed := true, recurses := true, named := ["errors.errorType"], apart := false, laid := [("errors.errorType", laid_errors_errorType)] }
def FrameTornSaid : Prop := frameTornRow.holds Tryd.pinned (OpenSpec.ofChange frameTornSpec)

/-- ITS FALSE NEIGHBOUR: 'it returns false'. Refute it at one input. -/
def frameTornWrong : ChangeSpec := { name := "frameTorn", fn := fun _ => fun
  | [d1, d2, d3] => { results := [.lit (.bool false)], args := [d1, d2, d3] }
  | _ => none }
def FrameTornWrongFalsely : Prop := frameTornRow.holds Tryd.pinned (OpenSpec.ofChange frameTornWrong)

/-- 'dynamolaw07.SuperBack': WHATEVER THE INPUT: true; the input reads as it did. -/
def superBackSpec : ChangeSpec := { name := "superBack", fn := fun _ => fun
  | [d] => { results := [.lit (.bool true)], args := [d] }
  | _ => none }
def superBackRow : OpenClaim := { program := "ytmnkgcgmbdkjaaadoor", sum := "8719f8cb6ed559e4cb5106901f1ad0054a9705ce19b427245e62df86403bc6ad", func := "dynamo/dynamolaw07.SuperBack", spec := "superBack", inPlace := ["internal/reflectlite.TypeOf", "internal/reflectlite.ValueOf", "(internal/reflectlite.Value).Type", "(internal/reflectlite.Value).IsNil", "(internal/reflectlite.Value).Elem", "(internal/reflectlite.Value).Set"], unfollowed := true, recurses := true, named := ["errors.errorType"], apart := false, laid := [("errors.errorType", laid_errors_errorType)] }
def SuperBackSaid : Prop := superBackRow.holds Tryd.pinned (OpenSpec.ofChange superBackSpec)

/-- ITS FALSE NEIGHBOUR: 'it returns false'. Refute it at one input. -/
def superBackWrong : ChangeSpec := { name := "superBack", fn := fun _ => fun
  | [d] => { results := [.lit (.bool false)], args := [d] }
  | _ => none }
def SuperBackWrongFalsely : Prop := superBackRow.holds Tryd.pinned (OpenSpec.ofChange superBackWrong)

/-- 'dynamolaw07.SuperPlays': WHATEVER THE INPUT: true; the input reads as it did. -/
def superPlaysSpec : ChangeSpec := { name := "superPlays", fn := fun _ => fun
  | [d1, d2] => { results := [.lit (.bool true)], args := [d1, d2] }
  | _ => none }
def superPlaysRow : OpenClaim := { program := "ytmnkgcgmbdkjaaadoor", sum := "8719f8cb6ed559e4cb5106901f1ad0054a9705ce19b427245e62df86403bc6ad", func := "dynamo/dynamolaw07.SuperPlays", spec := "superPlays", inPlace := ["internal/reflectlite.TypeOf", "internal/reflectlite.ValueOf", "(internal/reflectlite.Value).Type", "(internal/reflectlite.Value).IsNil", "(internal/reflectlite.Value).Elem", "(internal/reflectlite.Value).Set"], unfollowed := true, recurses := true, named := ["errors.errorType"], apart := false, laid := [("errors.errorType", laid_errors_errorType)] }
def SuperPlaysSaid : Prop := superPlaysRow.holds Tryd.pinned (OpenSpec.ofChange superPlaysSpec)

/-- ITS FALSE NEIGHBOUR: 'it returns false'. Refute it at one input. -/
def superPlaysWrong : ChangeSpec := { name := "superPlays", fn := fun _ => fun
  | [d1, d2] => { results := [.lit (.bool false)], args := [d1, d2] }
  | _ => none }
def SuperPlaysWrongFalsely : Prop := superPlaysRow.holds Tryd.pinned (OpenSpec.ofChange superPlaysWrong)

/-- 'dynamolaw07.SuperGreater': WHATEVER THE INPUT: true; the input reads as it did. -/
def superGreaterSpec : ChangeSpec := { name := "superGreater", fn := fun _ => fun
  | [d1, d2, d3, d4] => { results := [.lit (.bool true)], args := [d1, d2, d3, d4] }
  | _ => none }
def superGreaterRow : OpenClaim := { program := "ytmnkgcgmbdkjaaadoor", sum := "8719f8cb6ed559e4cb5106901f1ad0054a9705ce19b427245e62df86403bc6ad", func := "dynamo/dynamolaw07.SuperGreater", spec := "superGreater", inPlace := ["internal/reflectlite.TypeOf", "internal/reflectlite.ValueOf", "(internal/reflectlite.Value).Type", "(internal/reflectlite.Value).IsNil", "(internal/reflectlite.Value).Elem", "(internal/reflectlite.Value).Set"], unfollowed := true, recurses := true, named := ["errors.errorType"], apart := false, laid := [("errors.errorType", laid_errors_errorType)] }
def SuperGreaterSaid : Prop := superGreaterRow.holds Tryd.pinned (OpenSpec.ofChange superGreaterSpec)

/-- ITS FALSE NEIGHBOUR: 'it returns false'. Refute it at one input. -/
def superGreaterWrong : ChangeSpec := { name := "superGreater", fn := fun _ => fun
  | [d1, d2, d3, d4] => { results := [.lit (.bool false)], args := [d1, d2, d3, d4] }
  | _ => none }
def SuperGreaterWrongFalsely : Prop := superGreaterRow.holds Tryd.pinned (OpenSpec.ofChange superGreaterWrong)

/-- 'dynamolaw07.SuperUnlike': WHATEVER THE INPUT: true; the input reads as it did. -/
def superUnlikeSpec : ChangeSpec := { name := "superUnlike", fn := fun _ => fun
  | [d1, d2] => { results := [.lit (.bool true)], args := [d1, d2] }
  | _ => none }
def superUnlikeRow : OpenClaim := { program := "ytmnkgcgmbdkjaaadoor", sum := "8719f8cb6ed559e4cb5106901f1ad0054a9705ce19b427245e62df86403bc6ad", func := "dynamo/dynamolaw07.SuperUnlike", spec := "superUnlike", inPlace := ["internal/reflectlite.TypeOf", "internal/reflectlite.ValueOf", "(internal/reflectlite.Value).Type", "(internal/reflectlite.Value).IsNil", "(internal/reflectlite.Value).Elem", "(internal/reflectlite.Value).Set"], unfollowed := true, recurses := true, named := ["errors.errorType"], apart := false, laid := [("errors.errorType", laid_errors_errorType)] }
def SuperUnlikeSaid : Prop := superUnlikeRow.holds Tryd.pinned (OpenSpec.ofChange superUnlikeSpec)

/-- ITS FALSE NEIGHBOUR: 'it returns false'. Refute it at one input. -/
def superUnlikeWrong : ChangeSpec := { name := "superUnlike", fn := fun _ => fun
  | [d1, d2] => { results := [.lit (.bool false)], args := [d1, d2] }
  | _ => none }
def SuperUnlikeWrongFalsely : Prop := superUnlikeRow.holds Tryd.pinned (OpenSpec.ofChange superUnlikeWrong)

/-- 'dynamolaw07.SuperBest': WHATEVER THE INPUT: true; the input reads as it did. -/
def superBestSpec : ChangeSpec := { name := "superBest", fn := fun _ => fun
  | [d1, d2] => { results := [.lit (.bool true)], args := [d1, d2] }
  | _ => none }
def superBestRow : OpenClaim := { program := "ytmnkgcgmbdkjaaadoor", sum := "8719f8cb6ed559e4cb5106901f1ad0054a9705ce19b427245e62df86403bc6ad", func := "dynamo/dynamolaw07.SuperBest", spec := "superBest", inPlace := ["internal/reflectlite.TypeOf", "internal/reflectlite.ValueOf", "(internal/reflectlite.Value).Type", "(internal/reflectlite.Value).IsNil", "(internal/reflectlite.Value).Elem", "(internal/reflectlite.Value).Set"], unfollowed := true, recurses := true, named := ["errors.errorType"], apart := false, laid := [("errors.errorType", laid_errors_errorType)] }
def SuperBestSaid : Prop := superBestRow.holds Tryd.pinned (OpenSpec.ofChange superBestSpec)

/-- ITS FALSE NEIGHBOUR: 'it returns false'. Refute it at one input. -/
def superBestWrong : ChangeSpec := { name := "superBest", fn := fun _ => fun
  | [d1, d2] => { results := [.lit (.bool false)], args := [d1, d2] }
  | _ => none }
def SuperBestWrongFalsely : Prop := superBestRow.holds Tryd.pinned (OpenSpec.ofChange superBestWrong)

/-- 'dynamolaw08.PagerFills': WHATEVER THE INPUT: true; the input reads as it did. -/
def pagerFillsSpec : ChangeSpec := { name := "pagerFills", fn := fun _ => fun
  | [d1, d2] => { results := [.lit (.bool true)], args := [d1, d2] }
  | _ => none }
def pagerFillsRow : OpenClaim := { program := "ytmnkgcgmbdkjaaadoor", sum := "8719f8cb6ed559e4cb5106901f1ad0054a9705ce19b427245e62df86403bc6ad", func := "dynamo/dynamolaw08.PagerFills", spec := "pagerFills", inPlace := ["internal/reflectlite.TypeOf", "internal/reflectlite.ValueOf", "(internal/reflectlite.Value).Type", "(internal/reflectlite.Value).IsNil", "(internal/reflectlite.Value).Elem", "(internal/reflectlite.Value).Set"], unfollowed := true, recurses := true, named := ["errors.errorType"], apart := false, laid := [("errors.errorType", laid_errors_errorType)] }
def PagerFillsSaid : Prop := pagerFillsRow.holds Tryd.pinned (OpenSpec.ofChange pagerFillsSpec)

/-- ITS FALSE NEIGHBOUR: 'it returns false'. Refute it at one input. -/
def pagerFillsWrong : ChangeSpec := { name := "pagerFills", fn := fun _ => fun
  | [d1, d2] => { results := [.lit (.bool false)], args := [d1, d2] }
  | _ => none }
def PagerFillsWrongFalsely : Prop := pagerFillsRow.holds Tryd.pinned (OpenSpec.ofChange pagerFillsWrong)

/-- 'dynamolaw08.PagerAgain': WHATEVER THE INPUT: true; the input reads as it did. -/
def pagerAgainSpec : ChangeSpec := { name := "pagerAgain", fn := fun _ => fun
  | [d] => { results := [.lit (.bool true)], args := [d] }
  | _ => none }
def pagerAgainRow : OpenClaim := { program := "ytmnkgcgmbdkjaaadoor", sum := "8719f8cb6ed559e4cb5106901f1ad0054a9705ce19b427245e62df86403bc6ad", func := "dynamo/dynamolaw08.PagerAgain", spec := "pagerAgain", inPlace := ["internal/reflectlite.TypeOf", "internal/reflectlite.ValueOf", "(internal/reflectlite.Value).Type", "(internal/reflectlite.Value).IsNil", "(internal/reflectlite.Value).Elem", "(internal/reflectlite.Value).Set"], unfollowed := true, recurses := true, named := ["errors.errorType"], apart := false, laid := [("errors.errorType", laid_errors_errorType)] }
def PagerAgainSaid : Prop := pagerAgainRow.holds Tryd.pinned (OpenSpec.ofChange pagerAgainSpec)

/-- ITS FALSE NEIGHBOUR: 'it returns false'. Refute it at one input. -/
def pagerAgainWrong : ChangeSpec := { name := "pagerAgain", fn := fun _ => fun
  | [d] => { results := [.lit (.bool false)], args := [d] }
  | _ => none }
def PagerAgainWrongFalsely : Prop := pagerAgainRow.holds Tryd.pinned (OpenSpec.ofChange pagerAgainWrong)

/-- 'dynamolaw08.PagerRefuses': WHATEVER THE INPUT: true; the input reads as it did. -/
def pagerRefusesSpec : ChangeSpec := { name := "pagerRefuses", fn := fun _ => fun
  | [d1, d2, d3] => { results := [.lit (.bool true)], args := [d1, d2, d3] }
  | _ => none }
def pagerRefusesRow : OpenClaim := { program := "ytmnkgcgmbdkjaaadoor", sum := "8719f8cb6ed559e4cb5106901f1ad0054a9705ce19b427245e62df86403bc6ad", func := "dynamo/dynamolaw08.PagerRefuses", spec := "pagerRefuses", inPlace := ["internal/reflectlite.TypeOf", "internal/reflectlite.ValueOf", "(internal/reflectlite.Value).Type", "(internal/reflectlite.Value).IsNil", "(internal/reflectlite.Value).Elem", "(internal/reflectlite.Value).Set"], unfollowed := true, recurses := true, named := ["errors.errorType"], apart := false, laid := [("errors.errorType", laid_errors_errorType)] }
def PagerRefusesSaid : Prop := pagerRefusesRow.holds Tryd.pinned (OpenSpec.ofChange pagerRefusesSpec)

/-- ITS FALSE NEIGHBOUR: 'it returns false'. Refute it at one input. -/
def pagerRefusesWrong : ChangeSpec := { name := "pagerRefuses", fn := fun _ => fun
  | [d1, d2, d3] => { results := [.lit (.bool false)], args := [d1, d2, d3] }
  | _ => none }
def PagerRefusesWrongFalsely : Prop := pagerRefusesRow.holds Tryd.pinned (OpenSpec.ofChange pagerRefusesWrong)

/-- 'dynamolaw08.PagerPlays': WHATEVER THE INPUT: true; the input reads as it did. -/
def pagerPlaysSpec : ChangeSpec := { name := "pagerPlays", fn := fun _ => fun
  | [d1, d2] => { results := [.lit (.bool true)], args := [d1, d2] }
  | _ => none }
def pagerPlaysRow : OpenClaim := { program := "ytmnkgcgmbdkjaaadoor", sum := "8719f8cb6ed559e4cb5106901f1ad0054a9705ce19b427245e62df86403bc6ad", func := "dynamo/dynamolaw08.PagerPlays", spec := "pagerPlays", inPlace := ["internal/reflectlite.TypeOf", "internal/reflectlite.ValueOf", "(internal/reflectlite.Value).Type", "(internal/reflectlite.Value).IsNil", "(internal/reflectlite.Value).Elem", "(internal/reflectlite.Value).Set"], unfollowed := true, recurses := true, named := ["errors.errorType"], apart := false, laid := [("errors.errorType", laid_errors_errorType)] }
def PagerPlaysSaid : Prop := pagerPlaysRow.holds Tryd.pinned (OpenSpec.ofChange pagerPlaysSpec)

/-- ITS FALSE NEIGHBOUR: 'it returns false'. Refute it at one input. -/
def pagerPlaysWrong : ChangeSpec := { name := "pagerPlays", fn := fun _ => fun
  | [d1, d2] => { results := [.lit (.bool false)], args := [d1, d2] }
  | _ => none }
def PagerPlaysWrongFalsely : Prop := pagerPlaysRow.holds Tryd.pinned (OpenSpec.ofChange pagerPlaysWrong)

/-- 'dynamolaw08.PagerTorn': WHATEVER THE INPUT: true; the input reads as it did. -/
def pagerTornSpec : ChangeSpec := { name := "pagerTorn", fn := fun _ => fun
  | [d1, d2, d3, d4, d5] => { results := [.lit (.bool true)], args := [d1, d2, d3, d4, d5] }
  | _ => none }
def pagerTornRow : OpenClaim := { program := "ytmnkgcgmbdkjaaadoor", sum := "8719f8cb6ed559e4cb5106901f1ad0054a9705ce19b427245e62df86403bc6ad", func := "dynamo/dynamolaw08.PagerTorn", spec := "pagerTorn", inPlace := ["internal/reflectlite.TypeOf", "internal/reflectlite.ValueOf", "(internal/reflectlite.Value).Type", "(internal/reflectlite.Value).IsNil", "(internal/reflectlite.Value).Elem", "(internal/reflectlite.Value).Set"], unfollowed := true, recurses := true, named := ["errors.errorType"], apart := false, laid := [("errors.errorType", laid_errors_errorType)] }
def PagerTornSaid : Prop := pagerTornRow.holds Tryd.pinned (OpenSpec.ofChange pagerTornSpec)

/-- ITS FALSE NEIGHBOUR: 'it returns false'. Refute it at one input. -/
def pagerTornWrong : ChangeSpec := { name := "pagerTorn", fn := fun _ => fun
  | [d1, d2, d3, d4, d5] => { results := [.lit (.bool false)], args := [d1, d2, d3, d4, d5] }
  | _ => none }
def PagerTornWrongFalsely : Prop := pagerTornRow.holds Tryd.pinned (OpenSpec.ofChange pagerTornWrong)

/- THE SECOND FORM. 'bulk': how many values and letters a reading holds, each counted each time it is reached (what is shared counts as often as it is met; a slice's spare places count too). A statement '..UptoSaid' is the law's where the arguments, and the package variables that the reading takes, are together of bulk at most 1048576: NARROWER than '..Said'. Prove '..Said' where nothing that the law and all that it calls make is longer than what came in: it says more and counts as full. Else prove '..UptoSaid'. A law counts once. -/
mutual
def uptoBulk {H : Type} : DataW H → Nat
  | .lit (.string bytes) => bytes.length + 1
  | .lit _ => 1
  | .nil => 1
  | .ptr d => uptoBulk d + 1
  | .slice elems spare => uptoBulkAll elems + uptoBulkAll spare + 1
  | .agg parts => uptoBulkAll parts + 1
  | .iface _ d => uptoBulk d + 1
  | .map entries => uptoBulkEntries entries + 1
  | .held _ => 1
def uptoBulkAll {H : Type} : List (DataW H) → Nat
  | [] => 0
  | d :: r => uptoBulk d + uptoBulkAll r
def uptoBulkEntries {H : Type} : List (Lit × DataW H) → Nat
  | [] => 0
  | x :: r => uptoBulkEntry x + uptoBulkEntries r
def uptoBulkEntry {H : Type} : Lit × DataW H → Nat
  | (.string bytes, d) => bytes.length + uptoBulk d + 1
  | (_, d) => uptoBulk d + 1
 end
def uptoSmall : (H : Type) → List (DataW H) → Bool := fun _ ds => decide (uptoBulkAll ds ≤ 1048576)
def OpenSpec.upto (s : _root_.Go.ChangeSpec) : _root_.Go.OpenSpec := { _root_.Go.OpenSpec.ofChange s with cond := some uptoSmall }

/-- 'dynamolaw04.DiskPlays', WHERE WHAT IT READS IS OF BULK AT MOST 1048576: true; the input reads as it did. -/
def diskPlaysUptoRow : OpenClaim := { program := "ytmnkgcgmbdkjaaadoor", sum := "8719f8cb6ed559e4cb5106901f1ad0054a9705ce19b427245e62df86403bc6ad", func := "dynamo/dynamolaw04.DiskPlays", spec := "diskPlays", inPlace := ["internal/reflectlite.ValueOf", "(internal/reflectlite.Value).Type", "(internal/reflectlite.Value).IsNil", "internal/reflectlite.TypeOf", "(internal/reflectlite.Value).Elem", "(internal/reflectlite.Value).Set"], unfollowed := true, recurses := true, named := ["errors.errorType"], apart := false, laid := [("errors.errorType", laid_errors_errorType)], narrowed := true }
def DiskPlaysUptoSaid : Prop := diskPlaysUptoRow.holds Tryd.pinned (OpenSpec.upto diskPlaysSpec)

/-- 'dynamolaw05.FrameBack', WHERE WHAT IT READS IS OF BULK AT MOST 1048576: true; the input reads as it did. -/
def frameBackUptoRow : OpenClaim := { program := "ytmnkgcgmbdkjaaadoor", sum := "8719f8cb6ed559e4cb5106901f1ad0054a9705ce19b427245e62df86403bc6ad", func := "dynamo/dynamolaw05.FrameBack", spec := "frameBack", inPlace := ["internal/reflectlite.ValueOf", "(internal/reflectlite.Value).Type", "(internal/reflectlite.Value).IsNil", "internal/reflectlite.TypeOf", "(internal/reflectlite.Value).Elem", "(internal/reflectlite.Value).Set"], unfollowed := true, recurses := true, named := ["errors.errorType"], apart := false, laid := [("errors.errorType", laid_errors_errorType)], narrowed := true }
def FrameBackUptoSaid : Prop := frameBackUptoRow.holds Tryd.pinned (OpenSpec.upto frameBackSpec)

/-- 'dynamolaw05.FramePlays', WHERE WHAT IT READS IS OF BULK AT MOST 1048576: true; the input reads as it did. -/
def framePlaysUptoRow : OpenClaim := { program := "ytmnkgcgmbdkjaaadoor", sum := "8719f8cb6ed559e4cb5106901f1ad0054a9705ce19b427245e62df86403bc6ad", func := "dynamo/dynamolaw05.FramePlays", spec := "framePlays", inPlace := ["internal/reflectlite.ValueOf", "(internal/reflectlite.Value).Type", "(internal/reflectlite.Value).IsNil", "internal/reflectlite.TypeOf", "(internal/reflectlite.Value).Elem", "(internal/reflectlite.Value).Set"], unfollowed := true, recurses := true, named := ["errors.errorType"], apart := false, laid := [("errors.errorType", laid_errors_errorType)], narrowed := true }
def FramePlaysUptoSaid : Prop := framePlaysUptoRow.holds Tryd.pinned (OpenSpec.upto framePlaysSpec)

/-- 'dynamolaw05.FrameUnlike', WHERE WHAT IT READS IS OF BULK AT MOST 1048576: true; the input reads as it did. -/
def frameUnlikeUptoRow : OpenClaim := { program := "ytmnkgcgmbdkjaaadoor", sum := "8719f8cb6ed559e4cb5106901f1ad0054a9705ce19b427245e62df86403bc6ad", func := "dynamo/dynamolaw05.FrameUnlike", spec := "frameUnlike", inPlace := ["internal/reflectlite.ValueOf", "(internal/reflectlite.Value).Type", "(internal/reflectlite.Value).IsNil", "internal/reflectlite.TypeOf", "(internal/reflectlite.Value).Elem", "(internal/reflectlite.Value).Set"], unfollowed := true, recurses := true, named := ["errors.errorType"], apart := false, laid := [("errors.errorType", laid_errors_errorType)], narrowed := true }
def FrameUnlikeUptoSaid : Prop := frameUnlikeUptoRow.holds Tryd.pinned (OpenSpec.upto frameUnlikeSpec)

/-- 'dynamolaw05.FrameDisks', WHERE WHAT IT READS IS OF BULK AT MOST 1048576: true; the input reads as it did. -/
def frameDisksUptoRow : OpenClaim := { program := "ytmnkgcgmbdkjaaadoor", sum := "8719f8cb6ed559e4cb5106901f1ad0054a9705ce19b427245e62df86403bc6ad", func := "dynamo/dynamolaw05.FrameDisks", spec := "frameDisks", inPlace := ["internal/reflectlite.ValueOf", "(internal/reflectlite.Value).Type", "(internal/reflectlite.Value).IsNil", "internal/reflectlite.TypeOf", "(internal/reflectlite.Value).Elem", "(internal/reflectlite.Value).Set"], unfollowed := true, recurses := true, named := ["errors.errorType"], apart := false, laid := [("errors.errorType", laid_errors_errorType)], narrowed := true }
def FrameDisksUptoSaid : Prop := frameDisksUptoRow.holds Tryd.pinned (OpenSpec.upto frameDisksSpec)

/-- 'dynamolaw05.FrameTorn', WHERE WHAT IT READS IS OF BULK AT MOST 1048576: true; the input reads as it did. -/
def frameTornUptoRow : OpenClaim := { program := "ytmnkgcgmbdkjaaadoor", sum := "8719f8cb6ed559e4cb5106901f1ad0054a9705ce19b427245e62df86403bc6ad", func := "dynamo/dynamolaw05.FrameTorn", spec := "frameTorn", inPlace := ["internal/reflectlite.ValueOf", "(internal/reflectlite.Value).Type", "(internal/reflectlite.Value).IsNil", "internal/reflectlite.TypeOf", "(internal/reflectlite.Value).Elem", "(internal/reflectlite.Value).Set"], unfollowed := true, recurses := true, named := ["errors.errorType"], apart := false, laid := [("errors.errorType", laid_errors_errorType)], narrowed := true }
def FrameTornUptoSaid : Prop := frameTornUptoRow.holds Tryd.pinned (OpenSpec.upto frameTornSpec)

/-- 'dynamolaw07.SuperBack', WHERE WHAT IT READS IS OF BULK AT MOST 1048576: true; the input reads as it did. -/
def superBackUptoRow : OpenClaim := { program := "ytmnkgcgmbdkjaaadoor", sum := "8719f8cb6ed559e4cb5106901f1ad0054a9705ce19b427245e62df86403bc6ad", func := "dynamo/dynamolaw07.SuperBack", spec := "superBack", inPlace := ["internal/reflectlite.TypeOf", "internal/reflectlite.ValueOf", "(internal/reflectlite.Value).Type", "(internal/reflectlite.Value).IsNil", "(internal/reflectlite.Value).Elem", "(internal/reflectlite.Value).Set"], unfollowed := true, recurses := true, named := ["errors.errorType"], apart := false, laid := [("errors.errorType", laid_errors_errorType)], narrowed := true }
def SuperBackUptoSaid : Prop := superBackUptoRow.holds Tryd.pinned (OpenSpec.upto superBackSpec)

/-- 'dynamolaw07.SuperPlays', WHERE WHAT IT READS IS OF BULK AT MOST 1048576: true; the input reads as it did. -/
def superPlaysUptoRow : OpenClaim := { program := "ytmnkgcgmbdkjaaadoor", sum := "8719f8cb6ed559e4cb5106901f1ad0054a9705ce19b427245e62df86403bc6ad", func := "dynamo/dynamolaw07.SuperPlays", spec := "superPlays", inPlace := ["internal/reflectlite.TypeOf", "internal/reflectlite.ValueOf", "(internal/reflectlite.Value).Type", "(internal/reflectlite.Value).IsNil", "(internal/reflectlite.Value).Elem", "(internal/reflectlite.Value).Set"], unfollowed := true, recurses := true, named := ["errors.errorType"], apart := false, laid := [("errors.errorType", laid_errors_errorType)], narrowed := true }
def SuperPlaysUptoSaid : Prop := superPlaysUptoRow.holds Tryd.pinned (OpenSpec.upto superPlaysSpec)

/-- 'dynamolaw07.SuperGreater', WHERE WHAT IT READS IS OF BULK AT MOST 1048576: true; the input reads as it did. -/
def superGreaterUptoRow : OpenClaim := { program := "ytmnkgcgmbdkjaaadoor", sum := "8719f8cb6ed559e4cb5106901f1ad0054a9705ce19b427245e62df86403bc6ad", func := "dynamo/dynamolaw07.SuperGreater", spec := "superGreater", inPlace := ["internal/reflectlite.TypeOf", "internal/reflectlite.ValueOf", "(internal/reflectlite.Value).Type", "(internal/reflectlite.Value).IsNil", "(internal/reflectlite.Value).Elem", "(internal/reflectlite.Value).Set"], unfollowed := true, recurses := true, named := ["errors.errorType"], apart := false, laid := [("errors.errorType", laid_errors_errorType)], narrowed := true }
def SuperGreaterUptoSaid : Prop := superGreaterUptoRow.holds Tryd.pinned (OpenSpec.upto superGreaterSpec)

/-- 'dynamolaw07.SuperUnlike', WHERE WHAT IT READS IS OF BULK AT MOST 1048576: true; the input reads as it did. -/
def superUnlikeUptoRow : OpenClaim := { program := "ytmnkgcgmbdkjaaadoor", sum := "8719f8cb6ed559e4cb5106901f1ad0054a9705ce19b427245e62df86403bc6ad", func := "dynamo/dynamolaw07.SuperUnlike", spec := "superUnlike", inPlace := ["internal/reflectlite.TypeOf", "internal/reflectlite.ValueOf", "(internal/reflectlite.Value).Type", "(internal/reflectlite.Value).IsNil", "(internal/reflectlite.Value).Elem", "(internal/reflectlite.Value).Set"], unfollowed := true, recurses := true, named := ["errors.errorType"], apart := false, laid := [("errors.errorType", laid_errors_errorType)], narrowed := true }
def SuperUnlikeUptoSaid : Prop := superUnlikeUptoRow.holds Tryd.pinned (OpenSpec.upto superUnlikeSpec)

/-- 'dynamolaw07.SuperBest', WHERE WHAT IT READS IS OF BULK AT MOST 1048576: true; the input reads as it did. -/
def superBestUptoRow : OpenClaim := { program := "ytmnkgcgmbdkjaaadoor", sum := "8719f8cb6ed559e4cb5106901f1ad0054a9705ce19b427245e62df86403bc6ad", func := "dynamo/dynamolaw07.SuperBest", spec := "superBest", inPlace := ["internal/reflectlite.TypeOf", "internal/reflectlite.ValueOf", "(internal/reflectlite.Value).Type", "(internal/reflectlite.Value).IsNil", "(internal/reflectlite.Value).Elem", "(internal/reflectlite.Value).Set"], unfollowed := true, recurses := true, named := ["errors.errorType"], apart := false, laid := [("errors.errorType", laid_errors_errorType)], narrowed := true }
def SuperBestUptoSaid : Prop := superBestUptoRow.holds Tryd.pinned (OpenSpec.upto superBestSpec)

/-- 'dynamolaw08.PagerFills', WHERE WHAT IT READS IS OF BULK AT MOST 1048576: true; the input reads as it did. -/
def pagerFillsUptoRow : OpenClaim := { program := "ytmnkgcgmbdkjaaadoor", sum := "8719f8cb6ed559e4cb5106901f1ad0054a9705ce19b427245e62df86403bc6ad", func := "dynamo/dynamolaw08.PagerFills", spec := "pagerFills", inPlace := ["internal/reflectlite.TypeOf", "internal/reflectlite.ValueOf", "(internal/reflectlite.Value).Type", "(internal/reflectlite.Value).IsNil", "(internal/reflectlite.Value).Elem", "(internal/reflectlite.Value).Set"], unfollowed := true, recurses := true, named := ["errors.errorType"], apart := false, laid := [("errors.errorType", laid_errors_errorType)], narrowed := true }
def PagerFillsUptoSaid : Prop := pagerFillsUptoRow.holds Tryd.pinned (OpenSpec.upto pagerFillsSpec)

/-- 'dynamolaw08.PagerAgain', WHERE WHAT IT READS IS OF BULK AT MOST 1048576: true; the input reads as it did. -/
def pagerAgainUptoRow : OpenClaim := { program := "ytmnkgcgmbdkjaaadoor", sum := "8719f8cb6ed559e4cb5106901f1ad0054a9705ce19b427245e62df86403bc6ad", func := "dynamo/dynamolaw08.PagerAgain", spec := "pagerAgain", inPlace := ["internal/reflectlite.TypeOf", "internal/reflectlite.ValueOf", "(internal/reflectlite.Value).Type", "(internal/reflectlite.Value).IsNil", "(internal/reflectlite.Value).Elem", "(internal/reflectlite.Value).Set"], unfollowed := true, recurses := true, named := ["errors.errorType"], apart := false, laid := [("errors.errorType", laid_errors_errorType)], narrowed := true }
def PagerAgainUptoSaid : Prop := pagerAgainUptoRow.holds Tryd.pinned (OpenSpec.upto pagerAgainSpec)

/-- 'dynamolaw08.PagerRefuses', WHERE WHAT IT READS IS OF BULK AT MOST 1048576: true; the input reads as it did. -/
def pagerRefusesUptoRow : OpenClaim := { program := "ytmnkgcgmbdkjaaadoor", sum := "8719f8cb6ed559e4cb5106901f1ad0054a9705ce19b427245e62df86403bc6ad", func := "dynamo/dynamolaw08.PagerRefuses", spec := "pagerRefuses", inPlace := ["internal/reflectlite.TypeOf", "internal/reflectlite.ValueOf", "(internal/reflectlite.Value).Type", "(internal/reflectlite.Value).IsNil", "(internal/reflectlite.Value).Elem", "(internal/reflectlite.Value).Set"], unfollowed := true, recurses := true, named := ["errors.errorType"], apart := false, laid := [("errors.errorType", laid_errors_errorType)], narrowed := true }
def PagerRefusesUptoSaid : Prop := pagerRefusesUptoRow.holds Tryd.pinned (OpenSpec.upto pagerRefusesSpec)

/-- 'dynamolaw08.PagerPlays', WHERE WHAT IT READS IS OF BULK AT MOST 1048576: true; the input reads as it did. -/
def pagerPlaysUptoRow : OpenClaim := { program := "ytmnkgcgmbdkjaaadoor", sum := "8719f8cb6ed559e4cb5106901f1ad0054a9705ce19b427245e62df86403bc6ad", func := "dynamo/dynamolaw08.PagerPlays", spec := "pagerPlays", inPlace := ["internal/reflectlite.TypeOf", "internal/reflectlite.ValueOf", "(internal/reflectlite.Value).Type", "(internal/reflectlite.Value).IsNil", "(internal/reflectlite.Value).Elem", "(internal/reflectlite.Value).Set"], unfollowed := true, recurses := true, named := ["errors.errorType"], apart := false, laid := [("errors.errorType", laid_errors_errorType)], narrowed := true }
def PagerPlaysUptoSaid : Prop := pagerPlaysUptoRow.holds Tryd.pinned (OpenSpec.upto pagerPlaysSpec)

/-- 'dynamolaw08.PagerTorn', WHERE WHAT IT READS IS OF BULK AT MOST 1048576: true; the input reads as it did. -/
def pagerTornUptoRow : OpenClaim := { program := "ytmnkgcgmbdkjaaadoor", sum := "8719f8cb6ed559e4cb5106901f1ad0054a9705ce19b427245e62df86403bc6ad", func := "dynamo/dynamolaw08.PagerTorn", spec := "pagerTorn", inPlace := ["internal/reflectlite.TypeOf", "internal/reflectlite.ValueOf", "(internal/reflectlite.Value).Type", "(internal/reflectlite.Value).IsNil", "(internal/reflectlite.Value).Elem", "(internal/reflectlite.Value).Set"], unfollowed := true, recurses := true, named := ["errors.errorType"], apart := false, laid := [("errors.errorType", laid_errors_errorType)], narrowed := true }
def PagerTornUptoSaid : Prop := pagerTornUptoRow.holds Tryd.pinned (OpenSpec.upto pagerTornSpec)

end Rows
end Go.Proofs.YtmnkgcgmbdkjaaaDoor
