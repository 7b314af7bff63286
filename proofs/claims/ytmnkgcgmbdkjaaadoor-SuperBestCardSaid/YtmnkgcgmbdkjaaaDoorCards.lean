/-
  DERIVED. GIVEN WITH THE SEED: THE CARDS: each row of YtmnkgcgmbdkjaaaDoorRows.lean that lists a variable, with what it lists TIED to the program's text (the seventh form; the later family's looks); each row that meets fmt, with fmt's text TOLD by the authors' own Lean function (tested against real Go, not proved from fmt's source: count such statements apart). THE CARD IS WHAT COUNTS. Prove the row's statement (the work); the ties are given (YtmnkgcgmbdkjaaaDoorTie.lean); close each card by the builder's one call (the guide's Derived/Test/ToyasCard.lean, 'card_holds'). Laid BY PROGRAM, IN A SANDBOX (cutbox-door.mjs). By AI agents, Wed Nov 11 2026. No macro, syntax, notation, axiom, sorry.
-/
import Derived.Test.YtmnkgcgmbdkjaaaDoorRows
import GoSem.ClaimSeven
namespace Go.Proofs.YtmnkgcgmbdkjaaaDoor
namespace Rows

/-- THE TIED CARD OF 'dynamolaw04.DiskPlays'. -/
def diskPlaysCard : Claim7 := { stood := { row := diskPlaysRow, standIns := [], harness := (true, "ce32fccebd434f09ae32953fd2a982b64a4b36d647fd0efbf6988e63a46d8349"), looks := true }, kinds := [], alts := [], laidByText := true, laidKinds := [.handle], laidTests := true, laidLooks := .later }
def DiskPlaysCardSaid : Prop := Claim7.holds Tryd.pinned (.plain (OpenSpec.ofChange diskPlaysSpec)) diskPlaysCard

/-- THE TIED CARD OF 'dynamolaw05.FrameBack'. -/
def frameBackCard : Claim7 := { stood := { row := frameBackRow, standIns := [], harness := (true, "ce32fccebd434f09ae32953fd2a982b64a4b36d647fd0efbf6988e63a46d8349"), looks := true }, kinds := [], alts := [], laidByText := true, laidKinds := [.handle], laidTests := true, laidLooks := .later }
def FrameBackCardSaid : Prop := Claim7.holds Tryd.pinned (.plain (OpenSpec.ofChange frameBackSpec)) frameBackCard

/-- THE TIED CARD OF 'dynamolaw05.FramePlays'. -/
def framePlaysCard : Claim7 := { stood := { row := framePlaysRow, standIns := [], harness := (true, "ce32fccebd434f09ae32953fd2a982b64a4b36d647fd0efbf6988e63a46d8349"), looks := true }, kinds := [], alts := [], laidByText := true, laidKinds := [.handle], laidTests := true, laidLooks := .later }
def FramePlaysCardSaid : Prop := Claim7.holds Tryd.pinned (.plain (OpenSpec.ofChange framePlaysSpec)) framePlaysCard

/-- THE TIED CARD OF 'dynamolaw05.FrameUnlike'. -/
def frameUnlikeCard : Claim7 := { stood := { row := frameUnlikeRow, standIns := [], harness := (true, "ce32fccebd434f09ae32953fd2a982b64a4b36d647fd0efbf6988e63a46d8349"), looks := true }, kinds := [], alts := [], laidByText := true, laidKinds := [.handle], laidTests := true, laidLooks := .later }
def FrameUnlikeCardSaid : Prop := Claim7.holds Tryd.pinned (.plain (OpenSpec.ofChange frameUnlikeSpec)) frameUnlikeCard

/-- THE TIED CARD OF 'dynamolaw05.FrameDisks'. -/
def frameDisksCard : Claim7 := { stood := { row := frameDisksRow, standIns := [], harness := (true, "ce32fccebd434f09ae32953fd2a982b64a4b36d647fd0efbf6988e63a46d8349"), looks := true }, kinds := [], alts := [], laidByText := true, laidKinds := [.handle], laidTests := true, laidLooks := .later }
def FrameDisksCardSaid : Prop := Claim7.holds Tryd.pinned (.plain (OpenSpec.ofChange frameDisksSpec)) frameDisksCard

/-- THE TIED CARD OF 'dynamolaw05.FrameTorn'. -/
def frameTornCard : Claim7 := { stood := { row := frameTornRow, standIns := [], harness := (true, "ce32fccebd434f09ae32953fd2a982b64a4b36d647fd0efbf6988e63a46d8349"), looks := true }, kinds := [], alts := [], laidByText := true, laidKinds := [.handle], laidTests := true, laidLooks := .later }
def FrameTornCardSaid : Prop := Claim7.holds Tryd.pinned (.plain (OpenSpec.ofChange frameTornSpec)) frameTornCard

/-- THE TIED CARD OF 'dynamolaw07.SuperBack'. -/
def superBackCard : Claim7 := { stood := { row := superBackRow, standIns := [], harness := (true, "ce32fccebd434f09ae32953fd2a982b64a4b36d647fd0efbf6988e63a46d8349"), looks := true }, kinds := [], alts := [], laidByText := true, laidKinds := [.handle], laidTests := true, laidLooks := .later }
def SuperBackCardSaid : Prop := Claim7.holds Tryd.pinned (.plain (OpenSpec.ofChange superBackSpec)) superBackCard

/-- THE TIED CARD OF 'dynamolaw07.SuperPlays'. -/
def superPlaysCard : Claim7 := { stood := { row := superPlaysRow, standIns := [], harness := (true, "ce32fccebd434f09ae32953fd2a982b64a4b36d647fd0efbf6988e63a46d8349"), looks := true }, kinds := [], alts := [], laidByText := true, laidKinds := [.handle], laidTests := true, laidLooks := .later }
def SuperPlaysCardSaid : Prop := Claim7.holds Tryd.pinned (.plain (OpenSpec.ofChange superPlaysSpec)) superPlaysCard

/-- THE TIED CARD OF 'dynamolaw07.SuperGreater'. -/
def superGreaterCard : Claim7 := { stood := { row := superGreaterRow, standIns := [], harness := (true, "ce32fccebd434f09ae32953fd2a982b64a4b36d647fd0efbf6988e63a46d8349"), looks := true }, kinds := [], alts := [], laidByText := true, laidKinds := [.handle], laidTests := true, laidLooks := .later }
def SuperGreaterCardSaid : Prop := Claim7.holds Tryd.pinned (.plain (OpenSpec.ofChange superGreaterSpec)) superGreaterCard

/-- THE TIED CARD OF 'dynamolaw07.SuperUnlike'. -/
def superUnlikeCard : Claim7 := { stood := { row := superUnlikeRow, standIns := [], harness := (true, "ce32fccebd434f09ae32953fd2a982b64a4b36d647fd0efbf6988e63a46d8349"), looks := true }, kinds := [], alts := [], laidByText := true, laidKinds := [.handle], laidTests := true, laidLooks := .later }
def SuperUnlikeCardSaid : Prop := Claim7.holds Tryd.pinned (.plain (OpenSpec.ofChange superUnlikeSpec)) superUnlikeCard

/-- THE TIED CARD OF 'dynamolaw07.SuperBest'. -/
def superBestCard : Claim7 := { stood := { row := superBestRow, standIns := [], harness := (true, "ce32fccebd434f09ae32953fd2a982b64a4b36d647fd0efbf6988e63a46d8349"), looks := true }, kinds := [], alts := [], laidByText := true, laidKinds := [.handle], laidTests := true, laidLooks := .later }
def SuperBestCardSaid : Prop := Claim7.holds Tryd.pinned (.plain (OpenSpec.ofChange superBestSpec)) superBestCard

/-- THE TIED CARD OF 'dynamolaw08.PagerFills'. -/
def pagerFillsCard : Claim7 := { stood := { row := pagerFillsRow, standIns := [], harness := (true, "ce32fccebd434f09ae32953fd2a982b64a4b36d647fd0efbf6988e63a46d8349"), looks := true }, kinds := [], alts := [], laidByText := true, laidKinds := [.handle], laidTests := true, laidLooks := .later }
def PagerFillsCardSaid : Prop := Claim7.holds Tryd.pinned (.plain (OpenSpec.ofChange pagerFillsSpec)) pagerFillsCard

/-- THE TIED CARD OF 'dynamolaw08.PagerAgain'. -/
def pagerAgainCard : Claim7 := { stood := { row := pagerAgainRow, standIns := [], harness := (true, "ce32fccebd434f09ae32953fd2a982b64a4b36d647fd0efbf6988e63a46d8349"), looks := true }, kinds := [], alts := [], laidByText := true, laidKinds := [.handle], laidTests := true, laidLooks := .later }
def PagerAgainCardSaid : Prop := Claim7.holds Tryd.pinned (.plain (OpenSpec.ofChange pagerAgainSpec)) pagerAgainCard

/-- THE TIED CARD OF 'dynamolaw08.PagerRefuses'. -/
def pagerRefusesCard : Claim7 := { stood := { row := pagerRefusesRow, standIns := [], harness := (true, "ce32fccebd434f09ae32953fd2a982b64a4b36d647fd0efbf6988e63a46d8349"), looks := true }, kinds := [], alts := [], laidByText := true, laidKinds := [.handle], laidTests := true, laidLooks := .later }
def PagerRefusesCardSaid : Prop := Claim7.holds Tryd.pinned (.plain (OpenSpec.ofChange pagerRefusesSpec)) pagerRefusesCard

/-- THE TIED CARD OF 'dynamolaw08.PagerPlays'. -/
def pagerPlaysCard : Claim7 := { stood := { row := pagerPlaysRow, standIns := [], harness := (true, "ce32fccebd434f09ae32953fd2a982b64a4b36d647fd0efbf6988e63a46d8349"), looks := true }, kinds := [], alts := [], laidByText := true, laidKinds := [.handle], laidTests := true, laidLooks := .later }
def PagerPlaysCardSaid : Prop := Claim7.holds Tryd.pinned (.plain (OpenSpec.ofChange pagerPlaysSpec)) pagerPlaysCard

/-- THE TIED CARD OF 'dynamolaw08.PagerTorn'. -/
def pagerTornCard : Claim7 := { stood := { row := pagerTornRow, standIns := [], harness := (true, "ce32fccebd434f09ae32953fd2a982b64a4b36d647fd0efbf6988e63a46d8349"), looks := true }, kinds := [], alts := [], laidByText := true, laidKinds := [.handle], laidTests := true, laidLooks := .later }
def PagerTornCardSaid : Prop := Claim7.holds Tryd.pinned (.plain (OpenSpec.ofChange pagerTornSpec)) pagerTornCard

/-- THE SECOND FORM's CARD OF 'dynamolaw04.DiskPlays'. -/
def diskPlaysUptoCard : Claim7 := { stood := { row := diskPlaysUptoRow, standIns := [], harness := (true, "ce32fccebd434f09ae32953fd2a982b64a4b36d647fd0efbf6988e63a46d8349"), looks := true }, kinds := [], alts := [], laidByText := true, laidKinds := [.handle], laidTests := true, laidLooks := .later }
def DiskPlaysUptoCardSaid : Prop := Claim7.holds Tryd.pinned (.plain (OpenSpec.upto diskPlaysSpec)) diskPlaysUptoCard

/-- THE SECOND FORM's CARD OF 'dynamolaw05.FrameBack'. -/
def frameBackUptoCard : Claim7 := { stood := { row := frameBackUptoRow, standIns := [], harness := (true, "ce32fccebd434f09ae32953fd2a982b64a4b36d647fd0efbf6988e63a46d8349"), looks := true }, kinds := [], alts := [], laidByText := true, laidKinds := [.handle], laidTests := true, laidLooks := .later }
def FrameBackUptoCardSaid : Prop := Claim7.holds Tryd.pinned (.plain (OpenSpec.upto frameBackSpec)) frameBackUptoCard

/-- THE SECOND FORM's CARD OF 'dynamolaw05.FramePlays'. -/
def framePlaysUptoCard : Claim7 := { stood := { row := framePlaysUptoRow, standIns := [], harness := (true, "ce32fccebd434f09ae32953fd2a982b64a4b36d647fd0efbf6988e63a46d8349"), looks := true }, kinds := [], alts := [], laidByText := true, laidKinds := [.handle], laidTests := true, laidLooks := .later }
def FramePlaysUptoCardSaid : Prop := Claim7.holds Tryd.pinned (.plain (OpenSpec.upto framePlaysSpec)) framePlaysUptoCard

/-- THE SECOND FORM's CARD OF 'dynamolaw05.FrameUnlike'. -/
def frameUnlikeUptoCard : Claim7 := { stood := { row := frameUnlikeUptoRow, standIns := [], harness := (true, "ce32fccebd434f09ae32953fd2a982b64a4b36d647fd0efbf6988e63a46d8349"), looks := true }, kinds := [], alts := [], laidByText := true, laidKinds := [.handle], laidTests := true, laidLooks := .later }
def FrameUnlikeUptoCardSaid : Prop := Claim7.holds Tryd.pinned (.plain (OpenSpec.upto frameUnlikeSpec)) frameUnlikeUptoCard

/-- THE SECOND FORM's CARD OF 'dynamolaw05.FrameDisks'. -/
def frameDisksUptoCard : Claim7 := { stood := { row := frameDisksUptoRow, standIns := [], harness := (true, "ce32fccebd434f09ae32953fd2a982b64a4b36d647fd0efbf6988e63a46d8349"), looks := true }, kinds := [], alts := [], laidByText := true, laidKinds := [.handle], laidTests := true, laidLooks := .later }
def FrameDisksUptoCardSaid : Prop := Claim7.holds Tryd.pinned (.plain (OpenSpec.upto frameDisksSpec)) frameDisksUptoCard

/-- THE SECOND FORM's CARD OF 'dynamolaw05.FrameTorn'. -/
def frameTornUptoCard : Claim7 := { stood := { row := frameTornUptoRow, standIns := [], harness := (true, "ce32fccebd434f09ae32953fd2a982b64a4b36d647fd0efbf6988e63a46d8349"), looks := true }, kinds := [], alts := [], laidByText := true, laidKinds := [.handle], laidTests := true, laidLooks := .later }
def FrameTornUptoCardSaid : Prop := Claim7.holds Tryd.pinned (.plain (OpenSpec.upto frameTornSpec)) frameTornUptoCard

/-- THE SECOND FORM's CARD OF 'dynamolaw07.SuperBack'. -/
def superBackUptoCard : Claim7 := { stood := { row := superBackUptoRow, standIns := [], harness := (true, "ce32fccebd434f09ae32953fd2a982b64a4b36d647fd0efbf6988e63a46d8349"), looks := true }, kinds := [], alts := [], laidByText := true, laidKinds := [.handle], laidTests := true, laidLooks := .later }
def SuperBackUptoCardSaid : Prop := Claim7.holds Tryd.pinned (.plain (OpenSpec.upto superBackSpec)) superBackUptoCard

/-- THE SECOND FORM's CARD OF 'dynamolaw07.SuperPlays'. -/
def superPlaysUptoCard : Claim7 := { stood := { row := superPlaysUptoRow, standIns := [], harness := (true, "ce32fccebd434f09ae32953fd2a982b64a4b36d647fd0efbf6988e63a46d8349"), looks := true }, kinds := [], alts := [], laidByText := true, laidKinds := [.handle], laidTests := true, laidLooks := .later }
def SuperPlaysUptoCardSaid : Prop := Claim7.holds Tryd.pinned (.plain (OpenSpec.upto superPlaysSpec)) superPlaysUptoCard

/-- THE SECOND FORM's CARD OF 'dynamolaw07.SuperGreater'. -/
def superGreaterUptoCard : Claim7 := { stood := { row := superGreaterUptoRow, standIns := [], harness := (true, "ce32fccebd434f09ae32953fd2a982b64a4b36d647fd0efbf6988e63a46d8349"), looks := true }, kinds := [], alts := [], laidByText := true, laidKinds := [.handle], laidTests := true, laidLooks := .later }
def SuperGreaterUptoCardSaid : Prop := Claim7.holds Tryd.pinned (.plain (OpenSpec.upto superGreaterSpec)) superGreaterUptoCard

/-- THE SECOND FORM's CARD OF 'dynamolaw07.SuperUnlike'. -/
def superUnlikeUptoCard : Claim7 := { stood := { row := superUnlikeUptoRow, standIns := [], harness := (true, "ce32fccebd434f09ae32953fd2a982b64a4b36d647fd0efbf6988e63a46d8349"), looks := true }, kinds := [], alts := [], laidByText := true, laidKinds := [.handle], laidTests := true, laidLooks := .later }
def SuperUnlikeUptoCardSaid : Prop := Claim7.holds Tryd.pinned (.plain (OpenSpec.upto superUnlikeSpec)) superUnlikeUptoCard

/-- THE SECOND FORM's CARD OF 'dynamolaw07.SuperBest'. -/
def superBestUptoCard : Claim7 := { stood := { row := superBestUptoRow, standIns := [], harness := (true, "ce32fccebd434f09ae32953fd2a982b64a4b36d647fd0efbf6988e63a46d8349"), looks := true }, kinds := [], alts := [], laidByText := true, laidKinds := [.handle], laidTests := true, laidLooks := .later }
def SuperBestUptoCardSaid : Prop := Claim7.holds Tryd.pinned (.plain (OpenSpec.upto superBestSpec)) superBestUptoCard

/-- THE SECOND FORM's CARD OF 'dynamolaw08.PagerFills'. -/
def pagerFillsUptoCard : Claim7 := { stood := { row := pagerFillsUptoRow, standIns := [], harness := (true, "ce32fccebd434f09ae32953fd2a982b64a4b36d647fd0efbf6988e63a46d8349"), looks := true }, kinds := [], alts := [], laidByText := true, laidKinds := [.handle], laidTests := true, laidLooks := .later }
def PagerFillsUptoCardSaid : Prop := Claim7.holds Tryd.pinned (.plain (OpenSpec.upto pagerFillsSpec)) pagerFillsUptoCard

/-- THE SECOND FORM's CARD OF 'dynamolaw08.PagerAgain'. -/
def pagerAgainUptoCard : Claim7 := { stood := { row := pagerAgainUptoRow, standIns := [], harness := (true, "ce32fccebd434f09ae32953fd2a982b64a4b36d647fd0efbf6988e63a46d8349"), looks := true }, kinds := [], alts := [], laidByText := true, laidKinds := [.handle], laidTests := true, laidLooks := .later }
def PagerAgainUptoCardSaid : Prop := Claim7.holds Tryd.pinned (.plain (OpenSpec.upto pagerAgainSpec)) pagerAgainUptoCard

/-- THE SECOND FORM's CARD OF 'dynamolaw08.PagerRefuses'. -/
def pagerRefusesUptoCard : Claim7 := { stood := { row := pagerRefusesUptoRow, standIns := [], harness := (true, "ce32fccebd434f09ae32953fd2a982b64a4b36d647fd0efbf6988e63a46d8349"), looks := true }, kinds := [], alts := [], laidByText := true, laidKinds := [.handle], laidTests := true, laidLooks := .later }
def PagerRefusesUptoCardSaid : Prop := Claim7.holds Tryd.pinned (.plain (OpenSpec.upto pagerRefusesSpec)) pagerRefusesUptoCard

/-- THE SECOND FORM's CARD OF 'dynamolaw08.PagerPlays'. -/
def pagerPlaysUptoCard : Claim7 := { stood := { row := pagerPlaysUptoRow, standIns := [], harness := (true, "ce32fccebd434f09ae32953fd2a982b64a4b36d647fd0efbf6988e63a46d8349"), looks := true }, kinds := [], alts := [], laidByText := true, laidKinds := [.handle], laidTests := true, laidLooks := .later }
def PagerPlaysUptoCardSaid : Prop := Claim7.holds Tryd.pinned (.plain (OpenSpec.upto pagerPlaysSpec)) pagerPlaysUptoCard

/-- THE SECOND FORM's CARD OF 'dynamolaw08.PagerTorn'. -/
def pagerTornUptoCard : Claim7 := { stood := { row := pagerTornUptoRow, standIns := [], harness := (true, "ce32fccebd434f09ae32953fd2a982b64a4b36d647fd0efbf6988e63a46d8349"), looks := true }, kinds := [], alts := [], laidByText := true, laidKinds := [.handle], laidTests := true, laidLooks := .later }
def PagerTornUptoCardSaid : Prop := Claim7.holds Tryd.pinned (.plain (OpenSpec.upto pagerTornSpec)) pagerTornUptoCard
end Rows
end Go.Proofs.YtmnkgcgmbdkjaaaDoor
