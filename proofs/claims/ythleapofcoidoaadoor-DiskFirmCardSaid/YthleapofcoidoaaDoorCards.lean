/-
  DERIVED. GIVEN WITH THE SEED: THE CARDS: each row of YthleapofcoidoaaDoorRows.lean that lists a variable, with what it lists TIED to the program's text (the seventh form; the later family's looks); each row that meets fmt, with fmt's text TOLD by the authors' own Lean function (tested against real Go, not proved from fmt's source: count such statements apart). THE CARD IS WHAT COUNTS. Prove the row's statement (the work); the ties are given (YthleapofcoidoaaDoorTie.lean); close each card by the builder's one call (the guide's Derived/Test/ToyasCard.lean, 'card_holds'). Laid BY PROGRAM, IN A SANDBOX (cutbox-door.mjs). By AI agents, Wed Nov 11 2026. No macro, syntax, notation, axiom, sorry.
-/
import Derived.Test.YthleapofcoidoaaDoorRows
import GoSem.ClaimSeven
namespace Go.Proofs.YthleapofcoidoaaDoor
namespace Rows

/-- THE TIED CARD OF 'dynamolaw03.PackGets'. -/
def packGetsCard : Claim7 := { stood := { row := packGetsRow, standIns := [], harness := (true, "747ac33fd2d45b6f5c7fee03a6674c9a106fed73928684eb651d53b3b31b21bc"), looks := true }, kinds := [], alts := [], laidByText := true, laidKinds := [.handle], laidTests := true, laidLooks := .later }
def PackGetsCardSaid : Prop := Claim7.holds Tryd.pinned (.plain (OpenSpec.ofChange packGetsSpec)) packGetsCard

/-- THE TIED CARD OF 'dynamolaw04.DiskLast'. -/
def diskLastCard : Claim7 := { stood := { row := diskLastRow, standIns := [], harness := (true, "747ac33fd2d45b6f5c7fee03a6674c9a106fed73928684eb651d53b3b31b21bc"), looks := true }, kinds := [], alts := [], laidByText := true, laidKinds := [.handle], laidTests := true, laidLooks := .later }
def DiskLastCardSaid : Prop := Claim7.holds Tryd.pinned (.plain (OpenSpec.ofChange diskLastSpec)) diskLastCard

/-- THE TIED CARD OF 'dynamolaw04.DiskTwice'. -/
def diskTwiceCard : Claim7 := { stood := { row := diskTwiceRow, standIns := [], harness := (true, "747ac33fd2d45b6f5c7fee03a6674c9a106fed73928684eb651d53b3b31b21bc"), looks := true }, kinds := [], alts := [], laidByText := true, laidKinds := [.handle], laidTests := true, laidLooks := .later }
def DiskTwiceCardSaid : Prop := Claim7.holds Tryd.pinned (.plain (OpenSpec.ofChange diskTwiceSpec)) diskTwiceCard

/-- THE TIED CARD OF 'dynamolaw03.PackParts'. -/
def packPartsCard : Claim7 := { stood := { row := packPartsRow, standIns := [], harness := (true, "747ac33fd2d45b6f5c7fee03a6674c9a106fed73928684eb651d53b3b31b21bc"), looks := true }, kinds := [], alts := [], laidByText := true, laidKinds := [.handle], laidTests := true, laidLooks := .later }
def PackPartsCardSaid : Prop := Claim7.holds Tryd.pinned (.plain (OpenSpec.ofChange packPartsSpec)) packPartsCard

/-- THE TIED CARD OF 'dynamolaw04.DiskTorn'. -/
def diskTornCard : Claim7 := { stood := { row := diskTornRow, standIns := [], harness := (true, "747ac33fd2d45b6f5c7fee03a6674c9a106fed73928684eb651d53b3b31b21bc"), looks := true }, kinds := [], alts := [], laidByText := true, laidKinds := [.handle], laidTests := true, laidLooks := .later }
def DiskTornCardSaid : Prop := Claim7.holds Tryd.pinned (.plain (OpenSpec.ofChange diskTornSpec)) diskTornCard

/-- THE TIED CARD OF 'dynamolaw04.DiskFirm'. -/
def diskFirmCard : Claim7 := { stood := { row := diskFirmRow, standIns := [], harness := (true, "747ac33fd2d45b6f5c7fee03a6674c9a106fed73928684eb651d53b3b31b21bc"), looks := true }, kinds := [], alts := [], laidByText := true, laidKinds := [.handle], laidTests := true, laidLooks := .later }
def DiskFirmCardSaid : Prop := Claim7.holds Tryd.pinned (.plain (OpenSpec.ofChange diskFirmSpec)) diskFirmCard

/-- THE TIED CARD OF 'dynamolaw04.DiskPlays'. -/
def diskPlaysCard : Claim7 := { stood := { row := diskPlaysRow, standIns := [], harness := (true, "747ac33fd2d45b6f5c7fee03a6674c9a106fed73928684eb651d53b3b31b21bc"), looks := true }, kinds := [], alts := [], laidByText := true, laidKinds := [.handle], laidTests := true, laidLooks := .later }
def DiskPlaysCardSaid : Prop := Claim7.holds Tryd.pinned (.plain (OpenSpec.ofChange diskPlaysSpec)) diskPlaysCard

/-- THE TIED CARD OF 'dynamolaw03.PackBack'. -/
def packBackCard : Claim7 := { stood := { row := packBackRow, standIns := [], harness := (true, "747ac33fd2d45b6f5c7fee03a6674c9a106fed73928684eb651d53b3b31b21bc"), looks := true }, kinds := [], alts := [], laidByText := true, laidKinds := [.handle], laidTests := true, laidLooks := .later }
def PackBackCardSaid : Prop := Claim7.holds Tryd.pinned (.plain (OpenSpec.ofChange packBackSpec)) packBackCard

/-- THE TIED CARD OF 'dynamolaw03.PackPlays'. -/
def packPlaysCard : Claim7 := { stood := { row := packPlaysRow, standIns := [], harness := (true, "747ac33fd2d45b6f5c7fee03a6674c9a106fed73928684eb651d53b3b31b21bc"), looks := true }, kinds := [], alts := [], laidByText := true, laidKinds := [.handle], laidTests := true, laidLooks := .later }
def PackPlaysCardSaid : Prop := Claim7.holds Tryd.pinned (.plain (OpenSpec.ofChange packPlaysSpec)) packPlaysCard

/-- THE SECOND FORM's CARD OF 'dynamolaw03.PackGets'. -/
def packGetsUptoCard : Claim7 := { stood := { row := packGetsUptoRow, standIns := [], harness := (true, "747ac33fd2d45b6f5c7fee03a6674c9a106fed73928684eb651d53b3b31b21bc"), looks := true }, kinds := [], alts := [], laidByText := true, laidKinds := [.handle], laidTests := true, laidLooks := .later }
def PackGetsUptoCardSaid : Prop := Claim7.holds Tryd.pinned (.plain (OpenSpec.upto packGetsSpec)) packGetsUptoCard

/-- THE SECOND FORM's CARD OF 'dynamolaw04.DiskLast'. -/
def diskLastUptoCard : Claim7 := { stood := { row := diskLastUptoRow, standIns := [], harness := (true, "747ac33fd2d45b6f5c7fee03a6674c9a106fed73928684eb651d53b3b31b21bc"), looks := true }, kinds := [], alts := [], laidByText := true, laidKinds := [.handle], laidTests := true, laidLooks := .later }
def DiskLastUptoCardSaid : Prop := Claim7.holds Tryd.pinned (.plain (OpenSpec.upto diskLastSpec)) diskLastUptoCard

/-- THE SECOND FORM's CARD OF 'dynamolaw04.DiskTwice'. -/
def diskTwiceUptoCard : Claim7 := { stood := { row := diskTwiceUptoRow, standIns := [], harness := (true, "747ac33fd2d45b6f5c7fee03a6674c9a106fed73928684eb651d53b3b31b21bc"), looks := true }, kinds := [], alts := [], laidByText := true, laidKinds := [.handle], laidTests := true, laidLooks := .later }
def DiskTwiceUptoCardSaid : Prop := Claim7.holds Tryd.pinned (.plain (OpenSpec.upto diskTwiceSpec)) diskTwiceUptoCard

/-- THE SECOND FORM's CARD OF 'dynamolaw03.PackParts'. -/
def packPartsUptoCard : Claim7 := { stood := { row := packPartsUptoRow, standIns := [], harness := (true, "747ac33fd2d45b6f5c7fee03a6674c9a106fed73928684eb651d53b3b31b21bc"), looks := true }, kinds := [], alts := [], laidByText := true, laidKinds := [.handle], laidTests := true, laidLooks := .later }
def PackPartsUptoCardSaid : Prop := Claim7.holds Tryd.pinned (.plain (OpenSpec.upto packPartsSpec)) packPartsUptoCard

/-- THE SECOND FORM's CARD OF 'dynamolaw04.DiskTorn'. -/
def diskTornUptoCard : Claim7 := { stood := { row := diskTornUptoRow, standIns := [], harness := (true, "747ac33fd2d45b6f5c7fee03a6674c9a106fed73928684eb651d53b3b31b21bc"), looks := true }, kinds := [], alts := [], laidByText := true, laidKinds := [.handle], laidTests := true, laidLooks := .later }
def DiskTornUptoCardSaid : Prop := Claim7.holds Tryd.pinned (.plain (OpenSpec.upto diskTornSpec)) diskTornUptoCard

/-- THE SECOND FORM's CARD OF 'dynamolaw04.DiskFirm'. -/
def diskFirmUptoCard : Claim7 := { stood := { row := diskFirmUptoRow, standIns := [], harness := (true, "747ac33fd2d45b6f5c7fee03a6674c9a106fed73928684eb651d53b3b31b21bc"), looks := true }, kinds := [], alts := [], laidByText := true, laidKinds := [.handle], laidTests := true, laidLooks := .later }
def DiskFirmUptoCardSaid : Prop := Claim7.holds Tryd.pinned (.plain (OpenSpec.upto diskFirmSpec)) diskFirmUptoCard

/-- THE SECOND FORM's CARD OF 'dynamolaw04.DiskPlays'. -/
def diskPlaysUptoCard : Claim7 := { stood := { row := diskPlaysUptoRow, standIns := [], harness := (true, "747ac33fd2d45b6f5c7fee03a6674c9a106fed73928684eb651d53b3b31b21bc"), looks := true }, kinds := [], alts := [], laidByText := true, laidKinds := [.handle], laidTests := true, laidLooks := .later }
def DiskPlaysUptoCardSaid : Prop := Claim7.holds Tryd.pinned (.plain (OpenSpec.upto diskPlaysSpec)) diskPlaysUptoCard

/-- THE SECOND FORM's CARD OF 'dynamolaw03.PackBack'. -/
def packBackUptoCard : Claim7 := { stood := { row := packBackUptoRow, standIns := [], harness := (true, "747ac33fd2d45b6f5c7fee03a6674c9a106fed73928684eb651d53b3b31b21bc"), looks := true }, kinds := [], alts := [], laidByText := true, laidKinds := [.handle], laidTests := true, laidLooks := .later }
def PackBackUptoCardSaid : Prop := Claim7.holds Tryd.pinned (.plain (OpenSpec.upto packBackSpec)) packBackUptoCard

/-- THE SECOND FORM's CARD OF 'dynamolaw03.PackPlays'. -/
def packPlaysUptoCard : Claim7 := { stood := { row := packPlaysUptoRow, standIns := [], harness := (true, "747ac33fd2d45b6f5c7fee03a6674c9a106fed73928684eb651d53b3b31b21bc"), looks := true }, kinds := [], alts := [], laidByText := true, laidKinds := [.handle], laidTests := true, laidLooks := .later }
def PackPlaysUptoCardSaid : Prop := Claim7.holds Tryd.pinned (.plain (OpenSpec.upto packPlaysSpec)) packPlaysUptoCard
end Rows
end Go.Proofs.YthleapofcoidoaaDoor
