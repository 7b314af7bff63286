/-
  DERIVED. GIVEN WITH THE SEED: THE CARDS: each row of YtbiijkpffllimaaDoorRows.lean that lists a variable, with what it lists TIED to the program's text (the seventh form; the later family's looks); each row that meets fmt, with fmt's text TOLD by the authors' own Lean function (tested against real Go, not proved from fmt's source: count such statements apart). THE CARD IS WHAT COUNTS. Prove the row's statement (the work); the ties are given (YtbiijkpffllimaaDoorTie.lean); close each card by the builder's one call (the guide's Derived/Test/ToyasCard.lean, 'card_holds'). Laid BY PROGRAM, IN A SANDBOX (cutbox-door.mjs). By AI agents, Wed Nov 11 2026. No macro, syntax, notation, axiom, sorry.
-/
import Derived.Test.YtbiijkpffllimaaDoorRows
import GoSem.ClaimSeven
namespace Go.Proofs.YtbiijkpffllimaaDoor
namespace Rows

/-- THE TIED CARD OF 'dynamolaw09.NodeUnlike'. -/
def nodeUnlikeCard : Claim7 := { stood := { row := nodeUnlikeRow, standIns := [], harness := (true, "64cbb917ac34b1857bec68f3eb36bbaf7bc6863b968050cf9dcab8cb9e9e5f36"), looks := true }, kinds := [], alts := [], laidByText := true, laidKinds := [.handle], laidTests := true, laidLooks := .later }
def NodeUnlikeCardSaid : Prop := Claim7.holds Tryd.pinned (.plain (OpenSpec.ofChange nodeUnlikeSpec)) nodeUnlikeCard

/-- THE TIED CARD OF 'dynamolaw09.NodeParts'. -/
def nodePartsCard : Claim7 := { stood := { row := nodePartsRow, standIns := [], harness := (true, "64cbb917ac34b1857bec68f3eb36bbaf7bc6863b968050cf9dcab8cb9e9e5f36"), looks := true }, kinds := [], alts := [], laidByText := true, laidKinds := [.handle], laidTests := true, laidLooks := .later }
def NodePartsCardSaid : Prop := Claim7.holds Tryd.pinned (.plain (OpenSpec.ofChange nodePartsSpec)) nodePartsCard

/-- THE TIED CARD OF 'dynamolaw05.FrameBack'. -/
def frameBackCard : Claim7 := { stood := { row := frameBackRow, standIns := [], harness := (true, "64cbb917ac34b1857bec68f3eb36bbaf7bc6863b968050cf9dcab8cb9e9e5f36"), looks := true }, kinds := [], alts := [], laidByText := true, laidKinds := [.handle], laidTests := true, laidLooks := .later }
def FrameBackCardSaid : Prop := Claim7.holds Tryd.pinned (.plain (OpenSpec.ofChange frameBackSpec)) frameBackCard

/-- THE TIED CARD OF 'dynamolaw05.FramePlays'. -/
def framePlaysCard : Claim7 := { stood := { row := framePlaysRow, standIns := [], harness := (true, "64cbb917ac34b1857bec68f3eb36bbaf7bc6863b968050cf9dcab8cb9e9e5f36"), looks := true }, kinds := [], alts := [], laidByText := true, laidKinds := [.handle], laidTests := true, laidLooks := .later }
def FramePlaysCardSaid : Prop := Claim7.holds Tryd.pinned (.plain (OpenSpec.ofChange framePlaysSpec)) framePlaysCard

/-- THE TIED CARD OF 'dynamolaw05.FrameUnlike'. -/
def frameUnlikeCard : Claim7 := { stood := { row := frameUnlikeRow, standIns := [], harness := (true, "64cbb917ac34b1857bec68f3eb36bbaf7bc6863b968050cf9dcab8cb9e9e5f36"), looks := true }, kinds := [], alts := [], laidByText := true, laidKinds := [.handle], laidTests := true, laidLooks := .later }
def FrameUnlikeCardSaid : Prop := Claim7.holds Tryd.pinned (.plain (OpenSpec.ofChange frameUnlikeSpec)) frameUnlikeCard

/-- THE TIED CARD OF 'dynamolaw09.NodeSeeks'. -/
def nodeSeeksCard : Claim7 := { stood := { row := nodeSeeksRow, standIns := [], harness := (true, "64cbb917ac34b1857bec68f3eb36bbaf7bc6863b968050cf9dcab8cb9e9e5f36"), looks := true }, kinds := [], alts := [], laidByText := true, laidKinds := [.handle], laidTests := true, laidLooks := .later }
def NodeSeeksCardSaid : Prop := Claim7.holds Tryd.pinned (.plain (OpenSpec.ofChange nodeSeeksSpec)) nodeSeeksCard

/-- THE TIED CARD OF 'dynamolaw09.NodeBack'. -/
def nodeBackCard : Claim7 := { stood := { row := nodeBackRow, standIns := [], harness := (true, "64cbb917ac34b1857bec68f3eb36bbaf7bc6863b968050cf9dcab8cb9e9e5f36"), looks := true }, kinds := [], alts := [], laidByText := true, laidKinds := [.handle], laidTests := true, laidLooks := .later }
def NodeBackCardSaid : Prop := Claim7.holds Tryd.pinned (.plain (OpenSpec.ofChange nodeBackSpec)) nodeBackCard

/-- THE TIED CARD OF 'dynamolaw09.NodePlays'. -/
def nodePlaysCard : Claim7 := { stood := { row := nodePlaysRow, standIns := [], harness := (true, "64cbb917ac34b1857bec68f3eb36bbaf7bc6863b968050cf9dcab8cb9e9e5f36"), looks := true }, kinds := [], alts := [], laidByText := true, laidKinds := [.handle], laidTests := true, laidLooks := .later }
def NodePlaysCardSaid : Prop := Claim7.holds Tryd.pinned (.plain (OpenSpec.ofChange nodePlaysSpec)) nodePlaysCard

/-- THE TIED CARD OF 'dynamolaw05.FrameDisks'. -/
def frameDisksCard : Claim7 := { stood := { row := frameDisksRow, standIns := [], harness := (true, "64cbb917ac34b1857bec68f3eb36bbaf7bc6863b968050cf9dcab8cb9e9e5f36"), looks := true }, kinds := [], alts := [], laidByText := true, laidKinds := [.handle], laidTests := true, laidLooks := .later }
def FrameDisksCardSaid : Prop := Claim7.holds Tryd.pinned (.plain (OpenSpec.ofChange frameDisksSpec)) frameDisksCard

/-- THE TIED CARD OF 'dynamolaw05.FrameTorn'. -/
def frameTornCard : Claim7 := { stood := { row := frameTornRow, standIns := [], harness := (true, "64cbb917ac34b1857bec68f3eb36bbaf7bc6863b968050cf9dcab8cb9e9e5f36"), looks := true }, kinds := [], alts := [], laidByText := true, laidKinds := [.handle], laidTests := true, laidLooks := .later }
def FrameTornCardSaid : Prop := Claim7.holds Tryd.pinned (.plain (OpenSpec.ofChange frameTornSpec)) frameTornCard

/-- THE SECOND FORM's CARD OF 'dynamolaw09.NodeUnlike'. -/
def nodeUnlikeUptoCard : Claim7 := { stood := { row := nodeUnlikeUptoRow, standIns := [], harness := (true, "64cbb917ac34b1857bec68f3eb36bbaf7bc6863b968050cf9dcab8cb9e9e5f36"), looks := true }, kinds := [], alts := [], laidByText := true, laidKinds := [.handle], laidTests := true, laidLooks := .later }
def NodeUnlikeUptoCardSaid : Prop := Claim7.holds Tryd.pinned (.plain (OpenSpec.upto nodeUnlikeSpec)) nodeUnlikeUptoCard

/-- THE SECOND FORM's CARD OF 'dynamolaw09.NodeParts'. -/
def nodePartsUptoCard : Claim7 := { stood := { row := nodePartsUptoRow, standIns := [], harness := (true, "64cbb917ac34b1857bec68f3eb36bbaf7bc6863b968050cf9dcab8cb9e9e5f36"), looks := true }, kinds := [], alts := [], laidByText := true, laidKinds := [.handle], laidTests := true, laidLooks := .later }
def NodePartsUptoCardSaid : Prop := Claim7.holds Tryd.pinned (.plain (OpenSpec.upto nodePartsSpec)) nodePartsUptoCard

/-- THE SECOND FORM's CARD OF 'dynamolaw05.FrameBack'. -/
def frameBackUptoCard : Claim7 := { stood := { row := frameBackUptoRow, standIns := [], harness := (true, "64cbb917ac34b1857bec68f3eb36bbaf7bc6863b968050cf9dcab8cb9e9e5f36"), looks := true }, kinds := [], alts := [], laidByText := true, laidKinds := [.handle], laidTests := true, laidLooks := .later }
def FrameBackUptoCardSaid : Prop := Claim7.holds Tryd.pinned (.plain (OpenSpec.upto frameBackSpec)) frameBackUptoCard

/-- THE SECOND FORM's CARD OF 'dynamolaw05.FramePlays'. -/
def framePlaysUptoCard : Claim7 := { stood := { row := framePlaysUptoRow, standIns := [], harness := (true, "64cbb917ac34b1857bec68f3eb36bbaf7bc6863b968050cf9dcab8cb9e9e5f36"), looks := true }, kinds := [], alts := [], laidByText := true, laidKinds := [.handle], laidTests := true, laidLooks := .later }
def FramePlaysUptoCardSaid : Prop := Claim7.holds Tryd.pinned (.plain (OpenSpec.upto framePlaysSpec)) framePlaysUptoCard

/-- THE SECOND FORM's CARD OF 'dynamolaw05.FrameUnlike'. -/
def frameUnlikeUptoCard : Claim7 := { stood := { row := frameUnlikeUptoRow, standIns := [], harness := (true, "64cbb917ac34b1857bec68f3eb36bbaf7bc6863b968050cf9dcab8cb9e9e5f36"), looks := true }, kinds := [], alts := [], laidByText := true, laidKinds := [.handle], laidTests := true, laidLooks := .later }
def FrameUnlikeUptoCardSaid : Prop := Claim7.holds Tryd.pinned (.plain (OpenSpec.upto frameUnlikeSpec)) frameUnlikeUptoCard

/-- THE SECOND FORM's CARD OF 'dynamolaw09.NodeSeeks'. -/
def nodeSeeksUptoCard : Claim7 := { stood := { row := nodeSeeksUptoRow, standIns := [], harness := (true, "64cbb917ac34b1857bec68f3eb36bbaf7bc6863b968050cf9dcab8cb9e9e5f36"), looks := true }, kinds := [], alts := [], laidByText := true, laidKinds := [.handle], laidTests := true, laidLooks := .later }
def NodeSeeksUptoCardSaid : Prop := Claim7.holds Tryd.pinned (.plain (OpenSpec.upto nodeSeeksSpec)) nodeSeeksUptoCard

/-- THE SECOND FORM's CARD OF 'dynamolaw09.NodeBack'. -/
def nodeBackUptoCard : Claim7 := { stood := { row := nodeBackUptoRow, standIns := [], harness := (true, "64cbb917ac34b1857bec68f3eb36bbaf7bc6863b968050cf9dcab8cb9e9e5f36"), looks := true }, kinds := [], alts := [], laidByText := true, laidKinds := [.handle], laidTests := true, laidLooks := .later }
def NodeBackUptoCardSaid : Prop := Claim7.holds Tryd.pinned (.plain (OpenSpec.upto nodeBackSpec)) nodeBackUptoCard

/-- THE SECOND FORM's CARD OF 'dynamolaw09.NodePlays'. -/
def nodePlaysUptoCard : Claim7 := { stood := { row := nodePlaysUptoRow, standIns := [], harness := (true, "64cbb917ac34b1857bec68f3eb36bbaf7bc6863b968050cf9dcab8cb9e9e5f36"), looks := true }, kinds := [], alts := [], laidByText := true, laidKinds := [.handle], laidTests := true, laidLooks := .later }
def NodePlaysUptoCardSaid : Prop := Claim7.holds Tryd.pinned (.plain (OpenSpec.upto nodePlaysSpec)) nodePlaysUptoCard

/-- THE SECOND FORM's CARD OF 'dynamolaw05.FrameDisks'. -/
def frameDisksUptoCard : Claim7 := { stood := { row := frameDisksUptoRow, standIns := [], harness := (true, "64cbb917ac34b1857bec68f3eb36bbaf7bc6863b968050cf9dcab8cb9e9e5f36"), looks := true }, kinds := [], alts := [], laidByText := true, laidKinds := [.handle], laidTests := true, laidLooks := .later }
def FrameDisksUptoCardSaid : Prop := Claim7.holds Tryd.pinned (.plain (OpenSpec.upto frameDisksSpec)) frameDisksUptoCard

/-- THE SECOND FORM's CARD OF 'dynamolaw05.FrameTorn'. -/
def frameTornUptoCard : Claim7 := { stood := { row := frameTornUptoRow, standIns := [], harness := (true, "64cbb917ac34b1857bec68f3eb36bbaf7bc6863b968050cf9dcab8cb9e9e5f36"), looks := true }, kinds := [], alts := [], laidByText := true, laidKinds := [.handle], laidTests := true, laidLooks := .later }
def FrameTornUptoCardSaid : Prop := Claim7.holds Tryd.pinned (.plain (OpenSpec.upto frameTornSpec)) frameTornUptoCard
end Rows
end Go.Proofs.YtbiijkpffllimaaDoor
