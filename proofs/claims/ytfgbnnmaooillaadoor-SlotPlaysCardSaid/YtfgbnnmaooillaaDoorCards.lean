/-
  DERIVED. GIVEN WITH THE SEED: THE CARDS: each row of YtfgbnnmaooillaaDoorRows.lean that lists a variable, with what it lists TIED to the program's text (the seventh form; the later family's looks); each row that meets fmt, with fmt's text TOLD by the authors' own Lean function (tested against real Go, not proved from fmt's source: count such statements apart). THE CARD IS WHAT COUNTS. Prove the row's statement (the work); the ties are given (YtfgbnnmaooillaaDoorTie.lean); close each card by the builder's one call (the guide's Derived/Test/ToyasCard.lean, 'card_holds'). Laid BY PROGRAM, IN A SANDBOX (cutbox-door.mjs). By AI agents, Wed Nov 11 2026. No macro, syntax, notation, axiom, sorry.
-/
import Derived.Test.YtfgbnnmaooillaaDoorRows
import GoSem.ClaimSeven
namespace Go.Proofs.YtfgbnnmaooillaaDoor
namespace Rows

/-- THE TIED CARD OF 'dynamolaw18.ClaimBack'. -/
def claimBackCard : Claim7 := { stood := { row := claimBackRow, standIns := [], harness := (true, "b5891b071504c56c0f1598da1bc85a7d98f1ebfc5e27ac20d4fcb21ff30b684c"), looks := true }, kinds := [], alts := [], laidByText := true, laidKinds := [.handle], laidTests := true, laidLooks := .later }
def ClaimBackCardSaid : Prop := Claim7.holds Tryd.pinned (.plain (OpenSpec.ofChange claimBackSpec)) claimBackCard

/-- THE TIED CARD OF 'dynamolaw18.ClaimTakes'. -/
def claimTakesCard : Claim7 := { stood := { row := claimTakesRow, standIns := [], harness := (true, "b5891b071504c56c0f1598da1bc85a7d98f1ebfc5e27ac20d4fcb21ff30b684c"), looks := true }, kinds := [], alts := [], laidByText := true, laidKinds := [.handle], laidTests := true, laidLooks := .later }
def ClaimTakesCardSaid : Prop := Claim7.holds Tryd.pinned (.plain (OpenSpec.ofChange claimTakesSpec)) claimTakesCard

/-- THE TIED CARD OF 'dynamolaw18.ClaimTwo'. -/
def claimTwoCard : Claim7 := { stood := { row := claimTwoRow, standIns := [], harness := (true, "b5891b071504c56c0f1598da1bc85a7d98f1ebfc5e27ac20d4fcb21ff30b684c"), looks := true }, kinds := [], alts := [], laidByText := true, laidKinds := [.handle], laidTests := true, laidLooks := .later }
def ClaimTwoCardSaid : Prop := Claim7.holds Tryd.pinned (.plain (OpenSpec.ofChange claimTwoSpec)) claimTwoCard

/-- THE TIED CARD OF 'dynamolaw18.ClaimCounts'. -/
def claimCountsCard : Claim7 := { stood := { row := claimCountsRow, standIns := [], harness := (true, "b5891b071504c56c0f1598da1bc85a7d98f1ebfc5e27ac20d4fcb21ff30b684c"), looks := true }, kinds := [], alts := [], laidByText := true, laidKinds := [.handle], laidTests := true, laidLooks := .later }
def ClaimCountsCardSaid : Prop := Claim7.holds Tryd.pinned (.plain (OpenSpec.ofChange claimCountsSpec)) claimCountsCard

/-- THE TIED CARD OF 'dynamolaw20.SlotPlays'. -/
def slotPlaysCard : Claim7 := { stood := { row := slotPlaysRow, standIns := [], harness := (true, "b5891b071504c56c0f1598da1bc85a7d98f1ebfc5e27ac20d4fcb21ff30b684c"), looks := true }, kinds := [], alts := [], laidByText := true, laidKinds := [.handle], laidTests := true, laidLooks := .later }
def SlotPlaysCardSaid : Prop := Claim7.holds Tryd.pinned (.plain (OpenSpec.ofChange slotPlaysSpec)) slotPlaysCard

/-- THE TIED CARD OF 'dynamolaw20.SlotTouch'. -/
def slotTouchCard : Claim7 := { stood := { row := slotTouchRow, standIns := [], harness := (true, "b5891b071504c56c0f1598da1bc85a7d98f1ebfc5e27ac20d4fcb21ff30b684c"), looks := true }, kinds := [], alts := [], laidByText := true, laidKinds := [.handle], laidTests := true, laidLooks := .later }
def SlotTouchCardSaid : Prop := Claim7.holds Tryd.pinned (.plain (OpenSpec.ofChange slotTouchSpec)) slotTouchCard

/-- THE TIED CARD OF 'dynamolaw18.ClaimApart'. -/
def claimApartCard : Claim7 := { stood := { row := claimApartRow, standIns := [], harness := (true, "b5891b071504c56c0f1598da1bc85a7d98f1ebfc5e27ac20d4fcb21ff30b684c"), looks := true }, kinds := [], alts := [], laidByText := true, laidKinds := [.handle], laidTests := true, laidLooks := .later }
def ClaimApartCardSaid : Prop := Claim7.holds Tryd.pinned (.plain (OpenSpec.ofChange claimApartSpec)) claimApartCard

/-- THE TIED CARD OF 'dynamolaw20.SlotRooms'. -/
def slotRoomsCard : Claim7 := { stood := { row := slotRoomsRow, standIns := [], harness := (true, "b5891b071504c56c0f1598da1bc85a7d98f1ebfc5e27ac20d4fcb21ff30b684c"), looks := true }, kinds := [], alts := [], laidByText := true, laidKinds := [.handle], laidTests := true, laidLooks := .later }
def SlotRoomsCardSaid : Prop := Claim7.holds Tryd.pinned (.plain (OpenSpec.ofChange slotRoomsSpec)) slotRoomsCard

/-- THE SECOND FORM's CARD OF 'dynamolaw18.ClaimBack'. -/
def claimBackUptoCard : Claim7 := { stood := { row := claimBackUptoRow, standIns := [], harness := (true, "b5891b071504c56c0f1598da1bc85a7d98f1ebfc5e27ac20d4fcb21ff30b684c"), looks := true }, kinds := [], alts := [], laidByText := true, laidKinds := [.handle], laidTests := true, laidLooks := .later }
def ClaimBackUptoCardSaid : Prop := Claim7.holds Tryd.pinned (.plain (OpenSpec.upto claimBackSpec)) claimBackUptoCard

/-- THE SECOND FORM's CARD OF 'dynamolaw18.ClaimTakes'. -/
def claimTakesUptoCard : Claim7 := { stood := { row := claimTakesUptoRow, standIns := [], harness := (true, "b5891b071504c56c0f1598da1bc85a7d98f1ebfc5e27ac20d4fcb21ff30b684c"), looks := true }, kinds := [], alts := [], laidByText := true, laidKinds := [.handle], laidTests := true, laidLooks := .later }
def ClaimTakesUptoCardSaid : Prop := Claim7.holds Tryd.pinned (.plain (OpenSpec.upto claimTakesSpec)) claimTakesUptoCard

/-- THE SECOND FORM's CARD OF 'dynamolaw18.ClaimTwo'. -/
def claimTwoUptoCard : Claim7 := { stood := { row := claimTwoUptoRow, standIns := [], harness := (true, "b5891b071504c56c0f1598da1bc85a7d98f1ebfc5e27ac20d4fcb21ff30b684c"), looks := true }, kinds := [], alts := [], laidByText := true, laidKinds := [.handle], laidTests := true, laidLooks := .later }
def ClaimTwoUptoCardSaid : Prop := Claim7.holds Tryd.pinned (.plain (OpenSpec.upto claimTwoSpec)) claimTwoUptoCard

/-- THE SECOND FORM's CARD OF 'dynamolaw18.ClaimCounts'. -/
def claimCountsUptoCard : Claim7 := { stood := { row := claimCountsUptoRow, standIns := [], harness := (true, "b5891b071504c56c0f1598da1bc85a7d98f1ebfc5e27ac20d4fcb21ff30b684c"), looks := true }, kinds := [], alts := [], laidByText := true, laidKinds := [.handle], laidTests := true, laidLooks := .later }
def ClaimCountsUptoCardSaid : Prop := Claim7.holds Tryd.pinned (.plain (OpenSpec.upto claimCountsSpec)) claimCountsUptoCard

/-- THE SECOND FORM's CARD OF 'dynamolaw20.SlotPlays'. -/
def slotPlaysUptoCard : Claim7 := { stood := { row := slotPlaysUptoRow, standIns := [], harness := (true, "b5891b071504c56c0f1598da1bc85a7d98f1ebfc5e27ac20d4fcb21ff30b684c"), looks := true }, kinds := [], alts := [], laidByText := true, laidKinds := [.handle], laidTests := true, laidLooks := .later }
def SlotPlaysUptoCardSaid : Prop := Claim7.holds Tryd.pinned (.plain (OpenSpec.upto slotPlaysSpec)) slotPlaysUptoCard

/-- THE SECOND FORM's CARD OF 'dynamolaw20.SlotTouch'. -/
def slotTouchUptoCard : Claim7 := { stood := { row := slotTouchUptoRow, standIns := [], harness := (true, "b5891b071504c56c0f1598da1bc85a7d98f1ebfc5e27ac20d4fcb21ff30b684c"), looks := true }, kinds := [], alts := [], laidByText := true, laidKinds := [.handle], laidTests := true, laidLooks := .later }
def SlotTouchUptoCardSaid : Prop := Claim7.holds Tryd.pinned (.plain (OpenSpec.upto slotTouchSpec)) slotTouchUptoCard

/-- THE SECOND FORM's CARD OF 'dynamolaw18.ClaimApart'. -/
def claimApartUptoCard : Claim7 := { stood := { row := claimApartUptoRow, standIns := [], harness := (true, "b5891b071504c56c0f1598da1bc85a7d98f1ebfc5e27ac20d4fcb21ff30b684c"), looks := true }, kinds := [], alts := [], laidByText := true, laidKinds := [.handle], laidTests := true, laidLooks := .later }
def ClaimApartUptoCardSaid : Prop := Claim7.holds Tryd.pinned (.plain (OpenSpec.upto claimApartSpec)) claimApartUptoCard

/-- THE SECOND FORM's CARD OF 'dynamolaw20.SlotRooms'. -/
def slotRoomsUptoCard : Claim7 := { stood := { row := slotRoomsUptoRow, standIns := [], harness := (true, "b5891b071504c56c0f1598da1bc85a7d98f1ebfc5e27ac20d4fcb21ff30b684c"), looks := true }, kinds := [], alts := [], laidByText := true, laidKinds := [.handle], laidTests := true, laidLooks := .later }
def SlotRoomsUptoCardSaid : Prop := Claim7.holds Tryd.pinned (.plain (OpenSpec.upto slotRoomsSpec)) slotRoomsUptoCard
end Rows
end Go.Proofs.YtfgbnnmaooillaaDoor
