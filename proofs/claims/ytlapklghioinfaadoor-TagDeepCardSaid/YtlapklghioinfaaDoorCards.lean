/-
  DERIVED. GIVEN WITH THE SEED: THE CARDS: each row of YtlapklghioinfaaDoorRows.lean that lists a variable, with what it lists TIED to the program's text (the seventh form; the later family's looks); each row that meets fmt, with fmt's text TOLD by the authors' own Lean function (tested against real Go, not proved from fmt's source: count such statements apart). THE CARD IS WHAT COUNTS. Prove the row's statement (the work); the ties are given (YtlapklghioinfaaDoorTie.lean); close each card by the builder's one call (the guide's Derived/Test/ToyasCard.lean, 'card_holds'). Laid BY PROGRAM, IN A SANDBOX (cutbox-door.mjs). By AI agents, Wed Nov 11 2026. No macro, syntax, notation, axiom, sorry.
-/
import Derived.Test.YtlapklghioinfaaDoorRows
import GoSem.ClaimSeven
namespace Go.Proofs.YtlapklghioinfaaDoor
namespace Rows

/-- THE TIED CARD OF 'dynamolaw01.TagTexts'. -/
def tagTextsCard : Claim7 := { stood := { row := tagTextsRow, standIns := [], harness := (true, "0b21de42f7fac5727c91d6ae21d9807d94a6bf580ca6015dc2d2fccd4368cc91"), looks := true }, kinds := [], alts := [], laidByText := true, laidKinds := [.handle], laidTests := true, laidLooks := .later }
def TagTextsCardSaid : Prop := Claim7.holds Tryd.pinned (.plain (OpenSpec.ofChange tagTextsSpec)) tagTextsCard

/-- THE TIED CARD OF 'dynamolaw01.TagNil'. -/
def tagNilCard : Claim7 := { stood := { row := tagNilRow, standIns := [], harness := (true, "0b21de42f7fac5727c91d6ae21d9807d94a6bf580ca6015dc2d2fccd4368cc91"), looks := true }, kinds := [], alts := [], laidByText := true, laidKinds := [.handle], laidTests := true, laidLooks := .later }
def TagNilCardSaid : Prop := Claim7.holds Tryd.pinned (.plain (OpenSpec.ofChange tagNilSpec)) tagNilCard

/-- THE TIED CARD OF 'dynamolaw01.TagMore'. -/
def tagMoreCard : Claim7 := { stood := { row := tagMoreRow, standIns := [], harness := (true, "0b21de42f7fac5727c91d6ae21d9807d94a6bf580ca6015dc2d2fccd4368cc91"), looks := true }, kinds := [], alts := [], laidByText := true, laidKinds := [.handle], laidTests := true, laidLooks := .later }
def TagMoreCardSaid : Prop := Claim7.holds Tryd.pinned (.plain (OpenSpec.ofChange tagMoreSpec)) tagMoreCard

/-- THE TIED CARD OF 'dynamolaw01.TagDeep'. -/
def tagDeepCard : Claim7 := { stood := { row := tagDeepRow, standIns := [], harness := (true, "0b21de42f7fac5727c91d6ae21d9807d94a6bf580ca6015dc2d2fccd4368cc91"), looks := true }, kinds := [], alts := [], laidByText := true, laidKinds := [.handle], laidTests := true, laidLooks := .later }
def TagDeepCardSaid : Prop := Claim7.holds Tryd.pinned (.plain (OpenSpec.ofChange tagDeepSpec)) tagDeepCard

/-- THE TIED CARD OF 'dynamolaw19.VoltParts'. -/
def voltPartsCard : Claim7 := { stood := { row := voltPartsRow, standIns := [], harness := (true, "0b21de42f7fac5727c91d6ae21d9807d94a6bf580ca6015dc2d2fccd4368cc91"), looks := true }, kinds := [], alts := [], laidByText := true, laidKinds := [.handle], laidTests := true, laidLooks := .later }
def VoltPartsCardSaid : Prop := Claim7.holds Tryd.pinned (.plain (OpenSpec.ofChange voltPartsSpec)) voltPartsCard

/-- THE TIED CARD OF 'dynamolaw19.VoltFull'. -/
def voltFullCard : Claim7 := { stood := { row := voltFullRow, standIns := [], harness := (true, "0b21de42f7fac5727c91d6ae21d9807d94a6bf580ca6015dc2d2fccd4368cc91"), looks := true }, kinds := [], alts := [], laidByText := true, laidKinds := [.handle], laidTests := true, laidLooks := .later }
def VoltFullCardSaid : Prop := Claim7.holds Tryd.pinned (.plain (OpenSpec.ofChange voltFullSpec)) voltFullCard

/-- THE TIED CARD OF 'dynamolaw19.VoltSets'. -/
def voltSetsCard : Claim7 := { stood := { row := voltSetsRow, standIns := [], harness := (true, "0b21de42f7fac5727c91d6ae21d9807d94a6bf580ca6015dc2d2fccd4368cc91"), looks := true }, kinds := [], alts := [], laidByText := true, laidKinds := [.handle], laidTests := true, laidLooks := .later }
def VoltSetsCardSaid : Prop := Claim7.holds Tryd.pinned (.plain (OpenSpec.ofChange voltSetsSpec)) voltSetsCard

/-- THE TIED CARD OF 'dynamolaw01.TagNums'. -/
def tagNumsCard : Claim7 := { stood := { row := tagNumsRow, standIns := [], harness := (true, "0b21de42f7fac5727c91d6ae21d9807d94a6bf580ca6015dc2d2fccd4368cc91"), looks := true }, kinds := [], alts := [], laidByText := true, laidKinds := [.handle], laidTests := true, laidLooks := .later }
def TagNumsCardSaid : Prop := Claim7.holds Tryd.pinned (.plain (OpenSpec.ofChange tagNumsSpec)) tagNumsCard

/-- THE TIED CARD OF 'dynamolaw19.VoltPlays'. -/
def voltPlaysCard : Claim7 := { stood := { row := voltPlaysRow, standIns := [], harness := (true, "0b21de42f7fac5727c91d6ae21d9807d94a6bf580ca6015dc2d2fccd4368cc91"), looks := true }, kinds := [], alts := [], laidByText := true, laidKinds := [.handle], laidTests := true, laidLooks := .later }
def VoltPlaysCardSaid : Prop := Claim7.holds Tryd.pinned (.plain (OpenSpec.ofChange voltPlaysSpec)) voltPlaysCard

/-- THE TIED CARD OF 'dynamolaw19.VoltBack'. -/
def voltBackCard : Claim7 := { stood := { row := voltBackRow, standIns := [], harness := (true, "0b21de42f7fac5727c91d6ae21d9807d94a6bf580ca6015dc2d2fccd4368cc91"), looks := true }, kinds := [], alts := [], laidByText := true, laidKinds := [.handle], laidTests := true, laidLooks := .later }
def VoltBackCardSaid : Prop := Claim7.holds Tryd.pinned (.plain (OpenSpec.ofChange voltBackSpec)) voltBackCard

/-- THE TIED CARD OF 'dynamolaw19.VoltKeeps'. -/
def voltKeepsCard : Claim7 := { stood := { row := voltKeepsRow, standIns := [], harness := (true, "0b21de42f7fac5727c91d6ae21d9807d94a6bf580ca6015dc2d2fccd4368cc91"), looks := true }, kinds := [], alts := [], laidByText := true, laidKinds := [.handle], laidTests := true, laidLooks := .later }
def VoltKeepsCardSaid : Prop := Claim7.holds Tryd.pinned (.plain (OpenSpec.ofChange voltKeepsSpec)) voltKeepsCard

/-- THE TIED CARD OF 'dynamolaw01.TagUnlike'. -/
def tagUnlikeCard : Claim7 := { stood := { row := tagUnlikeRow, standIns := [], harness := (true, "0b21de42f7fac5727c91d6ae21d9807d94a6bf580ca6015dc2d2fccd4368cc91"), looks := true }, kinds := [], alts := [], laidByText := true, laidKinds := [.handle], laidTests := true, laidLooks := .later }
def TagUnlikeCardSaid : Prop := Claim7.holds Tryd.pinned (.plain (OpenSpec.ofChange tagUnlikeSpec)) tagUnlikeCard

/-- THE SECOND FORM's CARD OF 'dynamolaw01.TagTexts'. -/
def tagTextsUptoCard : Claim7 := { stood := { row := tagTextsUptoRow, standIns := [], harness := (true, "0b21de42f7fac5727c91d6ae21d9807d94a6bf580ca6015dc2d2fccd4368cc91"), looks := true }, kinds := [], alts := [], laidByText := true, laidKinds := [.handle], laidTests := true, laidLooks := .later }
def TagTextsUptoCardSaid : Prop := Claim7.holds Tryd.pinned (.plain (OpenSpec.upto tagTextsSpec)) tagTextsUptoCard

/-- THE SECOND FORM's CARD OF 'dynamolaw01.TagNil'. -/
def tagNilUptoCard : Claim7 := { stood := { row := tagNilUptoRow, standIns := [], harness := (true, "0b21de42f7fac5727c91d6ae21d9807d94a6bf580ca6015dc2d2fccd4368cc91"), looks := true }, kinds := [], alts := [], laidByText := true, laidKinds := [.handle], laidTests := true, laidLooks := .later }
def TagNilUptoCardSaid : Prop := Claim7.holds Tryd.pinned (.plain (OpenSpec.upto tagNilSpec)) tagNilUptoCard

/-- THE SECOND FORM's CARD OF 'dynamolaw01.TagMore'. -/
def tagMoreUptoCard : Claim7 := { stood := { row := tagMoreUptoRow, standIns := [], harness := (true, "0b21de42f7fac5727c91d6ae21d9807d94a6bf580ca6015dc2d2fccd4368cc91"), looks := true }, kinds := [], alts := [], laidByText := true, laidKinds := [.handle], laidTests := true, laidLooks := .later }
def TagMoreUptoCardSaid : Prop := Claim7.holds Tryd.pinned (.plain (OpenSpec.upto tagMoreSpec)) tagMoreUptoCard

/-- THE SECOND FORM's CARD OF 'dynamolaw01.TagDeep'. -/
def tagDeepUptoCard : Claim7 := { stood := { row := tagDeepUptoRow, standIns := [], harness := (true, "0b21de42f7fac5727c91d6ae21d9807d94a6bf580ca6015dc2d2fccd4368cc91"), looks := true }, kinds := [], alts := [], laidByText := true, laidKinds := [.handle], laidTests := true, laidLooks := .later }
def TagDeepUptoCardSaid : Prop := Claim7.holds Tryd.pinned (.plain (OpenSpec.upto tagDeepSpec)) tagDeepUptoCard

/-- THE SECOND FORM's CARD OF 'dynamolaw19.VoltParts'. -/
def voltPartsUptoCard : Claim7 := { stood := { row := voltPartsUptoRow, standIns := [], harness := (true, "0b21de42f7fac5727c91d6ae21d9807d94a6bf580ca6015dc2d2fccd4368cc91"), looks := true }, kinds := [], alts := [], laidByText := true, laidKinds := [.handle], laidTests := true, laidLooks := .later }
def VoltPartsUptoCardSaid : Prop := Claim7.holds Tryd.pinned (.plain (OpenSpec.upto voltPartsSpec)) voltPartsUptoCard

/-- THE SECOND FORM's CARD OF 'dynamolaw19.VoltFull'. -/
def voltFullUptoCard : Claim7 := { stood := { row := voltFullUptoRow, standIns := [], harness := (true, "0b21de42f7fac5727c91d6ae21d9807d94a6bf580ca6015dc2d2fccd4368cc91"), looks := true }, kinds := [], alts := [], laidByText := true, laidKinds := [.handle], laidTests := true, laidLooks := .later }
def VoltFullUptoCardSaid : Prop := Claim7.holds Tryd.pinned (.plain (OpenSpec.upto voltFullSpec)) voltFullUptoCard

/-- THE SECOND FORM's CARD OF 'dynamolaw19.VoltSets'. -/
def voltSetsUptoCard : Claim7 := { stood := { row := voltSetsUptoRow, standIns := [], harness := (true, "0b21de42f7fac5727c91d6ae21d9807d94a6bf580ca6015dc2d2fccd4368cc91"), looks := true }, kinds := [], alts := [], laidByText := true, laidKinds := [.handle], laidTests := true, laidLooks := .later }
def VoltSetsUptoCardSaid : Prop := Claim7.holds Tryd.pinned (.plain (OpenSpec.upto voltSetsSpec)) voltSetsUptoCard

/-- THE SECOND FORM's CARD OF 'dynamolaw01.TagNums'. -/
def tagNumsUptoCard : Claim7 := { stood := { row := tagNumsUptoRow, standIns := [], harness := (true, "0b21de42f7fac5727c91d6ae21d9807d94a6bf580ca6015dc2d2fccd4368cc91"), looks := true }, kinds := [], alts := [], laidByText := true, laidKinds := [.handle], laidTests := true, laidLooks := .later }
def TagNumsUptoCardSaid : Prop := Claim7.holds Tryd.pinned (.plain (OpenSpec.upto tagNumsSpec)) tagNumsUptoCard

/-- THE SECOND FORM's CARD OF 'dynamolaw19.VoltPlays'. -/
def voltPlaysUptoCard : Claim7 := { stood := { row := voltPlaysUptoRow, standIns := [], harness := (true, "0b21de42f7fac5727c91d6ae21d9807d94a6bf580ca6015dc2d2fccd4368cc91"), looks := true }, kinds := [], alts := [], laidByText := true, laidKinds := [.handle], laidTests := true, laidLooks := .later }
def VoltPlaysUptoCardSaid : Prop := Claim7.holds Tryd.pinned (.plain (OpenSpec.upto voltPlaysSpec)) voltPlaysUptoCard

/-- THE SECOND FORM's CARD OF 'dynamolaw19.VoltBack'. -/
def voltBackUptoCard : Claim7 := { stood := { row := voltBackUptoRow, standIns := [], harness := (true, "0b21de42f7fac5727c91d6ae21d9807d94a6bf580ca6015dc2d2fccd4368cc91"), looks := true }, kinds := [], alts := [], laidByText := true, laidKinds := [.handle], laidTests := true, laidLooks := .later }
def VoltBackUptoCardSaid : Prop := Claim7.holds Tryd.pinned (.plain (OpenSpec.upto voltBackSpec)) voltBackUptoCard

/-- THE SECOND FORM's CARD OF 'dynamolaw19.VoltKeeps'. -/
def voltKeepsUptoCard : Claim7 := { stood := { row := voltKeepsUptoRow, standIns := [], harness := (true, "0b21de42f7fac5727c91d6ae21d9807d94a6bf580ca6015dc2d2fccd4368cc91"), looks := true }, kinds := [], alts := [], laidByText := true, laidKinds := [.handle], laidTests := true, laidLooks := .later }
def VoltKeepsUptoCardSaid : Prop := Claim7.holds Tryd.pinned (.plain (OpenSpec.upto voltKeepsSpec)) voltKeepsUptoCard

/-- THE SECOND FORM's CARD OF 'dynamolaw01.TagUnlike'. -/
def tagUnlikeUptoCard : Claim7 := { stood := { row := tagUnlikeUptoRow, standIns := [], harness := (true, "0b21de42f7fac5727c91d6ae21d9807d94a6bf580ca6015dc2d2fccd4368cc91"), looks := true }, kinds := [], alts := [], laidByText := true, laidKinds := [.handle], laidTests := true, laidLooks := .later }
def TagUnlikeUptoCardSaid : Prop := Claim7.holds Tryd.pinned (.plain (OpenSpec.upto tagUnlikeSpec)) tagUnlikeUptoCard
end Rows
end Go.Proofs.YtlapklghioinfaaDoor
