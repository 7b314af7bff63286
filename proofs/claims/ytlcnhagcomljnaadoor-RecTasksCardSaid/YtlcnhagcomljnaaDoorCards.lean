/-
  DERIVED. GIVEN WITH THE SEED: THE CARDS: each row of YtlcnhagcomljnaaDoorRows.lean that lists a variable, with what it lists TIED to the program's text (the seventh form; the later family's looks); each row that meets fmt, with fmt's text TOLD by the authors' own Lean function (tested against real Go, not proved from fmt's source: count such statements apart). THE CARD IS WHAT COUNTS. Prove the row's statement (the work); the ties are given (YtlcnhagcomljnaaDoorTie.lean); close each card by the builder's one call (the guide's Derived/Test/ToyasCard.lean, 'card_holds'). Laid BY PROGRAM, IN A SANDBOX (cutbox-door.mjs). By AI agents, Wed Nov 11 2026. No macro, syntax, notation, axiom, sorry.
-/
import Derived.Test.YtlcnhagcomljnaaDoorRows
import GoSem.ClaimSeven
namespace Go.Proofs.YtlcnhagcomljnaaDoor
namespace Rows

/-- THE TIED CARD OF 'dynamolaw12.RecUnlike'. -/
def recUnlikeCard : Claim7 := { stood := { row := recUnlikeRow, standIns := [], harness := (true, "dc4cf46980a7d108009d58f5a3fa77b65ae362451e134b81dd72a6eb2ba26f6c"), looks := true }, kinds := [], alts := [], laidByText := true, laidKinds := [.handle], laidTests := true, laidLooks := .later }
def RecUnlikeCardSaid : Prop := Claim7.holds Tryd.pinned (.plain (OpenSpec.ofChange recUnlikeSpec)) recUnlikeCard

/-- THE TIED CARD OF 'dynamolaw12.RecRobots'. -/
def recRobotsCard : Claim7 := { stood := { row := recRobotsRow, standIns := [], harness := (true, "dc4cf46980a7d108009d58f5a3fa77b65ae362451e134b81dd72a6eb2ba26f6c"), looks := true }, kinds := [], alts := [], laidByText := true, laidKinds := [.handle], laidTests := true, laidLooks := .later }
def RecRobotsCardSaid : Prop := Claim7.holds Tryd.pinned (.plain (OpenSpec.ofChange recRobotsSpec)) recRobotsCard

/-- THE TIED CARD OF 'dynamolaw12.RecTasks'. -/
def recTasksCard : Claim7 := { stood := { row := recTasksRow, standIns := [], harness := (true, "dc4cf46980a7d108009d58f5a3fa77b65ae362451e134b81dd72a6eb2ba26f6c"), looks := true }, kinds := [], alts := [], laidByText := true, laidKinds := [.handle], laidTests := true, laidLooks := .later }
def RecTasksCardSaid : Prop := Claim7.holds Tryd.pinned (.plain (OpenSpec.ofChange recTasksSpec)) recTasksCard

/-- THE TIED CARD OF 'dynamolaw12.RecOnly'. -/
def recOnlyCard : Claim7 := { stood := { row := recOnlyRow, standIns := [], harness := (true, "dc4cf46980a7d108009d58f5a3fa77b65ae362451e134b81dd72a6eb2ba26f6c"), looks := true }, kinds := [], alts := [], laidByText := true, laidKinds := [.handle], laidTests := true, laidLooks := .later }
def RecOnlyCardSaid : Prop := Claim7.holds Tryd.pinned (.plain (OpenSpec.ofChange recOnlySpec)) recOnlyCard

/-- THE TIED CARD OF 'dynamolaw12.RecSizes'. -/
def recSizesCard : Claim7 := { stood := { row := recSizesRow, standIns := [], harness := (true, "dc4cf46980a7d108009d58f5a3fa77b65ae362451e134b81dd72a6eb2ba26f6c"), looks := true }, kinds := [], alts := [], laidByText := true, laidKinds := [.handle], laidTests := true, laidLooks := .later }
def RecSizesCardSaid : Prop := Claim7.holds Tryd.pinned (.plain (OpenSpec.ofChange recSizesSpec)) recSizesCard

/-- THE TIED CARD OF 'dynamolaw07.SuperBack'. -/
def superBackCard : Claim7 := { stood := { row := superBackRow, standIns := [], harness := (true, "dc4cf46980a7d108009d58f5a3fa77b65ae362451e134b81dd72a6eb2ba26f6c"), looks := true }, kinds := [], alts := [], laidByText := true, laidKinds := [.handle], laidTests := true, laidLooks := .later }
def SuperBackCardSaid : Prop := Claim7.holds Tryd.pinned (.plain (OpenSpec.ofChange superBackSpec)) superBackCard

/-- THE TIED CARD OF 'dynamolaw07.SuperPlays'. -/
def superPlaysCard : Claim7 := { stood := { row := superPlaysRow, standIns := [], harness := (true, "dc4cf46980a7d108009d58f5a3fa77b65ae362451e134b81dd72a6eb2ba26f6c"), looks := true }, kinds := [], alts := [], laidByText := true, laidKinds := [.handle], laidTests := true, laidLooks := .later }
def SuperPlaysCardSaid : Prop := Claim7.holds Tryd.pinned (.plain (OpenSpec.ofChange superPlaysSpec)) superPlaysCard

/-- THE TIED CARD OF 'dynamolaw07.SuperGreater'. -/
def superGreaterCard : Claim7 := { stood := { row := superGreaterRow, standIns := [], harness := (true, "dc4cf46980a7d108009d58f5a3fa77b65ae362451e134b81dd72a6eb2ba26f6c"), looks := true }, kinds := [], alts := [], laidByText := true, laidKinds := [.handle], laidTests := true, laidLooks := .later }
def SuperGreaterCardSaid : Prop := Claim7.holds Tryd.pinned (.plain (OpenSpec.ofChange superGreaterSpec)) superGreaterCard

/-- THE TIED CARD OF 'dynamolaw07.SuperUnlike'. -/
def superUnlikeCard : Claim7 := { stood := { row := superUnlikeRow, standIns := [], harness := (true, "dc4cf46980a7d108009d58f5a3fa77b65ae362451e134b81dd72a6eb2ba26f6c"), looks := true }, kinds := [], alts := [], laidByText := true, laidKinds := [.handle], laidTests := true, laidLooks := .later }
def SuperUnlikeCardSaid : Prop := Claim7.holds Tryd.pinned (.plain (OpenSpec.ofChange superUnlikeSpec)) superUnlikeCard

/-- THE TIED CARD OF 'dynamolaw07.SuperBest'. -/
def superBestCard : Claim7 := { stood := { row := superBestRow, standIns := [], harness := (true, "dc4cf46980a7d108009d58f5a3fa77b65ae362451e134b81dd72a6eb2ba26f6c"), looks := true }, kinds := [], alts := [], laidByText := true, laidKinds := [.handle], laidTests := true, laidLooks := .later }
def SuperBestCardSaid : Prop := Claim7.holds Tryd.pinned (.plain (OpenSpec.ofChange superBestSpec)) superBestCard

/-- THE SECOND FORM's CARD OF 'dynamolaw12.RecUnlike'. -/
def recUnlikeUptoCard : Claim7 := { stood := { row := recUnlikeUptoRow, standIns := [], harness := (true, "dc4cf46980a7d108009d58f5a3fa77b65ae362451e134b81dd72a6eb2ba26f6c"), looks := true }, kinds := [], alts := [], laidByText := true, laidKinds := [.handle], laidTests := true, laidLooks := .later }
def RecUnlikeUptoCardSaid : Prop := Claim7.holds Tryd.pinned (.plain (OpenSpec.upto recUnlikeSpec)) recUnlikeUptoCard

/-- THE SECOND FORM's CARD OF 'dynamolaw12.RecRobots'. -/
def recRobotsUptoCard : Claim7 := { stood := { row := recRobotsUptoRow, standIns := [], harness := (true, "dc4cf46980a7d108009d58f5a3fa77b65ae362451e134b81dd72a6eb2ba26f6c"), looks := true }, kinds := [], alts := [], laidByText := true, laidKinds := [.handle], laidTests := true, laidLooks := .later }
def RecRobotsUptoCardSaid : Prop := Claim7.holds Tryd.pinned (.plain (OpenSpec.upto recRobotsSpec)) recRobotsUptoCard

/-- THE SECOND FORM's CARD OF 'dynamolaw12.RecTasks'. -/
def recTasksUptoCard : Claim7 := { stood := { row := recTasksUptoRow, standIns := [], harness := (true, "dc4cf46980a7d108009d58f5a3fa77b65ae362451e134b81dd72a6eb2ba26f6c"), looks := true }, kinds := [], alts := [], laidByText := true, laidKinds := [.handle], laidTests := true, laidLooks := .later }
def RecTasksUptoCardSaid : Prop := Claim7.holds Tryd.pinned (.plain (OpenSpec.upto recTasksSpec)) recTasksUptoCard

/-- THE SECOND FORM's CARD OF 'dynamolaw12.RecOnly'. -/
def recOnlyUptoCard : Claim7 := { stood := { row := recOnlyUptoRow, standIns := [], harness := (true, "dc4cf46980a7d108009d58f5a3fa77b65ae362451e134b81dd72a6eb2ba26f6c"), looks := true }, kinds := [], alts := [], laidByText := true, laidKinds := [.handle], laidTests := true, laidLooks := .later }
def RecOnlyUptoCardSaid : Prop := Claim7.holds Tryd.pinned (.plain (OpenSpec.upto recOnlySpec)) recOnlyUptoCard

/-- THE SECOND FORM's CARD OF 'dynamolaw12.RecSizes'. -/
def recSizesUptoCard : Claim7 := { stood := { row := recSizesUptoRow, standIns := [], harness := (true, "dc4cf46980a7d108009d58f5a3fa77b65ae362451e134b81dd72a6eb2ba26f6c"), looks := true }, kinds := [], alts := [], laidByText := true, laidKinds := [.handle], laidTests := true, laidLooks := .later }
def RecSizesUptoCardSaid : Prop := Claim7.holds Tryd.pinned (.plain (OpenSpec.upto recSizesSpec)) recSizesUptoCard

/-- THE SECOND FORM's CARD OF 'dynamolaw07.SuperBack'. -/
def superBackUptoCard : Claim7 := { stood := { row := superBackUptoRow, standIns := [], harness := (true, "dc4cf46980a7d108009d58f5a3fa77b65ae362451e134b81dd72a6eb2ba26f6c"), looks := true }, kinds := [], alts := [], laidByText := true, laidKinds := [.handle], laidTests := true, laidLooks := .later }
def SuperBackUptoCardSaid : Prop := Claim7.holds Tryd.pinned (.plain (OpenSpec.upto superBackSpec)) superBackUptoCard

/-- THE SECOND FORM's CARD OF 'dynamolaw07.SuperPlays'. -/
def superPlaysUptoCard : Claim7 := { stood := { row := superPlaysUptoRow, standIns := [], harness := (true, "dc4cf46980a7d108009d58f5a3fa77b65ae362451e134b81dd72a6eb2ba26f6c"), looks := true }, kinds := [], alts := [], laidByText := true, laidKinds := [.handle], laidTests := true, laidLooks := .later }
def SuperPlaysUptoCardSaid : Prop := Claim7.holds Tryd.pinned (.plain (OpenSpec.upto superPlaysSpec)) superPlaysUptoCard

/-- THE SECOND FORM's CARD OF 'dynamolaw07.SuperGreater'. -/
def superGreaterUptoCard : Claim7 := { stood := { row := superGreaterUptoRow, standIns := [], harness := (true, "dc4cf46980a7d108009d58f5a3fa77b65ae362451e134b81dd72a6eb2ba26f6c"), looks := true }, kinds := [], alts := [], laidByText := true, laidKinds := [.handle], laidTests := true, laidLooks := .later }
def SuperGreaterUptoCardSaid : Prop := Claim7.holds Tryd.pinned (.plain (OpenSpec.upto superGreaterSpec)) superGreaterUptoCard

/-- THE SECOND FORM's CARD OF 'dynamolaw07.SuperUnlike'. -/
def superUnlikeUptoCard : Claim7 := { stood := { row := superUnlikeUptoRow, standIns := [], harness := (true, "dc4cf46980a7d108009d58f5a3fa77b65ae362451e134b81dd72a6eb2ba26f6c"), looks := true }, kinds := [], alts := [], laidByText := true, laidKinds := [.handle], laidTests := true, laidLooks := .later }
def SuperUnlikeUptoCardSaid : Prop := Claim7.holds Tryd.pinned (.plain (OpenSpec.upto superUnlikeSpec)) superUnlikeUptoCard

/-- THE SECOND FORM's CARD OF 'dynamolaw07.SuperBest'. -/
def superBestUptoCard : Claim7 := { stood := { row := superBestUptoRow, standIns := [], harness := (true, "dc4cf46980a7d108009d58f5a3fa77b65ae362451e134b81dd72a6eb2ba26f6c"), looks := true }, kinds := [], alts := [], laidByText := true, laidKinds := [.handle], laidTests := true, laidLooks := .later }
def SuperBestUptoCardSaid : Prop := Claim7.holds Tryd.pinned (.plain (OpenSpec.upto superBestSpec)) superBestUptoCard
end Rows
end Go.Proofs.YtlcnhagcomljnaaDoor
