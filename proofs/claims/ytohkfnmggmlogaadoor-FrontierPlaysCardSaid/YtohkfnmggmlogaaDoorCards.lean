/-
  DERIVED. GIVEN WITH THE SEED: THE CARDS: each row of YtohkfnmggmlogaaDoorRows.lean that lists a variable, with what it lists TIED to the program's text (the seventh form; the later family's looks); each row that meets fmt, with fmt's text TOLD by the authors' own Lean function (tested against real Go, not proved from fmt's source: count such statements apart). THE CARD IS WHAT COUNTS. Prove the row's statement (the work); the ties are given (YtohkfnmggmlogaaDoorTie.lean); close each card by the builder's one call (the guide's Derived/Test/ToyasCard.lean, 'card_holds'). Laid BY PROGRAM, IN A SANDBOX (cutbox-door.mjs). By AI agents, Wed Nov 11 2026. No macro, syntax, notation, axiom, sorry.
-/
import Derived.Test.YtohkfnmggmlogaaDoorRows
import GoSem.ClaimSeven
namespace Go.Proofs.YtohkfnmggmlogaaDoor
namespace Rows

/-- THE TIED CARD OF 'assayerlaw05.FrontierPlays'. -/
def frontierPlaysCard : Claim7 := { stood := { row := frontierPlaysRow, standIns := [], harness := (true, "280cde097410fb9b9e2ef9bec870d2535ed1f395eb1449a3da5e2797fe401181"), looks := false }, kinds := [], alts := [], laidByText := true, laidKinds := [.data, .data], laidTests := true, laidLooks := .later }
def FrontierPlaysCardSaid : Prop := Claim7.holds Tryd.pinned (.plain (OpenSpec.ofChange frontierPlaysSpec)) frontierPlaysCard

/-- THE TIED CARD OF 'assayerlaw05.FrontierRoots'. -/
def frontierRootsCard : Claim7 := { stood := { row := frontierRootsRow, standIns := [], harness := (true, "280cde097410fb9b9e2ef9bec870d2535ed1f395eb1449a3da5e2797fe401181"), looks := false }, kinds := [], alts := [], laidByText := true, laidKinds := [.data, .data], laidTests := true, laidLooks := .later }
def FrontierRootsCardSaid : Prop := Claim7.holds Tryd.pinned (.plain (OpenSpec.ofChange frontierRootsSpec)) frontierRootsCard

/-- THE TIED CARD OF 'assayerlaw05.FrontierPeaks'. -/
def frontierPeaksCard : Claim7 := { stood := { row := frontierPeaksRow, standIns := [], harness := (true, "280cde097410fb9b9e2ef9bec870d2535ed1f395eb1449a3da5e2797fe401181"), looks := false }, kinds := [], alts := [], laidByText := true, laidKinds := [.data, .data], laidTests := true, laidLooks := .later }
def FrontierPeaksCardSaid : Prop := Claim7.holds Tryd.pinned (.plain (OpenSpec.ofChange frontierPeaksSpec)) frontierPeaksCard

/-- THE TIED CARD OF 'assayerlaw05.FrontierFull'. -/
def frontierFullCard : Claim7 := { stood := { row := frontierFullRow, standIns := [], harness := (true, "280cde097410fb9b9e2ef9bec870d2535ed1f395eb1449a3da5e2797fe401181"), looks := false }, kinds := [], alts := [], laidByText := true, laidKinds := [.data, .data], laidTests := true, laidLooks := .later }
def FrontierFullCardSaid : Prop := Claim7.holds Tryd.pinned (.plain (OpenSpec.ofChange frontierFullSpec)) frontierFullCard

/-- THE TIED CARD OF 'assayerlaw05.FrontierOwn'. -/
def frontierOwnCard : Claim7 := { stood := { row := frontierOwnRow, standIns := [], harness := (true, "280cde097410fb9b9e2ef9bec870d2535ed1f395eb1449a3da5e2797fe401181"), looks := false }, kinds := [], alts := [], laidByText := true, laidKinds := [.data, .data], laidTests := true, laidLooks := .later }
def FrontierOwnCardSaid : Prop := Claim7.holds Tryd.pinned (.plain (OpenSpec.ofChange frontierOwnSpec)) frontierOwnCard

/-- THE TIED CARD OF 'assayerlaw05.FrontierGoes'. -/
def frontierGoesCard : Claim7 := { stood := { row := frontierGoesRow, standIns := [], harness := (true, "280cde097410fb9b9e2ef9bec870d2535ed1f395eb1449a3da5e2797fe401181"), looks := false }, kinds := [], alts := [], laidByText := true, laidKinds := [.data, .data], laidTests := true, laidLooks := .later }
def FrontierGoesCardSaid : Prop := Claim7.holds Tryd.pinned (.plain (OpenSpec.ofChange frontierGoesSpec)) frontierGoesCard

/-- THE SECOND FORM's CARD OF 'assayerlaw05.FrontierPlays'. -/
def frontierPlaysUptoCard : Claim7 := { stood := { row := frontierPlaysUptoRow, standIns := [], harness := (true, "280cde097410fb9b9e2ef9bec870d2535ed1f395eb1449a3da5e2797fe401181"), looks := false }, kinds := [], alts := [], laidByText := true, laidKinds := [.data, .data], laidTests := true, laidLooks := .later }
def FrontierPlaysUptoCardSaid : Prop := Claim7.holds Tryd.pinned (.plain (OpenSpec.upto frontierPlaysSpec)) frontierPlaysUptoCard

/-- THE SECOND FORM's CARD OF 'assayerlaw05.FrontierRoots'. -/
def frontierRootsUptoCard : Claim7 := { stood := { row := frontierRootsUptoRow, standIns := [], harness := (true, "280cde097410fb9b9e2ef9bec870d2535ed1f395eb1449a3da5e2797fe401181"), looks := false }, kinds := [], alts := [], laidByText := true, laidKinds := [.data, .data], laidTests := true, laidLooks := .later }
def FrontierRootsUptoCardSaid : Prop := Claim7.holds Tryd.pinned (.plain (OpenSpec.upto frontierRootsSpec)) frontierRootsUptoCard

/-- THE SECOND FORM's CARD OF 'assayerlaw05.FrontierPeaks'. -/
def frontierPeaksUptoCard : Claim7 := { stood := { row := frontierPeaksUptoRow, standIns := [], harness := (true, "280cde097410fb9b9e2ef9bec870d2535ed1f395eb1449a3da5e2797fe401181"), looks := false }, kinds := [], alts := [], laidByText := true, laidKinds := [.data, .data], laidTests := true, laidLooks := .later }
def FrontierPeaksUptoCardSaid : Prop := Claim7.holds Tryd.pinned (.plain (OpenSpec.upto frontierPeaksSpec)) frontierPeaksUptoCard

/-- THE SECOND FORM's CARD OF 'assayerlaw05.FrontierFull'. -/
def frontierFullUptoCard : Claim7 := { stood := { row := frontierFullUptoRow, standIns := [], harness := (true, "280cde097410fb9b9e2ef9bec870d2535ed1f395eb1449a3da5e2797fe401181"), looks := false }, kinds := [], alts := [], laidByText := true, laidKinds := [.data, .data], laidTests := true, laidLooks := .later }
def FrontierFullUptoCardSaid : Prop := Claim7.holds Tryd.pinned (.plain (OpenSpec.upto frontierFullSpec)) frontierFullUptoCard

/-- THE SECOND FORM's CARD OF 'assayerlaw05.FrontierOwn'. -/
def frontierOwnUptoCard : Claim7 := { stood := { row := frontierOwnUptoRow, standIns := [], harness := (true, "280cde097410fb9b9e2ef9bec870d2535ed1f395eb1449a3da5e2797fe401181"), looks := false }, kinds := [], alts := [], laidByText := true, laidKinds := [.data, .data], laidTests := true, laidLooks := .later }
def FrontierOwnUptoCardSaid : Prop := Claim7.holds Tryd.pinned (.plain (OpenSpec.upto frontierOwnSpec)) frontierOwnUptoCard

/-- THE SECOND FORM's CARD OF 'assayerlaw05.FrontierGoes'. -/
def frontierGoesUptoCard : Claim7 := { stood := { row := frontierGoesUptoRow, standIns := [], harness := (true, "280cde097410fb9b9e2ef9bec870d2535ed1f395eb1449a3da5e2797fe401181"), looks := false }, kinds := [], alts := [], laidByText := true, laidKinds := [.data, .data], laidTests := true, laidLooks := .later }
def FrontierGoesUptoCardSaid : Prop := Claim7.holds Tryd.pinned (.plain (OpenSpec.upto frontierGoesSpec)) frontierGoesUptoCard
end Rows
end Go.Proofs.YtohkfnmggmlogaaDoor
