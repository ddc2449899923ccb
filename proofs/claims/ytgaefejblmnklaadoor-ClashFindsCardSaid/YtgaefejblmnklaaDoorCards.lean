/-
  DERIVED. GIVEN WITH THE SEED: THE CARDS: each row of YtgaefejblmnklaaDoorRows.lean that lists a variable, with what it lists TIED to the program's text (the seventh form; the later family's looks); each row that meets fmt, with fmt's text TOLD by the authors' own Lean function (tested against real Go, not proved from fmt's source: count such statements apart). THE CARD IS WHAT COUNTS. Prove the row's statement (the work); the ties are given (YtgaefejblmnklaaDoorTie.lean); close each card by the builder's one call (the guide's Derived/Test/ToyasCard.lean, 'card_holds'). Laid BY PROGRAM, IN A SANDBOX (cutbox-door.mjs). By AI agents, Wed Nov 11 2026. No macro, syntax, notation, axiom, sorry.
-/
import Derived.Test.YtgaefejblmnklaaDoorRows
import GoSem.ClaimSeven
namespace Go.Proofs.YtgaefejblmnklaaDoor
namespace Rows

/-- THE TIED CARD OF 'assayerlaw06.ClashCuts'. -/
def clashCutsCard : Claim7 := { stood := { row := clashCutsRow, standIns := [], harness := (true, "c43bcf0a6d4ab4f1ceff2eb05e64e7eb4ab27e22083d94df2524303613f4f58d"), looks := false }, kinds := [], alts := [], laidByText := true, laidKinds := [.data, .data], laidTests := true, laidLooks := .later }
def ClashCutsCardSaid : Prop := Claim7.holds Tryd.pinned (.plain (OpenSpec.ofChange clashCutsSpec)) clashCutsCard

/-- THE TIED CARD OF 'assayerlaw06.ClashFinds'. -/
def clashFindsCard : Claim7 := { stood := { row := clashFindsRow, standIns := [], harness := (true, "c43bcf0a6d4ab4f1ceff2eb05e64e7eb4ab27e22083d94df2524303613f4f58d"), looks := false }, kinds := [], alts := [], laidByText := true, laidKinds := [.data, .data], laidTests := true, laidLooks := .later }
def ClashFindsCardSaid : Prop := Claim7.holds Tryd.pinned (.plain (OpenSpec.ofChange clashFindsSpec)) clashFindsCard

/-- THE TIED CARD OF 'assayerlaw06.ClashRight'. -/
def clashRightCard : Claim7 := { stood := { row := clashRightRow, standIns := [], harness := (true, "c43bcf0a6d4ab4f1ceff2eb05e64e7eb4ab27e22083d94df2524303613f4f58d"), looks := false }, kinds := [], alts := [], laidByText := true, laidKinds := [.data, .data], laidTests := true, laidLooks := .later }
def ClashRightCardSaid : Prop := Claim7.holds Tryd.pinned (.plain (OpenSpec.ofChange clashRightSpec)) clashRightCard

/-- THE TIED CARD OF 'assayerlaw06.ClashWide'. -/
def clashWideCard : Claim7 := { stood := { row := clashWideRow, standIns := [], harness := (true, "c43bcf0a6d4ab4f1ceff2eb05e64e7eb4ab27e22083d94df2524303613f4f58d"), looks := false }, kinds := [], alts := [], laidByText := true, laidKinds := [.data, .data, .data], laidTests := true, laidLooks := .later }
def ClashWideCardSaid : Prop := Claim7.holds Tryd.pinned (.plain (OpenSpec.ofChange clashWideSpec)) clashWideCard

/-- THE SECOND FORM's CARD OF 'assayerlaw06.ClashCuts'. -/
def clashCutsUptoCard : Claim7 := { stood := { row := clashCutsUptoRow, standIns := [], harness := (true, "c43bcf0a6d4ab4f1ceff2eb05e64e7eb4ab27e22083d94df2524303613f4f58d"), looks := false }, kinds := [], alts := [], laidByText := true, laidKinds := [.data, .data], laidTests := true, laidLooks := .later }
def ClashCutsUptoCardSaid : Prop := Claim7.holds Tryd.pinned (.plain (OpenSpec.upto clashCutsSpec)) clashCutsUptoCard

/-- THE SECOND FORM's CARD OF 'assayerlaw06.ClashFinds'. -/
def clashFindsUptoCard : Claim7 := { stood := { row := clashFindsUptoRow, standIns := [], harness := (true, "c43bcf0a6d4ab4f1ceff2eb05e64e7eb4ab27e22083d94df2524303613f4f58d"), looks := false }, kinds := [], alts := [], laidByText := true, laidKinds := [.data, .data], laidTests := true, laidLooks := .later }
def ClashFindsUptoCardSaid : Prop := Claim7.holds Tryd.pinned (.plain (OpenSpec.upto clashFindsSpec)) clashFindsUptoCard

/-- THE SECOND FORM's CARD OF 'assayerlaw06.ClashRight'. -/
def clashRightUptoCard : Claim7 := { stood := { row := clashRightUptoRow, standIns := [], harness := (true, "c43bcf0a6d4ab4f1ceff2eb05e64e7eb4ab27e22083d94df2524303613f4f58d"), looks := false }, kinds := [], alts := [], laidByText := true, laidKinds := [.data, .data], laidTests := true, laidLooks := .later }
def ClashRightUptoCardSaid : Prop := Claim7.holds Tryd.pinned (.plain (OpenSpec.upto clashRightSpec)) clashRightUptoCard

/-- THE SECOND FORM's CARD OF 'assayerlaw06.ClashWide'. -/
def clashWideUptoCard : Claim7 := { stood := { row := clashWideUptoRow, standIns := [], harness := (true, "c43bcf0a6d4ab4f1ceff2eb05e64e7eb4ab27e22083d94df2524303613f4f58d"), looks := false }, kinds := [], alts := [], laidByText := true, laidKinds := [.data, .data, .data], laidTests := true, laidLooks := .later }
def ClashWideUptoCardSaid : Prop := Claim7.holds Tryd.pinned (.plain (OpenSpec.upto clashWideSpec)) clashWideUptoCard
end Rows
end Go.Proofs.YtgaefejblmnklaaDoor
