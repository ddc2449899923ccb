/-
  DERIVED. GIVEN WITH THE SEED: THE CARDS: each row of YtjkolpioglpigaaDoorRows.lean that lists a variable, with what it lists TIED to the program's text (the seventh form; the later family's looks); each row that meets fmt, with fmt's text TOLD by the authors' own Lean function (tested against real Go, not proved from fmt's source: count such statements apart). THE CARD IS WHAT COUNTS. Prove the row's statement (the work); the ties are given (YtjkolpioglpigaaDoorTie.lean); close each card by the builder's one call (the guide's Derived/Test/ToyasCard.lean, 'card_holds'). Laid BY PROGRAM, IN A SANDBOX (cutbox-door.mjs). By AI agents, Wed Nov 11 2026. No macro, syntax, notation, axiom, sorry.
-/
import Derived.Test.YtjkolpioglpigaaDoorRows
import GoSem.ClaimSeven
namespace Go.Proofs.YtjkolpioglpigaaDoor
namespace Rows

/-- THE TIED CARD OF 'assayerlaw04.ChainProofs'. -/
def chainProofsCard : Claim7 := { stood := { row := chainProofsRow, standIns := [], harness := (true, "2a9688db5fa17f04bd4832e2512a3adb3d1ff036bcc5402ef398f8a074dd39b1"), looks := false }, kinds := [], alts := [], laidByText := true, laidKinds := [.data, .data, .data], laidTests := true, laidLooks := .later }
def ChainProofsCardSaid : Prop := Claim7.holds Tryd.pinned (.plain (OpenSpec.ofChange chainProofsSpec)) chainProofsCard

/-- THE TIED CARD OF 'assayerlaw04.ChainVerifies'. -/
def chainVerifiesCard : Claim7 := { stood := { row := chainVerifiesRow, standIns := [], harness := (true, "2a9688db5fa17f04bd4832e2512a3adb3d1ff036bcc5402ef398f8a074dd39b1"), looks := false }, kinds := [], alts := [], laidByText := true, laidKinds := [.data, .data, .data], laidTests := true, laidLooks := .later }
def ChainVerifiesCardSaid : Prop := Claim7.holds Tryd.pinned (.plain (OpenSpec.ofChange chainVerifiesSpec)) chainVerifiesCard

/-- THE TIED CARD OF 'assayerlaw04.ChainGoes'. -/
def chainGoesCard : Claim7 := { stood := { row := chainGoesRow, standIns := [], harness := (true, "2a9688db5fa17f04bd4832e2512a3adb3d1ff036bcc5402ef398f8a074dd39b1"), looks := false }, kinds := [], alts := [], laidByText := true, laidKinds := [.data, .data, .data], laidTests := true, laidLooks := .later }
def ChainGoesCardSaid : Prop := Claim7.holds Tryd.pinned (.plain (OpenSpec.ofChange chainGoesSpec)) chainGoesCard

/-- THE TIED CARD OF 'assayerlaw04.ChainLong'. -/
def chainLongCard : Claim7 := { stood := { row := chainLongRow, standIns := [], harness := (true, "2a9688db5fa17f04bd4832e2512a3adb3d1ff036bcc5402ef398f8a074dd39b1"), looks := false }, kinds := [], alts := [], laidByText := true, laidKinds := [.data, .data, .data], laidTests := true, laidLooks := .later }
def ChainLongCardSaid : Prop := Claim7.holds Tryd.pinned (.plain (OpenSpec.ofChange chainLongSpec)) chainLongCard

/-- THE TIED CARD OF 'assayerlaw04.ChainSame'. -/
def chainSameCard : Claim7 := { stood := { row := chainSameRow, standIns := [], harness := (true, "2a9688db5fa17f04bd4832e2512a3adb3d1ff036bcc5402ef398f8a074dd39b1"), looks := false }, kinds := [], alts := [], laidByText := true, laidKinds := [.data, .data, .data], laidTests := true, laidLooks := .later }
def ChainSameCardSaid : Prop := Claim7.holds Tryd.pinned (.plain (OpenSpec.ofChange chainSameSpec)) chainSameCard

/-- THE TIED CARD OF 'assayerlaw04.ChainSteps'. -/
def chainStepsCard : Claim7 := { stood := { row := chainStepsRow, standIns := [], harness := (true, "2a9688db5fa17f04bd4832e2512a3adb3d1ff036bcc5402ef398f8a074dd39b1"), looks := false }, kinds := [], alts := [], laidByText := true, laidKinds := [.data, .data, .data], laidTests := true, laidLooks := .later }
def ChainStepsCardSaid : Prop := Claim7.holds Tryd.pinned (.plain (OpenSpec.ofChange chainStepsSpec)) chainStepsCard

/-- THE TIED CARD OF 'assayerlaw04.ChainWhole'. -/
def chainWholeCard : Claim7 := { stood := { row := chainWholeRow, standIns := [], harness := (true, "2a9688db5fa17f04bd4832e2512a3adb3d1ff036bcc5402ef398f8a074dd39b1"), looks := false }, kinds := [], alts := [], laidByText := true, laidKinds := [.data, .data, .data], laidTests := true, laidLooks := .later }
def ChainWholeCardSaid : Prop := Claim7.holds Tryd.pinned (.plain (OpenSpec.ofChange chainWholeSpec)) chainWholeCard

/-- THE SECOND FORM's CARD OF 'assayerlaw04.ChainProofs'. -/
def chainProofsUptoCard : Claim7 := { stood := { row := chainProofsUptoRow, standIns := [], harness := (true, "2a9688db5fa17f04bd4832e2512a3adb3d1ff036bcc5402ef398f8a074dd39b1"), looks := false }, kinds := [], alts := [], laidByText := true, laidKinds := [.data, .data, .data], laidTests := true, laidLooks := .later }
def ChainProofsUptoCardSaid : Prop := Claim7.holds Tryd.pinned (.plain (OpenSpec.upto chainProofsSpec)) chainProofsUptoCard

/-- THE SECOND FORM's CARD OF 'assayerlaw04.ChainVerifies'. -/
def chainVerifiesUptoCard : Claim7 := { stood := { row := chainVerifiesUptoRow, standIns := [], harness := (true, "2a9688db5fa17f04bd4832e2512a3adb3d1ff036bcc5402ef398f8a074dd39b1"), looks := false }, kinds := [], alts := [], laidByText := true, laidKinds := [.data, .data, .data], laidTests := true, laidLooks := .later }
def ChainVerifiesUptoCardSaid : Prop := Claim7.holds Tryd.pinned (.plain (OpenSpec.upto chainVerifiesSpec)) chainVerifiesUptoCard

/-- THE SECOND FORM's CARD OF 'assayerlaw04.ChainGoes'. -/
def chainGoesUptoCard : Claim7 := { stood := { row := chainGoesUptoRow, standIns := [], harness := (true, "2a9688db5fa17f04bd4832e2512a3adb3d1ff036bcc5402ef398f8a074dd39b1"), looks := false }, kinds := [], alts := [], laidByText := true, laidKinds := [.data, .data, .data], laidTests := true, laidLooks := .later }
def ChainGoesUptoCardSaid : Prop := Claim7.holds Tryd.pinned (.plain (OpenSpec.upto chainGoesSpec)) chainGoesUptoCard

/-- THE SECOND FORM's CARD OF 'assayerlaw04.ChainLong'. -/
def chainLongUptoCard : Claim7 := { stood := { row := chainLongUptoRow, standIns := [], harness := (true, "2a9688db5fa17f04bd4832e2512a3adb3d1ff036bcc5402ef398f8a074dd39b1"), looks := false }, kinds := [], alts := [], laidByText := true, laidKinds := [.data, .data, .data], laidTests := true, laidLooks := .later }
def ChainLongUptoCardSaid : Prop := Claim7.holds Tryd.pinned (.plain (OpenSpec.upto chainLongSpec)) chainLongUptoCard

/-- THE SECOND FORM's CARD OF 'assayerlaw04.ChainSame'. -/
def chainSameUptoCard : Claim7 := { stood := { row := chainSameUptoRow, standIns := [], harness := (true, "2a9688db5fa17f04bd4832e2512a3adb3d1ff036bcc5402ef398f8a074dd39b1"), looks := false }, kinds := [], alts := [], laidByText := true, laidKinds := [.data, .data, .data], laidTests := true, laidLooks := .later }
def ChainSameUptoCardSaid : Prop := Claim7.holds Tryd.pinned (.plain (OpenSpec.upto chainSameSpec)) chainSameUptoCard

/-- THE SECOND FORM's CARD OF 'assayerlaw04.ChainSteps'. -/
def chainStepsUptoCard : Claim7 := { stood := { row := chainStepsUptoRow, standIns := [], harness := (true, "2a9688db5fa17f04bd4832e2512a3adb3d1ff036bcc5402ef398f8a074dd39b1"), looks := false }, kinds := [], alts := [], laidByText := true, laidKinds := [.data, .data, .data], laidTests := true, laidLooks := .later }
def ChainStepsUptoCardSaid : Prop := Claim7.holds Tryd.pinned (.plain (OpenSpec.upto chainStepsSpec)) chainStepsUptoCard

/-- THE SECOND FORM's CARD OF 'assayerlaw04.ChainWhole'. -/
def chainWholeUptoCard : Claim7 := { stood := { row := chainWholeUptoRow, standIns := [], harness := (true, "2a9688db5fa17f04bd4832e2512a3adb3d1ff036bcc5402ef398f8a074dd39b1"), looks := false }, kinds := [], alts := [], laidByText := true, laidKinds := [.data, .data, .data], laidTests := true, laidLooks := .later }
def ChainWholeUptoCardSaid : Prop := Claim7.holds Tryd.pinned (.plain (OpenSpec.upto chainWholeSpec)) chainWholeUptoCard
end Rows
end Go.Proofs.YtjkolpioglpigaaDoor
