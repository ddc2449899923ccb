/-
  DERIVED. GIVEN WITH THE SEED: THE CARDS: each row of YtebabkccpbdphaaDoorRows.lean that lists a variable, with what it lists TIED to the program's text (the seventh form; the later family's looks); each row that meets fmt, with fmt's text TOLD by the authors' own Lean function (tested against real Go, not proved from fmt's source: count such statements apart). THE CARD IS WHAT COUNTS. Prove the row's statement (the work); the ties are given (YtebabkccpbdphaaDoorTie.lean); close each card by the builder's one call (the guide's Derived/Test/ToyasCard.lean, 'card_holds'). Laid BY PROGRAM, IN A SANDBOX (cutbox-door.mjs). By AI agents, Wed Nov 11 2026. No macro, syntax, notation, axiom, sorry.
-/
import Derived.Test.YtebabkccpbdphaaDoorRows
import GoSem.ClaimSeven
namespace Go.Proofs.YtebabkccpbdphaaDoor
namespace Rows

/-- THE TIED CARD OF 'assayerlaw02.ShaRows'. -/
def shaRowsCard : Claim7 := { stood := { row := shaRowsRow, standIns := [], harness := (true, "9967bca81a6efe6da8f9e2a44e8709b4d0fef8c083567b5c2a339ec3d163683e"), looks := false }, kinds := [], alts := [], laidByText := true, laidKinds := [.data, .data], laidTests := true, laidLooks := .later }
def ShaRowsCardSaid : Prop := Claim7.holds Tryd.pinned (.plain (OpenSpec.ofChange shaRowsSpec)) shaRowsCard

/-- THE TIED CARD OF 'assayerlaw02.ShaText'. -/
def shaTextCard : Claim7 := { stood := { row := shaTextRow, standIns := [], harness := (true, "9967bca81a6efe6da8f9e2a44e8709b4d0fef8c083567b5c2a339ec3d163683e"), looks := false }, kinds := [], alts := [], laidByText := true, laidKinds := [.data, .data], laidTests := true, laidLooks := .later }
def ShaTextCardSaid : Prop := Claim7.holds Tryd.pinned (.plain (OpenSpec.ofChange shaTextSpec)) shaTextCard

/-- THE TIED CARD OF 'assayerlaw02.ShaLong'. -/
def shaLongCard : Claim7 := { stood := { row := shaLongRow, standIns := [], harness := (true, "9967bca81a6efe6da8f9e2a44e8709b4d0fef8c083567b5c2a339ec3d163683e"), looks := false }, kinds := [], alts := [], laidByText := true, laidKinds := [.data, .data], laidTests := true, laidLooks := .later }
def ShaLongCardSaid : Prop := Claim7.holds Tryd.pinned (.plain (OpenSpec.ofChange shaLongSpec)) shaLongCard

/-- THE TIED CARD OF 'assayerlaw02.ShaOf'. -/
def shaOfCard : Claim7 := { stood := { row := shaOfRow, standIns := [], harness := (true, "9967bca81a6efe6da8f9e2a44e8709b4d0fef8c083567b5c2a339ec3d163683e"), looks := false }, kinds := [], alts := [], laidByText := true, laidKinds := [.data, .data], laidTests := true, laidLooks := .later }
def ShaOfCardSaid : Prop := Claim7.holds Tryd.pinned (.plain (OpenSpec.ofChange shaOfSpec)) shaOfCard

/-- THE TIED CARD OF 'assayerlaw02.ShaNodes'. -/
def shaNodesCard : Claim7 := { stood := { row := shaNodesRow, standIns := [], harness := (true, "9967bca81a6efe6da8f9e2a44e8709b4d0fef8c083567b5c2a339ec3d163683e"), looks := false }, kinds := [], alts := [], laidByText := true, laidKinds := [.data, .data], laidTests := true, laidLooks := .later }
def ShaNodesCardSaid : Prop := Claim7.holds Tryd.pinned (.plain (OpenSpec.ofChange shaNodesSpec)) shaNodesCard

/-- THE SECOND FORM's CARD OF 'assayerlaw02.ShaRows'. -/
def shaRowsUptoCard : Claim7 := { stood := { row := shaRowsUptoRow, standIns := [], harness := (true, "9967bca81a6efe6da8f9e2a44e8709b4d0fef8c083567b5c2a339ec3d163683e"), looks := false }, kinds := [], alts := [], laidByText := true, laidKinds := [.data, .data], laidTests := true, laidLooks := .later }
def ShaRowsUptoCardSaid : Prop := Claim7.holds Tryd.pinned (.plain (OpenSpec.upto shaRowsSpec)) shaRowsUptoCard

/-- THE SECOND FORM's CARD OF 'assayerlaw02.ShaText'. -/
def shaTextUptoCard : Claim7 := { stood := { row := shaTextUptoRow, standIns := [], harness := (true, "9967bca81a6efe6da8f9e2a44e8709b4d0fef8c083567b5c2a339ec3d163683e"), looks := false }, kinds := [], alts := [], laidByText := true, laidKinds := [.data, .data], laidTests := true, laidLooks := .later }
def ShaTextUptoCardSaid : Prop := Claim7.holds Tryd.pinned (.plain (OpenSpec.upto shaTextSpec)) shaTextUptoCard

/-- THE SECOND FORM's CARD OF 'assayerlaw02.ShaLong'. -/
def shaLongUptoCard : Claim7 := { stood := { row := shaLongUptoRow, standIns := [], harness := (true, "9967bca81a6efe6da8f9e2a44e8709b4d0fef8c083567b5c2a339ec3d163683e"), looks := false }, kinds := [], alts := [], laidByText := true, laidKinds := [.data, .data], laidTests := true, laidLooks := .later }
def ShaLongUptoCardSaid : Prop := Claim7.holds Tryd.pinned (.plain (OpenSpec.upto shaLongSpec)) shaLongUptoCard

/-- THE SECOND FORM's CARD OF 'assayerlaw02.ShaOf'. -/
def shaOfUptoCard : Claim7 := { stood := { row := shaOfUptoRow, standIns := [], harness := (true, "9967bca81a6efe6da8f9e2a44e8709b4d0fef8c083567b5c2a339ec3d163683e"), looks := false }, kinds := [], alts := [], laidByText := true, laidKinds := [.data, .data], laidTests := true, laidLooks := .later }
def ShaOfUptoCardSaid : Prop := Claim7.holds Tryd.pinned (.plain (OpenSpec.upto shaOfSpec)) shaOfUptoCard

/-- THE SECOND FORM's CARD OF 'assayerlaw02.ShaNodes'. -/
def shaNodesUptoCard : Claim7 := { stood := { row := shaNodesUptoRow, standIns := [], harness := (true, "9967bca81a6efe6da8f9e2a44e8709b4d0fef8c083567b5c2a339ec3d163683e"), looks := false }, kinds := [], alts := [], laidByText := true, laidKinds := [.data, .data], laidTests := true, laidLooks := .later }
def ShaNodesUptoCardSaid : Prop := Claim7.holds Tryd.pinned (.plain (OpenSpec.upto shaNodesSpec)) shaNodesUptoCard
end Rows
end Go.Proofs.YtebabkccpbdphaaDoor
