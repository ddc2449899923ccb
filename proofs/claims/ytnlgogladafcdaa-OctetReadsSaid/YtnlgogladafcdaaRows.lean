/-
  No cell of these rows narrows 'for every input' (looked for: loops, veiled, ifaces, maps, wideKeys, modest, calm, conditions, laid).
  DERIVED. THE GIVEN ROWS OF THIS SEAT. 8 by the template 'for every input the law returns true; each argument reads behind the call as it read before'; 0 by the template 'total and deterministic' (their statements: YtnlgogladafcdaaTotals.lean).
  GIVEN WITH THE SEED: the statements are not yours to turn. If you find one false, say at which input.
  Laid BY PROGRAM, IN A SANDBOX (cutbox-rows.mjs): the forced cells as the released guide's own fill.sh prints them over the translation 5f1ec0dae8f5ec22… (all of the seat's roots in one cut). By AI agents, Wed Nov 11 2026. No macro, syntax, notation, axiom, sorry.
-/
import Derived.Test.YtnlgogladafcdaaChecked
import GoSem.Claim
import GoSem.ClaimJoined
import GoSem.ClaimMapViews
import Derived.JoinedTies
import Derived.KernelRfl
namespace Go.Proofs.Ytnlgogladafcdaa
/- THE CELL 'sum', in the pinned program and in every row, IS THE sha256 OF THE DUMP (.gsa) THAT YtnlgogladafcdaaProg.lean LOADS. Nothing in Lean hashes anything: it is a label: what it is worth is what the hold of that sum in a sandbox is worth. -/
noncomputable def Try.pinned : Pinned := { name := "ytnlgogladafcdaa", sum := "5f1ec0dae8f5ec22bd39f8a4d72c5e02a03b4a9bf5b37b4549a7033b11ea336b", checked := Try.checked }
namespace Rows
def none {H : Type} : Left H := { results := [], args := [] }

/-- 'assayerlaw01.OctetPuts': WHATEVER THE INPUT: true; the input reads as it did. -/
def octetPutsSpec : ChangeSpec := { name := "octetPuts", fn := fun _ => fun
  | [d1, d2, d3, d4] => { results := [.lit (.bool true)], args := [d1, d2, d3, d4] }
  | _ => none }
def octetPutsRow : OpenClaim := { program := "ytnlgogladafcdaa", sum := "5f1ec0dae8f5ec22bd39f8a4d72c5e02a03b4a9bf5b37b4549a7033b11ea336b", func := "assayer/assayerlaw01.OctetPuts", spec := "octetPuts", apart := false }
def OctetPutsSaid : Prop := octetPutsRow.holds Try.pinned (OpenSpec.ofChange octetPutsSpec)

/-- ITS FALSE NEIGHBOUR: 'it returns false'. Refute it at one input. -/
def octetPutsWrong : ChangeSpec := { name := "octetPuts", fn := fun _ => fun
  | [d1, d2, d3, d4] => { results := [.lit (.bool false)], args := [d1, d2, d3, d4] }
  | _ => none }
def OctetPutsWrongFalsely : Prop := octetPutsRow.holds Try.pinned (OpenSpec.ofChange octetPutsWrong)

/-- 'assayerlaw01.OctetReads': WHATEVER THE INPUT: true; the input reads as it did. -/
def octetReadsSpec : ChangeSpec := { name := "octetReads", fn := fun _ => fun
  | [d1, d2] => { results := [.lit (.bool true)], args := [d1, d2] }
  | _ => none }
def octetReadsRow : OpenClaim := { program := "ytnlgogladafcdaa", sum := "5f1ec0dae8f5ec22bd39f8a4d72c5e02a03b4a9bf5b37b4549a7033b11ea336b", func := "assayer/assayerlaw01.OctetReads", spec := "octetReads", apart := false }
def OctetReadsSaid : Prop := octetReadsRow.holds Try.pinned (OpenSpec.ofChange octetReadsSpec)

/-- ITS FALSE NEIGHBOUR: 'it returns false'. Refute it at one input. -/
def octetReadsWrong : ChangeSpec := { name := "octetReads", fn := fun _ => fun
  | [d1, d2] => { results := [.lit (.bool false)], args := [d1, d2] }
  | _ => none }
def OctetReadsWrongFalsely : Prop := octetReadsRow.holds Try.pinned (OpenSpec.ofChange octetReadsWrong)

/-- 'assayerlaw01.OctetBack': WHATEVER THE INPUT: true; the input reads as it did. -/
def octetBackSpec : ChangeSpec := { name := "octetBack", fn := fun _ => fun
  | [d1, d2, d3] => { results := [.lit (.bool true)], args := [d1, d2, d3] }
  | _ => none }
def octetBackRow : OpenClaim := { program := "ytnlgogladafcdaa", sum := "5f1ec0dae8f5ec22bd39f8a4d72c5e02a03b4a9bf5b37b4549a7033b11ea336b", func := "assayer/assayerlaw01.OctetBack", spec := "octetBack", apart := false }
def OctetBackSaid : Prop := octetBackRow.holds Try.pinned (OpenSpec.ofChange octetBackSpec)

/-- ITS FALSE NEIGHBOUR: 'it returns false'. Refute it at one input. -/
def octetBackWrong : ChangeSpec := { name := "octetBack", fn := fun _ => fun
  | [d1, d2, d3] => { results := [.lit (.bool false)], args := [d1, d2, d3] }
  | _ => none }
def OctetBackWrongFalsely : Prop := octetBackRow.holds Try.pinned (OpenSpec.ofChange octetBackWrong)

/-- 'assayerlaw01.OctetStays': WHATEVER THE INPUT: true; the input reads as it did. -/
def octetStaysSpec : ChangeSpec := { name := "octetStays", fn := fun _ => fun
  | [d1, d2] => { results := [.lit (.bool true)], args := [d1, d2] }
  | _ => none }
def octetStaysRow : OpenClaim := { program := "ytnlgogladafcdaa", sum := "5f1ec0dae8f5ec22bd39f8a4d72c5e02a03b4a9bf5b37b4549a7033b11ea336b", func := "assayer/assayerlaw01.OctetStays", spec := "octetStays", apart := false }
def OctetStaysSaid : Prop := octetStaysRow.holds Try.pinned (OpenSpec.ofChange octetStaysSpec)

/-- ITS FALSE NEIGHBOUR: 'it returns false'. Refute it at one input. -/
def octetStaysWrong : ChangeSpec := { name := "octetStays", fn := fun _ => fun
  | [d1, d2] => { results := [.lit (.bool false)], args := [d1, d2] }
  | _ => none }
def OctetStaysWrongFalsely : Prop := octetStaysRow.holds Try.pinned (OpenSpec.ofChange octetStaysWrong)

/-- 'assayerlaw01.OctetSizes': WHATEVER THE INPUT: true; the input reads as it did. -/
def octetSizesSpec : ChangeSpec := { name := "octetSizes", fn := fun _ => fun
  | [d1, d2] => { results := [.lit (.bool true)], args := [d1, d2] }
  | _ => none }
def octetSizesRow : OpenClaim := { program := "ytnlgogladafcdaa", sum := "5f1ec0dae8f5ec22bd39f8a4d72c5e02a03b4a9bf5b37b4549a7033b11ea336b", func := "assayer/assayerlaw01.OctetSizes", spec := "octetSizes", apart := false }
def OctetSizesSaid : Prop := octetSizesRow.holds Try.pinned (OpenSpec.ofChange octetSizesSpec)

/-- ITS FALSE NEIGHBOUR: 'it returns false'. Refute it at one input. -/
def octetSizesWrong : ChangeSpec := { name := "octetSizes", fn := fun _ => fun
  | [d1, d2] => { results := [.lit (.bool false)], args := [d1, d2] }
  | _ => none }
def OctetSizesWrongFalsely : Prop := octetSizesRow.holds Try.pinned (OpenSpec.ofChange octetSizesWrong)

/-- 'assayerlaw01.OctetBig': WHATEVER THE INPUT: true; the input reads as it did. -/
def octetBigSpec : ChangeSpec := { name := "octetBig", fn := fun _ => fun
  | [d1, d2] => { results := [.lit (.bool true)], args := [d1, d2] }
  | _ => none }
def octetBigRow : OpenClaim := { program := "ytnlgogladafcdaa", sum := "5f1ec0dae8f5ec22bd39f8a4d72c5e02a03b4a9bf5b37b4549a7033b11ea336b", func := "assayer/assayerlaw01.OctetBig", spec := "octetBig", apart := false }
def OctetBigSaid : Prop := octetBigRow.holds Try.pinned (OpenSpec.ofChange octetBigSpec)

/-- ITS FALSE NEIGHBOUR: 'it returns false'. Refute it at one input. -/
def octetBigWrong : ChangeSpec := { name := "octetBig", fn := fun _ => fun
  | [d1, d2] => { results := [.lit (.bool false)], args := [d1, d2] }
  | _ => none }
def OctetBigWrongFalsely : Prop := octetBigRow.holds Try.pinned (OpenSpec.ofChange octetBigWrong)

/-- 'assayerlaw01.OctetOwn': WHATEVER THE INPUT: true; the input reads as it did. -/
def octetOwnSpec : ChangeSpec := { name := "octetOwn", fn := fun _ => fun
  | [d1, d2] => { results := [.lit (.bool true)], args := [d1, d2] }
  | _ => none }
def octetOwnRow : OpenClaim := { program := "ytnlgogladafcdaa", sum := "5f1ec0dae8f5ec22bd39f8a4d72c5e02a03b4a9bf5b37b4549a7033b11ea336b", func := "assayer/assayerlaw01.OctetOwn", spec := "octetOwn", apart := false }
def OctetOwnSaid : Prop := octetOwnRow.holds Try.pinned (OpenSpec.ofChange octetOwnSpec)

/-- ITS FALSE NEIGHBOUR: 'it returns false'. Refute it at one input. -/
def octetOwnWrong : ChangeSpec := { name := "octetOwn", fn := fun _ => fun
  | [d1, d2] => { results := [.lit (.bool false)], args := [d1, d2] }
  | _ => none }
def OctetOwnWrongFalsely : Prop := octetOwnRow.holds Try.pinned (OpenSpec.ofChange octetOwnWrong)

/-- 'assayerlaw01.OctetHash': WHATEVER THE INPUT: true; the input reads as it did. -/
def octetHashSpec : ChangeSpec := { name := "octetHash", fn := fun _ => fun
  | [d1, d2] => { results := [.lit (.bool true)], args := [d1, d2] }
  | _ => none }
def octetHashRow : OpenClaim := { program := "ytnlgogladafcdaa", sum := "5f1ec0dae8f5ec22bd39f8a4d72c5e02a03b4a9bf5b37b4549a7033b11ea336b", func := "assayer/assayerlaw01.OctetHash", spec := "octetHash", apart := false }
def OctetHashSaid : Prop := octetHashRow.holds Try.pinned (OpenSpec.ofChange octetHashSpec)

/-- ITS FALSE NEIGHBOUR: 'it returns false'. Refute it at one input. -/
def octetHashWrong : ChangeSpec := { name := "octetHash", fn := fun _ => fun
  | [d1, d2] => { results := [.lit (.bool false)], args := [d1, d2] }
  | _ => none }
def OctetHashWrongFalsely : Prop := octetHashRow.holds Try.pinned (OpenSpec.ofChange octetHashWrong)

/- THE SECOND FORM. 'bulk': how many values and letters a reading holds, each counted each time it is reached (what is shared counts as often as it is met; a slice's spare places count too). A statement '..UptoSaid' is the law's where the arguments, and the package variables that the reading takes, are together of bulk at most 1048576: NARROWER than '..Said'. Prove '..Said' where nothing that the law and all that it calls make is longer than what came in: it says more and counts as full. Else prove '..UptoSaid'. A law counts once. -/
mutual
def uptoBulk {H : Type} : DataW H → Nat
  | .lit (.string bytes) => bytes.length + 1
  | .lit _ => 1
  | .nil => 1
  | .ptr d => uptoBulk d + 1
  | .slice elems spare => uptoBulkAll elems + uptoBulkAll spare + 1
  | .agg parts => uptoBulkAll parts + 1
  | .iface _ d => uptoBulk d + 1
  | .map entries => uptoBulkEntries entries + 1
  | .held _ => 1
def uptoBulkAll {H : Type} : List (DataW H) → Nat
  | [] => 0
  | d :: r => uptoBulk d + uptoBulkAll r
def uptoBulkEntries {H : Type} : List (Lit × DataW H) → Nat
  | [] => 0
  | x :: r => uptoBulkEntry x + uptoBulkEntries r
def uptoBulkEntry {H : Type} : Lit × DataW H → Nat
  | (.string bytes, d) => bytes.length + uptoBulk d + 1
  | (_, d) => uptoBulk d + 1
 end
def uptoSmall : (H : Type) → List (DataW H) → Bool := fun _ ds => decide (uptoBulkAll ds ≤ 1048576)
def OpenSpec.upto (s : _root_.Go.ChangeSpec) : _root_.Go.OpenSpec := { _root_.Go.OpenSpec.ofChange s with cond := some uptoSmall }

/-- 'assayerlaw01.OctetPuts', WHERE WHAT IT READS IS OF BULK AT MOST 1048576: true; the input reads as it did. -/
def octetPutsUptoRow : OpenClaim := { program := "ytnlgogladafcdaa", sum := "5f1ec0dae8f5ec22bd39f8a4d72c5e02a03b4a9bf5b37b4549a7033b11ea336b", func := "assayer/assayerlaw01.OctetPuts", spec := "octetPuts", apart := false, narrowed := true }
def OctetPutsUptoSaid : Prop := octetPutsUptoRow.holds Try.pinned (OpenSpec.upto octetPutsSpec)

/-- 'assayerlaw01.OctetReads', WHERE WHAT IT READS IS OF BULK AT MOST 1048576: true; the input reads as it did. -/
def octetReadsUptoRow : OpenClaim := { program := "ytnlgogladafcdaa", sum := "5f1ec0dae8f5ec22bd39f8a4d72c5e02a03b4a9bf5b37b4549a7033b11ea336b", func := "assayer/assayerlaw01.OctetReads", spec := "octetReads", apart := false, narrowed := true }
def OctetReadsUptoSaid : Prop := octetReadsUptoRow.holds Try.pinned (OpenSpec.upto octetReadsSpec)

/-- 'assayerlaw01.OctetBack', WHERE WHAT IT READS IS OF BULK AT MOST 1048576: true; the input reads as it did. -/
def octetBackUptoRow : OpenClaim := { program := "ytnlgogladafcdaa", sum := "5f1ec0dae8f5ec22bd39f8a4d72c5e02a03b4a9bf5b37b4549a7033b11ea336b", func := "assayer/assayerlaw01.OctetBack", spec := "octetBack", apart := false, narrowed := true }
def OctetBackUptoSaid : Prop := octetBackUptoRow.holds Try.pinned (OpenSpec.upto octetBackSpec)

/-- 'assayerlaw01.OctetStays', WHERE WHAT IT READS IS OF BULK AT MOST 1048576: true; the input reads as it did. -/
def octetStaysUptoRow : OpenClaim := { program := "ytnlgogladafcdaa", sum := "5f1ec0dae8f5ec22bd39f8a4d72c5e02a03b4a9bf5b37b4549a7033b11ea336b", func := "assayer/assayerlaw01.OctetStays", spec := "octetStays", apart := false, narrowed := true }
def OctetStaysUptoSaid : Prop := octetStaysUptoRow.holds Try.pinned (OpenSpec.upto octetStaysSpec)

/-- 'assayerlaw01.OctetSizes', WHERE WHAT IT READS IS OF BULK AT MOST 1048576: true; the input reads as it did. -/
def octetSizesUptoRow : OpenClaim := { program := "ytnlgogladafcdaa", sum := "5f1ec0dae8f5ec22bd39f8a4d72c5e02a03b4a9bf5b37b4549a7033b11ea336b", func := "assayer/assayerlaw01.OctetSizes", spec := "octetSizes", apart := false, narrowed := true }
def OctetSizesUptoSaid : Prop := octetSizesUptoRow.holds Try.pinned (OpenSpec.upto octetSizesSpec)

/-- 'assayerlaw01.OctetBig', WHERE WHAT IT READS IS OF BULK AT MOST 1048576: true; the input reads as it did. -/
def octetBigUptoRow : OpenClaim := { program := "ytnlgogladafcdaa", sum := "5f1ec0dae8f5ec22bd39f8a4d72c5e02a03b4a9bf5b37b4549a7033b11ea336b", func := "assayer/assayerlaw01.OctetBig", spec := "octetBig", apart := false, narrowed := true }
def OctetBigUptoSaid : Prop := octetBigUptoRow.holds Try.pinned (OpenSpec.upto octetBigSpec)

/-- 'assayerlaw01.OctetOwn', WHERE WHAT IT READS IS OF BULK AT MOST 1048576: true; the input reads as it did. -/
def octetOwnUptoRow : OpenClaim := { program := "ytnlgogladafcdaa", sum := "5f1ec0dae8f5ec22bd39f8a4d72c5e02a03b4a9bf5b37b4549a7033b11ea336b", func := "assayer/assayerlaw01.OctetOwn", spec := "octetOwn", apart := false, narrowed := true }
def OctetOwnUptoSaid : Prop := octetOwnUptoRow.holds Try.pinned (OpenSpec.upto octetOwnSpec)

/-- 'assayerlaw01.OctetHash', WHERE WHAT IT READS IS OF BULK AT MOST 1048576: true; the input reads as it did. -/
def octetHashUptoRow : OpenClaim := { program := "ytnlgogladafcdaa", sum := "5f1ec0dae8f5ec22bd39f8a4d72c5e02a03b4a9bf5b37b4549a7033b11ea336b", func := "assayer/assayerlaw01.OctetHash", spec := "octetHash", apart := false, narrowed := true }
def OctetHashUptoSaid : Prop := octetHashUptoRow.holds Try.pinned (OpenSpec.upto octetHashSpec)

end Rows
end Go.Proofs.Ytnlgogladafcdaa
