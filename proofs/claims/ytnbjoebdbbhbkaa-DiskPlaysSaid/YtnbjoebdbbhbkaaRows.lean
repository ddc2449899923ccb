/-
  No cell of these rows narrows 'for every input' (looked for: loops, veiled, ifaces, maps, wideKeys, modest, calm, conditions, laid).
  DERIVED. THE GIVEN ROWS OF THIS SEAT. 6 by the template 'for every input the law returns true; each argument reads behind the call as it read before'; 0 by the template 'total and deterministic' (their statements: YtnbjoebdbbhbkaaTotals.lean).
  GIVEN WITH THE SEED: the statements are not yours to turn. If you find one false, say at which input.
  Laid BY PROGRAM, IN A SANDBOX (cutbox-rows.mjs): the forced cells as the released guide's own fill.sh prints them over the translation 6eb146211310b61a… (all of the seat's roots in one cut). By AI agents, Wed Nov 11 2026. No macro, syntax, notation, axiom, sorry.
-/
import Derived.Test.YtnbjoebdbbhbkaaChecked
import GoSem.Claim
import GoSem.ClaimJoined
import GoSem.ClaimMapViews
import Derived.JoinedTies
import Derived.KernelRfl
namespace Go.Proofs.Ytnbjoebdbbhbkaa
/- THE CELL 'sum', in the pinned program and in every row, IS THE sha256 OF THE DUMP (.gsa) THAT YtnbjoebdbbhbkaaProg.lean LOADS. Nothing in Lean hashes anything: it is a label: what it is worth is what the hold of that sum in a sandbox is worth. -/
noncomputable def Try.pinned : Pinned := { name := "ytnbjoebdbbhbkaa", sum := "6eb146211310b61ada47c06d5aa2918e22b303ec7c08dcb423d524a070faa584", checked := Try.checked }
namespace Rows
def none {H : Type} : Left H := { results := [], args := [] }

/-- 'assayerlaw11.DiskTwice': WHATEVER THE INPUT: true; the input reads as it did. -/
def diskTwiceSpec : ChangeSpec := { name := "diskTwice", fn := fun _ => fun
  | [d1, d2, d3] => { results := [.lit (.bool true)], args := [d1, d2, d3] }
  | _ => none }
def diskTwiceRow : OpenClaim := { program := "ytnbjoebdbbhbkaa", sum := "6eb146211310b61ada47c06d5aa2918e22b303ec7c08dcb423d524a070faa584", func := "assayer/assayerlaw11.DiskTwice", spec := "diskTwice", apart := false }
def DiskTwiceSaid : Prop := diskTwiceRow.holds Try.pinned (OpenSpec.ofChange diskTwiceSpec)

/-- ITS FALSE NEIGHBOUR: 'it returns false'. Refute it at one input. -/
def diskTwiceWrong : ChangeSpec := { name := "diskTwice", fn := fun _ => fun
  | [d1, d2, d3] => { results := [.lit (.bool false)], args := [d1, d2, d3] }
  | _ => none }
def DiskTwiceWrongFalsely : Prop := diskTwiceRow.holds Try.pinned (OpenSpec.ofChange diskTwiceWrong)

/-- 'assayerlaw11.DiskRange': WHATEVER THE INPUT: true; the input reads as it did. -/
def diskRangeSpec : ChangeSpec := { name := "diskRange", fn := fun _ => fun
  | [d1, d2, d3] => { results := [.lit (.bool true)], args := [d1, d2, d3] }
  | _ => none }
def diskRangeRow : OpenClaim := { program := "ytnbjoebdbbhbkaa", sum := "6eb146211310b61ada47c06d5aa2918e22b303ec7c08dcb423d524a070faa584", func := "assayer/assayerlaw11.DiskRange", spec := "diskRange", apart := false }
def DiskRangeSaid : Prop := diskRangeRow.holds Try.pinned (OpenSpec.ofChange diskRangeSpec)

/-- ITS FALSE NEIGHBOUR: 'it returns false'. Refute it at one input. -/
def diskRangeWrong : ChangeSpec := { name := "diskRange", fn := fun _ => fun
  | [d1, d2, d3] => { results := [.lit (.bool false)], args := [d1, d2, d3] }
  | _ => none }
def DiskRangeWrongFalsely : Prop := diskRangeRow.holds Try.pinned (OpenSpec.ofChange diskRangeWrong)

/-- 'assayerlaw11.DiskReads': WHATEVER THE INPUT: true; the input reads as it did. -/
def diskReadsSpec : ChangeSpec := { name := "diskReads", fn := fun _ => fun
  | [d1, d2] => { results := [.lit (.bool true)], args := [d1, d2] }
  | _ => none }
def diskReadsRow : OpenClaim := { program := "ytnbjoebdbbhbkaa", sum := "6eb146211310b61ada47c06d5aa2918e22b303ec7c08dcb423d524a070faa584", func := "assayer/assayerlaw11.DiskReads", spec := "diskReads", apart := false }
def DiskReadsSaid : Prop := diskReadsRow.holds Try.pinned (OpenSpec.ofChange diskReadsSpec)

/-- ITS FALSE NEIGHBOUR: 'it returns false'. Refute it at one input. -/
def diskReadsWrong : ChangeSpec := { name := "diskReads", fn := fun _ => fun
  | [d1, d2] => { results := [.lit (.bool false)], args := [d1, d2] }
  | _ => none }
def DiskReadsWrongFalsely : Prop := diskReadsRow.holds Try.pinned (OpenSpec.ofChange diskReadsWrong)

/-- 'assayerlaw11.DiskFronts': WHATEVER THE INPUT: true; the input reads as it did. -/
def diskFrontsSpec : ChangeSpec := { name := "diskFronts", fn := fun _ => fun
  | [d1, d2, d3] => { results := [.lit (.bool true)], args := [d1, d2, d3] }
  | _ => none }
def diskFrontsRow : OpenClaim := { program := "ytnbjoebdbbhbkaa", sum := "6eb146211310b61ada47c06d5aa2918e22b303ec7c08dcb423d524a070faa584", func := "assayer/assayerlaw11.DiskFronts", spec := "diskFronts", apart := false }
def DiskFrontsSaid : Prop := diskFrontsRow.holds Try.pinned (OpenSpec.ofChange diskFrontsSpec)

/-- ITS FALSE NEIGHBOUR: 'it returns false'. Refute it at one input. -/
def diskFrontsWrong : ChangeSpec := { name := "diskFronts", fn := fun _ => fun
  | [d1, d2, d3] => { results := [.lit (.bool false)], args := [d1, d2, d3] }
  | _ => none }
def DiskFrontsWrongFalsely : Prop := diskFrontsRow.holds Try.pinned (OpenSpec.ofChange diskFrontsWrong)

/-- 'assayerlaw11.DiskFails': WHATEVER THE INPUT: true; the input reads as it did. -/
def diskFailsSpec : ChangeSpec := { name := "diskFails", fn := fun _ => fun
  | [d1, d2] => { results := [.lit (.bool true)], args := [d1, d2] }
  | _ => none }
def diskFailsRow : OpenClaim := { program := "ytnbjoebdbbhbkaa", sum := "6eb146211310b61ada47c06d5aa2918e22b303ec7c08dcb423d524a070faa584", func := "assayer/assayerlaw11.DiskFails", spec := "diskFails", apart := false }
def DiskFailsSaid : Prop := diskFailsRow.holds Try.pinned (OpenSpec.ofChange diskFailsSpec)

/-- ITS FALSE NEIGHBOUR: 'it returns false'. Refute it at one input. -/
def diskFailsWrong : ChangeSpec := { name := "diskFails", fn := fun _ => fun
  | [d1, d2] => { results := [.lit (.bool false)], args := [d1, d2] }
  | _ => none }
def DiskFailsWrongFalsely : Prop := diskFailsRow.holds Try.pinned (OpenSpec.ofChange diskFailsWrong)

/-- 'assayerlaw11.DiskPlays': WHATEVER THE INPUT: true; the input reads as it did. -/
def diskPlaysSpec : ChangeSpec := { name := "diskPlays", fn := fun _ => fun
  | [d1, d2] => { results := [.lit (.bool true)], args := [d1, d2] }
  | _ => none }
def diskPlaysRow : OpenClaim := { program := "ytnbjoebdbbhbkaa", sum := "6eb146211310b61ada47c06d5aa2918e22b303ec7c08dcb423d524a070faa584", func := "assayer/assayerlaw11.DiskPlays", spec := "diskPlays", apart := false }
def DiskPlaysSaid : Prop := diskPlaysRow.holds Try.pinned (OpenSpec.ofChange diskPlaysSpec)

/-- ITS FALSE NEIGHBOUR: 'it returns false'. Refute it at one input. -/
def diskPlaysWrong : ChangeSpec := { name := "diskPlays", fn := fun _ => fun
  | [d1, d2] => { results := [.lit (.bool false)], args := [d1, d2] }
  | _ => none }
def DiskPlaysWrongFalsely : Prop := diskPlaysRow.holds Try.pinned (OpenSpec.ofChange diskPlaysWrong)

/- THE SECOND FORM. 'bulk': how many values and letters a reading holds, each counted each time it is reached (what is shared counts as often as it is met; a slice's spare places count too). A statement '..UptoSaid' is the law's where the arguments, and the package variables that the reading takes, are together of bulk at most 1048576: NARROWER than '..Said'. Prove '..Said' where nothing that the law and all that it calls make is longer than what came in: it says more and counts as full. Else prove '..UptoSaid'. A law counts once. -/
mutual
def uptoBulk {H : Type} : DataW H → Nat
  | .lit (.string bytes) => bytes.length + 1
  | .lit _ => 1
  | .nil => 1
  | .ptr d => uptoBulk d + 1
  | .slice elems spare => uptoBulkAll elems + uptoBulkAll spare + 1
  | .agg parts => uptoBulkAll parts + 1
  | .iface _ d => uptoBulk d + 1
  | .map entries => uptoBulkEntries entries + 1
  | .held _ => 1
def uptoBulkAll {H : Type} : List (DataW H) → Nat
  | [] => 0
  | d :: r => uptoBulk d + uptoBulkAll r
def uptoBulkEntries {H : Type} : List (Lit × DataW H) → Nat
  | [] => 0
  | x :: r => uptoBulkEntry x + uptoBulkEntries r
def uptoBulkEntry {H : Type} : Lit × DataW H → Nat
  | (.string bytes, d) => bytes.length + uptoBulk d + 1
  | (_, d) => uptoBulk d + 1
 end
def uptoSmall : (H : Type) → List (DataW H) → Bool := fun _ ds => decide (uptoBulkAll ds ≤ 1048576)
def OpenSpec.upto (s : _root_.Go.ChangeSpec) : _root_.Go.OpenSpec := { _root_.Go.OpenSpec.ofChange s with cond := some uptoSmall }

/-- 'assayerlaw11.DiskTwice', WHERE WHAT IT READS IS OF BULK AT MOST 1048576: true; the input reads as it did. -/
def diskTwiceUptoRow : OpenClaim := { program := "ytnbjoebdbbhbkaa", sum := "6eb146211310b61ada47c06d5aa2918e22b303ec7c08dcb423d524a070faa584", func := "assayer/assayerlaw11.DiskTwice", spec := "diskTwice", apart := false, narrowed := true }
def DiskTwiceUptoSaid : Prop := diskTwiceUptoRow.holds Try.pinned (OpenSpec.upto diskTwiceSpec)

/-- 'assayerlaw11.DiskRange', WHERE WHAT IT READS IS OF BULK AT MOST 1048576: true; the input reads as it did. -/
def diskRangeUptoRow : OpenClaim := { program := "ytnbjoebdbbhbkaa", sum := "6eb146211310b61ada47c06d5aa2918e22b303ec7c08dcb423d524a070faa584", func := "assayer/assayerlaw11.DiskRange", spec := "diskRange", apart := false, narrowed := true }
def DiskRangeUptoSaid : Prop := diskRangeUptoRow.holds Try.pinned (OpenSpec.upto diskRangeSpec)

/-- 'assayerlaw11.DiskReads', WHERE WHAT IT READS IS OF BULK AT MOST 1048576: true; the input reads as it did. -/
def diskReadsUptoRow : OpenClaim := { program := "ytnbjoebdbbhbkaa", sum := "6eb146211310b61ada47c06d5aa2918e22b303ec7c08dcb423d524a070faa584", func := "assayer/assayerlaw11.DiskReads", spec := "diskReads", apart := false, narrowed := true }
def DiskReadsUptoSaid : Prop := diskReadsUptoRow.holds Try.pinned (OpenSpec.upto diskReadsSpec)

/-- 'assayerlaw11.DiskFronts', WHERE WHAT IT READS IS OF BULK AT MOST 1048576: true; the input reads as it did. -/
def diskFrontsUptoRow : OpenClaim := { program := "ytnbjoebdbbhbkaa", sum := "6eb146211310b61ada47c06d5aa2918e22b303ec7c08dcb423d524a070faa584", func := "assayer/assayerlaw11.DiskFronts", spec := "diskFronts", apart := false, narrowed := true }
def DiskFrontsUptoSaid : Prop := diskFrontsUptoRow.holds Try.pinned (OpenSpec.upto diskFrontsSpec)

/-- 'assayerlaw11.DiskFails', WHERE WHAT IT READS IS OF BULK AT MOST 1048576: true; the input reads as it did. -/
def diskFailsUptoRow : OpenClaim := { program := "ytnbjoebdbbhbkaa", sum := "6eb146211310b61ada47c06d5aa2918e22b303ec7c08dcb423d524a070faa584", func := "assayer/assayerlaw11.DiskFails", spec := "diskFails", apart := false, narrowed := true }
def DiskFailsUptoSaid : Prop := diskFailsUptoRow.holds Try.pinned (OpenSpec.upto diskFailsSpec)

/-- 'assayerlaw11.DiskPlays', WHERE WHAT IT READS IS OF BULK AT MOST 1048576: true; the input reads as it did. -/
def diskPlaysUptoRow : OpenClaim := { program := "ytnbjoebdbbhbkaa", sum := "6eb146211310b61ada47c06d5aa2918e22b303ec7c08dcb423d524a070faa584", func := "assayer/assayerlaw11.DiskPlays", spec := "diskPlays", apart := false, narrowed := true }
def DiskPlaysUptoSaid : Prop := diskPlaysUptoRow.holds Try.pinned (OpenSpec.upto diskPlaysSpec)

end Rows
end Go.Proofs.Ytnbjoebdbbhbkaa
