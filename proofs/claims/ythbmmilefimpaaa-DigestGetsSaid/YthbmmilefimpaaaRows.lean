/-
  No cell of these rows narrows 'for every input' (looked for: loops, veiled, ifaces, maps, wideKeys, modest, calm, conditions, laid).
  DERIVED. THE GIVEN ROWS OF THIS SEAT. 6 by the template 'for every input the law returns true; each argument reads behind the call as it read before'; 0 by the template 'total and deterministic' (their statements: YthbmmilefimpaaaTotals.lean).
  GIVEN WITH THE SEED: the statements are not yours to turn. If you find one false, say at which input.
  Laid BY PROGRAM, IN A SANDBOX (cutbox-rows.mjs): the forced cells as the released guide's own fill.sh prints them over the translation 6feade9435f6e9e0… (all of the seat's roots in one cut). By AI agents, Wed Nov 11 2026. No macro, syntax, notation, axiom, sorry.
-/
import Derived.Test.YthbmmilefimpaaaChecked
import GoSem.Claim
import GoSem.ClaimJoined
import GoSem.ClaimMapViews
import Derived.JoinedTies
import Derived.KernelRfl
namespace Go.Proofs.Ythbmmilefimpaaa
/- THE CELL 'sum', in the pinned program and in every row, IS THE sha256 OF THE DUMP (.gsa) THAT YthbmmilefimpaaaProg.lean LOADS. Nothing in Lean hashes anything: it is a label: what it is worth is what the hold of that sum in a sandbox is worth. -/
noncomputable def Try.pinned : Pinned := { name := "ythbmmilefimpaaa", sum := "6feade9435f6e9e089d1e5b624b292b8e86b32d142e3d5aeef231d1625b9d7eb", checked := Try.checked }
namespace Rows
def none {H : Type} : Left H := { results := [], args := [] }

/-- 'assayerlaw19.DigestTells': WHATEVER THE INPUT: true; the input reads as it did. -/
def digestTellsSpec : ChangeSpec := { name := "digestTells", fn := fun _ => fun
  | [d1, d2, d3, d4] => { results := [.lit (.bool true)], args := [d1, d2, d3, d4] }
  | _ => none }
def digestTellsRow : OpenClaim := { program := "ythbmmilefimpaaa", sum := "6feade9435f6e9e089d1e5b624b292b8e86b32d142e3d5aeef231d1625b9d7eb", func := "assayer/assayerlaw19.DigestTells", spec := "digestTells", plainKeys := false, apart := false }
def DigestTellsSaid : Prop := digestTellsRow.holds Try.pinned (OpenSpec.ofChange digestTellsSpec)

/-- ITS FALSE NEIGHBOUR: 'it returns false'. Refute it at one input. -/
def digestTellsWrong : ChangeSpec := { name := "digestTells", fn := fun _ => fun
  | [d1, d2, d3, d4] => { results := [.lit (.bool false)], args := [d1, d2, d3, d4] }
  | _ => none }
def DigestTellsWrongFalsely : Prop := digestTellsRow.holds Try.pinned (OpenSpec.ofChange digestTellsWrong)

/-- 'assayerlaw19.DigestPuts': WHATEVER THE INPUT: true; the input reads as it did. -/
def digestPutsSpec : ChangeSpec := { name := "digestPuts", fn := fun _ => fun
  | [d1, d2] => { results := [.lit (.bool true)], args := [d1, d2] }
  | _ => none }
def digestPutsRow : OpenClaim := { program := "ythbmmilefimpaaa", sum := "6feade9435f6e9e089d1e5b624b292b8e86b32d142e3d5aeef231d1625b9d7eb", func := "assayer/assayerlaw19.DigestPuts", spec := "digestPuts", plainKeys := false, apart := false }
def DigestPutsSaid : Prop := digestPutsRow.holds Try.pinned (OpenSpec.ofChange digestPutsSpec)

/-- ITS FALSE NEIGHBOUR: 'it returns false'. Refute it at one input. -/
def digestPutsWrong : ChangeSpec := { name := "digestPuts", fn := fun _ => fun
  | [d1, d2] => { results := [.lit (.bool false)], args := [d1, d2] }
  | _ => none }
def DigestPutsWrongFalsely : Prop := digestPutsRow.holds Try.pinned (OpenSpec.ofChange digestPutsWrong)

/-- 'assayerlaw19.DigestGets': WHATEVER THE INPUT: true; the input reads as it did. -/
def digestGetsSpec : ChangeSpec := { name := "digestGets", fn := fun _ => fun
  | [d] => { results := [.lit (.bool true)], args := [d] }
  | _ => none }
def digestGetsRow : OpenClaim := { program := "ythbmmilefimpaaa", sum := "6feade9435f6e9e089d1e5b624b292b8e86b32d142e3d5aeef231d1625b9d7eb", func := "assayer/assayerlaw19.DigestGets", spec := "digestGets", plainKeys := false, apart := false }
def DigestGetsSaid : Prop := digestGetsRow.holds Try.pinned (OpenSpec.ofChange digestGetsSpec)

/-- ITS FALSE NEIGHBOUR: 'it returns false'. Refute it at one input. -/
def digestGetsWrong : ChangeSpec := { name := "digestGets", fn := fun _ => fun
  | [d] => { results := [.lit (.bool false)], args := [d] }
  | _ => none }
def DigestGetsWrongFalsely : Prop := digestGetsRow.holds Try.pinned (OpenSpec.ofChange digestGetsWrong)

/-- 'assayerlaw19.DigestMeets': WHATEVER THE INPUT: true; the input reads as it did. -/
def digestMeetsSpec : ChangeSpec := { name := "digestMeets", fn := fun _ => fun
  | [d1, d2] => { results := [.lit (.bool true)], args := [d1, d2] }
  | _ => none }
def digestMeetsRow : OpenClaim := { program := "ythbmmilefimpaaa", sum := "6feade9435f6e9e089d1e5b624b292b8e86b32d142e3d5aeef231d1625b9d7eb", func := "assayer/assayerlaw19.DigestMeets", spec := "digestMeets", plainKeys := false, apart := false }
def DigestMeetsSaid : Prop := digestMeetsRow.holds Try.pinned (OpenSpec.ofChange digestMeetsSpec)

/-- ITS FALSE NEIGHBOUR: 'it returns false'. Refute it at one input. -/
def digestMeetsWrong : ChangeSpec := { name := "digestMeets", fn := fun _ => fun
  | [d1, d2] => { results := [.lit (.bool false)], args := [d1, d2] }
  | _ => none }
def DigestMeetsWrongFalsely : Prop := digestMeetsRow.holds Try.pinned (OpenSpec.ofChange digestMeetsWrong)

/-- 'assayerlaw19.DigestLast': WHATEVER THE INPUT: true; the input reads as it did. -/
def digestLastSpec : ChangeSpec := { name := "digestLast", fn := fun _ => fun
  | [d1, d2] => { results := [.lit (.bool true)], args := [d1, d2] }
  | _ => none }
def digestLastRow : OpenClaim := { program := "ythbmmilefimpaaa", sum := "6feade9435f6e9e089d1e5b624b292b8e86b32d142e3d5aeef231d1625b9d7eb", func := "assayer/assayerlaw19.DigestLast", spec := "digestLast", plainKeys := false, apart := false }
def DigestLastSaid : Prop := digestLastRow.holds Try.pinned (OpenSpec.ofChange digestLastSpec)

/-- ITS FALSE NEIGHBOUR: 'it returns false'. Refute it at one input. -/
def digestLastWrong : ChangeSpec := { name := "digestLast", fn := fun _ => fun
  | [d1, d2] => { results := [.lit (.bool false)], args := [d1, d2] }
  | _ => none }
def DigestLastWrongFalsely : Prop := digestLastRow.holds Try.pinned (OpenSpec.ofChange digestLastWrong)

/-- 'assayerlaw19.DigestOnce': WHATEVER THE INPUT: true; the input reads as it did. -/
def digestOnceSpec : ChangeSpec := { name := "digestOnce", fn := fun _ => fun
  | [d1, d2, d3, d4] => { results := [.lit (.bool true)], args := [d1, d2, d3, d4] }
  | _ => none }
def digestOnceRow : OpenClaim := { program := "ythbmmilefimpaaa", sum := "6feade9435f6e9e089d1e5b624b292b8e86b32d142e3d5aeef231d1625b9d7eb", func := "assayer/assayerlaw19.DigestOnce", spec := "digestOnce", plainKeys := false, apart := false }
def DigestOnceSaid : Prop := digestOnceRow.holds Try.pinned (OpenSpec.ofChange digestOnceSpec)

/-- ITS FALSE NEIGHBOUR: 'it returns false'. Refute it at one input. -/
def digestOnceWrong : ChangeSpec := { name := "digestOnce", fn := fun _ => fun
  | [d1, d2, d3, d4] => { results := [.lit (.bool false)], args := [d1, d2, d3, d4] }
  | _ => none }
def DigestOnceWrongFalsely : Prop := digestOnceRow.holds Try.pinned (OpenSpec.ofChange digestOnceWrong)

/- THE SECOND FORM. 'bulk': how many values and letters a reading holds, each counted each time it is reached (what is shared counts as often as it is met; a slice's spare places count too). A statement '..UptoSaid' is the law's where the arguments, and the package variables that the reading takes, are together of bulk at most 1048576: NARROWER than '..Said'. Prove '..Said' where nothing that the law and all that it calls make is longer than what came in: it says more and counts as full. Else prove '..UptoSaid'. A law counts once. -/
mutual
def uptoBulk {H : Type} : DataW H → Nat
  | .lit (.string bytes) => bytes.length + 1
  | .lit _ => 1
  | .nil => 1
  | .ptr d => uptoBulk d + 1
  | .slice elems spare => uptoBulkAll elems + uptoBulkAll spare + 1
  | .agg parts => uptoBulkAll parts + 1
  | .iface _ d => uptoBulk d + 1
  | .map entries => uptoBulkEntries entries + 1
  | .held _ => 1
def uptoBulkAll {H : Type} : List (DataW H) → Nat
  | [] => 0
  | d :: r => uptoBulk d + uptoBulkAll r
def uptoBulkEntries {H : Type} : List (Lit × DataW H) → Nat
  | [] => 0
  | x :: r => uptoBulkEntry x + uptoBulkEntries r
def uptoBulkEntry {H : Type} : Lit × DataW H → Nat
  | (.string bytes, d) => bytes.length + uptoBulk d + 1
  | (_, d) => uptoBulk d + 1
 end
def uptoSmall : (H : Type) → List (DataW H) → Bool := fun _ ds => decide (uptoBulkAll ds ≤ 1048576)
def OpenSpec.upto (s : _root_.Go.ChangeSpec) : _root_.Go.OpenSpec := { _root_.Go.OpenSpec.ofChange s with cond := some uptoSmall }

/-- 'assayerlaw19.DigestTells', WHERE WHAT IT READS IS OF BULK AT MOST 1048576: true; the input reads as it did. -/
def digestTellsUptoRow : OpenClaim := { program := "ythbmmilefimpaaa", sum := "6feade9435f6e9e089d1e5b624b292b8e86b32d142e3d5aeef231d1625b9d7eb", func := "assayer/assayerlaw19.DigestTells", spec := "digestTells", plainKeys := false, apart := false, narrowed := true }
def DigestTellsUptoSaid : Prop := digestTellsUptoRow.holds Try.pinned (OpenSpec.upto digestTellsSpec)

/-- 'assayerlaw19.DigestPuts', WHERE WHAT IT READS IS OF BULK AT MOST 1048576: true; the input reads as it did. -/
def digestPutsUptoRow : OpenClaim := { program := "ythbmmilefimpaaa", sum := "6feade9435f6e9e089d1e5b624b292b8e86b32d142e3d5aeef231d1625b9d7eb", func := "assayer/assayerlaw19.DigestPuts", spec := "digestPuts", plainKeys := false, apart := false, narrowed := true }
def DigestPutsUptoSaid : Prop := digestPutsUptoRow.holds Try.pinned (OpenSpec.upto digestPutsSpec)

/-- 'assayerlaw19.DigestGets', WHERE WHAT IT READS IS OF BULK AT MOST 1048576: true; the input reads as it did. -/
def digestGetsUptoRow : OpenClaim := { program := "ythbmmilefimpaaa", sum := "6feade9435f6e9e089d1e5b624b292b8e86b32d142e3d5aeef231d1625b9d7eb", func := "assayer/assayerlaw19.DigestGets", spec := "digestGets", plainKeys := false, apart := false, narrowed := true }
def DigestGetsUptoSaid : Prop := digestGetsUptoRow.holds Try.pinned (OpenSpec.upto digestGetsSpec)

/-- 'assayerlaw19.DigestMeets', WHERE WHAT IT READS IS OF BULK AT MOST 1048576: true; the input reads as it did. -/
def digestMeetsUptoRow : OpenClaim := { program := "ythbmmilefimpaaa", sum := "6feade9435f6e9e089d1e5b624b292b8e86b32d142e3d5aeef231d1625b9d7eb", func := "assayer/assayerlaw19.DigestMeets", spec := "digestMeets", plainKeys := false, apart := false, narrowed := true }
def DigestMeetsUptoSaid : Prop := digestMeetsUptoRow.holds Try.pinned (OpenSpec.upto digestMeetsSpec)

/-- 'assayerlaw19.DigestLast', WHERE WHAT IT READS IS OF BULK AT MOST 1048576: true; the input reads as it did. -/
def digestLastUptoRow : OpenClaim := { program := "ythbmmilefimpaaa", sum := "6feade9435f6e9e089d1e5b624b292b8e86b32d142e3d5aeef231d1625b9d7eb", func := "assayer/assayerlaw19.DigestLast", spec := "digestLast", plainKeys := false, apart := false, narrowed := true }
def DigestLastUptoSaid : Prop := digestLastUptoRow.holds Try.pinned (OpenSpec.upto digestLastSpec)

/-- 'assayerlaw19.DigestOnce', WHERE WHAT IT READS IS OF BULK AT MOST 1048576: true; the input reads as it did. -/
def digestOnceUptoRow : OpenClaim := { program := "ythbmmilefimpaaa", sum := "6feade9435f6e9e089d1e5b624b292b8e86b32d142e3d5aeef231d1625b9d7eb", func := "assayer/assayerlaw19.DigestOnce", spec := "digestOnce", plainKeys := false, apart := false, narrowed := true }
def DigestOnceUptoSaid : Prop := digestOnceUptoRow.holds Try.pinned (OpenSpec.upto digestOnceSpec)

end Rows
end Go.Proofs.Ythbmmilefimpaaa
