/-
  No cell of these rows narrows 'for every input' (looked for: loops, veiled, ifaces, maps, wideKeys, modest, calm, conditions, laid).
  DERIVED. THE GIVEN ROWS OF THIS SEAT. 6 by the template 'for every input the law returns true; each argument reads behind the call as it read before'; 0 by the template 'total and deterministic' (their statements: YtlpdiamgpnmeoaaTotals.lean).
  GIVEN WITH THE SEED: the statements are not yours to turn. If you find one false, say at which input.
  Laid BY PROGRAM, IN A SANDBOX (cutbox-rows.mjs): the forced cells as the released guide's own fill.sh prints them over the translation a5a969885c4ca303… (all of the seat's roots in one cut). By AI agents, Wed Nov 11 2026. No macro, syntax, notation, axiom, sorry.
-/
import Derived.Test.YtlpdiamgpnmeoaaChecked
import GoSem.Claim
import GoSem.ClaimJoined
import GoSem.ClaimMapViews
import Derived.JoinedTies
import Derived.KernelRfl
namespace Go.Proofs.Ytlpdiamgpnmeoaa
/- THE CELL 'sum', in the pinned program and in every row, IS THE sha256 OF THE DUMP (.gsa) THAT YtlpdiamgpnmeoaaProg.lean LOADS. Nothing in Lean hashes anything: it is a label: what it is worth is what the hold of that sum in a sandbox is worth. -/
noncomputable def Try.pinned : Pinned := { name := "ytlpdiamgpnmeoaa", sum := "a5a969885c4ca303e564a1fdcfd302470fc9f6e5254fbc7f03cbb6713cb796b5", checked := Try.checked }
namespace Rows
def none {H : Type} : Left H := { results := [], args := [] }

/-- 'assayerlaw12.WalTail': WHATEVER THE INPUT: true; the input reads as it did. -/
def walTailSpec : ChangeSpec := { name := "walTail", fn := fun _ => fun
  | [d1, d2, d3, d4] => { results := [.lit (.bool true)], args := [d1, d2, d3, d4] }
  | _ => none }
def walTailRow : OpenClaim := { program := "ytlpdiamgpnmeoaa", sum := "a5a969885c4ca303e564a1fdcfd302470fc9f6e5254fbc7f03cbb6713cb796b5", func := "assayer/assayerlaw12.WalTail", spec := "walTail", unfollowed := true, recurses := true, apart := false }
def WalTailSaid : Prop := walTailRow.holds Try.pinned (OpenSpec.ofChange walTailSpec)

/-- ITS FALSE NEIGHBOUR: 'it returns false'. Refute it at one input. -/
def walTailWrong : ChangeSpec := { name := "walTail", fn := fun _ => fun
  | [d1, d2, d3, d4] => { results := [.lit (.bool false)], args := [d1, d2, d3, d4] }
  | _ => none }
def WalTailWrongFalsely : Prop := walTailRow.holds Try.pinned (OpenSpec.ofChange walTailWrong)

/-- 'assayerlaw12.WalFull': WHATEVER THE INPUT: true; the input reads as it did. -/
def walFullSpec : ChangeSpec := { name := "walFull", fn := fun _ => fun
  | [d1, d2, d3] => { results := [.lit (.bool true)], args := [d1, d2, d3] }
  | _ => none }
def walFullRow : OpenClaim := { program := "ytlpdiamgpnmeoaa", sum := "a5a969885c4ca303e564a1fdcfd302470fc9f6e5254fbc7f03cbb6713cb796b5", func := "assayer/assayerlaw12.WalFull", spec := "walFull", unfollowed := true, recurses := true, apart := false }
def WalFullSaid : Prop := walFullRow.holds Try.pinned (OpenSpec.ofChange walFullSpec)

/-- ITS FALSE NEIGHBOUR: 'it returns false'. Refute it at one input. -/
def walFullWrong : ChangeSpec := { name := "walFull", fn := fun _ => fun
  | [d1, d2, d3] => { results := [.lit (.bool false)], args := [d1, d2, d3] }
  | _ => none }
def WalFullWrongFalsely : Prop := walFullRow.holds Try.pinned (OpenSpec.ofChange walFullWrong)

/-- 'assayerlaw12.WalBig': WHATEVER THE INPUT: true; the input reads as it did. -/
def walBigSpec : ChangeSpec := { name := "walBig", fn := fun _ => fun
  | [d1, d2] => { results := [.lit (.bool true)], args := [d1, d2] }
  | _ => none }
def walBigRow : OpenClaim := { program := "ytlpdiamgpnmeoaa", sum := "a5a969885c4ca303e564a1fdcfd302470fc9f6e5254fbc7f03cbb6713cb796b5", func := "assayer/assayerlaw12.WalBig", spec := "walBig", unfollowed := true, recurses := true, apart := false }
def WalBigSaid : Prop := walBigRow.holds Try.pinned (OpenSpec.ofChange walBigSpec)

/-- ITS FALSE NEIGHBOUR: 'it returns false'. Refute it at one input. -/
def walBigWrong : ChangeSpec := { name := "walBig", fn := fun _ => fun
  | [d1, d2] => { results := [.lit (.bool false)], args := [d1, d2] }
  | _ => none }
def WalBigWrongFalsely : Prop := walBigRow.holds Try.pinned (OpenSpec.ofChange walBigWrong)

/-- 'assayerlaw12.WalTurns': WHATEVER THE INPUT: true; the input reads as it did. -/
def walTurnsSpec : ChangeSpec := { name := "walTurns", fn := fun _ => fun
  | [d1, d2] => { results := [.lit (.bool true)], args := [d1, d2] }
  | _ => none }
def walTurnsRow : OpenClaim := { program := "ytlpdiamgpnmeoaa", sum := "a5a969885c4ca303e564a1fdcfd302470fc9f6e5254fbc7f03cbb6713cb796b5", func := "assayer/assayerlaw12.WalTurns", spec := "walTurns", unfollowed := true, recurses := true, apart := false }
def WalTurnsSaid : Prop := walTurnsRow.holds Try.pinned (OpenSpec.ofChange walTurnsSpec)

/-- ITS FALSE NEIGHBOUR: 'it returns false'. Refute it at one input. -/
def walTurnsWrong : ChangeSpec := { name := "walTurns", fn := fun _ => fun
  | [d1, d2] => { results := [.lit (.bool false)], args := [d1, d2] }
  | _ => none }
def WalTurnsWrongFalsely : Prop := walTurnsRow.holds Try.pinned (OpenSpec.ofChange walTurnsWrong)

/-- 'assayerlaw12.WalSure': WHATEVER THE INPUT: true; the input reads as it did. -/
def walSureSpec : ChangeSpec := { name := "walSure", fn := fun _ => fun
  | [d1, d2] => { results := [.lit (.bool true)], args := [d1, d2] }
  | _ => none }
def walSureRow : OpenClaim := { program := "ytlpdiamgpnmeoaa", sum := "a5a969885c4ca303e564a1fdcfd302470fc9f6e5254fbc7f03cbb6713cb796b5", func := "assayer/assayerlaw12.WalSure", spec := "walSure", unfollowed := true, recurses := true, apart := false }
def WalSureSaid : Prop := walSureRow.holds Try.pinned (OpenSpec.ofChange walSureSpec)

/-- ITS FALSE NEIGHBOUR: 'it returns false'. Refute it at one input. -/
def walSureWrong : ChangeSpec := { name := "walSure", fn := fun _ => fun
  | [d1, d2] => { results := [.lit (.bool false)], args := [d1, d2] }
  | _ => none }
def WalSureWrongFalsely : Prop := walSureRow.holds Try.pinned (OpenSpec.ofChange walSureWrong)

/-- 'assayerlaw12.WalStays': WHATEVER THE INPUT: true; the input reads as it did. -/
def walStaysSpec : ChangeSpec := { name := "walStays", fn := fun _ => fun
  | [d1, d2, d3] => { results := [.lit (.bool true)], args := [d1, d2, d3] }
  | _ => none }
def walStaysRow : OpenClaim := { program := "ytlpdiamgpnmeoaa", sum := "a5a969885c4ca303e564a1fdcfd302470fc9f6e5254fbc7f03cbb6713cb796b5", func := "assayer/assayerlaw12.WalStays", spec := "walStays", unfollowed := true, recurses := true, apart := false }
def WalStaysSaid : Prop := walStaysRow.holds Try.pinned (OpenSpec.ofChange walStaysSpec)

/-- ITS FALSE NEIGHBOUR: 'it returns false'. Refute it at one input. -/
def walStaysWrong : ChangeSpec := { name := "walStays", fn := fun _ => fun
  | [d1, d2, d3] => { results := [.lit (.bool false)], args := [d1, d2, d3] }
  | _ => none }
def WalStaysWrongFalsely : Prop := walStaysRow.holds Try.pinned (OpenSpec.ofChange walStaysWrong)

/- THE SECOND FORM. 'bulk': how many values and letters a reading holds, each counted each time it is reached (what is shared counts as often as it is met; a slice's spare places count too). A statement '..UptoSaid' is the law's where the arguments, and the package variables that the reading takes, are together of bulk at most 1048576: NARROWER than '..Said'. Prove '..Said' where nothing that the law and all that it calls make is longer than what came in: it says more and counts as full. Else prove '..UptoSaid'. A law counts once. -/
mutual
def uptoBulk {H : Type} : DataW H → Nat
  | .lit (.string bytes) => bytes.length + 1
  | .lit _ => 1
  | .nil => 1
  | .ptr d => uptoBulk d + 1
  | .slice elems spare => uptoBulkAll elems + uptoBulkAll spare + 1
  | .agg parts => uptoBulkAll parts + 1
  | .iface _ d => uptoBulk d + 1
  | .map entries => uptoBulkEntries entries + 1
  | .held _ => 1
def uptoBulkAll {H : Type} : List (DataW H) → Nat
  | [] => 0
  | d :: r => uptoBulk d + uptoBulkAll r
def uptoBulkEntries {H : Type} : List (Lit × DataW H) → Nat
  | [] => 0
  | x :: r => uptoBulkEntry x + uptoBulkEntries r
def uptoBulkEntry {H : Type} : Lit × DataW H → Nat
  | (.string bytes, d) => bytes.length + uptoBulk d + 1
  | (_, d) => uptoBulk d + 1
 end
def uptoSmall : (H : Type) → List (DataW H) → Bool := fun _ ds => decide (uptoBulkAll ds ≤ 1048576)
def OpenSpec.upto (s : _root_.Go.ChangeSpec) : _root_.Go.OpenSpec := { _root_.Go.OpenSpec.ofChange s with cond := some uptoSmall }

/-- 'assayerlaw12.WalTail', WHERE WHAT IT READS IS OF BULK AT MOST 1048576: true; the input reads as it did. -/
def walTailUptoRow : OpenClaim := { program := "ytlpdiamgpnmeoaa", sum := "a5a969885c4ca303e564a1fdcfd302470fc9f6e5254fbc7f03cbb6713cb796b5", func := "assayer/assayerlaw12.WalTail", spec := "walTail", unfollowed := true, recurses := true, apart := false, narrowed := true }
def WalTailUptoSaid : Prop := walTailUptoRow.holds Try.pinned (OpenSpec.upto walTailSpec)

/-- 'assayerlaw12.WalFull', WHERE WHAT IT READS IS OF BULK AT MOST 1048576: true; the input reads as it did. -/
def walFullUptoRow : OpenClaim := { program := "ytlpdiamgpnmeoaa", sum := "a5a969885c4ca303e564a1fdcfd302470fc9f6e5254fbc7f03cbb6713cb796b5", func := "assayer/assayerlaw12.WalFull", spec := "walFull", unfollowed := true, recurses := true, apart := false, narrowed := true }
def WalFullUptoSaid : Prop := walFullUptoRow.holds Try.pinned (OpenSpec.upto walFullSpec)

/-- 'assayerlaw12.WalBig', WHERE WHAT IT READS IS OF BULK AT MOST 1048576: true; the input reads as it did. -/
def walBigUptoRow : OpenClaim := { program := "ytlpdiamgpnmeoaa", sum := "a5a969885c4ca303e564a1fdcfd302470fc9f6e5254fbc7f03cbb6713cb796b5", func := "assayer/assayerlaw12.WalBig", spec := "walBig", unfollowed := true, recurses := true, apart := false, narrowed := true }
def WalBigUptoSaid : Prop := walBigUptoRow.holds Try.pinned (OpenSpec.upto walBigSpec)

/-- 'assayerlaw12.WalTurns', WHERE WHAT IT READS IS OF BULK AT MOST 1048576: true; the input reads as it did. -/
def walTurnsUptoRow : OpenClaim := { program := "ytlpdiamgpnmeoaa", sum := "a5a969885c4ca303e564a1fdcfd302470fc9f6e5254fbc7f03cbb6713cb796b5", func := "assayer/assayerlaw12.WalTurns", spec := "walTurns", unfollowed := true, recurses := true, apart := false, narrowed := true }
def WalTurnsUptoSaid : Prop := walTurnsUptoRow.holds Try.pinned (OpenSpec.upto walTurnsSpec)

/-- 'assayerlaw12.WalSure', WHERE WHAT IT READS IS OF BULK AT MOST 1048576: true; the input reads as it did. -/
def walSureUptoRow : OpenClaim := { program := "ytlpdiamgpnmeoaa", sum := "a5a969885c4ca303e564a1fdcfd302470fc9f6e5254fbc7f03cbb6713cb796b5", func := "assayer/assayerlaw12.WalSure", spec := "walSure", unfollowed := true, recurses := true, apart := false, narrowed := true }
def WalSureUptoSaid : Prop := walSureUptoRow.holds Try.pinned (OpenSpec.upto walSureSpec)

/-- 'assayerlaw12.WalStays', WHERE WHAT IT READS IS OF BULK AT MOST 1048576: true; the input reads as it did. -/
def walStaysUptoRow : OpenClaim := { program := "ytlpdiamgpnmeoaa", sum := "a5a969885c4ca303e564a1fdcfd302470fc9f6e5254fbc7f03cbb6713cb796b5", func := "assayer/assayerlaw12.WalStays", spec := "walStays", unfollowed := true, recurses := true, apart := false, narrowed := true }
def WalStaysUptoSaid : Prop := walStaysUptoRow.holds Try.pinned (OpenSpec.upto walStaysSpec)

end Rows
end Go.Proofs.Ytlpdiamgpnmeoaa
