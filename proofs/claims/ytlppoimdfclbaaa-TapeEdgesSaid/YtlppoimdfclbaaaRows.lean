/-
  No cell of these rows narrows 'for every input' (looked for: loops, veiled, ifaces, maps, wideKeys, modest, calm, conditions, laid).
  DERIVED. THE GIVEN ROWS OF THIS SEAT. 6 by the template 'for every input the law returns true; each argument reads behind the call as it read before'; 0 by the template 'total and deterministic' (their statements: YtlppoimdfclbaaaTotals.lean).
  GIVEN WITH THE SEED: the statements are not yours to turn. If you find one false, say at which input.
  Laid BY PROGRAM, IN A SANDBOX (cutbox-rows.mjs): the forced cells as the released guide's own fill.sh prints them over the translation 2d99e84d3fa1063e… (all of the seat's roots in one cut). By AI agents, Wed Nov 11 2026. No macro, syntax, notation, axiom, sorry.
-/
import Derived.Test.YtlppoimdfclbaaaChecked
import GoSem.Claim
import GoSem.ClaimJoined
import GoSem.ClaimMapViews
import Derived.JoinedTies
import Derived.KernelRfl
namespace Go.Proofs.Ytlppoimdfclbaaa
/- THE CELL 'sum', in the pinned program and in every row, IS THE sha256 OF THE DUMP (.gsa) THAT YtlppoimdfclbaaaProg.lean LOADS. Nothing in Lean hashes anything: it is a label: what it is worth is what the hold of that sum in a sandbox is worth. -/
noncomputable def Try.pinned : Pinned := { name := "ytlppoimdfclbaaa", sum := "2d99e84d3fa1063e8b3eaecb931a5430bd12a5d392a9c8ee961fbbc4833447e5", checked := Try.checked }
namespace Rows
def none {H : Type} : Left H := { results := [], args := [] }

/-- 'aqueductlaw4.TapeTwo': WHATEVER THE INPUT: true; the input reads as it did. -/
def tapeTwoSpec : ChangeSpec := { name := "tapeTwo", fn := fun _ => fun
  | [d1, d2, d3] => { results := [.lit (.bool true)], args := [d1, d2, d3] }
  | _ => none }
def tapeTwoRow : OpenClaim := { program := "ytlppoimdfclbaaa", sum := "2d99e84d3fa1063e8b3eaecb931a5430bd12a5d392a9c8ee961fbbc4833447e5", func := "aqueduct/aqueductlaw4.TapeTwo", spec := "tapeTwo", unfollowed := true, recurses := true, apart := false }
def TapeTwoSaid : Prop := tapeTwoRow.holds Try.pinned (OpenSpec.ofChange tapeTwoSpec)

/-- ITS FALSE NEIGHBOUR: 'it returns false'. Refute it at one input. -/
def tapeTwoWrong : ChangeSpec := { name := "tapeTwo", fn := fun _ => fun
  | [d1, d2, d3] => { results := [.lit (.bool false)], args := [d1, d2, d3] }
  | _ => none }
def TapeTwoWrongFalsely : Prop := tapeTwoRow.holds Try.pinned (OpenSpec.ofChange tapeTwoWrong)

/-- 'aqueductlaw4.TapeFaults': WHATEVER THE INPUT: true; the input reads as it did. -/
def tapeFaultsSpec : ChangeSpec := { name := "tapeFaults", fn := fun _ => fun
  | [d1, d2, d3] => { results := [.lit (.bool true)], args := [d1, d2, d3] }
  | _ => none }
def tapeFaultsRow : OpenClaim := { program := "ytlppoimdfclbaaa", sum := "2d99e84d3fa1063e8b3eaecb931a5430bd12a5d392a9c8ee961fbbc4833447e5", func := "aqueduct/aqueductlaw4.TapeFaults", spec := "tapeFaults", unfollowed := true, recurses := true, apart := false }
def TapeFaultsSaid : Prop := tapeFaultsRow.holds Try.pinned (OpenSpec.ofChange tapeFaultsSpec)

/-- ITS FALSE NEIGHBOUR: 'it returns false'. Refute it at one input. -/
def tapeFaultsWrong : ChangeSpec := { name := "tapeFaults", fn := fun _ => fun
  | [d1, d2, d3] => { results := [.lit (.bool false)], args := [d1, d2, d3] }
  | _ => none }
def TapeFaultsWrongFalsely : Prop := tapeFaultsRow.holds Try.pinned (OpenSpec.ofChange tapeFaultsWrong)

/-- 'aqueductlaw4.TapeEdges': WHATEVER THE INPUT: true; the input reads as it did. -/
def tapeEdgesSpec : ChangeSpec := { name := "tapeEdges", fn := fun _ => fun
  | [d1, d2] => { results := [.lit (.bool true)], args := [d1, d2] }
  | _ => none }
def tapeEdgesRow : OpenClaim := { program := "ytlppoimdfclbaaa", sum := "2d99e84d3fa1063e8b3eaecb931a5430bd12a5d392a9c8ee961fbbc4833447e5", func := "aqueduct/aqueductlaw4.TapeEdges", spec := "tapeEdges", unfollowed := true, recurses := true, apart := false }
def TapeEdgesSaid : Prop := tapeEdgesRow.holds Try.pinned (OpenSpec.ofChange tapeEdgesSpec)

/-- ITS FALSE NEIGHBOUR: 'it returns false'. Refute it at one input. -/
def tapeEdgesWrong : ChangeSpec := { name := "tapeEdges", fn := fun _ => fun
  | [d1, d2] => { results := [.lit (.bool false)], args := [d1, d2] }
  | _ => none }
def TapeEdgesWrongFalsely : Prop := tapeEdgesRow.holds Try.pinned (OpenSpec.ofChange tapeEdgesWrong)

/-- 'aqueductlaw4.TapeAborts': WHATEVER THE INPUT: true; the input reads as it did. -/
def tapeAbortsSpec : ChangeSpec := { name := "tapeAborts", fn := fun _ => fun
  | [d1, d2] => { results := [.lit (.bool true)], args := [d1, d2] }
  | _ => none }
def tapeAbortsRow : OpenClaim := { program := "ytlppoimdfclbaaa", sum := "2d99e84d3fa1063e8b3eaecb931a5430bd12a5d392a9c8ee961fbbc4833447e5", func := "aqueduct/aqueductlaw4.TapeAborts", spec := "tapeAborts", unfollowed := true, recurses := true, apart := false }
def TapeAbortsSaid : Prop := tapeAbortsRow.holds Try.pinned (OpenSpec.ofChange tapeAbortsSpec)

/-- ITS FALSE NEIGHBOUR: 'it returns false'. Refute it at one input. -/
def tapeAbortsWrong : ChangeSpec := { name := "tapeAborts", fn := fun _ => fun
  | [d1, d2] => { results := [.lit (.bool false)], args := [d1, d2] }
  | _ => none }
def TapeAbortsWrongFalsely : Prop := tapeAbortsRow.holds Try.pinned (OpenSpec.ofChange tapeAbortsWrong)

/-- 'aqueductlaw4.TapeBack': WHATEVER THE INPUT: true; the input reads as it did. -/
def tapeBackSpec : ChangeSpec := { name := "tapeBack", fn := fun _ => fun
  | [d1, d2] => { results := [.lit (.bool true)], args := [d1, d2] }
  | _ => none }
def tapeBackRow : OpenClaim := { program := "ytlppoimdfclbaaa", sum := "2d99e84d3fa1063e8b3eaecb931a5430bd12a5d392a9c8ee961fbbc4833447e5", func := "aqueduct/aqueductlaw4.TapeBack", spec := "tapeBack", unfollowed := true, recurses := true, apart := false }
def TapeBackSaid : Prop := tapeBackRow.holds Try.pinned (OpenSpec.ofChange tapeBackSpec)

/-- ITS FALSE NEIGHBOUR: 'it returns false'. Refute it at one input. -/
def tapeBackWrong : ChangeSpec := { name := "tapeBack", fn := fun _ => fun
  | [d1, d2] => { results := [.lit (.bool false)], args := [d1, d2] }
  | _ => none }
def TapeBackWrongFalsely : Prop := tapeBackRow.holds Try.pinned (OpenSpec.ofChange tapeBackWrong)

/-- 'aqueductlaw4.TapeTurned': WHATEVER THE INPUT: true; the input reads as it did. -/
def tapeTurnedSpec : ChangeSpec := { name := "tapeTurned", fn := fun _ => fun
  | [d1, d2] => { results := [.lit (.bool true)], args := [d1, d2] }
  | _ => none }
def tapeTurnedRow : OpenClaim := { program := "ytlppoimdfclbaaa", sum := "2d99e84d3fa1063e8b3eaecb931a5430bd12a5d392a9c8ee961fbbc4833447e5", func := "aqueduct/aqueductlaw4.TapeTurned", spec := "tapeTurned", unfollowed := true, recurses := true, apart := false }
def TapeTurnedSaid : Prop := tapeTurnedRow.holds Try.pinned (OpenSpec.ofChange tapeTurnedSpec)

/-- ITS FALSE NEIGHBOUR: 'it returns false'. Refute it at one input. -/
def tapeTurnedWrong : ChangeSpec := { name := "tapeTurned", fn := fun _ => fun
  | [d1, d2] => { results := [.lit (.bool false)], args := [d1, d2] }
  | _ => none }
def TapeTurnedWrongFalsely : Prop := tapeTurnedRow.holds Try.pinned (OpenSpec.ofChange tapeTurnedWrong)

/- THE SECOND FORM. 'bulk': how many values and letters a reading holds, each counted each time it is reached (what is shared counts as often as it is met; a slice's spare places count too). A statement '..UptoSaid' is the law's where the arguments, and the package variables that the reading takes, are together of bulk at most 1048576: NARROWER than '..Said'. Prove '..Said' where nothing that the law and all that it calls make is longer than what came in: it says more and counts as full. Else prove '..UptoSaid'. A law counts once. -/
mutual
def uptoBulk {H : Type} : DataW H → Nat
  | .lit (.string bytes) => bytes.length + 1
  | .lit _ => 1
  | .nil => 1
  | .ptr d => uptoBulk d + 1
  | .slice elems spare => uptoBulkAll elems + uptoBulkAll spare + 1
  | .agg parts => uptoBulkAll parts + 1
  | .iface _ d => uptoBulk d + 1
  | .map entries => uptoBulkEntries entries + 1
  | .held _ => 1
def uptoBulkAll {H : Type} : List (DataW H) → Nat
  | [] => 0
  | d :: r => uptoBulk d + uptoBulkAll r
def uptoBulkEntries {H : Type} : List (Lit × DataW H) → Nat
  | [] => 0
  | x :: r => uptoBulkEntry x + uptoBulkEntries r
def uptoBulkEntry {H : Type} : Lit × DataW H → Nat
  | (.string bytes, d) => bytes.length + uptoBulk d + 1
  | (_, d) => uptoBulk d + 1
 end
def uptoSmall : (H : Type) → List (DataW H) → Bool := fun _ ds => decide (uptoBulkAll ds ≤ 1048576)
def OpenSpec.upto (s : _root_.Go.ChangeSpec) : _root_.Go.OpenSpec := { _root_.Go.OpenSpec.ofChange s with cond := some uptoSmall }

/-- 'aqueductlaw4.TapeTwo', WHERE WHAT IT READS IS OF BULK AT MOST 1048576: true; the input reads as it did. -/
def tapeTwoUptoRow : OpenClaim := { program := "ytlppoimdfclbaaa", sum := "2d99e84d3fa1063e8b3eaecb931a5430bd12a5d392a9c8ee961fbbc4833447e5", func := "aqueduct/aqueductlaw4.TapeTwo", spec := "tapeTwo", unfollowed := true, recurses := true, apart := false, narrowed := true }
def TapeTwoUptoSaid : Prop := tapeTwoUptoRow.holds Try.pinned (OpenSpec.upto tapeTwoSpec)

/-- 'aqueductlaw4.TapeFaults', WHERE WHAT IT READS IS OF BULK AT MOST 1048576: true; the input reads as it did. -/
def tapeFaultsUptoRow : OpenClaim := { program := "ytlppoimdfclbaaa", sum := "2d99e84d3fa1063e8b3eaecb931a5430bd12a5d392a9c8ee961fbbc4833447e5", func := "aqueduct/aqueductlaw4.TapeFaults", spec := "tapeFaults", unfollowed := true, recurses := true, apart := false, narrowed := true }
def TapeFaultsUptoSaid : Prop := tapeFaultsUptoRow.holds Try.pinned (OpenSpec.upto tapeFaultsSpec)

/-- 'aqueductlaw4.TapeEdges', WHERE WHAT IT READS IS OF BULK AT MOST 1048576: true; the input reads as it did. -/
def tapeEdgesUptoRow : OpenClaim := { program := "ytlppoimdfclbaaa", sum := "2d99e84d3fa1063e8b3eaecb931a5430bd12a5d392a9c8ee961fbbc4833447e5", func := "aqueduct/aqueductlaw4.TapeEdges", spec := "tapeEdges", unfollowed := true, recurses := true, apart := false, narrowed := true }
def TapeEdgesUptoSaid : Prop := tapeEdgesUptoRow.holds Try.pinned (OpenSpec.upto tapeEdgesSpec)

/-- 'aqueductlaw4.TapeAborts', WHERE WHAT IT READS IS OF BULK AT MOST 1048576: true; the input reads as it did. -/
def tapeAbortsUptoRow : OpenClaim := { program := "ytlppoimdfclbaaa", sum := "2d99e84d3fa1063e8b3eaecb931a5430bd12a5d392a9c8ee961fbbc4833447e5", func := "aqueduct/aqueductlaw4.TapeAborts", spec := "tapeAborts", unfollowed := true, recurses := true, apart := false, narrowed := true }
def TapeAbortsUptoSaid : Prop := tapeAbortsUptoRow.holds Try.pinned (OpenSpec.upto tapeAbortsSpec)

/-- 'aqueductlaw4.TapeBack', WHERE WHAT IT READS IS OF BULK AT MOST 1048576: true; the input reads as it did. -/
def tapeBackUptoRow : OpenClaim := { program := "ytlppoimdfclbaaa", sum := "2d99e84d3fa1063e8b3eaecb931a5430bd12a5d392a9c8ee961fbbc4833447e5", func := "aqueduct/aqueductlaw4.TapeBack", spec := "tapeBack", unfollowed := true, recurses := true, apart := false, narrowed := true }
def TapeBackUptoSaid : Prop := tapeBackUptoRow.holds Try.pinned (OpenSpec.upto tapeBackSpec)

/-- 'aqueductlaw4.TapeTurned', WHERE WHAT IT READS IS OF BULK AT MOST 1048576: true; the input reads as it did. -/
def tapeTurnedUptoRow : OpenClaim := { program := "ytlppoimdfclbaaa", sum := "2d99e84d3fa1063e8b3eaecb931a5430bd12a5d392a9c8ee961fbbc4833447e5", func := "aqueduct/aqueductlaw4.TapeTurned", spec := "tapeTurned", unfollowed := true, recurses := true, apart := false, narrowed := true }
def TapeTurnedUptoSaid : Prop := tapeTurnedUptoRow.holds Try.pinned (OpenSpec.upto tapeTurnedSpec)

end Rows
end Go.Proofs.Ytlppoimdfclbaaa
