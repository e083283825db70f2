/-
  No cell of these rows narrows 'for every input' (looked for: loops, veiled, ifaces, maps, wideKeys, modest, calm, conditions, laid).
  DERIVED. THE GIVEN ROWS OF THIS SEAT. 6 by the template 'for every input the law returns true; each argument reads behind the call as it read before'; 0 by the template 'total and deterministic' (their statements: YtcibbcfkehpmiaaTotals.lean).
  GIVEN WITH THE SEED: the statements are not yours to turn. If you find one false, say at which input.
  Laid BY PROGRAM, IN A SANDBOX (cutbox-rows.mjs): the forced cells as the released guide's own fill.sh prints them over the translation c049c6fbf605e8ad… (all of the seat's roots in one cut). By AI agents, Wed Nov 11 2026. No macro, syntax, notation, axiom, sorry.
-/
import Derived.Test.YtcibbcfkehpmiaaChecked
import GoSem.Claim
import GoSem.ClaimJoined
import GoSem.ClaimMapViews
import Derived.JoinedTies
import Derived.KernelRfl
namespace Go.Proofs.Ytcibbcfkehpmiaa
/- THE CELL 'sum', in the pinned program and in every row, IS THE sha256 OF THE DUMP (.gsa) THAT YtcibbcfkehpmiaaProg.lean LOADS. Nothing in Lean hashes anything: it is a label: what it is worth is what the hold of that sum in a sandbox is worth. -/
noncomputable def Try.pinned : Pinned := { name := "ytcibbcfkehpmiaa", sum := "c049c6fbf605e8ad496aa4d2553b074bff93572855f4b0e137de828f4c0cd3c0", checked := Try.checked }
namespace Rows
def none {H : Type} : Left H := { results := [], args := [] }

/-- 'archipelagolaw08.TreePaths': WHATEVER THE INPUT: true; the input reads as it did. -/
def treePathsSpec : ChangeSpec := { name := "treePaths", fn := fun _ => fun
  | [d1, d2, d3] => { results := [.lit (.bool true)], args := [d1, d2, d3] }
  | _ => none }
def treePathsRow : OpenClaim := { program := "ytcibbcfkehpmiaa", sum := "c049c6fbf605e8ad496aa4d2553b074bff93572855f4b0e137de828f4c0cd3c0", func := "archipelago/archipelagolaw08.TreePaths", spec := "treePaths", unfollowed := true, recurses := true, apart := false }
def TreePathsSaid : Prop := treePathsRow.holds Try.pinned (OpenSpec.ofChange treePathsSpec)

/-- ITS FALSE NEIGHBOUR: 'it returns false'. Refute it at one input. -/
def treePathsWrong : ChangeSpec := { name := "treePaths", fn := fun _ => fun
  | [d1, d2, d3] => { results := [.lit (.bool false)], args := [d1, d2, d3] }
  | _ => none }
def TreePathsWrongFalsely : Prop := treePathsRow.holds Try.pinned (OpenSpec.ofChange treePathsWrong)

/-- 'archipelagolaw08.TreeRings': WHATEVER THE INPUT: true; the input reads as it did. -/
def treeRingsSpec : ChangeSpec := { name := "treeRings", fn := fun _ => fun
  | [d1, d2] => { results := [.lit (.bool true)], args := [d1, d2] }
  | _ => none }
def treeRingsRow : OpenClaim := { program := "ytcibbcfkehpmiaa", sum := "c049c6fbf605e8ad496aa4d2553b074bff93572855f4b0e137de828f4c0cd3c0", func := "archipelago/archipelagolaw08.TreeRings", spec := "treeRings", unfollowed := true, recurses := true, apart := false }
def TreeRingsSaid : Prop := treeRingsRow.holds Try.pinned (OpenSpec.ofChange treeRingsSpec)

/-- ITS FALSE NEIGHBOUR: 'it returns false'. Refute it at one input. -/
def treeRingsWrong : ChangeSpec := { name := "treeRings", fn := fun _ => fun
  | [d1, d2] => { results := [.lit (.bool false)], args := [d1, d2] }
  | _ => none }
def TreeRingsWrongFalsely : Prop := treeRingsRow.holds Try.pinned (OpenSpec.ofChange treeRingsWrong)

/-- 'archipelagolaw08.TreeTwo': WHATEVER THE INPUT: true; the input reads as it did. -/
def treeTwoSpec : ChangeSpec := { name := "treeTwo", fn := fun _ => fun
  | [d1, d2, d3] => { results := [.lit (.bool true)], args := [d1, d2, d3] }
  | _ => none }
def treeTwoRow : OpenClaim := { program := "ytcibbcfkehpmiaa", sum := "c049c6fbf605e8ad496aa4d2553b074bff93572855f4b0e137de828f4c0cd3c0", func := "archipelago/archipelagolaw08.TreeTwo", spec := "treeTwo", unfollowed := true, recurses := true, apart := false }
def TreeTwoSaid : Prop := treeTwoRow.holds Try.pinned (OpenSpec.ofChange treeTwoSpec)

/-- ITS FALSE NEIGHBOUR: 'it returns false'. Refute it at one input. -/
def treeTwoWrong : ChangeSpec := { name := "treeTwo", fn := fun _ => fun
  | [d1, d2, d3] => { results := [.lit (.bool false)], args := [d1, d2, d3] }
  | _ => none }
def TreeTwoWrongFalsely : Prop := treeTwoRow.holds Try.pinned (OpenSpec.ofChange treeTwoWrong)

/-- 'archipelagolaw08.TreeTells': WHATEVER THE INPUT: true; the input reads as it did. -/
def treeTellsSpec : ChangeSpec := { name := "treeTells", fn := fun _ => fun
  | [d1, d2, d3] => { results := [.lit (.bool true)], args := [d1, d2, d3] }
  | _ => none }
def treeTellsRow : OpenClaim := { program := "ytcibbcfkehpmiaa", sum := "c049c6fbf605e8ad496aa4d2553b074bff93572855f4b0e137de828f4c0cd3c0", func := "archipelago/archipelagolaw08.TreeTells", spec := "treeTells", unfollowed := true, recurses := true, apart := false }
def TreeTellsSaid : Prop := treeTellsRow.holds Try.pinned (OpenSpec.ofChange treeTellsSpec)

/-- ITS FALSE NEIGHBOUR: 'it returns false'. Refute it at one input. -/
def treeTellsWrong : ChangeSpec := { name := "treeTells", fn := fun _ => fun
  | [d1, d2, d3] => { results := [.lit (.bool false)], args := [d1, d2, d3] }
  | _ => none }
def TreeTellsWrongFalsely : Prop := treeTellsRow.holds Try.pinned (OpenSpec.ofChange treeTellsWrong)

/-- 'archipelagolaw08.TreeSides': WHATEVER THE INPUT: true; the input reads as it did. -/
def treeSidesSpec : ChangeSpec := { name := "treeSides", fn := fun _ => fun
  | [d1, d2, d3] => { results := [.lit (.bool true)], args := [d1, d2, d3] }
  | _ => none }
def treeSidesRow : OpenClaim := { program := "ytcibbcfkehpmiaa", sum := "c049c6fbf605e8ad496aa4d2553b074bff93572855f4b0e137de828f4c0cd3c0", func := "archipelago/archipelagolaw08.TreeSides", spec := "treeSides", unfollowed := true, recurses := true, apart := false }
def TreeSidesSaid : Prop := treeSidesRow.holds Try.pinned (OpenSpec.ofChange treeSidesSpec)

/-- ITS FALSE NEIGHBOUR: 'it returns false'. Refute it at one input. -/
def treeSidesWrong : ChangeSpec := { name := "treeSides", fn := fun _ => fun
  | [d1, d2, d3] => { results := [.lit (.bool false)], args := [d1, d2, d3] }
  | _ => none }
def TreeSidesWrongFalsely : Prop := treeSidesRow.holds Try.pinned (OpenSpec.ofChange treeSidesWrong)

/-- 'archipelagolaw08.TreeNear': WHATEVER THE INPUT: true; the input reads as it did. -/
def treeNearSpec : ChangeSpec := { name := "treeNear", fn := fun _ => fun
  | [d1, d2, d3] => { results := [.lit (.bool true)], args := [d1, d2, d3] }
  | _ => none }
def treeNearRow : OpenClaim := { program := "ytcibbcfkehpmiaa", sum := "c049c6fbf605e8ad496aa4d2553b074bff93572855f4b0e137de828f4c0cd3c0", func := "archipelago/archipelagolaw08.TreeNear", spec := "treeNear", unfollowed := true, recurses := true, apart := false }
def TreeNearSaid : Prop := treeNearRow.holds Try.pinned (OpenSpec.ofChange treeNearSpec)

/-- ITS FALSE NEIGHBOUR: 'it returns false'. Refute it at one input. -/
def treeNearWrong : ChangeSpec := { name := "treeNear", fn := fun _ => fun
  | [d1, d2, d3] => { results := [.lit (.bool false)], args := [d1, d2, d3] }
  | _ => none }
def TreeNearWrongFalsely : Prop := treeNearRow.holds Try.pinned (OpenSpec.ofChange treeNearWrong)

/- THE SECOND FORM. 'bulk': how many values and letters a reading holds, each counted each time it is reached (what is shared counts as often as it is met; a slice's spare places count too). A statement '..UptoSaid' is the law's where the arguments, and the package variables that the reading takes, are together of bulk at most 1048576: NARROWER than '..Said'. Prove '..Said' where nothing that the law and all that it calls make is longer than what came in: it says more and counts as full. Else prove '..UptoSaid'. A law counts once. -/
mutual
def uptoBulk {H : Type} : DataW H → Nat
  | .lit (.string bytes) => bytes.length + 1
  | .lit _ => 1
  | .nil => 1
  | .ptr d => uptoBulk d + 1
  | .slice elems spare => uptoBulkAll elems + uptoBulkAll spare + 1
  | .agg parts => uptoBulkAll parts + 1
  | .iface _ d => uptoBulk d + 1
  | .map entries => uptoBulkEntries entries + 1
  | .held _ => 1
def uptoBulkAll {H : Type} : List (DataW H) → Nat
  | [] => 0
  | d :: r => uptoBulk d + uptoBulkAll r
def uptoBulkEntries {H : Type} : List (Lit × DataW H) → Nat
  | [] => 0
  | x :: r => uptoBulkEntry x + uptoBulkEntries r
def uptoBulkEntry {H : Type} : Lit × DataW H → Nat
  | (.string bytes, d) => bytes.length + uptoBulk d + 1
  | (_, d) => uptoBulk d + 1
 end
def uptoSmall : (H : Type) → List (DataW H) → Bool := fun _ ds => decide (uptoBulkAll ds ≤ 1048576)
def OpenSpec.upto (s : _root_.Go.ChangeSpec) : _root_.Go.OpenSpec := { _root_.Go.OpenSpec.ofChange s with cond := some uptoSmall }

/-- 'archipelagolaw08.TreePaths', WHERE WHAT IT READS IS OF BULK AT MOST 1048576: true; the input reads as it did. -/
def treePathsUptoRow : OpenClaim := { program := "ytcibbcfkehpmiaa", sum := "c049c6fbf605e8ad496aa4d2553b074bff93572855f4b0e137de828f4c0cd3c0", func := "archipelago/archipelagolaw08.TreePaths", spec := "treePaths", unfollowed := true, recurses := true, apart := false, narrowed := true }
def TreePathsUptoSaid : Prop := treePathsUptoRow.holds Try.pinned (OpenSpec.upto treePathsSpec)

/-- 'archipelagolaw08.TreeRings', WHERE WHAT IT READS IS OF BULK AT MOST 1048576: true; the input reads as it did. -/
def treeRingsUptoRow : OpenClaim := { program := "ytcibbcfkehpmiaa", sum := "c049c6fbf605e8ad496aa4d2553b074bff93572855f4b0e137de828f4c0cd3c0", func := "archipelago/archipelagolaw08.TreeRings", spec := "treeRings", unfollowed := true, recurses := true, apart := false, narrowed := true }
def TreeRingsUptoSaid : Prop := treeRingsUptoRow.holds Try.pinned (OpenSpec.upto treeRingsSpec)

/-- 'archipelagolaw08.TreeTwo', WHERE WHAT IT READS IS OF BULK AT MOST 1048576: true; the input reads as it did. -/
def treeTwoUptoRow : OpenClaim := { program := "ytcibbcfkehpmiaa", sum := "c049c6fbf605e8ad496aa4d2553b074bff93572855f4b0e137de828f4c0cd3c0", func := "archipelago/archipelagolaw08.TreeTwo", spec := "treeTwo", unfollowed := true, recurses := true, apart := false, narrowed := true }
def TreeTwoUptoSaid : Prop := treeTwoUptoRow.holds Try.pinned (OpenSpec.upto treeTwoSpec)

/-- 'archipelagolaw08.TreeTells', WHERE WHAT IT READS IS OF BULK AT MOST 1048576: true; the input reads as it did. -/
def treeTellsUptoRow : OpenClaim := { program := "ytcibbcfkehpmiaa", sum := "c049c6fbf605e8ad496aa4d2553b074bff93572855f4b0e137de828f4c0cd3c0", func := "archipelago/archipelagolaw08.TreeTells", spec := "treeTells", unfollowed := true, recurses := true, apart := false, narrowed := true }
def TreeTellsUptoSaid : Prop := treeTellsUptoRow.holds Try.pinned (OpenSpec.upto treeTellsSpec)

/-- 'archipelagolaw08.TreeSides', WHERE WHAT IT READS IS OF BULK AT MOST 1048576: true; the input reads as it did. -/
def treeSidesUptoRow : OpenClaim := { program := "ytcibbcfkehpmiaa", sum := "c049c6fbf605e8ad496aa4d2553b074bff93572855f4b0e137de828f4c0cd3c0", func := "archipelago/archipelagolaw08.TreeSides", spec := "treeSides", unfollowed := true, recurses := true, apart := false, narrowed := true }
def TreeSidesUptoSaid : Prop := treeSidesUptoRow.holds Try.pinned (OpenSpec.upto treeSidesSpec)

/-- 'archipelagolaw08.TreeNear', WHERE WHAT IT READS IS OF BULK AT MOST 1048576: true; the input reads as it did. -/
def treeNearUptoRow : OpenClaim := { program := "ytcibbcfkehpmiaa", sum := "c049c6fbf605e8ad496aa4d2553b074bff93572855f4b0e137de828f4c0cd3c0", func := "archipelago/archipelagolaw08.TreeNear", spec := "treeNear", unfollowed := true, recurses := true, apart := false, narrowed := true }
def TreeNearUptoSaid : Prop := treeNearUptoRow.holds Try.pinned (OpenSpec.upto treeNearSpec)

end Rows
end Go.Proofs.Ytcibbcfkehpmiaa
