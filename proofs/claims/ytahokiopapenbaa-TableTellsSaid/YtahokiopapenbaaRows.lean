/-
  No cell of these rows narrows 'for every input' (looked for: loops, veiled, ifaces, maps, wideKeys, modest, calm, conditions, laid).
  DERIVED. THE GIVEN ROWS OF THIS SEAT. 6 by the template 'for every input the law returns true; each argument reads behind the call as it read before'; 0 by the template 'total and deterministic' (their statements: YtahokiopapenbaaTotals.lean).
  GIVEN WITH THE SEED: the statements are not yours to turn. If you find one false, say at which input.
  Laid BY PROGRAM, IN A SANDBOX (cutbox-rows.mjs): the forced cells as the released guide's own fill.sh prints them over the translation 4fd803226da4e162… (all of the seat's roots in one cut). By AI agents, Wed Nov 11 2026. No macro, syntax, notation, axiom, sorry.
-/
import Derived.Test.YtahokiopapenbaaChecked
import GoSem.Claim
import GoSem.ClaimJoined
import GoSem.ClaimMapViews
import Derived.JoinedTies
import Derived.KernelRfl
namespace Go.Proofs.Ytahokiopapenbaa
/- THE CELL 'sum', in the pinned program and in every row, IS THE sha256 OF THE DUMP (.gsa) THAT YtahokiopapenbaaProg.lean LOADS. Nothing in Lean hashes anything: it is a label: what it is worth is what the hold of that sum in a sandbox is worth. -/
noncomputable def Try.pinned : Pinned := { name := "ytahokiopapenbaa", sum := "4fd803226da4e162734c7d784b5cb74e7a0455b5f9d424d21c9e9e794d0f0f97", checked := Try.checked }
namespace Rows
def none {H : Type} : Left H := { results := [], args := [] }

/-- 'archipelagolaw07.TableMany': WHATEVER THE INPUT: true; the input reads as it did. -/
def tableManySpec : ChangeSpec := { name := "tableMany", fn := fun _ => fun
  | [d] => { results := [.lit (.bool true)], args := [d] }
  | _ => none }
def tableManyRow : OpenClaim := { program := "ytahokiopapenbaa", sum := "4fd803226da4e162734c7d784b5cb74e7a0455b5f9d424d21c9e9e794d0f0f97", func := "archipelago/archipelagolaw07.TableMany", spec := "tableMany", unfollowed := true, recurses := true, apart := false }
def TableManySaid : Prop := tableManyRow.holds Try.pinned (OpenSpec.ofChange tableManySpec)

/-- ITS FALSE NEIGHBOUR: 'it returns false'. Refute it at one input. -/
def tableManyWrong : ChangeSpec := { name := "tableMany", fn := fun _ => fun
  | [d] => { results := [.lit (.bool false)], args := [d] }
  | _ => none }
def TableManyWrongFalsely : Prop := tableManyRow.holds Try.pinned (OpenSpec.ofChange tableManyWrong)

/-- 'archipelagolaw07.TableGrown': WHATEVER THE INPUT: true; the input reads as it did. -/
def tableGrownSpec : ChangeSpec := { name := "tableGrown", fn := fun _ => fun
  | [d1, d2, d3] => { results := [.lit (.bool true)], args := [d1, d2, d3] }
  | _ => none }
def tableGrownRow : OpenClaim := { program := "ytahokiopapenbaa", sum := "4fd803226da4e162734c7d784b5cb74e7a0455b5f9d424d21c9e9e794d0f0f97", func := "archipelago/archipelagolaw07.TableGrown", spec := "tableGrown", unfollowed := true, recurses := true, apart := false }
def TableGrownSaid : Prop := tableGrownRow.holds Try.pinned (OpenSpec.ofChange tableGrownSpec)

/-- ITS FALSE NEIGHBOUR: 'it returns false'. Refute it at one input. -/
def tableGrownWrong : ChangeSpec := { name := "tableGrown", fn := fun _ => fun
  | [d1, d2, d3] => { results := [.lit (.bool false)], args := [d1, d2, d3] }
  | _ => none }
def TableGrownWrongFalsely : Prop := tableGrownRow.holds Try.pinned (OpenSpec.ofChange tableGrownWrong)

/-- 'archipelagolaw07.TableSame': WHATEVER THE INPUT: true; the input reads as it did. -/
def tableSameSpec : ChangeSpec := { name := "tableSame", fn := fun _ => fun
  | [d1, d2] => { results := [.lit (.bool true)], args := [d1, d2] }
  | _ => none }
def tableSameRow : OpenClaim := { program := "ytahokiopapenbaa", sum := "4fd803226da4e162734c7d784b5cb74e7a0455b5f9d424d21c9e9e794d0f0f97", func := "archipelago/archipelagolaw07.TableSame", spec := "tableSame", unfollowed := true, recurses := true, apart := false }
def TableSameSaid : Prop := tableSameRow.holds Try.pinned (OpenSpec.ofChange tableSameSpec)

/-- ITS FALSE NEIGHBOUR: 'it returns false'. Refute it at one input. -/
def tableSameWrong : ChangeSpec := { name := "tableSame", fn := fun _ => fun
  | [d1, d2] => { results := [.lit (.bool false)], args := [d1, d2] }
  | _ => none }
def TableSameWrongFalsely : Prop := tableSameRow.holds Try.pinned (OpenSpec.ofChange tableSameWrong)

/-- 'archipelagolaw07.TableTells': WHATEVER THE INPUT: true; the input reads as it did. -/
def tableTellsSpec : ChangeSpec := { name := "tableTells", fn := fun _ => fun
  | [d1, d2, d3] => { results := [.lit (.bool true)], args := [d1, d2, d3] }
  | _ => none }
def tableTellsRow : OpenClaim := { program := "ytahokiopapenbaa", sum := "4fd803226da4e162734c7d784b5cb74e7a0455b5f9d424d21c9e9e794d0f0f97", func := "archipelago/archipelagolaw07.TableTells", spec := "tableTells", unfollowed := true, recurses := true, apart := false }
def TableTellsSaid : Prop := tableTellsRow.holds Try.pinned (OpenSpec.ofChange tableTellsSpec)

/-- ITS FALSE NEIGHBOUR: 'it returns false'. Refute it at one input. -/
def tableTellsWrong : ChangeSpec := { name := "tableTells", fn := fun _ => fun
  | [d1, d2, d3] => { results := [.lit (.bool false)], args := [d1, d2, d3] }
  | _ => none }
def TableTellsWrongFalsely : Prop := tableTellsRow.holds Try.pinned (OpenSpec.ofChange tableTellsWrong)

/-- 'archipelagolaw07.TableSome': WHATEVER THE INPUT: true; the input reads as it did. -/
def tableSomeSpec : ChangeSpec := { name := "tableSome", fn := fun _ => fun
  | [d1, d2] => { results := [.lit (.bool true)], args := [d1, d2] }
  | _ => none }
def tableSomeRow : OpenClaim := { program := "ytahokiopapenbaa", sum := "4fd803226da4e162734c7d784b5cb74e7a0455b5f9d424d21c9e9e794d0f0f97", func := "archipelago/archipelagolaw07.TableSome", spec := "tableSome", unfollowed := true, recurses := true, apart := false }
def TableSomeSaid : Prop := tableSomeRow.holds Try.pinned (OpenSpec.ofChange tableSomeSpec)

/-- ITS FALSE NEIGHBOUR: 'it returns false'. Refute it at one input. -/
def tableSomeWrong : ChangeSpec := { name := "tableSome", fn := fun _ => fun
  | [d1, d2] => { results := [.lit (.bool false)], args := [d1, d2] }
  | _ => none }
def TableSomeWrongFalsely : Prop := tableSomeRow.holds Try.pinned (OpenSpec.ofChange tableSomeWrong)

/-- 'archipelagolaw07.TableSites': WHATEVER THE INPUT: true; the input reads as it did. -/
def tableSitesSpec : ChangeSpec := { name := "tableSites", fn := fun _ => fun
  | [d1, d2, d3] => { results := [.lit (.bool true)], args := [d1, d2, d3] }
  | _ => none }
def tableSitesRow : OpenClaim := { program := "ytahokiopapenbaa", sum := "4fd803226da4e162734c7d784b5cb74e7a0455b5f9d424d21c9e9e794d0f0f97", func := "archipelago/archipelagolaw07.TableSites", spec := "tableSites", unfollowed := true, recurses := true, apart := false }
def TableSitesSaid : Prop := tableSitesRow.holds Try.pinned (OpenSpec.ofChange tableSitesSpec)

/-- ITS FALSE NEIGHBOUR: 'it returns false'. Refute it at one input. -/
def tableSitesWrong : ChangeSpec := { name := "tableSites", fn := fun _ => fun
  | [d1, d2, d3] => { results := [.lit (.bool false)], args := [d1, d2, d3] }
  | _ => none }
def TableSitesWrongFalsely : Prop := tableSitesRow.holds Try.pinned (OpenSpec.ofChange tableSitesWrong)

/- THE SECOND FORM. 'bulk': how many values and letters a reading holds, each counted each time it is reached (what is shared counts as often as it is met; a slice's spare places count too). A statement '..UptoSaid' is the law's where the arguments, and the package variables that the reading takes, are together of bulk at most 1048576: NARROWER than '..Said'. Prove '..Said' where nothing that the law and all that it calls make is longer than what came in: it says more and counts as full. Else prove '..UptoSaid'. A law counts once. -/
mutual
def uptoBulk {H : Type} : DataW H → Nat
  | .lit (.string bytes) => bytes.length + 1
  | .lit _ => 1
  | .nil => 1
  | .ptr d => uptoBulk d + 1
  | .slice elems spare => uptoBulkAll elems + uptoBulkAll spare + 1
  | .agg parts => uptoBulkAll parts + 1
  | .iface _ d => uptoBulk d + 1
  | .map entries => uptoBulkEntries entries + 1
  | .held _ => 1
def uptoBulkAll {H : Type} : List (DataW H) → Nat
  | [] => 0
  | d :: r => uptoBulk d + uptoBulkAll r
def uptoBulkEntries {H : Type} : List (Lit × DataW H) → Nat
  | [] => 0
  | x :: r => uptoBulkEntry x + uptoBulkEntries r
def uptoBulkEntry {H : Type} : Lit × DataW H → Nat
  | (.string bytes, d) => bytes.length + uptoBulk d + 1
  | (_, d) => uptoBulk d + 1
 end
def uptoSmall : (H : Type) → List (DataW H) → Bool := fun _ ds => decide (uptoBulkAll ds ≤ 1048576)
def OpenSpec.upto (s : _root_.Go.ChangeSpec) : _root_.Go.OpenSpec := { _root_.Go.OpenSpec.ofChange s with cond := some uptoSmall }

/-- 'archipelagolaw07.TableMany', WHERE WHAT IT READS IS OF BULK AT MOST 1048576: true; the input reads as it did. -/
def tableManyUptoRow : OpenClaim := { program := "ytahokiopapenbaa", sum := "4fd803226da4e162734c7d784b5cb74e7a0455b5f9d424d21c9e9e794d0f0f97", func := "archipelago/archipelagolaw07.TableMany", spec := "tableMany", unfollowed := true, recurses := true, apart := false, narrowed := true }
def TableManyUptoSaid : Prop := tableManyUptoRow.holds Try.pinned (OpenSpec.upto tableManySpec)

/-- 'archipelagolaw07.TableGrown', WHERE WHAT IT READS IS OF BULK AT MOST 1048576: true; the input reads as it did. -/
def tableGrownUptoRow : OpenClaim := { program := "ytahokiopapenbaa", sum := "4fd803226da4e162734c7d784b5cb74e7a0455b5f9d424d21c9e9e794d0f0f97", func := "archipelago/archipelagolaw07.TableGrown", spec := "tableGrown", unfollowed := true, recurses := true, apart := false, narrowed := true }
def TableGrownUptoSaid : Prop := tableGrownUptoRow.holds Try.pinned (OpenSpec.upto tableGrownSpec)

/-- 'archipelagolaw07.TableSame', WHERE WHAT IT READS IS OF BULK AT MOST 1048576: true; the input reads as it did. -/
def tableSameUptoRow : OpenClaim := { program := "ytahokiopapenbaa", sum := "4fd803226da4e162734c7d784b5cb74e7a0455b5f9d424d21c9e9e794d0f0f97", func := "archipelago/archipelagolaw07.TableSame", spec := "tableSame", unfollowed := true, recurses := true, apart := false, narrowed := true }
def TableSameUptoSaid : Prop := tableSameUptoRow.holds Try.pinned (OpenSpec.upto tableSameSpec)

/-- 'archipelagolaw07.TableTells', WHERE WHAT IT READS IS OF BULK AT MOST 1048576: true; the input reads as it did. -/
def tableTellsUptoRow : OpenClaim := { program := "ytahokiopapenbaa", sum := "4fd803226da4e162734c7d784b5cb74e7a0455b5f9d424d21c9e9e794d0f0f97", func := "archipelago/archipelagolaw07.TableTells", spec := "tableTells", unfollowed := true, recurses := true, apart := false, narrowed := true }
def TableTellsUptoSaid : Prop := tableTellsUptoRow.holds Try.pinned (OpenSpec.upto tableTellsSpec)

/-- 'archipelagolaw07.TableSome', WHERE WHAT IT READS IS OF BULK AT MOST 1048576: true; the input reads as it did. -/
def tableSomeUptoRow : OpenClaim := { program := "ytahokiopapenbaa", sum := "4fd803226da4e162734c7d784b5cb74e7a0455b5f9d424d21c9e9e794d0f0f97", func := "archipelago/archipelagolaw07.TableSome", spec := "tableSome", unfollowed := true, recurses := true, apart := false, narrowed := true }
def TableSomeUptoSaid : Prop := tableSomeUptoRow.holds Try.pinned (OpenSpec.upto tableSomeSpec)

/-- 'archipelagolaw07.TableSites', WHERE WHAT IT READS IS OF BULK AT MOST 1048576: true; the input reads as it did. -/
def tableSitesUptoRow : OpenClaim := { program := "ytahokiopapenbaa", sum := "4fd803226da4e162734c7d784b5cb74e7a0455b5f9d424d21c9e9e794d0f0f97", func := "archipelago/archipelagolaw07.TableSites", spec := "tableSites", unfollowed := true, recurses := true, apart := false, narrowed := true }
def TableSitesUptoSaid : Prop := tableSitesUptoRow.holds Try.pinned (OpenSpec.upto tableSitesSpec)

end Rows
end Go.Proofs.Ytahokiopapenbaa
