/-
  No cell of these rows narrows 'for every input' (looked for: loops, veiled, ifaces, maps, wideKeys, modest, calm, conditions, laid).
  DERIVED. THE GIVEN ROWS OF THIS SEAT. 7 by the template 'for every input the law returns true; each argument reads behind the call as it read before'; 0 by the template 'total and deterministic' (their statements: YtfiocebipckaaaaTotals.lean).
  GIVEN WITH THE SEED: the statements are not yours to turn. If you find one false, say at which input.
  Laid BY PROGRAM, IN A SANDBOX (cutbox-rows.mjs): the forced cells as the released guide's own fill.sh prints them over the translation 6385e9d1ef292f1b… (all of the seat's roots in one cut). By AI agents, Wed Nov 11 2026. No macro, syntax, notation, axiom, sorry.
-/
import Derived.Test.YtfiocebipckaaaaChecked
import GoSem.Claim
import GoSem.ClaimJoined
import GoSem.ClaimMapViews
import Derived.JoinedTies
import Derived.KernelRfl
namespace Go.Proofs.Ytfiocebipckaaaa
/- THE CELL 'sum', in the pinned program and in every row, IS THE sha256 OF THE DUMP (.gsa) THAT YtfiocebipckaaaaProg.lean LOADS. Nothing in Lean hashes anything: it is a label: what it is worth is what the hold of that sum in a sandbox is worth. -/
noncomputable def Try.pinned : Pinned := { name := "ytfiocebipckaaaa", sum := "6385e9d1ef292f1b43b475c087ba9609490350226228191edb4a035d93930d4b", checked := Try.checked }
namespace Rows
def none {H : Type} : Left H := { results := [], args := [] }

/-- 'archipelagolaw03.StampNext': WHATEVER THE INPUT: true; the input reads as it did. -/
def stampNextSpec : ChangeSpec := { name := "stampNext", fn := fun _ => fun
  | [d1, d2, d3] => { results := [.lit (.bool true)], args := [d1, d2, d3] }
  | _ => none }
def stampNextRow : OpenClaim := { program := "ytfiocebipckaaaa", sum := "6385e9d1ef292f1b43b475c087ba9609490350226228191edb4a035d93930d4b", func := "archipelago/archipelagolaw03.StampNext", spec := "stampNext", apart := false }
def StampNextSaid : Prop := stampNextRow.holds Try.pinned (OpenSpec.ofChange stampNextSpec)

/-- ITS FALSE NEIGHBOUR: 'it returns false'. Refute it at one input. -/
def stampNextWrong : ChangeSpec := { name := "stampNext", fn := fun _ => fun
  | [d1, d2, d3] => { results := [.lit (.bool false)], args := [d1, d2, d3] }
  | _ => none }
def StampNextWrongFalsely : Prop := stampNextRow.holds Try.pinned (OpenSpec.ofChange stampNextWrong)

/-- 'archipelagolaw03.StampSites': WHATEVER THE INPUT: true; the input reads as it did. -/
def stampSitesSpec : ChangeSpec := { name := "stampSites", fn := fun _ => fun
  | [d1, d2, d3] => { results := [.lit (.bool true)], args := [d1, d2, d3] }
  | _ => none }
def stampSitesRow : OpenClaim := { program := "ytfiocebipckaaaa", sum := "6385e9d1ef292f1b43b475c087ba9609490350226228191edb4a035d93930d4b", func := "archipelago/archipelagolaw03.StampSites", spec := "stampSites", apart := false }
def StampSitesSaid : Prop := stampSitesRow.holds Try.pinned (OpenSpec.ofChange stampSitesSpec)

/-- ITS FALSE NEIGHBOUR: 'it returns false'. Refute it at one input. -/
def stampSitesWrong : ChangeSpec := { name := "stampSites", fn := fun _ => fun
  | [d1, d2, d3] => { results := [.lit (.bool false)], args := [d1, d2, d3] }
  | _ => none }
def StampSitesWrongFalsely : Prop := stampSitesRow.holds Try.pinned (OpenSpec.ofChange stampSitesWrong)

/-- 'archipelagolaw03.StampOrder': WHATEVER THE INPUT: true; the input reads as it did. -/
def stampOrderSpec : ChangeSpec := { name := "stampOrder", fn := fun _ => fun
  | [d1, d2, d3] => { results := [.lit (.bool true)], args := [d1, d2, d3] }
  | _ => none }
def stampOrderRow : OpenClaim := { program := "ytfiocebipckaaaa", sum := "6385e9d1ef292f1b43b475c087ba9609490350226228191edb4a035d93930d4b", func := "archipelago/archipelagolaw03.StampOrder", spec := "stampOrder", apart := false }
def StampOrderSaid : Prop := stampOrderRow.holds Try.pinned (OpenSpec.ofChange stampOrderSpec)

/-- ITS FALSE NEIGHBOUR: 'it returns false'. Refute it at one input. -/
def stampOrderWrong : ChangeSpec := { name := "stampOrder", fn := fun _ => fun
  | [d1, d2, d3] => { results := [.lit (.bool false)], args := [d1, d2, d3] }
  | _ => none }
def StampOrderWrongFalsely : Prop := stampOrderRow.holds Try.pinned (OpenSpec.ofChange stampOrderWrong)

/-- 'archipelagolaw03.StampMax': WHATEVER THE INPUT: true; the input reads as it did. -/
def stampMaxSpec : ChangeSpec := { name := "stampMax", fn := fun _ => fun
  | [d] => { results := [.lit (.bool true)], args := [d] }
  | _ => none }
def stampMaxRow : OpenClaim := { program := "ytfiocebipckaaaa", sum := "6385e9d1ef292f1b43b475c087ba9609490350226228191edb4a035d93930d4b", func := "archipelago/archipelagolaw03.StampMax", spec := "stampMax", apart := false }
def StampMaxSaid : Prop := stampMaxRow.holds Try.pinned (OpenSpec.ofChange stampMaxSpec)

/-- ITS FALSE NEIGHBOUR: 'it returns false'. Refute it at one input. -/
def stampMaxWrong : ChangeSpec := { name := "stampMax", fn := fun _ => fun
  | [d] => { results := [.lit (.bool false)], args := [d] }
  | _ => none }
def StampMaxWrongFalsely : Prop := stampMaxRow.holds Try.pinned (OpenSpec.ofChange stampMaxWrong)

/-- 'archipelagolaw03.StampBack': WHATEVER THE INPUT: true; the input reads as it did. -/
def stampBackSpec : ChangeSpec := { name := "stampBack", fn := fun _ => fun
  | [d1, d2, d3] => { results := [.lit (.bool true)], args := [d1, d2, d3] }
  | _ => none }
def stampBackRow : OpenClaim := { program := "ytfiocebipckaaaa", sum := "6385e9d1ef292f1b43b475c087ba9609490350226228191edb4a035d93930d4b", func := "archipelago/archipelagolaw03.StampBack", spec := "stampBack", inPlace := ["internal/abi.NoEscape"], unfollowed := true, recurses := true, apart := false }
def StampBackSaid : Prop := stampBackRow.holds Try.pinned (OpenSpec.ofChange stampBackSpec)

/-- ITS FALSE NEIGHBOUR: 'it returns false'. Refute it at one input. -/
def stampBackWrong : ChangeSpec := { name := "stampBack", fn := fun _ => fun
  | [d1, d2, d3] => { results := [.lit (.bool false)], args := [d1, d2, d3] }
  | _ => none }
def StampBackWrongFalsely : Prop := stampBackRow.holds Try.pinned (OpenSpec.ofChange stampBackWrong)

/-- 'archipelagolaw03.StampRow': WHATEVER THE INPUT: true; the input reads as it did. -/
def stampRowSpec : ChangeSpec := { name := "stampRow", fn := fun _ => fun
  | [d] => { results := [.lit (.bool true)], args := [d] }
  | _ => none }
def stampRowRow : OpenClaim := { program := "ytfiocebipckaaaa", sum := "6385e9d1ef292f1b43b475c087ba9609490350226228191edb4a035d93930d4b", func := "archipelago/archipelagolaw03.StampRow", spec := "stampRow", inPlace := ["internal/abi.NoEscape"], unfollowed := true, recurses := true, apart := false }
def StampRowSaid : Prop := stampRowRow.holds Try.pinned (OpenSpec.ofChange stampRowSpec)

/-- ITS FALSE NEIGHBOUR: 'it returns false'. Refute it at one input. -/
def stampRowWrong : ChangeSpec := { name := "stampRow", fn := fun _ => fun
  | [d] => { results := [.lit (.bool false)], args := [d] }
  | _ => none }
def StampRowWrongFalsely : Prop := stampRowRow.holds Try.pinned (OpenSpec.ofChange stampRowWrong)

/-- 'archipelagolaw03.StampTells': WHATEVER THE INPUT: true; the input reads as it did. -/
def stampTellsSpec : ChangeSpec := { name := "stampTells", fn := fun _ => fun
  | [d1, d2, d3] => { results := [.lit (.bool true)], args := [d1, d2, d3] }
  | _ => none }
def stampTellsRow : OpenClaim := { program := "ytfiocebipckaaaa", sum := "6385e9d1ef292f1b43b475c087ba9609490350226228191edb4a035d93930d4b", func := "archipelago/archipelagolaw03.StampTells", spec := "stampTells", inPlace := ["internal/abi.NoEscape"], unfollowed := true, recurses := true, apart := false }
def StampTellsSaid : Prop := stampTellsRow.holds Try.pinned (OpenSpec.ofChange stampTellsSpec)

/-- ITS FALSE NEIGHBOUR: 'it returns false'. Refute it at one input. -/
def stampTellsWrong : ChangeSpec := { name := "stampTells", fn := fun _ => fun
  | [d1, d2, d3] => { results := [.lit (.bool false)], args := [d1, d2, d3] }
  | _ => none }
def StampTellsWrongFalsely : Prop := stampTellsRow.holds Try.pinned (OpenSpec.ofChange stampTellsWrong)

/- THE SECOND FORM. 'bulk': how many values and letters a reading holds, each counted each time it is reached (what is shared counts as often as it is met; a slice's spare places count too). A statement '..UptoSaid' is the law's where the arguments, and the package variables that the reading takes, are together of bulk at most 1048576: NARROWER than '..Said'. Prove '..Said' where nothing that the law and all that it calls make is longer than what came in: it says more and counts as full. Else prove '..UptoSaid'. A law counts once. -/
mutual
def uptoBulk {H : Type} : DataW H → Nat
  | .lit (.string bytes) => bytes.length + 1
  | .lit _ => 1
  | .nil => 1
  | .ptr d => uptoBulk d + 1
  | .slice elems spare => uptoBulkAll elems + uptoBulkAll spare + 1
  | .agg parts => uptoBulkAll parts + 1
  | .iface _ d => uptoBulk d + 1
  | .map entries => uptoBulkEntries entries + 1
  | .held _ => 1
def uptoBulkAll {H : Type} : List (DataW H) → Nat
  | [] => 0
  | d :: r => uptoBulk d + uptoBulkAll r
def uptoBulkEntries {H : Type} : List (Lit × DataW H) → Nat
  | [] => 0
  | x :: r => uptoBulkEntry x + uptoBulkEntries r
def uptoBulkEntry {H : Type} : Lit × DataW H → Nat
  | (.string bytes, d) => bytes.length + uptoBulk d + 1
  | (_, d) => uptoBulk d + 1
 end
def uptoSmall : (H : Type) → List (DataW H) → Bool := fun _ ds => decide (uptoBulkAll ds ≤ 1048576)
def OpenSpec.upto (s : _root_.Go.ChangeSpec) : _root_.Go.OpenSpec := { _root_.Go.OpenSpec.ofChange s with cond := some uptoSmall }

/-- 'archipelagolaw03.StampNext', WHERE WHAT IT READS IS OF BULK AT MOST 1048576: true; the input reads as it did. -/
def stampNextUptoRow : OpenClaim := { program := "ytfiocebipckaaaa", sum := "6385e9d1ef292f1b43b475c087ba9609490350226228191edb4a035d93930d4b", func := "archipelago/archipelagolaw03.StampNext", spec := "stampNext", apart := false, narrowed := true }
def StampNextUptoSaid : Prop := stampNextUptoRow.holds Try.pinned (OpenSpec.upto stampNextSpec)

/-- 'archipelagolaw03.StampSites', WHERE WHAT IT READS IS OF BULK AT MOST 1048576: true; the input reads as it did. -/
def stampSitesUptoRow : OpenClaim := { program := "ytfiocebipckaaaa", sum := "6385e9d1ef292f1b43b475c087ba9609490350226228191edb4a035d93930d4b", func := "archipelago/archipelagolaw03.StampSites", spec := "stampSites", apart := false, narrowed := true }
def StampSitesUptoSaid : Prop := stampSitesUptoRow.holds Try.pinned (OpenSpec.upto stampSitesSpec)

/-- 'archipelagolaw03.StampOrder', WHERE WHAT IT READS IS OF BULK AT MOST 1048576: true; the input reads as it did. -/
def stampOrderUptoRow : OpenClaim := { program := "ytfiocebipckaaaa", sum := "6385e9d1ef292f1b43b475c087ba9609490350226228191edb4a035d93930d4b", func := "archipelago/archipelagolaw03.StampOrder", spec := "stampOrder", apart := false, narrowed := true }
def StampOrderUptoSaid : Prop := stampOrderUptoRow.holds Try.pinned (OpenSpec.upto stampOrderSpec)

/-- 'archipelagolaw03.StampMax', WHERE WHAT IT READS IS OF BULK AT MOST 1048576: true; the input reads as it did. -/
def stampMaxUptoRow : OpenClaim := { program := "ytfiocebipckaaaa", sum := "6385e9d1ef292f1b43b475c087ba9609490350226228191edb4a035d93930d4b", func := "archipelago/archipelagolaw03.StampMax", spec := "stampMax", apart := false, narrowed := true }
def StampMaxUptoSaid : Prop := stampMaxUptoRow.holds Try.pinned (OpenSpec.upto stampMaxSpec)

/-- 'archipelagolaw03.StampBack', WHERE WHAT IT READS IS OF BULK AT MOST 1048576: true; the input reads as it did. -/
def stampBackUptoRow : OpenClaim := { program := "ytfiocebipckaaaa", sum := "6385e9d1ef292f1b43b475c087ba9609490350226228191edb4a035d93930d4b", func := "archipelago/archipelagolaw03.StampBack", spec := "stampBack", inPlace := ["internal/abi.NoEscape"], unfollowed := true, recurses := true, apart := false, narrowed := true }
def StampBackUptoSaid : Prop := stampBackUptoRow.holds Try.pinned (OpenSpec.upto stampBackSpec)

/-- 'archipelagolaw03.StampRow', WHERE WHAT IT READS IS OF BULK AT MOST 1048576: true; the input reads as it did. -/
def stampRowUptoRow : OpenClaim := { program := "ytfiocebipckaaaa", sum := "6385e9d1ef292f1b43b475c087ba9609490350226228191edb4a035d93930d4b", func := "archipelago/archipelagolaw03.StampRow", spec := "stampRow", inPlace := ["internal/abi.NoEscape"], unfollowed := true, recurses := true, apart := false, narrowed := true }
def StampRowUptoSaid : Prop := stampRowUptoRow.holds Try.pinned (OpenSpec.upto stampRowSpec)

/-- 'archipelagolaw03.StampTells', WHERE WHAT IT READS IS OF BULK AT MOST 1048576: true; the input reads as it did. -/
def stampTellsUptoRow : OpenClaim := { program := "ytfiocebipckaaaa", sum := "6385e9d1ef292f1b43b475c087ba9609490350226228191edb4a035d93930d4b", func := "archipelago/archipelagolaw03.StampTells", spec := "stampTells", inPlace := ["internal/abi.NoEscape"], unfollowed := true, recurses := true, apart := false, narrowed := true }
def StampTellsUptoSaid : Prop := stampTellsUptoRow.holds Try.pinned (OpenSpec.upto stampTellsSpec)

end Rows
end Go.Proofs.Ytfiocebipckaaaa
