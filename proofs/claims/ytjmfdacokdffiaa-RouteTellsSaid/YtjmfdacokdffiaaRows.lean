/-
  No cell of these rows narrows 'for every input' (looked for: loops, veiled, ifaces, maps, wideKeys, modest, calm, conditions, laid).
  DERIVED. THE GIVEN ROWS OF THIS SEAT. 6 by the template 'for every input the law returns true; each argument reads behind the call as it read before'; 0 by the template 'total and deterministic' (their statements: YtjmfdacokdffiaaTotals.lean).
  GIVEN WITH THE SEED: the statements are not yours to turn. If you find one false, say at which input.
  Laid BY PROGRAM, IN A SANDBOX (cutbox-rows.mjs): the forced cells as the released guide's own fill.sh prints them over the translation 357bc380a7dacf5f… (all of the seat's roots in one cut). By AI agents, Wed Nov 11 2026. No macro, syntax, notation, axiom, sorry.
-/
import Derived.Test.YtjmfdacokdffiaaChecked
import GoSem.Claim
import GoSem.ClaimJoined
import GoSem.ClaimMapViews
import Derived.JoinedTies
import Derived.KernelRfl
namespace Go.Proofs.Ytjmfdacokdffiaa
/- THE CELL 'sum', in the pinned program and in every row, IS THE sha256 OF THE DUMP (.gsa) THAT YtjmfdacokdffiaaProg.lean LOADS. Nothing in Lean hashes anything: it is a label: what it is worth is what the hold of that sum in a sandbox is worth. -/
noncomputable def Try.pinned : Pinned := { name := "ytjmfdacokdffiaa", sum := "357bc380a7dacf5f2d481f88bd1cc9a9ad38c23bfc0b275880087eb8d92a1313", checked := Try.checked }
namespace Rows
def none {H : Type} : Left H := { results := [], args := [] }

/-- 'archipelagolaw09.RouteOwners': WHATEVER THE INPUT: true; the input reads as it did. -/
def routeOwnersSpec : ChangeSpec := { name := "routeOwners", fn := fun _ => fun
  | [d1, d2, d3] => { results := [.lit (.bool true)], args := [d1, d2, d3] }
  | _ => none }
def routeOwnersRow : OpenClaim := { program := "ytjmfdacokdffiaa", sum := "357bc380a7dacf5f2d481f88bd1cc9a9ad38c23bfc0b275880087eb8d92a1313", func := "archipelago/archipelagolaw09.RouteOwners", spec := "routeOwners", unfollowed := true, recurses := true, apart := false }
def RouteOwnersSaid : Prop := routeOwnersRow.holds Try.pinned (OpenSpec.ofChange routeOwnersSpec)

/-- ITS FALSE NEIGHBOUR: 'it returns false'. Refute it at one input. -/
def routeOwnersWrong : ChangeSpec := { name := "routeOwners", fn := fun _ => fun
  | [d1, d2, d3] => { results := [.lit (.bool false)], args := [d1, d2, d3] }
  | _ => none }
def RouteOwnersWrongFalsely : Prop := routeOwnersRow.holds Try.pinned (OpenSpec.ofChange routeOwnersWrong)

/-- 'archipelagolaw09.RouteReach': WHATEVER THE INPUT: true; the input reads as it did. -/
def routeReachSpec : ChangeSpec := { name := "routeReach", fn := fun _ => fun
  | [d1, d2, d3] => { results := [.lit (.bool true)], args := [d1, d2, d3] }
  | _ => none }
def routeReachRow : OpenClaim := { program := "ytjmfdacokdffiaa", sum := "357bc380a7dacf5f2d481f88bd1cc9a9ad38c23bfc0b275880087eb8d92a1313", func := "archipelago/archipelagolaw09.RouteReach", spec := "routeReach", unfollowed := true, recurses := true, apart := false }
def RouteReachSaid : Prop := routeReachRow.holds Try.pinned (OpenSpec.ofChange routeReachSpec)

/-- ITS FALSE NEIGHBOUR: 'it returns false'. Refute it at one input. -/
def routeReachWrong : ChangeSpec := { name := "routeReach", fn := fun _ => fun
  | [d1, d2, d3] => { results := [.lit (.bool false)], args := [d1, d2, d3] }
  | _ => none }
def RouteReachWrongFalsely : Prop := routeReachRow.holds Try.pinned (OpenSpec.ofChange routeReachWrong)

/-- 'archipelagolaw09.RouteBack': WHATEVER THE INPUT: true; the input reads as it did. -/
def routeBackSpec : ChangeSpec := { name := "routeBack", fn := fun _ => fun
  | [d1, d2, d3] => { results := [.lit (.bool true)], args := [d1, d2, d3] }
  | _ => none }
def routeBackRow : OpenClaim := { program := "ytjmfdacokdffiaa", sum := "357bc380a7dacf5f2d481f88bd1cc9a9ad38c23bfc0b275880087eb8d92a1313", func := "archipelago/archipelagolaw09.RouteBack", spec := "routeBack", unfollowed := true, recurses := true, apart := false }
def RouteBackSaid : Prop := routeBackRow.holds Try.pinned (OpenSpec.ofChange routeBackSpec)

/-- ITS FALSE NEIGHBOUR: 'it returns false'. Refute it at one input. -/
def routeBackWrong : ChangeSpec := { name := "routeBack", fn := fun _ => fun
  | [d1, d2, d3] => { results := [.lit (.bool false)], args := [d1, d2, d3] }
  | _ => none }
def RouteBackWrongFalsely : Prop := routeBackRow.holds Try.pinned (OpenSpec.ofChange routeBackWrong)

/-- 'archipelagolaw09.RouteOnly': WHATEVER THE INPUT: true; the input reads as it did. -/
def routeOnlySpec : ChangeSpec := { name := "routeOnly", fn := fun _ => fun
  | [d1, d2, d3] => { results := [.lit (.bool true)], args := [d1, d2, d3] }
  | _ => none }
def routeOnlyRow : OpenClaim := { program := "ytjmfdacokdffiaa", sum := "357bc380a7dacf5f2d481f88bd1cc9a9ad38c23bfc0b275880087eb8d92a1313", func := "archipelago/archipelagolaw09.RouteOnly", spec := "routeOnly", unfollowed := true, recurses := true, apart := false }
def RouteOnlySaid : Prop := routeOnlyRow.holds Try.pinned (OpenSpec.ofChange routeOnlySpec)

/-- ITS FALSE NEIGHBOUR: 'it returns false'. Refute it at one input. -/
def routeOnlyWrong : ChangeSpec := { name := "routeOnly", fn := fun _ => fun
  | [d1, d2, d3] => { results := [.lit (.bool false)], args := [d1, d2, d3] }
  | _ => none }
def RouteOnlyWrongFalsely : Prop := routeOnlyRow.holds Try.pinned (OpenSpec.ofChange routeOnlyWrong)

/-- 'archipelagolaw09.RouteTells': WHATEVER THE INPUT: true; the input reads as it did. -/
def routeTellsSpec : ChangeSpec := { name := "routeTells", fn := fun _ => fun
  | [d1, d2, d3] => { results := [.lit (.bool true)], args := [d1, d2, d3] }
  | _ => none }
def routeTellsRow : OpenClaim := { program := "ytjmfdacokdffiaa", sum := "357bc380a7dacf5f2d481f88bd1cc9a9ad38c23bfc0b275880087eb8d92a1313", func := "archipelago/archipelagolaw09.RouteTells", spec := "routeTells", unfollowed := true, recurses := true, apart := false }
def RouteTellsSaid : Prop := routeTellsRow.holds Try.pinned (OpenSpec.ofChange routeTellsSpec)

/-- ITS FALSE NEIGHBOUR: 'it returns false'. Refute it at one input. -/
def routeTellsWrong : ChangeSpec := { name := "routeTells", fn := fun _ => fun
  | [d1, d2, d3] => { results := [.lit (.bool false)], args := [d1, d2, d3] }
  | _ => none }
def RouteTellsWrongFalsely : Prop := routeTellsRow.holds Try.pinned (OpenSpec.ofChange routeTellsWrong)

/-- 'archipelagolaw09.RouteServes': WHATEVER THE INPUT: true; the input reads as it did. -/
def routeServesSpec : ChangeSpec := { name := "routeServes", fn := fun _ => fun
  | [d1, d2, d3] => { results := [.lit (.bool true)], args := [d1, d2, d3] }
  | _ => none }
def routeServesRow : OpenClaim := { program := "ytjmfdacokdffiaa", sum := "357bc380a7dacf5f2d481f88bd1cc9a9ad38c23bfc0b275880087eb8d92a1313", func := "archipelago/archipelagolaw09.RouteServes", spec := "routeServes", unfollowed := true, recurses := true, apart := false }
def RouteServesSaid : Prop := routeServesRow.holds Try.pinned (OpenSpec.ofChange routeServesSpec)

/-- ITS FALSE NEIGHBOUR: 'it returns false'. Refute it at one input. -/
def routeServesWrong : ChangeSpec := { name := "routeServes", fn := fun _ => fun
  | [d1, d2, d3] => { results := [.lit (.bool false)], args := [d1, d2, d3] }
  | _ => none }
def RouteServesWrongFalsely : Prop := routeServesRow.holds Try.pinned (OpenSpec.ofChange routeServesWrong)

/- THE SECOND FORM. 'bulk': how many values and letters a reading holds, each counted each time it is reached (what is shared counts as often as it is met; a slice's spare places count too). A statement '..UptoSaid' is the law's where the arguments, and the package variables that the reading takes, are together of bulk at most 1048576: NARROWER than '..Said'. Prove '..Said' where nothing that the law and all that it calls make is longer than what came in: it says more and counts as full. Else prove '..UptoSaid'. A law counts once. -/
mutual
def uptoBulk {H : Type} : DataW H → Nat
  | .lit (.string bytes) => bytes.length + 1
  | .lit _ => 1
  | .nil => 1
  | .ptr d => uptoBulk d + 1
  | .slice elems spare => uptoBulkAll elems + uptoBulkAll spare + 1
  | .agg parts => uptoBulkAll parts + 1
  | .iface _ d => uptoBulk d + 1
  | .map entries => uptoBulkEntries entries + 1
  | .held _ => 1
def uptoBulkAll {H : Type} : List (DataW H) → Nat
  | [] => 0
  | d :: r => uptoBulk d + uptoBulkAll r
def uptoBulkEntries {H : Type} : List (Lit × DataW H) → Nat
  | [] => 0
  | x :: r => uptoBulkEntry x + uptoBulkEntries r
def uptoBulkEntry {H : Type} : Lit × DataW H → Nat
  | (.string bytes, d) => bytes.length + uptoBulk d + 1
  | (_, d) => uptoBulk d + 1
 end
def uptoSmall : (H : Type) → List (DataW H) → Bool := fun _ ds => decide (uptoBulkAll ds ≤ 1048576)
def OpenSpec.upto (s : _root_.Go.ChangeSpec) : _root_.Go.OpenSpec := { _root_.Go.OpenSpec.ofChange s with cond := some uptoSmall }

/-- 'archipelagolaw09.RouteOwners', WHERE WHAT IT READS IS OF BULK AT MOST 1048576: true; the input reads as it did. -/
def routeOwnersUptoRow : OpenClaim := { program := "ytjmfdacokdffiaa", sum := "357bc380a7dacf5f2d481f88bd1cc9a9ad38c23bfc0b275880087eb8d92a1313", func := "archipelago/archipelagolaw09.RouteOwners", spec := "routeOwners", unfollowed := true, recurses := true, apart := false, narrowed := true }
def RouteOwnersUptoSaid : Prop := routeOwnersUptoRow.holds Try.pinned (OpenSpec.upto routeOwnersSpec)

/-- 'archipelagolaw09.RouteReach', WHERE WHAT IT READS IS OF BULK AT MOST 1048576: true; the input reads as it did. -/
def routeReachUptoRow : OpenClaim := { program := "ytjmfdacokdffiaa", sum := "357bc380a7dacf5f2d481f88bd1cc9a9ad38c23bfc0b275880087eb8d92a1313", func := "archipelago/archipelagolaw09.RouteReach", spec := "routeReach", unfollowed := true, recurses := true, apart := false, narrowed := true }
def RouteReachUptoSaid : Prop := routeReachUptoRow.holds Try.pinned (OpenSpec.upto routeReachSpec)

/-- 'archipelagolaw09.RouteBack', WHERE WHAT IT READS IS OF BULK AT MOST 1048576: true; the input reads as it did. -/
def routeBackUptoRow : OpenClaim := { program := "ytjmfdacokdffiaa", sum := "357bc380a7dacf5f2d481f88bd1cc9a9ad38c23bfc0b275880087eb8d92a1313", func := "archipelago/archipelagolaw09.RouteBack", spec := "routeBack", unfollowed := true, recurses := true, apart := false, narrowed := true }
def RouteBackUptoSaid : Prop := routeBackUptoRow.holds Try.pinned (OpenSpec.upto routeBackSpec)

/-- 'archipelagolaw09.RouteOnly', WHERE WHAT IT READS IS OF BULK AT MOST 1048576: true; the input reads as it did. -/
def routeOnlyUptoRow : OpenClaim := { program := "ytjmfdacokdffiaa", sum := "357bc380a7dacf5f2d481f88bd1cc9a9ad38c23bfc0b275880087eb8d92a1313", func := "archipelago/archipelagolaw09.RouteOnly", spec := "routeOnly", unfollowed := true, recurses := true, apart := false, narrowed := true }
def RouteOnlyUptoSaid : Prop := routeOnlyUptoRow.holds Try.pinned (OpenSpec.upto routeOnlySpec)

/-- 'archipelagolaw09.RouteTells', WHERE WHAT IT READS IS OF BULK AT MOST 1048576: true; the input reads as it did. -/
def routeTellsUptoRow : OpenClaim := { program := "ytjmfdacokdffiaa", sum := "357bc380a7dacf5f2d481f88bd1cc9a9ad38c23bfc0b275880087eb8d92a1313", func := "archipelago/archipelagolaw09.RouteTells", spec := "routeTells", unfollowed := true, recurses := true, apart := false, narrowed := true }
def RouteTellsUptoSaid : Prop := routeTellsUptoRow.holds Try.pinned (OpenSpec.upto routeTellsSpec)

/-- 'archipelagolaw09.RouteServes', WHERE WHAT IT READS IS OF BULK AT MOST 1048576: true; the input reads as it did. -/
def routeServesUptoRow : OpenClaim := { program := "ytjmfdacokdffiaa", sum := "357bc380a7dacf5f2d481f88bd1cc9a9ad38c23bfc0b275880087eb8d92a1313", func := "archipelago/archipelagolaw09.RouteServes", spec := "routeServes", unfollowed := true, recurses := true, apart := false, narrowed := true }
def RouteServesUptoSaid : Prop := routeServesUptoRow.holds Try.pinned (OpenSpec.upto routeServesSpec)

end Rows
end Go.Proofs.Ytjmfdacokdffiaa
