/-
  No cell of these rows narrows 'for every input' (looked for: loops, veiled, ifaces, maps, wideKeys, modest, calm, conditions, laid).
  DERIVED. THE GIVEN ROWS OF THIS SEAT. 5 by the template 'for every input the law returns true; each argument reads behind the call as it read before'; 0 by the template 'total and deterministic' (their statements: YtbofgpmbocjbiaaTotals.lean).
  GIVEN WITH THE SEED: the statements are not yours to turn. If you find one false, say at which input.
  Laid BY PROGRAM, IN A SANDBOX (cutbox-rows.mjs): the forced cells as the released guide's own fill.sh prints them over the translation 4f4b7eb9276ef452… (all of the seat's roots in one cut). By AI agents, Wed Nov 11 2026. No macro, syntax, notation, axiom, sorry.
-/
import Derived.Test.YtbofgpmbocjbiaaChecked
import GoSem.Claim
import GoSem.ClaimJoined
import GoSem.ClaimMapViews
import Derived.JoinedTies
import Derived.KernelRfl
namespace Go.Proofs.Ytbofgpmbocjbiaa
/- THE CELL 'sum', in the pinned program and in every row, IS THE sha256 OF THE DUMP (.gsa) THAT YtbofgpmbocjbiaaProg.lean LOADS. Nothing in Lean hashes anything: it is a label: what it is worth is what the hold of that sum in a sandbox is worth. -/
noncomputable def Try.pinned : Pinned := { name := "ytbofgpmbocjbiaa", sum := "4f4b7eb9276ef452c9276a4cfbca2f64dcc2342e8c6c2e2ded193a9c61de6438", checked := Try.checked }
namespace Rows
def none {H : Type} : Left H := { results := [], args := [] }

/-- 'archipelagolaw25.MarkSafe': WHATEVER THE INPUT: true; the input reads as it did. -/
def markSafeSpec : ChangeSpec := { name := "markSafe", fn := fun _ => fun
  | [d1, d2] => { results := [.lit (.bool true)], args := [d1, d2] }
  | _ => none }
def markSafeRow : OpenClaim := { program := "ytbofgpmbocjbiaa", sum := "4f4b7eb9276ef452c9276a4cfbca2f64dcc2342e8c6c2e2ded193a9c61de6438", func := "archipelago/archipelagolaw25.MarkSafe", spec := "markSafe", unfollowed := true, recurses := true, plainKeys := false, apart := false }
def MarkSafeSaid : Prop := markSafeRow.holds Try.pinned (OpenSpec.ofChange markSafeSpec)

/-- ITS FALSE NEIGHBOUR: 'it returns false'. Refute it at one input. -/
def markSafeWrong : ChangeSpec := { name := "markSafe", fn := fun _ => fun
  | [d1, d2] => { results := [.lit (.bool false)], args := [d1, d2] }
  | _ => none }
def MarkSafeWrongFalsely : Prop := markSafeRow.holds Try.pinned (OpenSpec.ofChange markSafeWrong)

/-- 'archipelagolaw25.MarkOrder': WHATEVER THE INPUT: true; the input reads as it did. -/
def markOrderSpec : ChangeSpec := { name := "markOrder", fn := fun _ => fun
  | [d1, d2] => { results := [.lit (.bool true)], args := [d1, d2] }
  | _ => none }
def markOrderRow : OpenClaim := { program := "ytbofgpmbocjbiaa", sum := "4f4b7eb9276ef452c9276a4cfbca2f64dcc2342e8c6c2e2ded193a9c61de6438", func := "archipelago/archipelagolaw25.MarkOrder", spec := "markOrder", unfollowed := true, recurses := true, plainKeys := false, apart := false }
def MarkOrderSaid : Prop := markOrderRow.holds Try.pinned (OpenSpec.ofChange markOrderSpec)

/-- ITS FALSE NEIGHBOUR: 'it returns false'. Refute it at one input. -/
def markOrderWrong : ChangeSpec := { name := "markOrder", fn := fun _ => fun
  | [d1, d2] => { results := [.lit (.bool false)], args := [d1, d2] }
  | _ => none }
def MarkOrderWrongFalsely : Prop := markOrderRow.holds Try.pinned (OpenSpec.ofChange markOrderWrong)

/-- 'archipelagolaw25.MarkPlays': WHATEVER THE INPUT: true; the input reads as it did. -/
def markPlaysSpec : ChangeSpec := { name := "markPlays", fn := fun _ => fun
  | [d1, d2] => { results := [.lit (.bool true)], args := [d1, d2] }
  | _ => none }
def markPlaysRow : OpenClaim := { program := "ytbofgpmbocjbiaa", sum := "4f4b7eb9276ef452c9276a4cfbca2f64dcc2342e8c6c2e2ded193a9c61de6438", func := "archipelago/archipelagolaw25.MarkPlays", spec := "markPlays", unfollowed := true, recurses := true, plainKeys := false, apart := false }
def MarkPlaysSaid : Prop := markPlaysRow.holds Try.pinned (OpenSpec.ofChange markPlaysSpec)

/-- ITS FALSE NEIGHBOUR: 'it returns false'. Refute it at one input. -/
def markPlaysWrong : ChangeSpec := { name := "markPlays", fn := fun _ => fun
  | [d1, d2] => { results := [.lit (.bool false)], args := [d1, d2] }
  | _ => none }
def MarkPlaysWrongFalsely : Prop := markPlaysRow.holds Try.pinned (OpenSpec.ofChange markPlaysWrong)

/-- 'archipelagolaw25.MarkAll': WHATEVER THE INPUT: true; the input reads as it did. -/
def markAllSpec : ChangeSpec := { name := "markAll", fn := fun _ => fun
  | [d1, d2, d3] => { results := [.lit (.bool true)], args := [d1, d2, d3] }
  | _ => none }
def markAllRow : OpenClaim := { program := "ytbofgpmbocjbiaa", sum := "4f4b7eb9276ef452c9276a4cfbca2f64dcc2342e8c6c2e2ded193a9c61de6438", func := "archipelago/archipelagolaw25.MarkAll", spec := "markAll", unfollowed := true, recurses := true, plainKeys := false, apart := false }
def MarkAllSaid : Prop := markAllRow.holds Try.pinned (OpenSpec.ofChange markAllSpec)

/-- ITS FALSE NEIGHBOUR: 'it returns false'. Refute it at one input. -/
def markAllWrong : ChangeSpec := { name := "markAll", fn := fun _ => fun
  | [d1, d2, d3] => { results := [.lit (.bool false)], args := [d1, d2, d3] }
  | _ => none }
def MarkAllWrongFalsely : Prop := markAllRow.holds Try.pinned (OpenSpec.ofChange markAllWrong)

/-- 'archipelagolaw25.MarkNil': WHATEVER THE INPUT: true; the input reads as it did. -/
def markNilSpec : ChangeSpec := { name := "markNil", fn := fun _ => fun
  | [d1, d2, d3] => { results := [.lit (.bool true)], args := [d1, d2, d3] }
  | _ => none }
def markNilRow : OpenClaim := { program := "ytbofgpmbocjbiaa", sum := "4f4b7eb9276ef452c9276a4cfbca2f64dcc2342e8c6c2e2ded193a9c61de6438", func := "archipelago/archipelagolaw25.MarkNil", spec := "markNil", unfollowed := true, recurses := true, plainKeys := false, apart := false }
def MarkNilSaid : Prop := markNilRow.holds Try.pinned (OpenSpec.ofChange markNilSpec)

/-- ITS FALSE NEIGHBOUR: 'it returns false'. Refute it at one input. -/
def markNilWrong : ChangeSpec := { name := "markNil", fn := fun _ => fun
  | [d1, d2, d3] => { results := [.lit (.bool false)], args := [d1, d2, d3] }
  | _ => none }
def MarkNilWrongFalsely : Prop := markNilRow.holds Try.pinned (OpenSpec.ofChange markNilWrong)

/- THE SECOND FORM. 'bulk': how many values and letters a reading holds, each counted each time it is reached (what is shared counts as often as it is met; a slice's spare places count too). A statement '..UptoSaid' is the law's where the arguments, and the package variables that the reading takes, are together of bulk at most 1048576: NARROWER than '..Said'. Prove '..Said' where nothing that the law and all that it calls make is longer than what came in: it says more and counts as full. Else prove '..UptoSaid'. A law counts once. -/
mutual
def uptoBulk {H : Type} : DataW H → Nat
  | .lit (.string bytes) => bytes.length + 1
  | .lit _ => 1
  | .nil => 1
  | .ptr d => uptoBulk d + 1
  | .slice elems spare => uptoBulkAll elems + uptoBulkAll spare + 1
  | .agg parts => uptoBulkAll parts + 1
  | .iface _ d => uptoBulk d + 1
  | .map entries => uptoBulkEntries entries + 1
  | .held _ => 1
def uptoBulkAll {H : Type} : List (DataW H) → Nat
  | [] => 0
  | d :: r => uptoBulk d + uptoBulkAll r
def uptoBulkEntries {H : Type} : List (Lit × DataW H) → Nat
  | [] => 0
  | x :: r => uptoBulkEntry x + uptoBulkEntries r
def uptoBulkEntry {H : Type} : Lit × DataW H → Nat
  | (.string bytes, d) => bytes.length + uptoBulk d + 1
  | (_, d) => uptoBulk d + 1
 end
def uptoSmall : (H : Type) → List (DataW H) → Bool := fun _ ds => decide (uptoBulkAll ds ≤ 1048576)
def OpenSpec.upto (s : _root_.Go.ChangeSpec) : _root_.Go.OpenSpec := { _root_.Go.OpenSpec.ofChange s with cond := some uptoSmall }

/-- 'archipelagolaw25.MarkSafe', WHERE WHAT IT READS IS OF BULK AT MOST 1048576: true; the input reads as it did. -/
def markSafeUptoRow : OpenClaim := { program := "ytbofgpmbocjbiaa", sum := "4f4b7eb9276ef452c9276a4cfbca2f64dcc2342e8c6c2e2ded193a9c61de6438", func := "archipelago/archipelagolaw25.MarkSafe", spec := "markSafe", unfollowed := true, recurses := true, plainKeys := false, apart := false, narrowed := true }
def MarkSafeUptoSaid : Prop := markSafeUptoRow.holds Try.pinned (OpenSpec.upto markSafeSpec)

/-- 'archipelagolaw25.MarkOrder', WHERE WHAT IT READS IS OF BULK AT MOST 1048576: true; the input reads as it did. -/
def markOrderUptoRow : OpenClaim := { program := "ytbofgpmbocjbiaa", sum := "4f4b7eb9276ef452c9276a4cfbca2f64dcc2342e8c6c2e2ded193a9c61de6438", func := "archipelago/archipelagolaw25.MarkOrder", spec := "markOrder", unfollowed := true, recurses := true, plainKeys := false, apart := false, narrowed := true }
def MarkOrderUptoSaid : Prop := markOrderUptoRow.holds Try.pinned (OpenSpec.upto markOrderSpec)

/-- 'archipelagolaw25.MarkPlays', WHERE WHAT IT READS IS OF BULK AT MOST 1048576: true; the input reads as it did. -/
def markPlaysUptoRow : OpenClaim := { program := "ytbofgpmbocjbiaa", sum := "4f4b7eb9276ef452c9276a4cfbca2f64dcc2342e8c6c2e2ded193a9c61de6438", func := "archipelago/archipelagolaw25.MarkPlays", spec := "markPlays", unfollowed := true, recurses := true, plainKeys := false, apart := false, narrowed := true }
def MarkPlaysUptoSaid : Prop := markPlaysUptoRow.holds Try.pinned (OpenSpec.upto markPlaysSpec)

/-- 'archipelagolaw25.MarkAll', WHERE WHAT IT READS IS OF BULK AT MOST 1048576: true; the input reads as it did. -/
def markAllUptoRow : OpenClaim := { program := "ytbofgpmbocjbiaa", sum := "4f4b7eb9276ef452c9276a4cfbca2f64dcc2342e8c6c2e2ded193a9c61de6438", func := "archipelago/archipelagolaw25.MarkAll", spec := "markAll", unfollowed := true, recurses := true, plainKeys := false, apart := false, narrowed := true }
def MarkAllUptoSaid : Prop := markAllUptoRow.holds Try.pinned (OpenSpec.upto markAllSpec)

/-- 'archipelagolaw25.MarkNil', WHERE WHAT IT READS IS OF BULK AT MOST 1048576: true; the input reads as it did. -/
def markNilUptoRow : OpenClaim := { program := "ytbofgpmbocjbiaa", sum := "4f4b7eb9276ef452c9276a4cfbca2f64dcc2342e8c6c2e2ded193a9c61de6438", func := "archipelago/archipelagolaw25.MarkNil", spec := "markNil", unfollowed := true, recurses := true, plainKeys := false, apart := false, narrowed := true }
def MarkNilUptoSaid : Prop := markNilUptoRow.holds Try.pinned (OpenSpec.upto markNilSpec)

end Rows
end Go.Proofs.Ytbofgpmbocjbiaa
