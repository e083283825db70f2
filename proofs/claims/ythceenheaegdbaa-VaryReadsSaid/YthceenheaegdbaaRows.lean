/-
  No cell of these rows narrows 'for every input' (looked for: loops, veiled, ifaces, maps, wideKeys, modest, calm, conditions, laid).
  DERIVED. THE GIVEN ROWS OF THIS SEAT. 8 by the template 'for every input the law returns true; each argument reads behind the call as it read before'; 0 by the template 'total and deterministic' (their statements: YthceenheaegdbaaTotals.lean).
  GIVEN WITH THE SEED: the statements are not yours to turn. If you find one false, say at which input.
  Laid BY PROGRAM, IN A SANDBOX (cutbox-rows.mjs): the forced cells as the released guide's own fill.sh prints them over the translation 43376121251078f3… (all of the seat's roots in one cut). By AI agents, Wed Nov 11 2026. No macro, syntax, notation, axiom, sorry.
-/
import Derived.Test.YthceenheaegdbaaChecked
import GoSem.Claim
import GoSem.ClaimJoined
import GoSem.ClaimMapViews
import Derived.JoinedTies
import Derived.KernelRfl
namespace Go.Proofs.Ythceenheaegdbaa
/- THE CELL 'sum', in the pinned program and in every row, IS THE sha256 OF THE DUMP (.gsa) THAT YthceenheaegdbaaProg.lean LOADS. Nothing in Lean hashes anything: it is a label: what it is worth is what the hold of that sum in a sandbox is worth. -/
noncomputable def Try.pinned : Pinned := { name := "ythceenheaegdbaa", sum := "43376121251078f318be7736bf16b85445657b9adee22829c9708f85a984024b", checked := Try.checked }
namespace Rows
def none {H : Type} : Left H := { results := [], args := [] }

/-- 'archipelagolaw01.VaryOnly': WHATEVER THE INPUT: true; the input reads as it did. -/
def varyOnlySpec : ChangeSpec := { name := "varyOnly", fn := fun _ => fun
  | [d1, d2] => { results := [.lit (.bool true)], args := [d1, d2] }
  | _ => none }
def varyOnlyRow : OpenClaim := { program := "ythceenheaegdbaa", sum := "43376121251078f318be7736bf16b85445657b9adee22829c9708f85a984024b", func := "archipelago/archipelagolaw01.VaryOnly", spec := "varyOnly", inPlace := ["internal/abi.NoEscape"], unfollowed := true, recurses := true, apart := false }
def VaryOnlySaid : Prop := varyOnlyRow.holds Try.pinned (OpenSpec.ofChange varyOnlySpec)

/-- ITS FALSE NEIGHBOUR: 'it returns false'. Refute it at one input. -/
def varyOnlyWrong : ChangeSpec := { name := "varyOnly", fn := fun _ => fun
  | [d1, d2] => { results := [.lit (.bool false)], args := [d1, d2] }
  | _ => none }
def VaryOnlyWrongFalsely : Prop := varyOnlyRow.holds Try.pinned (OpenSpec.ofChange varyOnlyWrong)

/-- 'archipelagolaw01.VaryPrefix': WHATEVER THE INPUT: true; the input reads as it did. -/
def varyPrefixSpec : ChangeSpec := { name := "varyPrefix", fn := fun _ => fun
  | [d1, d2] => { results := [.lit (.bool true)], args := [d1, d2] }
  | _ => none }
def varyPrefixRow : OpenClaim := { program := "ythceenheaegdbaa", sum := "43376121251078f318be7736bf16b85445657b9adee22829c9708f85a984024b", func := "archipelago/archipelagolaw01.VaryPrefix", spec := "varyPrefix", inPlace := ["internal/abi.NoEscape"], unfollowed := true, recurses := true, apart := false }
def VaryPrefixSaid : Prop := varyPrefixRow.holds Try.pinned (OpenSpec.ofChange varyPrefixSpec)

/-- ITS FALSE NEIGHBOUR: 'it returns false'. Refute it at one input. -/
def varyPrefixWrong : ChangeSpec := { name := "varyPrefix", fn := fun _ => fun
  | [d1, d2] => { results := [.lit (.bool false)], args := [d1, d2] }
  | _ => none }
def VaryPrefixWrongFalsely : Prop := varyPrefixRow.holds Try.pinned (OpenSpec.ofChange varyPrefixWrong)

/-- 'archipelagolaw01.VaryTexts': WHATEVER THE INPUT: true; the input reads as it did. -/
def varyTextsSpec : ChangeSpec := { name := "varyTexts", fn := fun _ => fun
  | [d] => { results := [.lit (.bool true)], args := [d] }
  | _ => none }
def varyTextsRow : OpenClaim := { program := "ythceenheaegdbaa", sum := "43376121251078f318be7736bf16b85445657b9adee22829c9708f85a984024b", func := "archipelago/archipelagolaw01.VaryTexts", spec := "varyTexts", inPlace := ["internal/abi.NoEscape"], unfollowed := true, recurses := true, apart := false }
def VaryTextsSaid : Prop := varyTextsRow.holds Try.pinned (OpenSpec.ofChange varyTextsSpec)

/-- ITS FALSE NEIGHBOUR: 'it returns false'. Refute it at one input. -/
def varyTextsWrong : ChangeSpec := { name := "varyTexts", fn := fun _ => fun
  | [d] => { results := [.lit (.bool false)], args := [d] }
  | _ => none }
def VaryTextsWrongFalsely : Prop := varyTextsRow.holds Try.pinned (OpenSpec.ofChange varyTextsWrong)

/-- 'archipelagolaw01.VaryLong': WHATEVER THE INPUT: true; the input reads as it did. -/
def varyLongSpec : ChangeSpec := { name := "varyLong", fn := fun _ => fun
  | [d1, d2] => { results := [.lit (.bool true)], args := [d1, d2] }
  | _ => none }
def varyLongRow : OpenClaim := { program := "ythceenheaegdbaa", sum := "43376121251078f318be7736bf16b85445657b9adee22829c9708f85a984024b", func := "archipelago/archipelagolaw01.VaryLong", spec := "varyLong", inPlace := ["internal/abi.NoEscape"], unfollowed := true, recurses := true, apart := false }
def VaryLongSaid : Prop := varyLongRow.holds Try.pinned (OpenSpec.ofChange varyLongSpec)

/-- ITS FALSE NEIGHBOUR: 'it returns false'. Refute it at one input. -/
def varyLongWrong : ChangeSpec := { name := "varyLong", fn := fun _ => fun
  | [d1, d2] => { results := [.lit (.bool false)], args := [d1, d2] }
  | _ => none }
def VaryLongWrongFalsely : Prop := varyLongRow.holds Try.pinned (OpenSpec.ofChange varyLongWrong)

/-- 'archipelagolaw01.VaryWrites': WHATEVER THE INPUT: true; the input reads as it did. -/
def varyWritesSpec : ChangeSpec := { name := "varyWrites", fn := fun _ => fun
  | [d1, d2, d3] => { results := [.lit (.bool true)], args := [d1, d2, d3] }
  | _ => none }
def varyWritesRow : OpenClaim := { program := "ythceenheaegdbaa", sum := "43376121251078f318be7736bf16b85445657b9adee22829c9708f85a984024b", func := "archipelago/archipelagolaw01.VaryWrites", spec := "varyWrites", inPlace := ["internal/abi.NoEscape"], unfollowed := true, recurses := true, apart := false }
def VaryWritesSaid : Prop := varyWritesRow.holds Try.pinned (OpenSpec.ofChange varyWritesSpec)

/-- ITS FALSE NEIGHBOUR: 'it returns false'. Refute it at one input. -/
def varyWritesWrong : ChangeSpec := { name := "varyWrites", fn := fun _ => fun
  | [d1, d2, d3] => { results := [.lit (.bool false)], args := [d1, d2, d3] }
  | _ => none }
def VaryWritesWrongFalsely : Prop := varyWritesRow.holds Try.pinned (OpenSpec.ofChange varyWritesWrong)

/-- 'archipelagolaw01.VaryReads': WHATEVER THE INPUT: true; the input reads as it did. -/
def varyReadsSpec : ChangeSpec := { name := "varyReads", fn := fun _ => fun
  | [d1, d2, d3] => { results := [.lit (.bool true)], args := [d1, d2, d3] }
  | _ => none }
def varyReadsRow : OpenClaim := { program := "ythceenheaegdbaa", sum := "43376121251078f318be7736bf16b85445657b9adee22829c9708f85a984024b", func := "archipelago/archipelagolaw01.VaryReads", spec := "varyReads", inPlace := ["internal/abi.NoEscape"], unfollowed := true, recurses := true, apart := false }
def VaryReadsSaid : Prop := varyReadsRow.holds Try.pinned (OpenSpec.ofChange varyReadsSpec)

/-- ITS FALSE NEIGHBOUR: 'it returns false'. Refute it at one input. -/
def varyReadsWrong : ChangeSpec := { name := "varyReads", fn := fun _ => fun
  | [d1, d2, d3] => { results := [.lit (.bool false)], args := [d1, d2, d3] }
  | _ => none }
def VaryReadsWrongFalsely : Prop := varyReadsRow.holds Try.pinned (OpenSpec.ofChange varyReadsWrong)

/-- 'archipelagolaw01.VaryBack': WHATEVER THE INPUT: true; the input reads as it did. -/
def varyBackSpec : ChangeSpec := { name := "varyBack", fn := fun _ => fun
  | [d1, d2, d3] => { results := [.lit (.bool true)], args := [d1, d2, d3] }
  | _ => none }
def varyBackRow : OpenClaim := { program := "ythceenheaegdbaa", sum := "43376121251078f318be7736bf16b85445657b9adee22829c9708f85a984024b", func := "archipelago/archipelagolaw01.VaryBack", spec := "varyBack", inPlace := ["internal/abi.NoEscape"], unfollowed := true, recurses := true, apart := false }
def VaryBackSaid : Prop := varyBackRow.holds Try.pinned (OpenSpec.ofChange varyBackSpec)

/-- ITS FALSE NEIGHBOUR: 'it returns false'. Refute it at one input. -/
def varyBackWrong : ChangeSpec := { name := "varyBack", fn := fun _ => fun
  | [d1, d2, d3] => { results := [.lit (.bool false)], args := [d1, d2, d3] }
  | _ => none }
def VaryBackWrongFalsely : Prop := varyBackRow.holds Try.pinned (OpenSpec.ofChange varyBackWrong)

/-- 'archipelagolaw01.VarySplit': WHATEVER THE INPUT: true; the input reads as it did. -/
def varySplitSpec : ChangeSpec := { name := "varySplit", fn := fun _ => fun
  | [d] => { results := [.lit (.bool true)], args := [d] }
  | _ => none }
def varySplitRow : OpenClaim := { program := "ythceenheaegdbaa", sum := "43376121251078f318be7736bf16b85445657b9adee22829c9708f85a984024b", func := "archipelago/archipelagolaw01.VarySplit", spec := "varySplit", inPlace := ["internal/abi.NoEscape"], unfollowed := true, recurses := true, apart := false }
def VarySplitSaid : Prop := varySplitRow.holds Try.pinned (OpenSpec.ofChange varySplitSpec)

/-- ITS FALSE NEIGHBOUR: 'it returns false'. Refute it at one input. -/
def varySplitWrong : ChangeSpec := { name := "varySplit", fn := fun _ => fun
  | [d] => { results := [.lit (.bool false)], args := [d] }
  | _ => none }
def VarySplitWrongFalsely : Prop := varySplitRow.holds Try.pinned (OpenSpec.ofChange varySplitWrong)

/- THE SECOND FORM. 'bulk': how many values and letters a reading holds, each counted each time it is reached (what is shared counts as often as it is met; a slice's spare places count too). A statement '..UptoSaid' is the law's where the arguments, and the package variables that the reading takes, are together of bulk at most 1048576: NARROWER than '..Said'. Prove '..Said' where nothing that the law and all that it calls make is longer than what came in: it says more and counts as full. Else prove '..UptoSaid'. A law counts once. -/
mutual
def uptoBulk {H : Type} : DataW H → Nat
  | .lit (.string bytes) => bytes.length + 1
  | .lit _ => 1
  | .nil => 1
  | .ptr d => uptoBulk d + 1
  | .slice elems spare => uptoBulkAll elems + uptoBulkAll spare + 1
  | .agg parts => uptoBulkAll parts + 1
  | .iface _ d => uptoBulk d + 1
  | .map entries => uptoBulkEntries entries + 1
  | .held _ => 1
def uptoBulkAll {H : Type} : List (DataW H) → Nat
  | [] => 0
  | d :: r => uptoBulk d + uptoBulkAll r
def uptoBulkEntries {H : Type} : List (Lit × DataW H) → Nat
  | [] => 0
  | x :: r => uptoBulkEntry x + uptoBulkEntries r
def uptoBulkEntry {H : Type} : Lit × DataW H → Nat
  | (.string bytes, d) => bytes.length + uptoBulk d + 1
  | (_, d) => uptoBulk d + 1
 end
def uptoSmall : (H : Type) → List (DataW H) → Bool := fun _ ds => decide (uptoBulkAll ds ≤ 1048576)
def OpenSpec.upto (s : _root_.Go.ChangeSpec) : _root_.Go.OpenSpec := { _root_.Go.OpenSpec.ofChange s with cond := some uptoSmall }

/-- 'archipelagolaw01.VaryOnly', WHERE WHAT IT READS IS OF BULK AT MOST 1048576: true; the input reads as it did. -/
def varyOnlyUptoRow : OpenClaim := { program := "ythceenheaegdbaa", sum := "43376121251078f318be7736bf16b85445657b9adee22829c9708f85a984024b", func := "archipelago/archipelagolaw01.VaryOnly", spec := "varyOnly", inPlace := ["internal/abi.NoEscape"], unfollowed := true, recurses := true, apart := false, narrowed := true }
def VaryOnlyUptoSaid : Prop := varyOnlyUptoRow.holds Try.pinned (OpenSpec.upto varyOnlySpec)

/-- 'archipelagolaw01.VaryPrefix', WHERE WHAT IT READS IS OF BULK AT MOST 1048576: true; the input reads as it did. -/
def varyPrefixUptoRow : OpenClaim := { program := "ythceenheaegdbaa", sum := "43376121251078f318be7736bf16b85445657b9adee22829c9708f85a984024b", func := "archipelago/archipelagolaw01.VaryPrefix", spec := "varyPrefix", inPlace := ["internal/abi.NoEscape"], unfollowed := true, recurses := true, apart := false, narrowed := true }
def VaryPrefixUptoSaid : Prop := varyPrefixUptoRow.holds Try.pinned (OpenSpec.upto varyPrefixSpec)

/-- 'archipelagolaw01.VaryTexts', WHERE WHAT IT READS IS OF BULK AT MOST 1048576: true; the input reads as it did. -/
def varyTextsUptoRow : OpenClaim := { program := "ythceenheaegdbaa", sum := "43376121251078f318be7736bf16b85445657b9adee22829c9708f85a984024b", func := "archipelago/archipelagolaw01.VaryTexts", spec := "varyTexts", inPlace := ["internal/abi.NoEscape"], unfollowed := true, recurses := true, apart := false, narrowed := true }
def VaryTextsUptoSaid : Prop := varyTextsUptoRow.holds Try.pinned (OpenSpec.upto varyTextsSpec)

/-- 'archipelagolaw01.VaryLong', WHERE WHAT IT READS IS OF BULK AT MOST 1048576: true; the input reads as it did. -/
def varyLongUptoRow : OpenClaim := { program := "ythceenheaegdbaa", sum := "43376121251078f318be7736bf16b85445657b9adee22829c9708f85a984024b", func := "archipelago/archipelagolaw01.VaryLong", spec := "varyLong", inPlace := ["internal/abi.NoEscape"], unfollowed := true, recurses := true, apart := false, narrowed := true }
def VaryLongUptoSaid : Prop := varyLongUptoRow.holds Try.pinned (OpenSpec.upto varyLongSpec)

/-- 'archipelagolaw01.VaryWrites', WHERE WHAT IT READS IS OF BULK AT MOST 1048576: true; the input reads as it did. -/
def varyWritesUptoRow : OpenClaim := { program := "ythceenheaegdbaa", sum := "43376121251078f318be7736bf16b85445657b9adee22829c9708f85a984024b", func := "archipelago/archipelagolaw01.VaryWrites", spec := "varyWrites", inPlace := ["internal/abi.NoEscape"], unfollowed := true, recurses := true, apart := false, narrowed := true }
def VaryWritesUptoSaid : Prop := varyWritesUptoRow.holds Try.pinned (OpenSpec.upto varyWritesSpec)

/-- 'archipelagolaw01.VaryReads', WHERE WHAT IT READS IS OF BULK AT MOST 1048576: true; the input reads as it did. -/
def varyReadsUptoRow : OpenClaim := { program := "ythceenheaegdbaa", sum := "43376121251078f318be7736bf16b85445657b9adee22829c9708f85a984024b", func := "archipelago/archipelagolaw01.VaryReads", spec := "varyReads", inPlace := ["internal/abi.NoEscape"], unfollowed := true, recurses := true, apart := false, narrowed := true }
def VaryReadsUptoSaid : Prop := varyReadsUptoRow.holds Try.pinned (OpenSpec.upto varyReadsSpec)

/-- 'archipelagolaw01.VaryBack', WHERE WHAT IT READS IS OF BULK AT MOST 1048576: true; the input reads as it did. -/
def varyBackUptoRow : OpenClaim := { program := "ythceenheaegdbaa", sum := "43376121251078f318be7736bf16b85445657b9adee22829c9708f85a984024b", func := "archipelago/archipelagolaw01.VaryBack", spec := "varyBack", inPlace := ["internal/abi.NoEscape"], unfollowed := true, recurses := true, apart := false, narrowed := true }
def VaryBackUptoSaid : Prop := varyBackUptoRow.holds Try.pinned (OpenSpec.upto varyBackSpec)

/-- 'archipelagolaw01.VarySplit', WHERE WHAT IT READS IS OF BULK AT MOST 1048576: true; the input reads as it did. -/
def varySplitUptoRow : OpenClaim := { program := "ythceenheaegdbaa", sum := "43376121251078f318be7736bf16b85445657b9adee22829c9708f85a984024b", func := "archipelago/archipelagolaw01.VarySplit", spec := "varySplit", inPlace := ["internal/abi.NoEscape"], unfollowed := true, recurses := true, apart := false, narrowed := true }
def VarySplitUptoSaid : Prop := varySplitUptoRow.holds Try.pinned (OpenSpec.upto varySplitSpec)

end Rows
end Go.Proofs.Ythceenheaegdbaa
