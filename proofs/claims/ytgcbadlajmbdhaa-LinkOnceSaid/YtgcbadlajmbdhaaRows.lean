/-
  No cell of these rows narrows 'for every input' (looked for: loops, veiled, ifaces, maps, wideKeys, modest, calm, conditions, laid).
  DERIVED. THE GIVEN ROWS OF THIS SEAT. 7 by the template 'for every input the law returns true; each argument reads behind the call as it read before'; 0 by the template 'total and deterministic' (their statements: YtgcbadlajmbdhaaTotals.lean).
  GIVEN WITH THE SEED: the statements are not yours to turn. If you find one false, say at which input.
  Laid BY PROGRAM, IN A SANDBOX (cutbox-rows.mjs): the forced cells as the released guide's own fill.sh prints them over the translation 6ff4c92d8213c33c… (all of the seat's roots in one cut). By AI agents, Wed Nov 11 2026. No macro, syntax, notation, axiom, sorry.
-/
import Derived.Test.YtgcbadlajmbdhaaChecked
import GoSem.Claim
import GoSem.ClaimJoined
import GoSem.ClaimMapViews
import Derived.JoinedTies
import Derived.KernelRfl
namespace Go.Proofs.Ytgcbadlajmbdhaa
/- THE CELL 'sum', in the pinned program and in every row, IS THE sha256 OF THE DUMP (.gsa) THAT YtgcbadlajmbdhaaProg.lean LOADS. Nothing in Lean hashes anything: it is a label: what it is worth is what the hold of that sum in a sandbox is worth. -/
noncomputable def Try.pinned : Pinned := { name := "ytgcbadlajmbdhaa", sum := "6ff4c92d8213c33c2b56728511060763255df6cac41fbc9014c9afcc9fb26fb2", checked := Try.checked }
namespace Rows
def none {H : Type} : Left H := { results := [], args := [] }

/-- 'archipelagolaw10.LinkStrange': WHATEVER THE INPUT: true; the input reads as it did. -/
def linkStrangeSpec : ChangeSpec := { name := "linkStrange", fn := fun _ => fun
  | [d1, d2] => { results := [.lit (.bool true)], args := [d1, d2] }
  | _ => none }
def linkStrangeRow : OpenClaim := { program := "ytgcbadlajmbdhaa", sum := "6ff4c92d8213c33c2b56728511060763255df6cac41fbc9014c9afcc9fb26fb2", func := "archipelago/archipelagolaw10.LinkStrange", spec := "linkStrange", apart := false }
def LinkStrangeSaid : Prop := linkStrangeRow.holds Try.pinned (OpenSpec.ofChange linkStrangeSpec)

/-- ITS FALSE NEIGHBOUR: 'it returns false'. Refute it at one input. -/
def linkStrangeWrong : ChangeSpec := { name := "linkStrange", fn := fun _ => fun
  | [d1, d2] => { results := [.lit (.bool false)], args := [d1, d2] }
  | _ => none }
def LinkStrangeWrongFalsely : Prop := linkStrangeRow.holds Try.pinned (OpenSpec.ofChange linkStrangeWrong)

/-- 'archipelagolaw10.LinkOnce': WHATEVER THE INPUT: true; the input reads as it did. -/
def linkOnceSpec : ChangeSpec := { name := "linkOnce", fn := fun _ => fun
  | [d1, d2] => { results := [.lit (.bool true)], args := [d1, d2] }
  | _ => none }
def linkOnceRow : OpenClaim := { program := "ytgcbadlajmbdhaa", sum := "6ff4c92d8213c33c2b56728511060763255df6cac41fbc9014c9afcc9fb26fb2", func := "archipelago/archipelagolaw10.LinkOnce", spec := "linkOnce", apart := false }
def LinkOnceSaid : Prop := linkOnceRow.holds Try.pinned (OpenSpec.ofChange linkOnceSpec)

/-- ITS FALSE NEIGHBOUR: 'it returns false'. Refute it at one input. -/
def linkOnceWrong : ChangeSpec := { name := "linkOnce", fn := fun _ => fun
  | [d1, d2] => { results := [.lit (.bool false)], args := [d1, d2] }
  | _ => none }
def LinkOnceWrongFalsely : Prop := linkOnceRow.holds Try.pinned (OpenSpec.ofChange linkOnceWrong)

/-- 'archipelagolaw10.LinkFull': WHATEVER THE INPUT: true; the input reads as it did. -/
def linkFullSpec : ChangeSpec := { name := "linkFull", fn := fun _ => fun
  | [d1, d2] => { results := [.lit (.bool true)], args := [d1, d2] }
  | _ => none }
def linkFullRow : OpenClaim := { program := "ytgcbadlajmbdhaa", sum := "6ff4c92d8213c33c2b56728511060763255df6cac41fbc9014c9afcc9fb26fb2", func := "archipelago/archipelagolaw10.LinkFull", spec := "linkFull", apart := false }
def LinkFullSaid : Prop := linkFullRow.holds Try.pinned (OpenSpec.ofChange linkFullSpec)

/-- ITS FALSE NEIGHBOUR: 'it returns false'. Refute it at one input. -/
def linkFullWrong : ChangeSpec := { name := "linkFull", fn := fun _ => fun
  | [d1, d2] => { results := [.lit (.bool false)], args := [d1, d2] }
  | _ => none }
def LinkFullWrongFalsely : Prop := linkFullRow.holds Try.pinned (OpenSpec.ofChange linkFullWrong)

/-- 'archipelagolaw10.LinkAnswers': WHATEVER THE INPUT: true; the input reads as it did. -/
def linkAnswersSpec : ChangeSpec := { name := "linkAnswers", fn := fun _ => fun
  | [d1, d2] => { results := [.lit (.bool true)], args := [d1, d2] }
  | _ => none }
def linkAnswersRow : OpenClaim := { program := "ytgcbadlajmbdhaa", sum := "6ff4c92d8213c33c2b56728511060763255df6cac41fbc9014c9afcc9fb26fb2", func := "archipelago/archipelagolaw10.LinkAnswers", spec := "linkAnswers", apart := false }
def LinkAnswersSaid : Prop := linkAnswersRow.holds Try.pinned (OpenSpec.ofChange linkAnswersSpec)

/-- ITS FALSE NEIGHBOUR: 'it returns false'. Refute it at one input. -/
def linkAnswersWrong : ChangeSpec := { name := "linkAnswers", fn := fun _ => fun
  | [d1, d2] => { results := [.lit (.bool false)], args := [d1, d2] }
  | _ => none }
def LinkAnswersWrongFalsely : Prop := linkAnswersRow.holds Try.pinned (OpenSpec.ofChange linkAnswersWrong)

/-- 'archipelagolaw10.LinkPlays': WHATEVER THE INPUT: true; the input reads as it did. -/
def linkPlaysSpec : ChangeSpec := { name := "linkPlays", fn := fun _ => fun
  | [d] => { results := [.lit (.bool true)], args := [d] }
  | _ => none }
def linkPlaysRow : OpenClaim := { program := "ytgcbadlajmbdhaa", sum := "6ff4c92d8213c33c2b56728511060763255df6cac41fbc9014c9afcc9fb26fb2", func := "archipelago/archipelagolaw10.LinkPlays", spec := "linkPlays", apart := false }
def LinkPlaysSaid : Prop := linkPlaysRow.holds Try.pinned (OpenSpec.ofChange linkPlaysSpec)

/-- ITS FALSE NEIGHBOUR: 'it returns false'. Refute it at one input. -/
def linkPlaysWrong : ChangeSpec := { name := "linkPlays", fn := fun _ => fun
  | [d] => { results := [.lit (.bool false)], args := [d] }
  | _ => none }
def LinkPlaysWrongFalsely : Prop := linkPlaysRow.holds Try.pinned (OpenSpec.ofChange linkPlaysWrong)

/-- 'archipelagolaw10.LinkAll': WHATEVER THE INPUT: true; the input reads as it did. -/
def linkAllSpec : ChangeSpec := { name := "linkAll", fn := fun _ => fun
  | [d1, d2] => { results := [.lit (.bool true)], args := [d1, d2] }
  | _ => none }
def linkAllRow : OpenClaim := { program := "ytgcbadlajmbdhaa", sum := "6ff4c92d8213c33c2b56728511060763255df6cac41fbc9014c9afcc9fb26fb2", func := "archipelago/archipelagolaw10.LinkAll", spec := "linkAll", apart := false }
def LinkAllSaid : Prop := linkAllRow.holds Try.pinned (OpenSpec.ofChange linkAllSpec)

/-- ITS FALSE NEIGHBOUR: 'it returns false'. Refute it at one input. -/
def linkAllWrong : ChangeSpec := { name := "linkAll", fn := fun _ => fun
  | [d1, d2] => { results := [.lit (.bool false)], args := [d1, d2] }
  | _ => none }
def LinkAllWrongFalsely : Prop := linkAllRow.holds Try.pinned (OpenSpec.ofChange linkAllWrong)

/-- 'archipelagolaw10.LinkNil': WHATEVER THE INPUT: true; the input reads as it did. -/
def linkNilSpec : ChangeSpec := { name := "linkNil", fn := fun _ => fun
  | [d] => { results := [.lit (.bool true)], args := [d] }
  | _ => none }
def linkNilRow : OpenClaim := { program := "ytgcbadlajmbdhaa", sum := "6ff4c92d8213c33c2b56728511060763255df6cac41fbc9014c9afcc9fb26fb2", func := "archipelago/archipelagolaw10.LinkNil", spec := "linkNil", apart := false }
def LinkNilSaid : Prop := linkNilRow.holds Try.pinned (OpenSpec.ofChange linkNilSpec)

/-- ITS FALSE NEIGHBOUR: 'it returns false'. Refute it at one input. -/
def linkNilWrong : ChangeSpec := { name := "linkNil", fn := fun _ => fun
  | [d] => { results := [.lit (.bool false)], args := [d] }
  | _ => none }
def LinkNilWrongFalsely : Prop := linkNilRow.holds Try.pinned (OpenSpec.ofChange linkNilWrong)

/- THE SECOND FORM. 'bulk': how many values and letters a reading holds, each counted each time it is reached (what is shared counts as often as it is met; a slice's spare places count too). A statement '..UptoSaid' is the law's where the arguments, and the package variables that the reading takes, are together of bulk at most 1048576: NARROWER than '..Said'. Prove '..Said' where nothing that the law and all that it calls make is longer than what came in: it says more and counts as full. Else prove '..UptoSaid'. A law counts once. -/
mutual
def uptoBulk {H : Type} : DataW H → Nat
  | .lit (.string bytes) => bytes.length + 1
  | .lit _ => 1
  | .nil => 1
  | .ptr d => uptoBulk d + 1
  | .slice elems spare => uptoBulkAll elems + uptoBulkAll spare + 1
  | .agg parts => uptoBulkAll parts + 1
  | .iface _ d => uptoBulk d + 1
  | .map entries => uptoBulkEntries entries + 1
  | .held _ => 1
def uptoBulkAll {H : Type} : List (DataW H) → Nat
  | [] => 0
  | d :: r => uptoBulk d + uptoBulkAll r
def uptoBulkEntries {H : Type} : List (Lit × DataW H) → Nat
  | [] => 0
  | x :: r => uptoBulkEntry x + uptoBulkEntries r
def uptoBulkEntry {H : Type} : Lit × DataW H → Nat
  | (.string bytes, d) => bytes.length + uptoBulk d + 1
  | (_, d) => uptoBulk d + 1
 end
def uptoSmall : (H : Type) → List (DataW H) → Bool := fun _ ds => decide (uptoBulkAll ds ≤ 1048576)
def OpenSpec.upto (s : _root_.Go.ChangeSpec) : _root_.Go.OpenSpec := { _root_.Go.OpenSpec.ofChange s with cond := some uptoSmall }

/-- 'archipelagolaw10.LinkStrange', WHERE WHAT IT READS IS OF BULK AT MOST 1048576: true; the input reads as it did. -/
def linkStrangeUptoRow : OpenClaim := { program := "ytgcbadlajmbdhaa", sum := "6ff4c92d8213c33c2b56728511060763255df6cac41fbc9014c9afcc9fb26fb2", func := "archipelago/archipelagolaw10.LinkStrange", spec := "linkStrange", apart := false, narrowed := true }
def LinkStrangeUptoSaid : Prop := linkStrangeUptoRow.holds Try.pinned (OpenSpec.upto linkStrangeSpec)

/-- 'archipelagolaw10.LinkOnce', WHERE WHAT IT READS IS OF BULK AT MOST 1048576: true; the input reads as it did. -/
def linkOnceUptoRow : OpenClaim := { program := "ytgcbadlajmbdhaa", sum := "6ff4c92d8213c33c2b56728511060763255df6cac41fbc9014c9afcc9fb26fb2", func := "archipelago/archipelagolaw10.LinkOnce", spec := "linkOnce", apart := false, narrowed := true }
def LinkOnceUptoSaid : Prop := linkOnceUptoRow.holds Try.pinned (OpenSpec.upto linkOnceSpec)

/-- 'archipelagolaw10.LinkFull', WHERE WHAT IT READS IS OF BULK AT MOST 1048576: true; the input reads as it did. -/
def linkFullUptoRow : OpenClaim := { program := "ytgcbadlajmbdhaa", sum := "6ff4c92d8213c33c2b56728511060763255df6cac41fbc9014c9afcc9fb26fb2", func := "archipelago/archipelagolaw10.LinkFull", spec := "linkFull", apart := false, narrowed := true }
def LinkFullUptoSaid : Prop := linkFullUptoRow.holds Try.pinned (OpenSpec.upto linkFullSpec)

/-- 'archipelagolaw10.LinkAnswers', WHERE WHAT IT READS IS OF BULK AT MOST 1048576: true; the input reads as it did. -/
def linkAnswersUptoRow : OpenClaim := { program := "ytgcbadlajmbdhaa", sum := "6ff4c92d8213c33c2b56728511060763255df6cac41fbc9014c9afcc9fb26fb2", func := "archipelago/archipelagolaw10.LinkAnswers", spec := "linkAnswers", apart := false, narrowed := true }
def LinkAnswersUptoSaid : Prop := linkAnswersUptoRow.holds Try.pinned (OpenSpec.upto linkAnswersSpec)

/-- 'archipelagolaw10.LinkPlays', WHERE WHAT IT READS IS OF BULK AT MOST 1048576: true; the input reads as it did. -/
def linkPlaysUptoRow : OpenClaim := { program := "ytgcbadlajmbdhaa", sum := "6ff4c92d8213c33c2b56728511060763255df6cac41fbc9014c9afcc9fb26fb2", func := "archipelago/archipelagolaw10.LinkPlays", spec := "linkPlays", apart := false, narrowed := true }
def LinkPlaysUptoSaid : Prop := linkPlaysUptoRow.holds Try.pinned (OpenSpec.upto linkPlaysSpec)

/-- 'archipelagolaw10.LinkAll', WHERE WHAT IT READS IS OF BULK AT MOST 1048576: true; the input reads as it did. -/
def linkAllUptoRow : OpenClaim := { program := "ytgcbadlajmbdhaa", sum := "6ff4c92d8213c33c2b56728511060763255df6cac41fbc9014c9afcc9fb26fb2", func := "archipelago/archipelagolaw10.LinkAll", spec := "linkAll", apart := false, narrowed := true }
def LinkAllUptoSaid : Prop := linkAllUptoRow.holds Try.pinned (OpenSpec.upto linkAllSpec)

/-- 'archipelagolaw10.LinkNil', WHERE WHAT IT READS IS OF BULK AT MOST 1048576: true; the input reads as it did. -/
def linkNilUptoRow : OpenClaim := { program := "ytgcbadlajmbdhaa", sum := "6ff4c92d8213c33c2b56728511060763255df6cac41fbc9014c9afcc9fb26fb2", func := "archipelago/archipelagolaw10.LinkNil", spec := "linkNil", apart := false, narrowed := true }
def LinkNilUptoSaid : Prop := linkNilUptoRow.holds Try.pinned (OpenSpec.upto linkNilSpec)

end Rows
end Go.Proofs.Ytgcbadlajmbdhaa
