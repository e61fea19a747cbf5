/-
  No cell of these rows narrows 'for every input' (looked for: loops, veiled, ifaces, maps, wideKeys, modest, calm, conditions, laid).
  DERIVED. THE GIVEN ROWS OF THIS SEAT. 8 by the template 'for every input the law returns true; each argument reads behind the call as it read before'; 0 by the template 'total and deterministic' (their statements: YtinkllejjilenaaTotals.lean).
  GIVEN WITH THE SEED: the statements are not yours to turn. If you find one false, say at which input.
  Laid BY PROGRAM, IN A SANDBOX (cutbox-rows.mjs): the forced cells as the released guide's own fill.sh prints them over the translation 45dd6a70bed5a9ae… (all of the seat's roots in one cut). By AI agents, Wed Nov 11 2026. No macro, syntax, notation, axiom, sorry.
-/
import Derived.Test.YtinkllejjilenaaChecked
import GoSem.Claim
import GoSem.ClaimJoined
import GoSem.ClaimMapViews
import Derived.JoinedTies
import Derived.KernelRfl
namespace Go.Proofs.Ytinkllejjilenaa
/- THE CELL 'sum', in the pinned program and in every row, IS THE sha256 OF THE DUMP (.gsa) THAT YtinkllejjilenaaProg.lean LOADS. Nothing in Lean hashes anything: it is a label: what it is worth is what the hold of that sum in a sandbox is worth. -/
noncomputable def Try.pinned : Pinned := { name := "ytinkllejjilenaa", sum := "45dd6a70bed5a9aef7b589733dcf970d23910a98bfdaeb88ff81c3dd2813301e", checked := Try.checked }
namespace Rows
def none {H : Type} : Left H := { results := [], args := [] }

/-- 'radiolinklaw07.LsbExact': WHATEVER THE INPUT: true; the input reads as it did. -/
def lsbExactSpec : ChangeSpec := { name := "lsbExact", fn := fun _ => fun
  | [d1, d2] => { results := [.lit (.bool true)], args := [d1, d2] }
  | _ => none }
def lsbExactRow : OpenClaim := { program := "ytinkllejjilenaa", sum := "45dd6a70bed5a9aef7b589733dcf970d23910a98bfdaeb88ff81c3dd2813301e", func := "radiolink/radiolinklaw07.LsbExact", spec := "lsbExact", apart := false }
def LsbExactSaid : Prop := lsbExactRow.holds Try.pinned (OpenSpec.ofChange lsbExactSpec)

/-- ITS FALSE NEIGHBOUR: 'it returns false'. Refute it at one input. -/
def lsbExactWrong : ChangeSpec := { name := "lsbExact", fn := fun _ => fun
  | [d1, d2] => { results := [.lit (.bool false)], args := [d1, d2] }
  | _ => none }
def LsbExactWrongFalsely : Prop := lsbExactRow.holds Try.pinned (OpenSpec.ofChange lsbExactWrong)

/-- 'radiolinklaw07.LsbUnderstands': WHATEVER THE INPUT: true; the input reads as it did. -/
def lsbUnderstandsSpec : ChangeSpec := { name := "lsbUnderstands", fn := fun _ => fun
  | [d1, d2, d3] => { results := [.lit (.bool true)], args := [d1, d2, d3] }
  | _ => none }
def lsbUnderstandsRow : OpenClaim := { program := "ytinkllejjilenaa", sum := "45dd6a70bed5a9aef7b589733dcf970d23910a98bfdaeb88ff81c3dd2813301e", func := "radiolink/radiolinklaw07.LsbUnderstands", spec := "lsbUnderstands", apart := false }
def LsbUnderstandsSaid : Prop := lsbUnderstandsRow.holds Try.pinned (OpenSpec.ofChange lsbUnderstandsSpec)

/-- ITS FALSE NEIGHBOUR: 'it returns false'. Refute it at one input. -/
def lsbUnderstandsWrong : ChangeSpec := { name := "lsbUnderstands", fn := fun _ => fun
  | [d1, d2, d3] => { results := [.lit (.bool false)], args := [d1, d2, d3] }
  | _ => none }
def LsbUnderstandsWrongFalsely : Prop := lsbUnderstandsRow.holds Try.pinned (OpenSpec.ofChange lsbUnderstandsWrong)

/-- 'radiolinklaw07.LsbMonotone': WHATEVER THE INPUT: true; the input reads as it did. -/
def lsbMonotoneSpec : ChangeSpec := { name := "lsbMonotone", fn := fun _ => fun
  | [d1, d2, d3] => { results := [.lit (.bool true)], args := [d1, d2, d3] }
  | _ => none }
def lsbMonotoneRow : OpenClaim := { program := "ytinkllejjilenaa", sum := "45dd6a70bed5a9aef7b589733dcf970d23910a98bfdaeb88ff81c3dd2813301e", func := "radiolink/radiolinklaw07.LsbMonotone", spec := "lsbMonotone", apart := false }
def LsbMonotoneSaid : Prop := lsbMonotoneRow.holds Try.pinned (OpenSpec.ofChange lsbMonotoneSpec)

/-- ITS FALSE NEIGHBOUR: 'it returns false'. Refute it at one input. -/
def lsbMonotoneWrong : ChangeSpec := { name := "lsbMonotone", fn := fun _ => fun
  | [d1, d2, d3] => { results := [.lit (.bool false)], args := [d1, d2, d3] }
  | _ => none }
def LsbMonotoneWrongFalsely : Prop := lsbMonotoneRow.holds Try.pinned (OpenSpec.ofChange lsbMonotoneWrong)

/-- 'radiolinklaw07.LsbBetween': WHATEVER THE INPUT: true; the input reads as it did. -/
def lsbBetweenSpec : ChangeSpec := { name := "lsbBetween", fn := fun _ => fun
  | [d1, d2] => { results := [.lit (.bool true)], args := [d1, d2] }
  | _ => none }
def lsbBetweenRow : OpenClaim := { program := "ytinkllejjilenaa", sum := "45dd6a70bed5a9aef7b589733dcf970d23910a98bfdaeb88ff81c3dd2813301e", func := "radiolink/radiolinklaw07.LsbBetween", spec := "lsbBetween", apart := false }
def LsbBetweenSaid : Prop := lsbBetweenRow.holds Try.pinned (OpenSpec.ofChange lsbBetweenSpec)

/-- ITS FALSE NEIGHBOUR: 'it returns false'. Refute it at one input. -/
def lsbBetweenWrong : ChangeSpec := { name := "lsbBetween", fn := fun _ => fun
  | [d1, d2] => { results := [.lit (.bool false)], args := [d1, d2] }
  | _ => none }
def LsbBetweenWrongFalsely : Prop := lsbBetweenRow.holds Try.pinned (OpenSpec.ofChange lsbBetweenWrong)

/-- 'radiolinklaw15.CounterInfers': WHATEVER THE INPUT: true; the input reads as it did. -/
def counterInfersSpec : ChangeSpec := { name := "counterInfers", fn := fun _ => fun
  | [d1, d2, d3] => { results := [.lit (.bool true)], args := [d1, d2, d3] }
  | _ => none }
def counterInfersRow : OpenClaim := { program := "ytinkllejjilenaa", sum := "45dd6a70bed5a9aef7b589733dcf970d23910a98bfdaeb88ff81c3dd2813301e", func := "radiolink/radiolinklaw15.CounterInfers", spec := "counterInfers", apart := false }
def CounterInfersSaid : Prop := counterInfersRow.holds Try.pinned (OpenSpec.ofChange counterInfersSpec)

/-- ITS FALSE NEIGHBOUR: 'it returns false'. Refute it at one input. -/
def counterInfersWrong : ChangeSpec := { name := "counterInfers", fn := fun _ => fun
  | [d1, d2, d3] => { results := [.lit (.bool false)], args := [d1, d2, d3] }
  | _ => none }
def CounterInfersWrongFalsely : Prop := counterInfersRow.holds Try.pinned (OpenSpec.ofChange counterInfersWrong)

/-- 'radiolinklaw15.CounterParts': WHATEVER THE INPUT: true; the input reads as it did. -/
def counterPartsSpec : ChangeSpec := { name := "counterParts", fn := fun _ => fun
  | [d1, d2] => { results := [.lit (.bool true)], args := [d1, d2] }
  | _ => none }
def counterPartsRow : OpenClaim := { program := "ytinkllejjilenaa", sum := "45dd6a70bed5a9aef7b589733dcf970d23910a98bfdaeb88ff81c3dd2813301e", func := "radiolink/radiolinklaw15.CounterParts", spec := "counterParts", apart := false }
def CounterPartsSaid : Prop := counterPartsRow.holds Try.pinned (OpenSpec.ofChange counterPartsSpec)

/-- ITS FALSE NEIGHBOUR: 'it returns false'. Refute it at one input. -/
def counterPartsWrong : ChangeSpec := { name := "counterParts", fn := fun _ => fun
  | [d1, d2] => { results := [.lit (.bool false)], args := [d1, d2] }
  | _ => none }
def CounterPartsWrongFalsely : Prop := counterPartsRow.holds Try.pinned (OpenSpec.ofChange counterPartsWrong)

/-- 'radiolinklaw15.CounterNonces': WHATEVER THE INPUT: true; the input reads as it did. -/
def counterNoncesSpec : ChangeSpec := { name := "counterNonces", fn := fun _ => fun
  | [d1, d2] => { results := [.lit (.bool true)], args := [d1, d2] }
  | _ => none }
def counterNoncesRow : OpenClaim := { program := "ytinkllejjilenaa", sum := "45dd6a70bed5a9aef7b589733dcf970d23910a98bfdaeb88ff81c3dd2813301e", func := "radiolink/radiolinklaw15.CounterNonces", spec := "counterNonces", apart := false }
def CounterNoncesSaid : Prop := counterNoncesRow.holds Try.pinned (OpenSpec.ofChange counterNoncesSpec)

/-- ITS FALSE NEIGHBOUR: 'it returns false'. Refute it at one input. -/
def counterNoncesWrong : ChangeSpec := { name := "counterNonces", fn := fun _ => fun
  | [d1, d2] => { results := [.lit (.bool false)], args := [d1, d2] }
  | _ => none }
def CounterNoncesWrongFalsely : Prop := counterNoncesRow.holds Try.pinned (OpenSpec.ofChange counterNoncesWrong)

/-- 'radiolinklaw15.CounterExact': WHATEVER THE INPUT: true; the input reads as it did. -/
def counterExactSpec : ChangeSpec := { name := "counterExact", fn := fun _ => fun
  | [d1, d2, d3] => { results := [.lit (.bool true)], args := [d1, d2, d3] }
  | _ => none }
def counterExactRow : OpenClaim := { program := "ytinkllejjilenaa", sum := "45dd6a70bed5a9aef7b589733dcf970d23910a98bfdaeb88ff81c3dd2813301e", func := "radiolink/radiolinklaw15.CounterExact", spec := "counterExact", apart := false }
def CounterExactSaid : Prop := counterExactRow.holds Try.pinned (OpenSpec.ofChange counterExactSpec)

/-- ITS FALSE NEIGHBOUR: 'it returns false'. Refute it at one input. -/
def counterExactWrong : ChangeSpec := { name := "counterExact", fn := fun _ => fun
  | [d1, d2, d3] => { results := [.lit (.bool false)], args := [d1, d2, d3] }
  | _ => none }
def CounterExactWrongFalsely : Prop := counterExactRow.holds Try.pinned (OpenSpec.ofChange counterExactWrong)

/- THE SECOND FORM. 'bulk': how many values and letters a reading holds, each counted each time it is reached (what is shared counts as often as it is met; a slice's spare places count too). A statement '..UptoSaid' is the law's where the arguments, and the package variables that the reading takes, are together of bulk at most 1048576: NARROWER than '..Said'. Prove '..Said' where nothing that the law and all that it calls make is longer than what came in: it says more and counts as full. Else prove '..UptoSaid'. A law counts once. -/
mutual
def uptoBulk {H : Type} : DataW H → Nat
  | .lit (.string bytes) => bytes.length + 1
  | .lit _ => 1
  | .nil => 1
  | .ptr d => uptoBulk d + 1
  | .slice elems spare => uptoBulkAll elems + uptoBulkAll spare + 1
  | .agg parts => uptoBulkAll parts + 1
  | .iface _ d => uptoBulk d + 1
  | .map entries => uptoBulkEntries entries + 1
  | .held _ => 1
def uptoBulkAll {H : Type} : List (DataW H) → Nat
  | [] => 0
  | d :: r => uptoBulk d + uptoBulkAll r
def uptoBulkEntries {H : Type} : List (Lit × DataW H) → Nat
  | [] => 0
  | x :: r => uptoBulkEntry x + uptoBulkEntries r
def uptoBulkEntry {H : Type} : Lit × DataW H → Nat
  | (.string bytes, d) => bytes.length + uptoBulk d + 1
  | (_, d) => uptoBulk d + 1
 end
def uptoSmall : (H : Type) → List (DataW H) → Bool := fun _ ds => decide (uptoBulkAll ds ≤ 1048576)
def OpenSpec.upto (s : _root_.Go.ChangeSpec) : _root_.Go.OpenSpec := { _root_.Go.OpenSpec.ofChange s with cond := some uptoSmall }

/-- 'radiolinklaw07.LsbExact', WHERE WHAT IT READS IS OF BULK AT MOST 1048576: true; the input reads as it did. -/
def lsbExactUptoRow : OpenClaim := { program := "ytinkllejjilenaa", sum := "45dd6a70bed5a9aef7b589733dcf970d23910a98bfdaeb88ff81c3dd2813301e", func := "radiolink/radiolinklaw07.LsbExact", spec := "lsbExact", apart := false, narrowed := true }
def LsbExactUptoSaid : Prop := lsbExactUptoRow.holds Try.pinned (OpenSpec.upto lsbExactSpec)

/-- 'radiolinklaw07.LsbUnderstands', WHERE WHAT IT READS IS OF BULK AT MOST 1048576: true; the input reads as it did. -/
def lsbUnderstandsUptoRow : OpenClaim := { program := "ytinkllejjilenaa", sum := "45dd6a70bed5a9aef7b589733dcf970d23910a98bfdaeb88ff81c3dd2813301e", func := "radiolink/radiolinklaw07.LsbUnderstands", spec := "lsbUnderstands", apart := false, narrowed := true }
def LsbUnderstandsUptoSaid : Prop := lsbUnderstandsUptoRow.holds Try.pinned (OpenSpec.upto lsbUnderstandsSpec)

/-- 'radiolinklaw07.LsbMonotone', WHERE WHAT IT READS IS OF BULK AT MOST 1048576: true; the input reads as it did. -/
def lsbMonotoneUptoRow : OpenClaim := { program := "ytinkllejjilenaa", sum := "45dd6a70bed5a9aef7b589733dcf970d23910a98bfdaeb88ff81c3dd2813301e", func := "radiolink/radiolinklaw07.LsbMonotone", spec := "lsbMonotone", apart := false, narrowed := true }
def LsbMonotoneUptoSaid : Prop := lsbMonotoneUptoRow.holds Try.pinned (OpenSpec.upto lsbMonotoneSpec)

/-- 'radiolinklaw07.LsbBetween', WHERE WHAT IT READS IS OF BULK AT MOST 1048576: true; the input reads as it did. -/
def lsbBetweenUptoRow : OpenClaim := { program := "ytinkllejjilenaa", sum := "45dd6a70bed5a9aef7b589733dcf970d23910a98bfdaeb88ff81c3dd2813301e", func := "radiolink/radiolinklaw07.LsbBetween", spec := "lsbBetween", apart := false, narrowed := true }
def LsbBetweenUptoSaid : Prop := lsbBetweenUptoRow.holds Try.pinned (OpenSpec.upto lsbBetweenSpec)

/-- 'radiolinklaw15.CounterInfers', WHERE WHAT IT READS IS OF BULK AT MOST 1048576: true; the input reads as it did. -/
def counterInfersUptoRow : OpenClaim := { program := "ytinkllejjilenaa", sum := "45dd6a70bed5a9aef7b589733dcf970d23910a98bfdaeb88ff81c3dd2813301e", func := "radiolink/radiolinklaw15.CounterInfers", spec := "counterInfers", apart := false, narrowed := true }
def CounterInfersUptoSaid : Prop := counterInfersUptoRow.holds Try.pinned (OpenSpec.upto counterInfersSpec)

/-- 'radiolinklaw15.CounterParts', WHERE WHAT IT READS IS OF BULK AT MOST 1048576: true; the input reads as it did. -/
def counterPartsUptoRow : OpenClaim := { program := "ytinkllejjilenaa", sum := "45dd6a70bed5a9aef7b589733dcf970d23910a98bfdaeb88ff81c3dd2813301e", func := "radiolink/radiolinklaw15.CounterParts", spec := "counterParts", apart := false, narrowed := true }
def CounterPartsUptoSaid : Prop := counterPartsUptoRow.holds Try.pinned (OpenSpec.upto counterPartsSpec)

/-- 'radiolinklaw15.CounterNonces', WHERE WHAT IT READS IS OF BULK AT MOST 1048576: true; the input reads as it did. -/
def counterNoncesUptoRow : OpenClaim := { program := "ytinkllejjilenaa", sum := "45dd6a70bed5a9aef7b589733dcf970d23910a98bfdaeb88ff81c3dd2813301e", func := "radiolink/radiolinklaw15.CounterNonces", spec := "counterNonces", apart := false, narrowed := true }
def CounterNoncesUptoSaid : Prop := counterNoncesUptoRow.holds Try.pinned (OpenSpec.upto counterNoncesSpec)

/-- 'radiolinklaw15.CounterExact', WHERE WHAT IT READS IS OF BULK AT MOST 1048576: true; the input reads as it did. -/
def counterExactUptoRow : OpenClaim := { program := "ytinkllejjilenaa", sum := "45dd6a70bed5a9aef7b589733dcf970d23910a98bfdaeb88ff81c3dd2813301e", func := "radiolink/radiolinklaw15.CounterExact", spec := "counterExact", apart := false, narrowed := true }
def CounterExactUptoSaid : Prop := counterExactUptoRow.holds Try.pinned (OpenSpec.upto counterExactSpec)

end Rows
end Go.Proofs.Ytinkllejjilenaa
