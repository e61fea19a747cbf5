/-
  No cell of these rows narrows 'for every input' (looked for: loops, veiled, ifaces, maps, wideKeys, modest, calm, conditions, laid).
  DERIVED. THE GIVEN ROWS OF THIS SEAT. 8 by the template 'for every input the law returns true; each argument reads behind the call as it read before'; 0 by the template 'total and deterministic' (their statements: YtbdbllagbifkgaaTotals.lean).
  GIVEN WITH THE SEED: the statements are not yours to turn. If you find one false, say at which input.
  Laid BY PROGRAM, IN A SANDBOX (cutbox-rows.mjs): the forced cells as the released guide's own fill.sh prints them over the translation 898b1195449983f5… (all of the seat's roots in one cut). By AI agents, Wed Nov 11 2026. No macro, syntax, notation, axiom, sorry.
-/
import Derived.Test.YtbdbllagbifkgaaChecked
import GoSem.Claim
import GoSem.ClaimJoined
import GoSem.ClaimMapViews
import Derived.JoinedTies
import Derived.KernelRfl
namespace Go.Proofs.Ytbdbllagbifkgaa
/- THE CELL 'sum', in the pinned program and in every row, IS THE sha256 OF THE DUMP (.gsa) THAT YtbdbllagbifkgaaProg.lean LOADS. Nothing in Lean hashes anything: it is a label: what it is worth is what the hold of that sum in a sandbox is worth. -/
noncomputable def Try.pinned : Pinned := { name := "ytbdbllagbifkgaa", sum := "898b1195449983f53f8140d4bf319d94506a185684d7679e48b9bc922883e39f", checked := Try.checked }
namespace Rows
def none {H : Type} : Left H := { results := [], args := [] }

/-- 'radiolinklaw28.CodeDecodes': WHATEVER THE INPUT: true; the input reads as it did. -/
def codeDecodesSpec : ChangeSpec := { name := "codeDecodes", fn := fun _ => fun
  | [d] => { results := [.lit (.bool true)], args := [d] }
  | _ => none }
def codeDecodesRow : OpenClaim := { program := "ytbdbllagbifkgaa", sum := "898b1195449983f53f8140d4bf319d94506a185684d7679e48b9bc922883e39f", func := "radiolink/radiolinklaw28.CodeDecodes", spec := "codeDecodes", apart := false }
def CodeDecodesSaid : Prop := codeDecodesRow.holds Try.pinned (OpenSpec.ofChange codeDecodesSpec)

/-- ITS FALSE NEIGHBOUR: 'it returns false'. Refute it at one input. -/
def codeDecodesWrong : ChangeSpec := { name := "codeDecodes", fn := fun _ => fun
  | [d] => { results := [.lit (.bool false)], args := [d] }
  | _ => none }
def CodeDecodesWrongFalsely : Prop := codeDecodesRow.holds Try.pinned (OpenSpec.ofChange codeDecodesWrong)

/-- 'radiolinklaw28.CodeLikeliest': WHATEVER THE INPUT: true; the input reads as it did. -/
def codeLikeliestSpec : ChangeSpec := { name := "codeLikeliest", fn := fun _ => fun
  | [d1, d2] => { results := [.lit (.bool true)], args := [d1, d2] }
  | _ => none }
def codeLikeliestRow : OpenClaim := { program := "ytbdbllagbifkgaa", sum := "898b1195449983f53f8140d4bf319d94506a185684d7679e48b9bc922883e39f", func := "radiolink/radiolinklaw28.CodeLikeliest", spec := "codeLikeliest", apart := false }
def CodeLikeliestSaid : Prop := codeLikeliestRow.holds Try.pinned (OpenSpec.ofChange codeLikeliestSpec)

/-- ITS FALSE NEIGHBOUR: 'it returns false'. Refute it at one input. -/
def codeLikeliestWrong : ChangeSpec := { name := "codeLikeliest", fn := fun _ => fun
  | [d1, d2] => { results := [.lit (.bool false)], args := [d1, d2] }
  | _ => none }
def CodeLikeliestWrongFalsely : Prop := codeLikeliestRow.holds Try.pinned (OpenSpec.ofChange codeLikeliestWrong)

/-- 'radiolinklaw28.CodeCorrects': WHATEVER THE INPUT: true; the input reads as it did. -/
def codeCorrectsSpec : ChangeSpec := { name := "codeCorrects", fn := fun _ => fun
  | [d1, d2, d3, d4] => { results := [.lit (.bool true)], args := [d1, d2, d3, d4] }
  | _ => none }
def codeCorrectsRow : OpenClaim := { program := "ytbdbllagbifkgaa", sum := "898b1195449983f53f8140d4bf319d94506a185684d7679e48b9bc922883e39f", func := "radiolink/radiolinklaw28.CodeCorrects", spec := "codeCorrects", apart := false }
def CodeCorrectsSaid : Prop := codeCorrectsRow.holds Try.pinned (OpenSpec.ofChange codeCorrectsSpec)

/-- ITS FALSE NEIGHBOUR: 'it returns false'. Refute it at one input. -/
def codeCorrectsWrong : ChangeSpec := { name := "codeCorrects", fn := fun _ => fun
  | [d1, d2, d3, d4] => { results := [.lit (.bool false)], args := [d1, d2, d3, d4] }
  | _ => none }
def CodeCorrectsWrongFalsely : Prop := codeCorrectsRow.holds Try.pinned (OpenSpec.ofChange codeCorrectsWrong)

/-- 'radiolinklaw28.CodeLinear': WHATEVER THE INPUT: true; the input reads as it did. -/
def codeLinearSpec : ChangeSpec := { name := "codeLinear", fn := fun _ => fun
  | [d1, d2] => { results := [.lit (.bool true)], args := [d1, d2] }
  | _ => none }
def codeLinearRow : OpenClaim := { program := "ytbdbllagbifkgaa", sum := "898b1195449983f53f8140d4bf319d94506a185684d7679e48b9bc922883e39f", func := "radiolink/radiolinklaw28.CodeLinear", spec := "codeLinear", apart := false }
def CodeLinearSaid : Prop := codeLinearRow.holds Try.pinned (OpenSpec.ofChange codeLinearSpec)

/-- ITS FALSE NEIGHBOUR: 'it returns false'. Refute it at one input. -/
def codeLinearWrong : ChangeSpec := { name := "codeLinear", fn := fun _ => fun
  | [d1, d2] => { results := [.lit (.bool false)], args := [d1, d2] }
  | _ => none }
def CodeLinearWrongFalsely : Prop := codeLinearRow.holds Try.pinned (OpenSpec.ofChange codeLinearWrong)

/-- 'radiolinklaw28.CodeAgain': WHATEVER THE INPUT: true; the input reads as it did. -/
def codeAgainSpec : ChangeSpec := { name := "codeAgain", fn := fun _ => fun
  | [d1, d2, d3] => { results := [.lit (.bool true)], args := [d1, d2, d3] }
  | _ => none }
def codeAgainRow : OpenClaim := { program := "ytbdbllagbifkgaa", sum := "898b1195449983f53f8140d4bf319d94506a185684d7679e48b9bc922883e39f", func := "radiolink/radiolinklaw28.CodeAgain", spec := "codeAgain", apart := false }
def CodeAgainSaid : Prop := codeAgainRow.holds Try.pinned (OpenSpec.ofChange codeAgainSpec)

/-- ITS FALSE NEIGHBOUR: 'it returns false'. Refute it at one input. -/
def codeAgainWrong : ChangeSpec := { name := "codeAgain", fn := fun _ => fun
  | [d1, d2, d3] => { results := [.lit (.bool false)], args := [d1, d2, d3] }
  | _ => none }
def CodeAgainWrongFalsely : Prop := codeAgainRow.holds Try.pinned (OpenSpec.ofChange codeAgainWrong)

/-- 'radiolinklaw28.CodeShorter': WHATEVER THE INPUT: true; the input reads as it did. -/
def codeShorterSpec : ChangeSpec := { name := "codeShorter", fn := fun _ => fun
  | [d1, d2] => { results := [.lit (.bool true)], args := [d1, d2] }
  | _ => none }
def codeShorterRow : OpenClaim := { program := "ytbdbllagbifkgaa", sum := "898b1195449983f53f8140d4bf319d94506a185684d7679e48b9bc922883e39f", func := "radiolink/radiolinklaw28.CodeShorter", spec := "codeShorter", apart := false }
def CodeShorterSaid : Prop := codeShorterRow.holds Try.pinned (OpenSpec.ofChange codeShorterSpec)

/-- ITS FALSE NEIGHBOUR: 'it returns false'. Refute it at one input. -/
def codeShorterWrong : ChangeSpec := { name := "codeShorter", fn := fun _ => fun
  | [d1, d2] => { results := [.lit (.bool false)], args := [d1, d2] }
  | _ => none }
def CodeShorterWrongFalsely : Prop := codeShorterRow.holds Try.pinned (OpenSpec.ofChange codeShorterWrong)

/-- 'radiolinklaw28.CodeRaw': WHATEVER THE INPUT: true; the input reads as it did. -/
def codeRawSpec : ChangeSpec := { name := "codeRaw", fn := fun _ => fun
  | [d1, d2, d3, d4, d5, d6] => { results := [.lit (.bool true)], args := [d1, d2, d3, d4, d5, d6] }
  | _ => none }
def codeRawRow : OpenClaim := { program := "ytbdbllagbifkgaa", sum := "898b1195449983f53f8140d4bf319d94506a185684d7679e48b9bc922883e39f", func := "radiolink/radiolinklaw28.CodeRaw", spec := "codeRaw", apart := false }
def CodeRawSaid : Prop := codeRawRow.holds Try.pinned (OpenSpec.ofChange codeRawSpec)

/-- ITS FALSE NEIGHBOUR: 'it returns false'. Refute it at one input. -/
def codeRawWrong : ChangeSpec := { name := "codeRaw", fn := fun _ => fun
  | [d1, d2, d3, d4, d5, d6] => { results := [.lit (.bool false)], args := [d1, d2, d3, d4, d5, d6] }
  | _ => none }
def CodeRawWrongFalsely : Prop := codeRawRow.holds Try.pinned (OpenSpec.ofChange codeRawWrong)

/-- 'radiolinklaw28.CodePlaces': WHATEVER THE INPUT: true; the input reads as it did. -/
def codePlacesSpec : ChangeSpec := { name := "codePlaces", fn := fun _ => fun
  | [d1, d2, d3] => { results := [.lit (.bool true)], args := [d1, d2, d3] }
  | _ => none }
def codePlacesRow : OpenClaim := { program := "ytbdbllagbifkgaa", sum := "898b1195449983f53f8140d4bf319d94506a185684d7679e48b9bc922883e39f", func := "radiolink/radiolinklaw28.CodePlaces", spec := "codePlaces", apart := false }
def CodePlacesSaid : Prop := codePlacesRow.holds Try.pinned (OpenSpec.ofChange codePlacesSpec)

/-- ITS FALSE NEIGHBOUR: 'it returns false'. Refute it at one input. -/
def codePlacesWrong : ChangeSpec := { name := "codePlaces", fn := fun _ => fun
  | [d1, d2, d3] => { results := [.lit (.bool false)], args := [d1, d2, d3] }
  | _ => none }
def CodePlacesWrongFalsely : Prop := codePlacesRow.holds Try.pinned (OpenSpec.ofChange codePlacesWrong)

/- THE SECOND FORM. 'bulk': how many values and letters a reading holds, each counted each time it is reached (what is shared counts as often as it is met; a slice's spare places count too). A statement '..UptoSaid' is the law's where the arguments, and the package variables that the reading takes, are together of bulk at most 1048576: NARROWER than '..Said'. Prove '..Said' where nothing that the law and all that it calls make is longer than what came in: it says more and counts as full. Else prove '..UptoSaid'. A law counts once. -/
mutual
def uptoBulk {H : Type} : DataW H → Nat
  | .lit (.string bytes) => bytes.length + 1
  | .lit _ => 1
  | .nil => 1
  | .ptr d => uptoBulk d + 1
  | .slice elems spare => uptoBulkAll elems + uptoBulkAll spare + 1
  | .agg parts => uptoBulkAll parts + 1
  | .iface _ d => uptoBulk d + 1
  | .map entries => uptoBulkEntries entries + 1
  | .held _ => 1
def uptoBulkAll {H : Type} : List (DataW H) → Nat
  | [] => 0
  | d :: r => uptoBulk d + uptoBulkAll r
def uptoBulkEntries {H : Type} : List (Lit × DataW H) → Nat
  | [] => 0
  | x :: r => uptoBulkEntry x + uptoBulkEntries r
def uptoBulkEntry {H : Type} : Lit × DataW H → Nat
  | (.string bytes, d) => bytes.length + uptoBulk d + 1
  | (_, d) => uptoBulk d + 1
 end
def uptoSmall : (H : Type) → List (DataW H) → Bool := fun _ ds => decide (uptoBulkAll ds ≤ 1048576)
def OpenSpec.upto (s : _root_.Go.ChangeSpec) : _root_.Go.OpenSpec := { _root_.Go.OpenSpec.ofChange s with cond := some uptoSmall }

/-- 'radiolinklaw28.CodeDecodes', WHERE WHAT IT READS IS OF BULK AT MOST 1048576: true; the input reads as it did. -/
def codeDecodesUptoRow : OpenClaim := { program := "ytbdbllagbifkgaa", sum := "898b1195449983f53f8140d4bf319d94506a185684d7679e48b9bc922883e39f", func := "radiolink/radiolinklaw28.CodeDecodes", spec := "codeDecodes", apart := false, narrowed := true }
def CodeDecodesUptoSaid : Prop := codeDecodesUptoRow.holds Try.pinned (OpenSpec.upto codeDecodesSpec)

/-- 'radiolinklaw28.CodeLikeliest', WHERE WHAT IT READS IS OF BULK AT MOST 1048576: true; the input reads as it did. -/
def codeLikeliestUptoRow : OpenClaim := { program := "ytbdbllagbifkgaa", sum := "898b1195449983f53f8140d4bf319d94506a185684d7679e48b9bc922883e39f", func := "radiolink/radiolinklaw28.CodeLikeliest", spec := "codeLikeliest", apart := false, narrowed := true }
def CodeLikeliestUptoSaid : Prop := codeLikeliestUptoRow.holds Try.pinned (OpenSpec.upto codeLikeliestSpec)

/-- 'radiolinklaw28.CodeCorrects', WHERE WHAT IT READS IS OF BULK AT MOST 1048576: true; the input reads as it did. -/
def codeCorrectsUptoRow : OpenClaim := { program := "ytbdbllagbifkgaa", sum := "898b1195449983f53f8140d4bf319d94506a185684d7679e48b9bc922883e39f", func := "radiolink/radiolinklaw28.CodeCorrects", spec := "codeCorrects", apart := false, narrowed := true }
def CodeCorrectsUptoSaid : Prop := codeCorrectsUptoRow.holds Try.pinned (OpenSpec.upto codeCorrectsSpec)

/-- 'radiolinklaw28.CodeLinear', WHERE WHAT IT READS IS OF BULK AT MOST 1048576: true; the input reads as it did. -/
def codeLinearUptoRow : OpenClaim := { program := "ytbdbllagbifkgaa", sum := "898b1195449983f53f8140d4bf319d94506a185684d7679e48b9bc922883e39f", func := "radiolink/radiolinklaw28.CodeLinear", spec := "codeLinear", apart := false, narrowed := true }
def CodeLinearUptoSaid : Prop := codeLinearUptoRow.holds Try.pinned (OpenSpec.upto codeLinearSpec)

/-- 'radiolinklaw28.CodeAgain', WHERE WHAT IT READS IS OF BULK AT MOST 1048576: true; the input reads as it did. -/
def codeAgainUptoRow : OpenClaim := { program := "ytbdbllagbifkgaa", sum := "898b1195449983f53f8140d4bf319d94506a185684d7679e48b9bc922883e39f", func := "radiolink/radiolinklaw28.CodeAgain", spec := "codeAgain", apart := false, narrowed := true }
def CodeAgainUptoSaid : Prop := codeAgainUptoRow.holds Try.pinned (OpenSpec.upto codeAgainSpec)

/-- 'radiolinklaw28.CodeShorter', WHERE WHAT IT READS IS OF BULK AT MOST 1048576: true; the input reads as it did. -/
def codeShorterUptoRow : OpenClaim := { program := "ytbdbllagbifkgaa", sum := "898b1195449983f53f8140d4bf319d94506a185684d7679e48b9bc922883e39f", func := "radiolink/radiolinklaw28.CodeShorter", spec := "codeShorter", apart := false, narrowed := true }
def CodeShorterUptoSaid : Prop := codeShorterUptoRow.holds Try.pinned (OpenSpec.upto codeShorterSpec)

/-- 'radiolinklaw28.CodeRaw', WHERE WHAT IT READS IS OF BULK AT MOST 1048576: true; the input reads as it did. -/
def codeRawUptoRow : OpenClaim := { program := "ytbdbllagbifkgaa", sum := "898b1195449983f53f8140d4bf319d94506a185684d7679e48b9bc922883e39f", func := "radiolink/radiolinklaw28.CodeRaw", spec := "codeRaw", apart := false, narrowed := true }
def CodeRawUptoSaid : Prop := codeRawUptoRow.holds Try.pinned (OpenSpec.upto codeRawSpec)

/-- 'radiolinklaw28.CodePlaces', WHERE WHAT IT READS IS OF BULK AT MOST 1048576: true; the input reads as it did. -/
def codePlacesUptoRow : OpenClaim := { program := "ytbdbllagbifkgaa", sum := "898b1195449983f53f8140d4bf319d94506a185684d7679e48b9bc922883e39f", func := "radiolink/radiolinklaw28.CodePlaces", spec := "codePlaces", apart := false, narrowed := true }
def CodePlacesUptoSaid : Prop := codePlacesUptoRow.holds Try.pinned (OpenSpec.upto codePlacesSpec)

end Rows
end Go.Proofs.Ytbdbllagbifkgaa
