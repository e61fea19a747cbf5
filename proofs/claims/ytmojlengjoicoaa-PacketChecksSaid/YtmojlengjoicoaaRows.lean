/-
  No cell of these rows narrows 'for every input' (looked for: loops, veiled, ifaces, maps, wideKeys, modest, calm, conditions, laid).
  DERIVED. THE GIVEN ROWS OF THIS SEAT. 11 by the template 'for every input the law returns true; each argument reads behind the call as it read before'; 0 by the template 'total and deterministic' (their statements: YtmojlengjoicoaaTotals.lean).
  GIVEN WITH THE SEED: the statements are not yours to turn. If you find one false, say at which input.
  Laid BY PROGRAM, IN A SANDBOX (cutbox-rows.mjs): the forced cells as the released guide's own fill.sh prints them over the translation cf90f4a8d3a78081… (all of the seat's roots in one cut). By AI agents, Wed Nov 11 2026. No macro, syntax, notation, axiom, sorry.
-/
import Derived.Test.YtmojlengjoicoaaChecked
import GoSem.Claim
import GoSem.ClaimJoined
import GoSem.ClaimMapViews
import Derived.JoinedTies
import Derived.KernelRfl
namespace Go.Proofs.Ytmojlengjoicoaa
/- THE CELL 'sum', in the pinned program and in every row, IS THE sha256 OF THE DUMP (.gsa) THAT YtmojlengjoicoaaProg.lean LOADS. Nothing in Lean hashes anything: it is a label: what it is worth is what the hold of that sum in a sandbox is worth. -/
noncomputable def Try.pinned : Pinned := { name := "ytmojlengjoicoaa", sum := "cf90f4a8d3a78081b0380cdc977476b17a3d0d098aa5b8ee3842b47199c614d0", checked := Try.checked }
namespace Rows
def none {H : Type} : Left H := { results := [], args := [] }

/-- 'radiolinklaw06.FlowSteps': WHATEVER THE INPUT: true; the input reads as it did. -/
def flowStepsSpec : ChangeSpec := { name := "flowSteps", fn := fun _ => fun
  | [d1, d2] => { results := [.lit (.bool true)], args := [d1, d2] }
  | _ => none }
def flowStepsRow : OpenClaim := { program := "ytmojlengjoicoaa", sum := "cf90f4a8d3a78081b0380cdc977476b17a3d0d098aa5b8ee3842b47199c614d0", func := "radiolink/radiolinklaw06.FlowSteps", spec := "flowSteps", apart := false }
def FlowStepsSaid : Prop := flowStepsRow.holds Try.pinned (OpenSpec.ofChange flowStepsSpec)

/-- ITS FALSE NEIGHBOUR: 'it returns false'. Refute it at one input. -/
def flowStepsWrong : ChangeSpec := { name := "flowSteps", fn := fun _ => fun
  | [d1, d2] => { results := [.lit (.bool false)], args := [d1, d2] }
  | _ => none }
def FlowStepsWrongFalsely : Prop := flowStepsRow.holds Try.pinned (OpenSpec.ofChange flowStepsWrong)

/-- 'radiolinklaw06.FlowExact': WHATEVER THE INPUT: true; the input reads as it did. -/
def flowExactSpec : ChangeSpec := { name := "flowExact", fn := fun _ => fun
  | [d1, d2, d3] => { results := [.lit (.bool true)], args := [d1, d2, d3] }
  | _ => none }
def flowExactRow : OpenClaim := { program := "ytmojlengjoicoaa", sum := "cf90f4a8d3a78081b0380cdc977476b17a3d0d098aa5b8ee3842b47199c614d0", func := "radiolink/radiolinklaw06.FlowExact", spec := "flowExact", apart := false }
def FlowExactSaid : Prop := flowExactRow.holds Try.pinned (OpenSpec.ofChange flowExactSpec)

/-- ITS FALSE NEIGHBOUR: 'it returns false'. Refute it at one input. -/
def flowExactWrong : ChangeSpec := { name := "flowExact", fn := fun _ => fun
  | [d1, d2, d3] => { results := [.lit (.bool false)], args := [d1, d2, d3] }
  | _ => none }
def FlowExactWrongFalsely : Prop := flowExactRow.holds Try.pinned (OpenSpec.ofChange flowExactWrong)

/-- 'radiolinklaw06.FlowMade': WHATEVER THE INPUT: true; the input reads as it did. -/
def flowMadeSpec : ChangeSpec := { name := "flowMade", fn := fun _ => fun
  | [d1, d2] => { results := [.lit (.bool true)], args := [d1, d2] }
  | _ => none }
def flowMadeRow : OpenClaim := { program := "ytmojlengjoicoaa", sum := "cf90f4a8d3a78081b0380cdc977476b17a3d0d098aa5b8ee3842b47199c614d0", func := "radiolink/radiolinklaw06.FlowMade", spec := "flowMade", apart := false }
def FlowMadeSaid : Prop := flowMadeRow.holds Try.pinned (OpenSpec.ofChange flowMadeSpec)

/-- ITS FALSE NEIGHBOUR: 'it returns false'. Refute it at one input. -/
def flowMadeWrong : ChangeSpec := { name := "flowMade", fn := fun _ => fun
  | [d1, d2] => { results := [.lit (.bool false)], args := [d1, d2] }
  | _ => none }
def FlowMadeWrongFalsely : Prop := flowMadeRow.holds Try.pinned (OpenSpec.ofChange flowMadeWrong)

/-- 'radiolinklaw06.FlowLearns': WHATEVER THE INPUT: true; the input reads as it did. -/
def flowLearnsSpec : ChangeSpec := { name := "flowLearns", fn := fun _ => fun
  | [d1, d2] => { results := [.lit (.bool true)], args := [d1, d2] }
  | _ => none }
def flowLearnsRow : OpenClaim := { program := "ytmojlengjoicoaa", sum := "cf90f4a8d3a78081b0380cdc977476b17a3d0d098aa5b8ee3842b47199c614d0", func := "radiolink/radiolinklaw06.FlowLearns", spec := "flowLearns", apart := false }
def FlowLearnsSaid : Prop := flowLearnsRow.holds Try.pinned (OpenSpec.ofChange flowLearnsSpec)

/-- ITS FALSE NEIGHBOUR: 'it returns false'. Refute it at one input. -/
def flowLearnsWrong : ChangeSpec := { name := "flowLearns", fn := fun _ => fun
  | [d1, d2] => { results := [.lit (.bool false)], args := [d1, d2] }
  | _ => none }
def FlowLearnsWrongFalsely : Prop := flowLearnsRow.holds Try.pinned (OpenSpec.ofChange flowLearnsWrong)

/-- 'radiolinklaw06.FlowStatics': WHATEVER THE INPUT: true; the input reads as it did. -/
def flowStaticsSpec : ChangeSpec := { name := "flowStatics", fn := fun _ => fun
  | [d1, d2] => { results := [.lit (.bool true)], args := [d1, d2] }
  | _ => none }
def flowStaticsRow : OpenClaim := { program := "ytmojlengjoicoaa", sum := "cf90f4a8d3a78081b0380cdc977476b17a3d0d098aa5b8ee3842b47199c614d0", func := "radiolink/radiolinklaw06.FlowStatics", spec := "flowStatics", apart := false }
def FlowStaticsSaid : Prop := flowStaticsRow.holds Try.pinned (OpenSpec.ofChange flowStaticsSpec)

/-- ITS FALSE NEIGHBOUR: 'it returns false'. Refute it at one input. -/
def flowStaticsWrong : ChangeSpec := { name := "flowStatics", fn := fun _ => fun
  | [d1, d2] => { results := [.lit (.bool false)], args := [d1, d2] }
  | _ => none }
def FlowStaticsWrongFalsely : Prop := flowStaticsRow.holds Try.pinned (OpenSpec.ofChange flowStaticsWrong)

/-- 'radiolinklaw05.PacketParses': WHATEVER THE INPUT: true; the input reads as it did. -/
def packetParsesSpec : ChangeSpec := { name := "packetParses", fn := fun _ => fun
  | [d] => { results := [.lit (.bool true)], args := [d] }
  | _ => none }
def packetParsesRow : OpenClaim := { program := "ytmojlengjoicoaa", sum := "cf90f4a8d3a78081b0380cdc977476b17a3d0d098aa5b8ee3842b47199c614d0", func := "radiolink/radiolinklaw05.PacketParses", spec := "packetParses", apart := false }
def PacketParsesSaid : Prop := packetParsesRow.holds Try.pinned (OpenSpec.ofChange packetParsesSpec)

/-- ITS FALSE NEIGHBOUR: 'it returns false'. Refute it at one input. -/
def packetParsesWrong : ChangeSpec := { name := "packetParses", fn := fun _ => fun
  | [d] => { results := [.lit (.bool false)], args := [d] }
  | _ => none }
def PacketParsesWrongFalsely : Prop := packetParsesRow.holds Try.pinned (OpenSpec.ofChange packetParsesWrong)

/-- 'radiolinklaw05.PacketParsesMade': WHATEVER THE INPUT: true; the input reads as it did. -/
def packetParsesMadeSpec : ChangeSpec := { name := "packetParsesMade", fn := fun _ => fun
  | [d] => { results := [.lit (.bool true)], args := [d] }
  | _ => none }
def packetParsesMadeRow : OpenClaim := { program := "ytmojlengjoicoaa", sum := "cf90f4a8d3a78081b0380cdc977476b17a3d0d098aa5b8ee3842b47199c614d0", func := "radiolink/radiolinklaw05.PacketParsesMade", spec := "packetParsesMade", apart := false }
def PacketParsesMadeSaid : Prop := packetParsesMadeRow.holds Try.pinned (OpenSpec.ofChange packetParsesMadeSpec)

/-- ITS FALSE NEIGHBOUR: 'it returns false'. Refute it at one input. -/
def packetParsesMadeWrong : ChangeSpec := { name := "packetParsesMade", fn := fun _ => fun
  | [d] => { results := [.lit (.bool false)], args := [d] }
  | _ => none }
def PacketParsesMadeWrongFalsely : Prop := packetParsesMadeRow.holds Try.pinned (OpenSpec.ofChange packetParsesMadeWrong)

/-- 'radiolinklaw05.PacketReturns': WHATEVER THE INPUT: true; the input reads as it did. -/
def packetReturnsSpec : ChangeSpec := { name := "packetReturns", fn := fun _ => fun
  | [d] => { results := [.lit (.bool true)], args := [d] }
  | _ => none }
def packetReturnsRow : OpenClaim := { program := "ytmojlengjoicoaa", sum := "cf90f4a8d3a78081b0380cdc977476b17a3d0d098aa5b8ee3842b47199c614d0", func := "radiolink/radiolinklaw05.PacketReturns", spec := "packetReturns", apart := false }
def PacketReturnsSaid : Prop := packetReturnsRow.holds Try.pinned (OpenSpec.ofChange packetReturnsSpec)

/-- ITS FALSE NEIGHBOUR: 'it returns false'. Refute it at one input. -/
def packetReturnsWrong : ChangeSpec := { name := "packetReturns", fn := fun _ => fun
  | [d] => { results := [.lit (.bool false)], args := [d] }
  | _ => none }
def PacketReturnsWrongFalsely : Prop := packetReturnsRow.holds Try.pinned (OpenSpec.ofChange packetReturnsWrong)

/-- 'radiolinklaw05.PacketBuilds': WHATEVER THE INPUT: true; the input reads as it did. -/
def packetBuildsSpec : ChangeSpec := { name := "packetBuilds", fn := fun _ => fun
  | [d1, d2] => { results := [.lit (.bool true)], args := [d1, d2] }
  | _ => none }
def packetBuildsRow : OpenClaim := { program := "ytmojlengjoicoaa", sum := "cf90f4a8d3a78081b0380cdc977476b17a3d0d098aa5b8ee3842b47199c614d0", func := "radiolink/radiolinklaw05.PacketBuilds", spec := "packetBuilds", apart := false }
def PacketBuildsSaid : Prop := packetBuildsRow.holds Try.pinned (OpenSpec.ofChange packetBuildsSpec)

/-- ITS FALSE NEIGHBOUR: 'it returns false'. Refute it at one input. -/
def packetBuildsWrong : ChangeSpec := { name := "packetBuilds", fn := fun _ => fun
  | [d1, d2] => { results := [.lit (.bool false)], args := [d1, d2] }
  | _ => none }
def PacketBuildsWrongFalsely : Prop := packetBuildsRow.holds Try.pinned (OpenSpec.ofChange packetBuildsWrong)

/-- 'radiolinklaw05.PacketBuildsMade': WHATEVER THE INPUT: true; the input reads as it did. -/
def packetBuildsMadeSpec : ChangeSpec := { name := "packetBuildsMade", fn := fun _ => fun
  | [d1, d2] => { results := [.lit (.bool true)], args := [d1, d2] }
  | _ => none }
def packetBuildsMadeRow : OpenClaim := { program := "ytmojlengjoicoaa", sum := "cf90f4a8d3a78081b0380cdc977476b17a3d0d098aa5b8ee3842b47199c614d0", func := "radiolink/radiolinklaw05.PacketBuildsMade", spec := "packetBuildsMade", apart := false }
def PacketBuildsMadeSaid : Prop := packetBuildsMadeRow.holds Try.pinned (OpenSpec.ofChange packetBuildsMadeSpec)

/-- ITS FALSE NEIGHBOUR: 'it returns false'. Refute it at one input. -/
def packetBuildsMadeWrong : ChangeSpec := { name := "packetBuildsMade", fn := fun _ => fun
  | [d1, d2] => { results := [.lit (.bool false)], args := [d1, d2] }
  | _ => none }
def PacketBuildsMadeWrongFalsely : Prop := packetBuildsMadeRow.holds Try.pinned (OpenSpec.ofChange packetBuildsMadeWrong)

/-- 'radiolinklaw05.PacketChecks': WHATEVER THE INPUT: true; the input reads as it did. -/
def packetChecksSpec : ChangeSpec := { name := "packetChecks", fn := fun _ => fun
  | [d1, d2] => { results := [.lit (.bool true)], args := [d1, d2] }
  | _ => none }
def packetChecksRow : OpenClaim := { program := "ytmojlengjoicoaa", sum := "cf90f4a8d3a78081b0380cdc977476b17a3d0d098aa5b8ee3842b47199c614d0", func := "radiolink/radiolinklaw05.PacketChecks", spec := "packetChecks", apart := false }
def PacketChecksSaid : Prop := packetChecksRow.holds Try.pinned (OpenSpec.ofChange packetChecksSpec)

/-- ITS FALSE NEIGHBOUR: 'it returns false'. Refute it at one input. -/
def packetChecksWrong : ChangeSpec := { name := "packetChecks", fn := fun _ => fun
  | [d1, d2] => { results := [.lit (.bool false)], args := [d1, d2] }
  | _ => none }
def PacketChecksWrongFalsely : Prop := packetChecksRow.holds Try.pinned (OpenSpec.ofChange packetChecksWrong)

/- THE SECOND FORM. 'bulk': how many values and letters a reading holds, each counted each time it is reached (what is shared counts as often as it is met; a slice's spare places count too). A statement '..UptoSaid' is the law's where the arguments, and the package variables that the reading takes, are together of bulk at most 1048576: NARROWER than '..Said'. Prove '..Said' where nothing that the law and all that it calls make is longer than what came in: it says more and counts as full. Else prove '..UptoSaid'. A law counts once. -/
mutual
def uptoBulk {H : Type} : DataW H → Nat
  | .lit (.string bytes) => bytes.length + 1
  | .lit _ => 1
  | .nil => 1
  | .ptr d => uptoBulk d + 1
  | .slice elems spare => uptoBulkAll elems + uptoBulkAll spare + 1
  | .agg parts => uptoBulkAll parts + 1
  | .iface _ d => uptoBulk d + 1
  | .map entries => uptoBulkEntries entries + 1
  | .held _ => 1
def uptoBulkAll {H : Type} : List (DataW H) → Nat
  | [] => 0
  | d :: r => uptoBulk d + uptoBulkAll r
def uptoBulkEntries {H : Type} : List (Lit × DataW H) → Nat
  | [] => 0
  | x :: r => uptoBulkEntry x + uptoBulkEntries r
def uptoBulkEntry {H : Type} : Lit × DataW H → Nat
  | (.string bytes, d) => bytes.length + uptoBulk d + 1
  | (_, d) => uptoBulk d + 1
 end
def uptoSmall : (H : Type) → List (DataW H) → Bool := fun _ ds => decide (uptoBulkAll ds ≤ 1048576)
def OpenSpec.upto (s : _root_.Go.ChangeSpec) : _root_.Go.OpenSpec := { _root_.Go.OpenSpec.ofChange s with cond := some uptoSmall }

/-- 'radiolinklaw06.FlowSteps', WHERE WHAT IT READS IS OF BULK AT MOST 1048576: true; the input reads as it did. -/
def flowStepsUptoRow : OpenClaim := { program := "ytmojlengjoicoaa", sum := "cf90f4a8d3a78081b0380cdc977476b17a3d0d098aa5b8ee3842b47199c614d0", func := "radiolink/radiolinklaw06.FlowSteps", spec := "flowSteps", apart := false, narrowed := true }
def FlowStepsUptoSaid : Prop := flowStepsUptoRow.holds Try.pinned (OpenSpec.upto flowStepsSpec)

/-- 'radiolinklaw06.FlowExact', WHERE WHAT IT READS IS OF BULK AT MOST 1048576: true; the input reads as it did. -/
def flowExactUptoRow : OpenClaim := { program := "ytmojlengjoicoaa", sum := "cf90f4a8d3a78081b0380cdc977476b17a3d0d098aa5b8ee3842b47199c614d0", func := "radiolink/radiolinklaw06.FlowExact", spec := "flowExact", apart := false, narrowed := true }
def FlowExactUptoSaid : Prop := flowExactUptoRow.holds Try.pinned (OpenSpec.upto flowExactSpec)

/-- 'radiolinklaw06.FlowMade', WHERE WHAT IT READS IS OF BULK AT MOST 1048576: true; the input reads as it did. -/
def flowMadeUptoRow : OpenClaim := { program := "ytmojlengjoicoaa", sum := "cf90f4a8d3a78081b0380cdc977476b17a3d0d098aa5b8ee3842b47199c614d0", func := "radiolink/radiolinklaw06.FlowMade", spec := "flowMade", apart := false, narrowed := true }
def FlowMadeUptoSaid : Prop := flowMadeUptoRow.holds Try.pinned (OpenSpec.upto flowMadeSpec)

/-- 'radiolinklaw06.FlowLearns', WHERE WHAT IT READS IS OF BULK AT MOST 1048576: true; the input reads as it did. -/
def flowLearnsUptoRow : OpenClaim := { program := "ytmojlengjoicoaa", sum := "cf90f4a8d3a78081b0380cdc977476b17a3d0d098aa5b8ee3842b47199c614d0", func := "radiolink/radiolinklaw06.FlowLearns", spec := "flowLearns", apart := false, narrowed := true }
def FlowLearnsUptoSaid : Prop := flowLearnsUptoRow.holds Try.pinned (OpenSpec.upto flowLearnsSpec)

/-- 'radiolinklaw06.FlowStatics', WHERE WHAT IT READS IS OF BULK AT MOST 1048576: true; the input reads as it did. -/
def flowStaticsUptoRow : OpenClaim := { program := "ytmojlengjoicoaa", sum := "cf90f4a8d3a78081b0380cdc977476b17a3d0d098aa5b8ee3842b47199c614d0", func := "radiolink/radiolinklaw06.FlowStatics", spec := "flowStatics", apart := false, narrowed := true }
def FlowStaticsUptoSaid : Prop := flowStaticsUptoRow.holds Try.pinned (OpenSpec.upto flowStaticsSpec)

/-- 'radiolinklaw05.PacketParses', WHERE WHAT IT READS IS OF BULK AT MOST 1048576: true; the input reads as it did. -/
def packetParsesUptoRow : OpenClaim := { program := "ytmojlengjoicoaa", sum := "cf90f4a8d3a78081b0380cdc977476b17a3d0d098aa5b8ee3842b47199c614d0", func := "radiolink/radiolinklaw05.PacketParses", spec := "packetParses", apart := false, narrowed := true }
def PacketParsesUptoSaid : Prop := packetParsesUptoRow.holds Try.pinned (OpenSpec.upto packetParsesSpec)

/-- 'radiolinklaw05.PacketParsesMade', WHERE WHAT IT READS IS OF BULK AT MOST 1048576: true; the input reads as it did. -/
def packetParsesMadeUptoRow : OpenClaim := { program := "ytmojlengjoicoaa", sum := "cf90f4a8d3a78081b0380cdc977476b17a3d0d098aa5b8ee3842b47199c614d0", func := "radiolink/radiolinklaw05.PacketParsesMade", spec := "packetParsesMade", apart := false, narrowed := true }
def PacketParsesMadeUptoSaid : Prop := packetParsesMadeUptoRow.holds Try.pinned (OpenSpec.upto packetParsesMadeSpec)

/-- 'radiolinklaw05.PacketReturns', WHERE WHAT IT READS IS OF BULK AT MOST 1048576: true; the input reads as it did. -/
def packetReturnsUptoRow : OpenClaim := { program := "ytmojlengjoicoaa", sum := "cf90f4a8d3a78081b0380cdc977476b17a3d0d098aa5b8ee3842b47199c614d0", func := "radiolink/radiolinklaw05.PacketReturns", spec := "packetReturns", apart := false, narrowed := true }
def PacketReturnsUptoSaid : Prop := packetReturnsUptoRow.holds Try.pinned (OpenSpec.upto packetReturnsSpec)

/-- 'radiolinklaw05.PacketBuilds', WHERE WHAT IT READS IS OF BULK AT MOST 1048576: true; the input reads as it did. -/
def packetBuildsUptoRow : OpenClaim := { program := "ytmojlengjoicoaa", sum := "cf90f4a8d3a78081b0380cdc977476b17a3d0d098aa5b8ee3842b47199c614d0", func := "radiolink/radiolinklaw05.PacketBuilds", spec := "packetBuilds", apart := false, narrowed := true }
def PacketBuildsUptoSaid : Prop := packetBuildsUptoRow.holds Try.pinned (OpenSpec.upto packetBuildsSpec)

/-- 'radiolinklaw05.PacketBuildsMade', WHERE WHAT IT READS IS OF BULK AT MOST 1048576: true; the input reads as it did. -/
def packetBuildsMadeUptoRow : OpenClaim := { program := "ytmojlengjoicoaa", sum := "cf90f4a8d3a78081b0380cdc977476b17a3d0d098aa5b8ee3842b47199c614d0", func := "radiolink/radiolinklaw05.PacketBuildsMade", spec := "packetBuildsMade", apart := false, narrowed := true }
def PacketBuildsMadeUptoSaid : Prop := packetBuildsMadeUptoRow.holds Try.pinned (OpenSpec.upto packetBuildsMadeSpec)

/-- 'radiolinklaw05.PacketChecks', WHERE WHAT IT READS IS OF BULK AT MOST 1048576: true; the input reads as it did. -/
def packetChecksUptoRow : OpenClaim := { program := "ytmojlengjoicoaa", sum := "cf90f4a8d3a78081b0380cdc977476b17a3d0d098aa5b8ee3842b47199c614d0", func := "radiolink/radiolinklaw05.PacketChecks", spec := "packetChecks", apart := false, narrowed := true }
def PacketChecksUptoSaid : Prop := packetChecksUptoRow.holds Try.pinned (OpenSpec.upto packetChecksSpec)

end Rows
end Go.Proofs.Ytmojlengjoicoaa
