/-
  NARROWER THAN 'FOR EVERY INPUT', by the rows' own cells (each row's printed sentence says how): FeedbackApplies: laid · FeedbackKeeps: laid · FeedbackBytes: laid · FeedbackReturns: laid.
  DERIVED. THE GIVEN ROWS OF THIS SEAT. 4 by the template 'for every input the law returns true; each argument reads behind the call as it read before'; 0 by the template 'total and deterministic' (their statements: YtlnkofpcidngoaaDoorTotals.lean).
  GIVEN WITH THE SEED: the statements are not yours to turn. If you find one false, say at which input.
  Laid BY PROGRAM, IN A SANDBOX (cutbox-rows.mjs): the forced cells as the released guide's own fill.sh prints them over the translation b80c03dcd6e6d81f… (all of the seat's roots in one cut). By AI agents, Wed Nov 11 2026. No macro, syntax, notation, axiom, sorry.
-/
import Derived.Test.YtlnkofpcidngoaaDoorChecked
import GoSem.Claim
import GoSem.ClaimJoined
import GoSem.ClaimMapViews
import Derived.JoinedTies
import Derived.KernelRfl
namespace Go.Proofs.YtlnkofpcidngoaaDoor
/- THE CELL 'sum', in the pinned program and in every row, IS THE sha256 OF THE DUMP (.gsa) THAT YtlnkofpcidngoaaDoorProg.lean LOADS. Nothing in Lean hashes anything: it is a label: what it is worth is what the hold of that sum in a sandbox is worth. -/
noncomputable def Tryd.pinned : Pinned := { name := "ytlnkofpcidngoaadoor", sum := "b80c03dcd6e6d81f32c36fafd1c003e7dc0707f0d85df0dff33062899b6702e3", checked := Tryd.checked }
namespace Rows
def none {H : Type} : Left H := { results := [], args := [] }

/- WHAT THE LISTED PACKAGE-LEVEL VARIABLES READ AS WHEN THE CALL BEGINS. Each datum BY PROGRAM (the guide's laid-datum.mjs) off the statement by which the dump's own 'gosem.cut.vars' lays the variable. In a bare row this is a premise. The card (YtlnkofpcidngoaaDoorCards.lean) ties it to the program's text. -/
def laid_radiolink_check_polynomials {H : Type} : DataW H := .map [(.int .i64 3, .lit (.int .i64 3)), (.int .i64 7, .lit (.int .i64 9)), (.int .i64 8, .lit (.int .i64 7)), (.int .i64 16, .lit (.int .i64 4129)), (.int .i64 24, .lit (.int .i64 8801531))]

/-- 'radiolinklaw11.FeedbackApplies': WHATEVER THE INPUT: true; the input reads as it did. -/
def feedbackAppliesSpec : ChangeSpec := { name := "feedbackApplies", fn := fun _ => fun
  | [d1, d2, d3] => { results := [.lit (.bool true)], args := [d1, d2, d3] }
  | _ => none }
def feedbackAppliesRow : OpenClaim := { program := "ytlnkofpcidngoaadoor", sum := "b80c03dcd6e6d81f32c36fafd1c003e7dc0707f0d85df0dff33062899b6702e3", func := "radiolink/radiolinklaw11.FeedbackApplies", spec := "feedbackApplies", unfollowed := true, recurses := true, named := ["radiolink/check.polynomials"], apart := false, laid := [("radiolink/check.polynomials", laid_radiolink_check_polynomials)] }
def FeedbackAppliesSaid : Prop := feedbackAppliesRow.holds Tryd.pinned (OpenSpec.ofChange feedbackAppliesSpec)

/-- ITS FALSE NEIGHBOUR: 'it returns false'. Refute it at one input. -/
def feedbackAppliesWrong : ChangeSpec := { name := "feedbackApplies", fn := fun _ => fun
  | [d1, d2, d3] => { results := [.lit (.bool false)], args := [d1, d2, d3] }
  | _ => none }
def FeedbackAppliesWrongFalsely : Prop := feedbackAppliesRow.holds Tryd.pinned (OpenSpec.ofChange feedbackAppliesWrong)

/-- 'radiolinklaw11.FeedbackKeeps': WHATEVER THE INPUT: true; the input reads as it did. -/
def feedbackKeepsSpec : ChangeSpec := { name := "feedbackKeeps", fn := fun _ => fun
  | [d1, d2] => { results := [.lit (.bool true)], args := [d1, d2] }
  | _ => none }
def feedbackKeepsRow : OpenClaim := { program := "ytlnkofpcidngoaadoor", sum := "b80c03dcd6e6d81f32c36fafd1c003e7dc0707f0d85df0dff33062899b6702e3", func := "radiolink/radiolinklaw11.FeedbackKeeps", spec := "feedbackKeeps", unfollowed := true, recurses := true, named := ["radiolink/check.polynomials"], apart := false, laid := [("radiolink/check.polynomials", laid_radiolink_check_polynomials)] }
def FeedbackKeepsSaid : Prop := feedbackKeepsRow.holds Tryd.pinned (OpenSpec.ofChange feedbackKeepsSpec)

/-- ITS FALSE NEIGHBOUR: 'it returns false'. Refute it at one input. -/
def feedbackKeepsWrong : ChangeSpec := { name := "feedbackKeeps", fn := fun _ => fun
  | [d1, d2] => { results := [.lit (.bool false)], args := [d1, d2] }
  | _ => none }
def FeedbackKeepsWrongFalsely : Prop := feedbackKeepsRow.holds Tryd.pinned (OpenSpec.ofChange feedbackKeepsWrong)

/-- 'radiolinklaw11.FeedbackBytes': WHATEVER THE INPUT: true; the input reads as it did. -/
def feedbackBytesSpec : ChangeSpec := { name := "feedbackBytes", fn := fun _ => fun
  | [d1, d2, d3] => { results := [.lit (.bool true)], args := [d1, d2, d3] }
  | _ => none }
def feedbackBytesRow : OpenClaim := { program := "ytlnkofpcidngoaadoor", sum := "b80c03dcd6e6d81f32c36fafd1c003e7dc0707f0d85df0dff33062899b6702e3", func := "radiolink/radiolinklaw11.FeedbackBytes", spec := "feedbackBytes", unfollowed := true, recurses := true, named := ["radiolink/check.polynomials"], apart := false, laid := [("radiolink/check.polynomials", laid_radiolink_check_polynomials)] }
def FeedbackBytesSaid : Prop := feedbackBytesRow.holds Tryd.pinned (OpenSpec.ofChange feedbackBytesSpec)

/-- ITS FALSE NEIGHBOUR: 'it returns false'. Refute it at one input. -/
def feedbackBytesWrong : ChangeSpec := { name := "feedbackBytes", fn := fun _ => fun
  | [d1, d2, d3] => { results := [.lit (.bool false)], args := [d1, d2, d3] }
  | _ => none }
def FeedbackBytesWrongFalsely : Prop := feedbackBytesRow.holds Tryd.pinned (OpenSpec.ofChange feedbackBytesWrong)

/-- 'radiolinklaw11.FeedbackReturns': WHATEVER THE INPUT: true; the input reads as it did. -/
def feedbackReturnsSpec : ChangeSpec := { name := "feedbackReturns", fn := fun _ => fun
  | [d1, d2, d3] => { results := [.lit (.bool true)], args := [d1, d2, d3] }
  | _ => none }
def feedbackReturnsRow : OpenClaim := { program := "ytlnkofpcidngoaadoor", sum := "b80c03dcd6e6d81f32c36fafd1c003e7dc0707f0d85df0dff33062899b6702e3", func := "radiolink/radiolinklaw11.FeedbackReturns", spec := "feedbackReturns", unfollowed := true, recurses := true, named := ["radiolink/check.polynomials"], apart := false, laid := [("radiolink/check.polynomials", laid_radiolink_check_polynomials)] }
def FeedbackReturnsSaid : Prop := feedbackReturnsRow.holds Tryd.pinned (OpenSpec.ofChange feedbackReturnsSpec)

/-- ITS FALSE NEIGHBOUR: 'it returns false'. Refute it at one input. -/
def feedbackReturnsWrong : ChangeSpec := { name := "feedbackReturns", fn := fun _ => fun
  | [d1, d2, d3] => { results := [.lit (.bool false)], args := [d1, d2, d3] }
  | _ => none }
def FeedbackReturnsWrongFalsely : Prop := feedbackReturnsRow.holds Tryd.pinned (OpenSpec.ofChange feedbackReturnsWrong)

/- THE SECOND FORM. 'bulk': how many values and letters a reading holds, each counted each time it is reached (what is shared counts as often as it is met; a slice's spare places count too). A statement '..UptoSaid' is the law's where the arguments, and the package variables that the reading takes, are together of bulk at most 1048576: NARROWER than '..Said'. Prove '..Said' where nothing that the law and all that it calls make is longer than what came in: it says more and counts as full. Else prove '..UptoSaid'. A law counts once. -/
mutual
def uptoBulk {H : Type} : DataW H → Nat
  | .lit (.string bytes) => bytes.length + 1
  | .lit _ => 1
  | .nil => 1
  | .ptr d => uptoBulk d + 1
  | .slice elems spare => uptoBulkAll elems + uptoBulkAll spare + 1
  | .agg parts => uptoBulkAll parts + 1
  | .iface _ d => uptoBulk d + 1
  | .map entries => uptoBulkEntries entries + 1
  | .held _ => 1
def uptoBulkAll {H : Type} : List (DataW H) → Nat
  | [] => 0
  | d :: r => uptoBulk d + uptoBulkAll r
def uptoBulkEntries {H : Type} : List (Lit × DataW H) → Nat
  | [] => 0
  | x :: r => uptoBulkEntry x + uptoBulkEntries r
def uptoBulkEntry {H : Type} : Lit × DataW H → Nat
  | (.string bytes, d) => bytes.length + uptoBulk d + 1
  | (_, d) => uptoBulk d + 1
 end
def uptoSmall : (H : Type) → List (DataW H) → Bool := fun _ ds => decide (uptoBulkAll ds ≤ 1048576)
def OpenSpec.upto (s : _root_.Go.ChangeSpec) : _root_.Go.OpenSpec := { _root_.Go.OpenSpec.ofChange s with cond := some uptoSmall }

/-- 'radiolinklaw11.FeedbackApplies', WHERE WHAT IT READS IS OF BULK AT MOST 1048576: true; the input reads as it did. -/
def feedbackAppliesUptoRow : OpenClaim := { program := "ytlnkofpcidngoaadoor", sum := "b80c03dcd6e6d81f32c36fafd1c003e7dc0707f0d85df0dff33062899b6702e3", func := "radiolink/radiolinklaw11.FeedbackApplies", spec := "feedbackApplies", unfollowed := true, recurses := true, named := ["radiolink/check.polynomials"], apart := false, laid := [("radiolink/check.polynomials", laid_radiolink_check_polynomials)], narrowed := true }
def FeedbackAppliesUptoSaid : Prop := feedbackAppliesUptoRow.holds Tryd.pinned (OpenSpec.upto feedbackAppliesSpec)

/-- 'radiolinklaw11.FeedbackKeeps', WHERE WHAT IT READS IS OF BULK AT MOST 1048576: true; the input reads as it did. -/
def feedbackKeepsUptoRow : OpenClaim := { program := "ytlnkofpcidngoaadoor", sum := "b80c03dcd6e6d81f32c36fafd1c003e7dc0707f0d85df0dff33062899b6702e3", func := "radiolink/radiolinklaw11.FeedbackKeeps", spec := "feedbackKeeps", unfollowed := true, recurses := true, named := ["radiolink/check.polynomials"], apart := false, laid := [("radiolink/check.polynomials", laid_radiolink_check_polynomials)], narrowed := true }
def FeedbackKeepsUptoSaid : Prop := feedbackKeepsUptoRow.holds Tryd.pinned (OpenSpec.upto feedbackKeepsSpec)

/-- 'radiolinklaw11.FeedbackBytes', WHERE WHAT IT READS IS OF BULK AT MOST 1048576: true; the input reads as it did. -/
def feedbackBytesUptoRow : OpenClaim := { program := "ytlnkofpcidngoaadoor", sum := "b80c03dcd6e6d81f32c36fafd1c003e7dc0707f0d85df0dff33062899b6702e3", func := "radiolink/radiolinklaw11.FeedbackBytes", spec := "feedbackBytes", unfollowed := true, recurses := true, named := ["radiolink/check.polynomials"], apart := false, laid := [("radiolink/check.polynomials", laid_radiolink_check_polynomials)], narrowed := true }
def FeedbackBytesUptoSaid : Prop := feedbackBytesUptoRow.holds Tryd.pinned (OpenSpec.upto feedbackBytesSpec)

/-- 'radiolinklaw11.FeedbackReturns', WHERE WHAT IT READS IS OF BULK AT MOST 1048576: true; the input reads as it did. -/
def feedbackReturnsUptoRow : OpenClaim := { program := "ytlnkofpcidngoaadoor", sum := "b80c03dcd6e6d81f32c36fafd1c003e7dc0707f0d85df0dff33062899b6702e3", func := "radiolink/radiolinklaw11.FeedbackReturns", spec := "feedbackReturns", unfollowed := true, recurses := true, named := ["radiolink/check.polynomials"], apart := false, laid := [("radiolink/check.polynomials", laid_radiolink_check_polynomials)], narrowed := true }
def FeedbackReturnsUptoSaid : Prop := feedbackReturnsUptoRow.holds Tryd.pinned (OpenSpec.upto feedbackReturnsSpec)

end Rows
end Go.Proofs.YtlnkofpcidngoaaDoor
