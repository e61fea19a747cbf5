/-
  NARROWER THAN 'FOR EVERY INPUT', by the rows' own cells (each row's printed sentence says how): CheckExact: laid · CheckGoesOn: laid · CheckLinear: laid · CheckBursts: laid · CheckZero: laid.
  DERIVED. THE GIVEN ROWS OF THIS SEAT. 5 by the template 'for every input the law returns true; each argument reads behind the call as it read before'; 0 by the template 'total and deterministic' (their statements: YtcdfljgpddafoaaDoorTotals.lean).
  GIVEN WITH THE SEED: the statements are not yours to turn. If you find one false, say at which input.
  Laid BY PROGRAM, IN A SANDBOX (cutbox-rows.mjs): the forced cells as the released guide's own fill.sh prints them over the translation 0154785c6de3cd8c… (all of the seat's roots in one cut). By AI agents, Wed Nov 11 2026. No macro, syntax, notation, axiom, sorry.
-/
import Derived.Test.YtcdfljgpddafoaaDoorChecked
import GoSem.Claim
import GoSem.ClaimJoined
import GoSem.ClaimMapViews
import Derived.JoinedTies
import Derived.KernelRfl
namespace Go.Proofs.YtcdfljgpddafoaaDoor
/- THE CELL 'sum', in the pinned program and in every row, IS THE sha256 OF THE DUMP (.gsa) THAT YtcdfljgpddafoaaDoorProg.lean LOADS. Nothing in Lean hashes anything: it is a label: what it is worth is what the hold of that sum in a sandbox is worth. -/
noncomputable def Tryd.pinned : Pinned := { name := "ytcdfljgpddafoaadoor", sum := "0154785c6de3cd8c94359d5d5d7dfdbe773c385b18afd75248d8cd5491bbee06", checked := Tryd.checked }
namespace Rows
def none {H : Type} : Left H := { results := [], args := [] }

/- WHAT THE LISTED PACKAGE-LEVEL VARIABLES READ AS WHEN THE CALL BEGINS. Each datum BY PROGRAM (the guide's laid-datum.mjs) off the statement by which the dump's own 'gosem.cut.vars' lays the variable. In a bare row this is a premise. The card (YtcdfljgpddafoaaDoorCards.lean) ties it to the program's text. -/
def laid_radiolink_check_polynomials {H : Type} : DataW H := .map [(.int .i64 3, .lit (.int .i64 3)), (.int .i64 7, .lit (.int .i64 9)), (.int .i64 8, .lit (.int .i64 7)), (.int .i64 16, .lit (.int .i64 4129)), (.int .i64 24, .lit (.int .i64 8801531))]

/-- 'radiolinklaw03.CheckExact': WHATEVER THE INPUT: true; the input reads as it did. -/
def checkExactSpec : ChangeSpec := { name := "checkExact", fn := fun _ => fun
  | [d1, d2, d3] => { results := [.lit (.bool true)], args := [d1, d2, d3] }
  | _ => none }
def checkExactRow : OpenClaim := { program := "ytcdfljgpddafoaadoor", sum := "0154785c6de3cd8c94359d5d5d7dfdbe773c385b18afd75248d8cd5491bbee06", func := "radiolink/radiolinklaw03.CheckExact", spec := "checkExact", named := ["radiolink/check.polynomials"], apart := false, laid := [("radiolink/check.polynomials", laid_radiolink_check_polynomials)] }
def CheckExactSaid : Prop := checkExactRow.holds Tryd.pinned (OpenSpec.ofChange checkExactSpec)

/-- ITS FALSE NEIGHBOUR: 'it returns false'. Refute it at one input. -/
def checkExactWrong : ChangeSpec := { name := "checkExact", fn := fun _ => fun
  | [d1, d2, d3] => { results := [.lit (.bool false)], args := [d1, d2, d3] }
  | _ => none }
def CheckExactWrongFalsely : Prop := checkExactRow.holds Tryd.pinned (OpenSpec.ofChange checkExactWrong)

/-- 'radiolinklaw03.CheckGoesOn': WHATEVER THE INPUT: true; the input reads as it did. -/
def checkGoesOnSpec : ChangeSpec := { name := "checkGoesOn", fn := fun _ => fun
  | [d1, d2, d3] => { results := [.lit (.bool true)], args := [d1, d2, d3] }
  | _ => none }
def checkGoesOnRow : OpenClaim := { program := "ytcdfljgpddafoaadoor", sum := "0154785c6de3cd8c94359d5d5d7dfdbe773c385b18afd75248d8cd5491bbee06", func := "radiolink/radiolinklaw03.CheckGoesOn", spec := "checkGoesOn", named := ["radiolink/check.polynomials"], apart := false, laid := [("radiolink/check.polynomials", laid_radiolink_check_polynomials)] }
def CheckGoesOnSaid : Prop := checkGoesOnRow.holds Tryd.pinned (OpenSpec.ofChange checkGoesOnSpec)

/-- ITS FALSE NEIGHBOUR: 'it returns false'. Refute it at one input. -/
def checkGoesOnWrong : ChangeSpec := { name := "checkGoesOn", fn := fun _ => fun
  | [d1, d2, d3] => { results := [.lit (.bool false)], args := [d1, d2, d3] }
  | _ => none }
def CheckGoesOnWrongFalsely : Prop := checkGoesOnRow.holds Tryd.pinned (OpenSpec.ofChange checkGoesOnWrong)

/-- 'radiolinklaw03.CheckLinear': WHATEVER THE INPUT: true; the input reads as it did. -/
def checkLinearSpec : ChangeSpec := { name := "checkLinear", fn := fun _ => fun
  | [d1, d2, d3] => { results := [.lit (.bool true)], args := [d1, d2, d3] }
  | _ => none }
def checkLinearRow : OpenClaim := { program := "ytcdfljgpddafoaadoor", sum := "0154785c6de3cd8c94359d5d5d7dfdbe773c385b18afd75248d8cd5491bbee06", func := "radiolink/radiolinklaw03.CheckLinear", spec := "checkLinear", named := ["radiolink/check.polynomials"], apart := false, laid := [("radiolink/check.polynomials", laid_radiolink_check_polynomials)] }
def CheckLinearSaid : Prop := checkLinearRow.holds Tryd.pinned (OpenSpec.ofChange checkLinearSpec)

/-- ITS FALSE NEIGHBOUR: 'it returns false'. Refute it at one input. -/
def checkLinearWrong : ChangeSpec := { name := "checkLinear", fn := fun _ => fun
  | [d1, d2, d3] => { results := [.lit (.bool false)], args := [d1, d2, d3] }
  | _ => none }
def CheckLinearWrongFalsely : Prop := checkLinearRow.holds Tryd.pinned (OpenSpec.ofChange checkLinearWrong)

/-- 'radiolinklaw03.CheckBursts': WHATEVER THE INPUT: true; the input reads as it did. -/
def checkBurstsSpec : ChangeSpec := { name := "checkBursts", fn := fun _ => fun
  | [d1, d2, d3] => { results := [.lit (.bool true)], args := [d1, d2, d3] }
  | _ => none }
def checkBurstsRow : OpenClaim := { program := "ytcdfljgpddafoaadoor", sum := "0154785c6de3cd8c94359d5d5d7dfdbe773c385b18afd75248d8cd5491bbee06", func := "radiolink/radiolinklaw03.CheckBursts", spec := "checkBursts", named := ["radiolink/check.polynomials"], apart := false, laid := [("radiolink/check.polynomials", laid_radiolink_check_polynomials)] }
def CheckBurstsSaid : Prop := checkBurstsRow.holds Tryd.pinned (OpenSpec.ofChange checkBurstsSpec)

/-- ITS FALSE NEIGHBOUR: 'it returns false'. Refute it at one input. -/
def checkBurstsWrong : ChangeSpec := { name := "checkBursts", fn := fun _ => fun
  | [d1, d2, d3] => { results := [.lit (.bool false)], args := [d1, d2, d3] }
  | _ => none }
def CheckBurstsWrongFalsely : Prop := checkBurstsRow.holds Tryd.pinned (OpenSpec.ofChange checkBurstsWrong)

/-- 'radiolinklaw03.CheckZero': WHATEVER THE INPUT: true; the input reads as it did. -/
def checkZeroSpec : ChangeSpec := { name := "checkZero", fn := fun _ => fun
  | [d1, d2, d3] => { results := [.lit (.bool true)], args := [d1, d2, d3] }
  | _ => none }
def checkZeroRow : OpenClaim := { program := "ytcdfljgpddafoaadoor", sum := "0154785c6de3cd8c94359d5d5d7dfdbe773c385b18afd75248d8cd5491bbee06", func := "radiolink/radiolinklaw03.CheckZero", spec := "checkZero", named := ["radiolink/check.polynomials"], apart := false, laid := [("radiolink/check.polynomials", laid_radiolink_check_polynomials)] }
def CheckZeroSaid : Prop := checkZeroRow.holds Tryd.pinned (OpenSpec.ofChange checkZeroSpec)

/-- ITS FALSE NEIGHBOUR: 'it returns false'. Refute it at one input. -/
def checkZeroWrong : ChangeSpec := { name := "checkZero", fn := fun _ => fun
  | [d1, d2, d3] => { results := [.lit (.bool false)], args := [d1, d2, d3] }
  | _ => none }
def CheckZeroWrongFalsely : Prop := checkZeroRow.holds Tryd.pinned (OpenSpec.ofChange checkZeroWrong)

/- THE SECOND FORM. 'bulk': how many values and letters a reading holds, each counted each time it is reached (what is shared counts as often as it is met; a slice's spare places count too). A statement '..UptoSaid' is the law's where the arguments, and the package variables that the reading takes, are together of bulk at most 1048576: NARROWER than '..Said'. Prove '..Said' where nothing that the law and all that it calls make is longer than what came in: it says more and counts as full. Else prove '..UptoSaid'. A law counts once. -/
mutual
def uptoBulk {H : Type} : DataW H → Nat
  | .lit (.string bytes) => bytes.length + 1
  | .lit _ => 1
  | .nil => 1
  | .ptr d => uptoBulk d + 1
  | .slice elems spare => uptoBulkAll elems + uptoBulkAll spare + 1
  | .agg parts => uptoBulkAll parts + 1
  | .iface _ d => uptoBulk d + 1
  | .map entries => uptoBulkEntries entries + 1
  | .held _ => 1
def uptoBulkAll {H : Type} : List (DataW H) → Nat
  | [] => 0
  | d :: r => uptoBulk d + uptoBulkAll r
def uptoBulkEntries {H : Type} : List (Lit × DataW H) → Nat
  | [] => 0
  | x :: r => uptoBulkEntry x + uptoBulkEntries r
def uptoBulkEntry {H : Type} : Lit × DataW H → Nat
  | (.string bytes, d) => bytes.length + uptoBulk d + 1
  | (_, d) => uptoBulk d + 1
 end
def uptoSmall : (H : Type) → List (DataW H) → Bool := fun _ ds => decide (uptoBulkAll ds ≤ 1048576)
def OpenSpec.upto (s : _root_.Go.ChangeSpec) : _root_.Go.OpenSpec := { _root_.Go.OpenSpec.ofChange s with cond := some uptoSmall }

/-- 'radiolinklaw03.CheckExact', WHERE WHAT IT READS IS OF BULK AT MOST 1048576: true; the input reads as it did. -/
def checkExactUptoRow : OpenClaim := { program := "ytcdfljgpddafoaadoor", sum := "0154785c6de3cd8c94359d5d5d7dfdbe773c385b18afd75248d8cd5491bbee06", func := "radiolink/radiolinklaw03.CheckExact", spec := "checkExact", named := ["radiolink/check.polynomials"], apart := false, laid := [("radiolink/check.polynomials", laid_radiolink_check_polynomials)], narrowed := true }
def CheckExactUptoSaid : Prop := checkExactUptoRow.holds Tryd.pinned (OpenSpec.upto checkExactSpec)

/-- 'radiolinklaw03.CheckGoesOn', WHERE WHAT IT READS IS OF BULK AT MOST 1048576: true; the input reads as it did. -/
def checkGoesOnUptoRow : OpenClaim := { program := "ytcdfljgpddafoaadoor", sum := "0154785c6de3cd8c94359d5d5d7dfdbe773c385b18afd75248d8cd5491bbee06", func := "radiolink/radiolinklaw03.CheckGoesOn", spec := "checkGoesOn", named := ["radiolink/check.polynomials"], apart := false, laid := [("radiolink/check.polynomials", laid_radiolink_check_polynomials)], narrowed := true }
def CheckGoesOnUptoSaid : Prop := checkGoesOnUptoRow.holds Tryd.pinned (OpenSpec.upto checkGoesOnSpec)

/-- 'radiolinklaw03.CheckLinear', WHERE WHAT IT READS IS OF BULK AT MOST 1048576: true; the input reads as it did. -/
def checkLinearUptoRow : OpenClaim := { program := "ytcdfljgpddafoaadoor", sum := "0154785c6de3cd8c94359d5d5d7dfdbe773c385b18afd75248d8cd5491bbee06", func := "radiolink/radiolinklaw03.CheckLinear", spec := "checkLinear", named := ["radiolink/check.polynomials"], apart := false, laid := [("radiolink/check.polynomials", laid_radiolink_check_polynomials)], narrowed := true }
def CheckLinearUptoSaid : Prop := checkLinearUptoRow.holds Tryd.pinned (OpenSpec.upto checkLinearSpec)

/-- 'radiolinklaw03.CheckBursts', WHERE WHAT IT READS IS OF BULK AT MOST 1048576: true; the input reads as it did. -/
def checkBurstsUptoRow : OpenClaim := { program := "ytcdfljgpddafoaadoor", sum := "0154785c6de3cd8c94359d5d5d7dfdbe773c385b18afd75248d8cd5491bbee06", func := "radiolink/radiolinklaw03.CheckBursts", spec := "checkBursts", named := ["radiolink/check.polynomials"], apart := false, laid := [("radiolink/check.polynomials", laid_radiolink_check_polynomials)], narrowed := true }
def CheckBurstsUptoSaid : Prop := checkBurstsUptoRow.holds Tryd.pinned (OpenSpec.upto checkBurstsSpec)

/-- 'radiolinklaw03.CheckZero', WHERE WHAT IT READS IS OF BULK AT MOST 1048576: true; the input reads as it did. -/
def checkZeroUptoRow : OpenClaim := { program := "ytcdfljgpddafoaadoor", sum := "0154785c6de3cd8c94359d5d5d7dfdbe773c385b18afd75248d8cd5491bbee06", func := "radiolink/radiolinklaw03.CheckZero", spec := "checkZero", named := ["radiolink/check.polynomials"], apart := false, laid := [("radiolink/check.polynomials", laid_radiolink_check_polynomials)], narrowed := true }
def CheckZeroUptoSaid : Prop := checkZeroUptoRow.holds Tryd.pinned (OpenSpec.upto checkZeroSpec)

end Rows
end Go.Proofs.YtcdfljgpddafoaaDoor
