/-
  NARROWER THAN 'FOR EVERY INPUT', by the rows' own cells (each row's printed sentence says how): HarqRaw: laid · HarqRuns: laid · HarqArrives: laid · HarqCombines: laid · HarqSilence: laid · HarqEnds: laid · HarqVersions: laid.
  DERIVED. THE GIVEN ROWS OF THIS SEAT. 7 by the template 'for every input the law returns true; each argument reads behind the call as it read before'; 0 by the template 'total and deterministic' (their statements: YtcleegibdcphiaaDoorTotals.lean).
  GIVEN WITH THE SEED: the statements are not yours to turn. If you find one false, say at which input.
  Laid BY PROGRAM, IN A SANDBOX (cutbox-rows.mjs): the forced cells as the released guide's own fill.sh prints them over the translation b29ed3aa8f78d3d8… (all of the seat's roots in one cut). By AI agents, Wed Nov 11 2026. No macro, syntax, notation, axiom, sorry.
-/
import Derived.Test.YtcleegibdcphiaaDoorChecked
import GoSem.Claim
import GoSem.ClaimJoined
import GoSem.ClaimMapViews
import Derived.JoinedTies
import Derived.KernelRfl
namespace Go.Proofs.YtcleegibdcphiaaDoor
/- THE CELL 'sum', in the pinned program and in every row, IS THE sha256 OF THE DUMP (.gsa) THAT YtcleegibdcphiaaDoorProg.lean LOADS. Nothing in Lean hashes anything: it is a label: what it is worth is what the hold of that sum in a sandbox is worth. -/
noncomputable def Tryd.pinned : Pinned := { name := "ytcleegibdcphiaadoor", sum := "b29ed3aa8f78d3d81b5e70071ee229dc45cb24877d4a116582067c2bea43d97d", checked := Tryd.checked }
namespace Rows
def none {H : Type} : Left H := { results := [], args := [] }

/- WHAT THE LISTED PACKAGE-LEVEL VARIABLES READ AS WHEN THE CALL BEGINS. Each datum BY PROGRAM (the guide's laid-datum.mjs) off the statement by which the dump's own 'gosem.cut.vars' lays the variable. In a bare row this is a premise. The card (YtcleegibdcphiaaDoorCards.lean) ties it to the program's text. -/
def laid_radiolink_check_polynomials {H : Type} : DataW H := .map [(.int .i64 3, .lit (.int .i64 3)), (.int .i64 7, .lit (.int .i64 9)), (.int .i64 8, .lit (.int .i64 7)), (.int .i64 16, .lit (.int .i64 4129)), (.int .i64 24, .lit (.int .i64 8801531))]

/-- 'radiolinklaw29.HarqRaw': WHATEVER THE INPUT: true; the input reads as it did. -/
def harqRawSpec : ChangeSpec := { name := "harqRaw", fn := fun _ => fun
  | [d1, d2, d3, d4, d5, d6, d7, d8, d9] => { results := [.lit (.bool true)], args := [d1, d2, d3, d4, d5, d6, d7, d8, d9] }
  | _ => none }
def harqRawRow : OpenClaim := { program := "ytcleegibdcphiaadoor", sum := "b29ed3aa8f78d3d81b5e70071ee229dc45cb24877d4a116582067c2bea43d97d", func := "radiolink/radiolinklaw29.HarqRaw", spec := "harqRaw", unfollowed := true, recurses := true, named := ["radiolink/check.polynomials"], apart := false, laid := [("radiolink/check.polynomials", laid_radiolink_check_polynomials)] }
def HarqRawSaid : Prop := harqRawRow.holds Tryd.pinned (OpenSpec.ofChange harqRawSpec)

/-- ITS FALSE NEIGHBOUR: 'it returns false'. Refute it at one input. -/
def harqRawWrong : ChangeSpec := { name := "harqRaw", fn := fun _ => fun
  | [d1, d2, d3, d4, d5, d6, d7, d8, d9] => { results := [.lit (.bool false)], args := [d1, d2, d3, d4, d5, d6, d7, d8, d9] }
  | _ => none }
def HarqRawWrongFalsely : Prop := harqRawRow.holds Tryd.pinned (OpenSpec.ofChange harqRawWrong)

/-- 'radiolinklaw29.HarqRuns': WHATEVER THE INPUT: true; the input reads as it did. -/
def harqRunsSpec : ChangeSpec := { name := "harqRuns", fn := fun _ => fun
  | [d1, d2] => { results := [.lit (.bool true)], args := [d1, d2] }
  | _ => none }
def harqRunsRow : OpenClaim := { program := "ytcleegibdcphiaadoor", sum := "b29ed3aa8f78d3d81b5e70071ee229dc45cb24877d4a116582067c2bea43d97d", func := "radiolink/radiolinklaw29.HarqRuns", spec := "harqRuns", unfollowed := true, recurses := true, named := ["radiolink/check.polynomials"], apart := false, laid := [("radiolink/check.polynomials", laid_radiolink_check_polynomials)] }
def HarqRunsSaid : Prop := harqRunsRow.holds Tryd.pinned (OpenSpec.ofChange harqRunsSpec)

/-- ITS FALSE NEIGHBOUR: 'it returns false'. Refute it at one input. -/
def harqRunsWrong : ChangeSpec := { name := "harqRuns", fn := fun _ => fun
  | [d1, d2] => { results := [.lit (.bool false)], args := [d1, d2] }
  | _ => none }
def HarqRunsWrongFalsely : Prop := harqRunsRow.holds Tryd.pinned (OpenSpec.ofChange harqRunsWrong)

/-- 'radiolinklaw29.HarqArrives': WHATEVER THE INPUT: true; the input reads as it did. -/
def harqArrivesSpec : ChangeSpec := { name := "harqArrives", fn := fun _ => fun
  | [d1, d2, d3, d4] => { results := [.lit (.bool true)], args := [d1, d2, d3, d4] }
  | _ => none }
def harqArrivesRow : OpenClaim := { program := "ytcleegibdcphiaadoor", sum := "b29ed3aa8f78d3d81b5e70071ee229dc45cb24877d4a116582067c2bea43d97d", func := "radiolink/radiolinklaw29.HarqArrives", spec := "harqArrives", unfollowed := true, recurses := true, named := ["radiolink/check.polynomials"], apart := false, laid := [("radiolink/check.polynomials", laid_radiolink_check_polynomials)] }
def HarqArrivesSaid : Prop := harqArrivesRow.holds Tryd.pinned (OpenSpec.ofChange harqArrivesSpec)

/-- ITS FALSE NEIGHBOUR: 'it returns false'. Refute it at one input. -/
def harqArrivesWrong : ChangeSpec := { name := "harqArrives", fn := fun _ => fun
  | [d1, d2, d3, d4] => { results := [.lit (.bool false)], args := [d1, d2, d3, d4] }
  | _ => none }
def HarqArrivesWrongFalsely : Prop := harqArrivesRow.holds Tryd.pinned (OpenSpec.ofChange harqArrivesWrong)

/-- 'radiolinklaw29.HarqCombines': WHATEVER THE INPUT: true; the input reads as it did. -/
def harqCombinesSpec : ChangeSpec := { name := "harqCombines", fn := fun _ => fun
  | [d] => { results := [.lit (.bool true)], args := [d] }
  | _ => none }
def harqCombinesRow : OpenClaim := { program := "ytcleegibdcphiaadoor", sum := "b29ed3aa8f78d3d81b5e70071ee229dc45cb24877d4a116582067c2bea43d97d", func := "radiolink/radiolinklaw29.HarqCombines", spec := "harqCombines", unfollowed := true, recurses := true, named := ["radiolink/check.polynomials"], apart := false, laid := [("radiolink/check.polynomials", laid_radiolink_check_polynomials)] }
def HarqCombinesSaid : Prop := harqCombinesRow.holds Tryd.pinned (OpenSpec.ofChange harqCombinesSpec)

/-- ITS FALSE NEIGHBOUR: 'it returns false'. Refute it at one input. -/
def harqCombinesWrong : ChangeSpec := { name := "harqCombines", fn := fun _ => fun
  | [d] => { results := [.lit (.bool false)], args := [d] }
  | _ => none }
def HarqCombinesWrongFalsely : Prop := harqCombinesRow.holds Tryd.pinned (OpenSpec.ofChange harqCombinesWrong)

/-- 'radiolinklaw29.HarqSilence': WHATEVER THE INPUT: true; the input reads as it did. -/
def harqSilenceSpec : ChangeSpec := { name := "harqSilence", fn := fun _ => fun
  | [d1, d2] => { results := [.lit (.bool true)], args := [d1, d2] }
  | _ => none }
def harqSilenceRow : OpenClaim := { program := "ytcleegibdcphiaadoor", sum := "b29ed3aa8f78d3d81b5e70071ee229dc45cb24877d4a116582067c2bea43d97d", func := "radiolink/radiolinklaw29.HarqSilence", spec := "harqSilence", unfollowed := true, recurses := true, named := ["radiolink/check.polynomials"], apart := false, laid := [("radiolink/check.polynomials", laid_radiolink_check_polynomials)] }
def HarqSilenceSaid : Prop := harqSilenceRow.holds Tryd.pinned (OpenSpec.ofChange harqSilenceSpec)

/-- ITS FALSE NEIGHBOUR: 'it returns false'. Refute it at one input. -/
def harqSilenceWrong : ChangeSpec := { name := "harqSilence", fn := fun _ => fun
  | [d1, d2] => { results := [.lit (.bool false)], args := [d1, d2] }
  | _ => none }
def HarqSilenceWrongFalsely : Prop := harqSilenceRow.holds Tryd.pinned (OpenSpec.ofChange harqSilenceWrong)

/-- 'radiolinklaw29.HarqEnds': WHATEVER THE INPUT: true; the input reads as it did. -/
def harqEndsSpec : ChangeSpec := { name := "harqEnds", fn := fun _ => fun
  | [d1, d2, d3] => { results := [.lit (.bool true)], args := [d1, d2, d3] }
  | _ => none }
def harqEndsRow : OpenClaim := { program := "ytcleegibdcphiaadoor", sum := "b29ed3aa8f78d3d81b5e70071ee229dc45cb24877d4a116582067c2bea43d97d", func := "radiolink/radiolinklaw29.HarqEnds", spec := "harqEnds", unfollowed := true, recurses := true, named := ["radiolink/check.polynomials"], apart := false, laid := [("radiolink/check.polynomials", laid_radiolink_check_polynomials)] }
def HarqEndsSaid : Prop := harqEndsRow.holds Tryd.pinned (OpenSpec.ofChange harqEndsSpec)

/-- ITS FALSE NEIGHBOUR: 'it returns false'. Refute it at one input. -/
def harqEndsWrong : ChangeSpec := { name := "harqEnds", fn := fun _ => fun
  | [d1, d2, d3] => { results := [.lit (.bool false)], args := [d1, d2, d3] }
  | _ => none }
def HarqEndsWrongFalsely : Prop := harqEndsRow.holds Tryd.pinned (OpenSpec.ofChange harqEndsWrong)

/-- 'radiolinklaw29.HarqVersions': WHATEVER THE INPUT: true; the input reads as it did. -/
def harqVersionsSpec : ChangeSpec := { name := "harqVersions", fn := fun _ => fun
  | [d1, d2, d3] => { results := [.lit (.bool true)], args := [d1, d2, d3] }
  | _ => none }
def harqVersionsRow : OpenClaim := { program := "ytcleegibdcphiaadoor", sum := "b29ed3aa8f78d3d81b5e70071ee229dc45cb24877d4a116582067c2bea43d97d", func := "radiolink/radiolinklaw29.HarqVersions", spec := "harqVersions", unfollowed := true, recurses := true, named := ["radiolink/check.polynomials"], apart := false, laid := [("radiolink/check.polynomials", laid_radiolink_check_polynomials)] }
def HarqVersionsSaid : Prop := harqVersionsRow.holds Tryd.pinned (OpenSpec.ofChange harqVersionsSpec)

/-- ITS FALSE NEIGHBOUR: 'it returns false'. Refute it at one input. -/
def harqVersionsWrong : ChangeSpec := { name := "harqVersions", fn := fun _ => fun
  | [d1, d2, d3] => { results := [.lit (.bool false)], args := [d1, d2, d3] }
  | _ => none }
def HarqVersionsWrongFalsely : Prop := harqVersionsRow.holds Tryd.pinned (OpenSpec.ofChange harqVersionsWrong)

/- THE SECOND FORM. 'bulk': how many values and letters a reading holds, each counted each time it is reached (what is shared counts as often as it is met; a slice's spare places count too). A statement '..UptoSaid' is the law's where the arguments, and the package variables that the reading takes, are together of bulk at most 1048576: NARROWER than '..Said'. Prove '..Said' where nothing that the law and all that it calls make is longer than what came in: it says more and counts as full. Else prove '..UptoSaid'. A law counts once. -/
mutual
def uptoBulk {H : Type} : DataW H → Nat
  | .lit (.string bytes) => bytes.length + 1
  | .lit _ => 1
  | .nil => 1
  | .ptr d => uptoBulk d + 1
  | .slice elems spare => uptoBulkAll elems + uptoBulkAll spare + 1
  | .agg parts => uptoBulkAll parts + 1
  | .iface _ d => uptoBulk d + 1
  | .map entries => uptoBulkEntries entries + 1
  | .held _ => 1
def uptoBulkAll {H : Type} : List (DataW H) → Nat
  | [] => 0
  | d :: r => uptoBulk d + uptoBulkAll r
def uptoBulkEntries {H : Type} : List (Lit × DataW H) → Nat
  | [] => 0
  | x :: r => uptoBulkEntry x + uptoBulkEntries r
def uptoBulkEntry {H : Type} : Lit × DataW H → Nat
  | (.string bytes, d) => bytes.length + uptoBulk d + 1
  | (_, d) => uptoBulk d + 1
 end
def uptoSmall : (H : Type) → List (DataW H) → Bool := fun _ ds => decide (uptoBulkAll ds ≤ 1048576)
def OpenSpec.upto (s : _root_.Go.ChangeSpec) : _root_.Go.OpenSpec := { _root_.Go.OpenSpec.ofChange s with cond := some uptoSmall }

/-- 'radiolinklaw29.HarqRaw', WHERE WHAT IT READS IS OF BULK AT MOST 1048576: true; the input reads as it did. -/
def harqRawUptoRow : OpenClaim := { program := "ytcleegibdcphiaadoor", sum := "b29ed3aa8f78d3d81b5e70071ee229dc45cb24877d4a116582067c2bea43d97d", func := "radiolink/radiolinklaw29.HarqRaw", spec := "harqRaw", unfollowed := true, recurses := true, named := ["radiolink/check.polynomials"], apart := false, laid := [("radiolink/check.polynomials", laid_radiolink_check_polynomials)], narrowed := true }
def HarqRawUptoSaid : Prop := harqRawUptoRow.holds Tryd.pinned (OpenSpec.upto harqRawSpec)

/-- 'radiolinklaw29.HarqRuns', WHERE WHAT IT READS IS OF BULK AT MOST 1048576: true; the input reads as it did. -/
def harqRunsUptoRow : OpenClaim := { program := "ytcleegibdcphiaadoor", sum := "b29ed3aa8f78d3d81b5e70071ee229dc45cb24877d4a116582067c2bea43d97d", func := "radiolink/radiolinklaw29.HarqRuns", spec := "harqRuns", unfollowed := true, recurses := true, named := ["radiolink/check.polynomials"], apart := false, laid := [("radiolink/check.polynomials", laid_radiolink_check_polynomials)], narrowed := true }
def HarqRunsUptoSaid : Prop := harqRunsUptoRow.holds Tryd.pinned (OpenSpec.upto harqRunsSpec)

/-- 'radiolinklaw29.HarqArrives', WHERE WHAT IT READS IS OF BULK AT MOST 1048576: true; the input reads as it did. -/
def harqArrivesUptoRow : OpenClaim := { program := "ytcleegibdcphiaadoor", sum := "b29ed3aa8f78d3d81b5e70071ee229dc45cb24877d4a116582067c2bea43d97d", func := "radiolink/radiolinklaw29.HarqArrives", spec := "harqArrives", unfollowed := true, recurses := true, named := ["radiolink/check.polynomials"], apart := false, laid := [("radiolink/check.polynomials", laid_radiolink_check_polynomials)], narrowed := true }
def HarqArrivesUptoSaid : Prop := harqArrivesUptoRow.holds Tryd.pinned (OpenSpec.upto harqArrivesSpec)

/-- 'radiolinklaw29.HarqCombines', WHERE WHAT IT READS IS OF BULK AT MOST 1048576: true; the input reads as it did. -/
def harqCombinesUptoRow : OpenClaim := { program := "ytcleegibdcphiaadoor", sum := "b29ed3aa8f78d3d81b5e70071ee229dc45cb24877d4a116582067c2bea43d97d", func := "radiolink/radiolinklaw29.HarqCombines", spec := "harqCombines", unfollowed := true, recurses := true, named := ["radiolink/check.polynomials"], apart := false, laid := [("radiolink/check.polynomials", laid_radiolink_check_polynomials)], narrowed := true }
def HarqCombinesUptoSaid : Prop := harqCombinesUptoRow.holds Tryd.pinned (OpenSpec.upto harqCombinesSpec)

/-- 'radiolinklaw29.HarqSilence', WHERE WHAT IT READS IS OF BULK AT MOST 1048576: true; the input reads as it did. -/
def harqSilenceUptoRow : OpenClaim := { program := "ytcleegibdcphiaadoor", sum := "b29ed3aa8f78d3d81b5e70071ee229dc45cb24877d4a116582067c2bea43d97d", func := "radiolink/radiolinklaw29.HarqSilence", spec := "harqSilence", unfollowed := true, recurses := true, named := ["radiolink/check.polynomials"], apart := false, laid := [("radiolink/check.polynomials", laid_radiolink_check_polynomials)], narrowed := true }
def HarqSilenceUptoSaid : Prop := harqSilenceUptoRow.holds Tryd.pinned (OpenSpec.upto harqSilenceSpec)

/-- 'radiolinklaw29.HarqEnds', WHERE WHAT IT READS IS OF BULK AT MOST 1048576: true; the input reads as it did. -/
def harqEndsUptoRow : OpenClaim := { program := "ytcleegibdcphiaadoor", sum := "b29ed3aa8f78d3d81b5e70071ee229dc45cb24877d4a116582067c2bea43d97d", func := "radiolink/radiolinklaw29.HarqEnds", spec := "harqEnds", unfollowed := true, recurses := true, named := ["radiolink/check.polynomials"], apart := false, laid := [("radiolink/check.polynomials", laid_radiolink_check_polynomials)], narrowed := true }
def HarqEndsUptoSaid : Prop := harqEndsUptoRow.holds Tryd.pinned (OpenSpec.upto harqEndsSpec)

/-- 'radiolinklaw29.HarqVersions', WHERE WHAT IT READS IS OF BULK AT MOST 1048576: true; the input reads as it did. -/
def harqVersionsUptoRow : OpenClaim := { program := "ytcleegibdcphiaadoor", sum := "b29ed3aa8f78d3d81b5e70071ee229dc45cb24877d4a116582067c2bea43d97d", func := "radiolink/radiolinklaw29.HarqVersions", spec := "harqVersions", unfollowed := true, recurses := true, named := ["radiolink/check.polynomials"], apart := false, laid := [("radiolink/check.polynomials", laid_radiolink_check_polynomials)], narrowed := true }
def HarqVersionsUptoSaid : Prop := harqVersionsUptoRow.holds Tryd.pinned (OpenSpec.upto harqVersionsSpec)

end Rows
end Go.Proofs.YtcleegibdcphiaaDoor
