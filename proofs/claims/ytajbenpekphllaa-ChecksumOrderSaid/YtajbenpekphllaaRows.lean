/-
  No cell of these rows narrows 'for every input' (looked for: loops, veiled, ifaces, maps, wideKeys, modest, calm, conditions, laid).
  DERIVED. THE GIVEN ROWS OF THIS SEAT. 9 by the template 'for every input the law returns true; each argument reads behind the call as it read before'; 0 by the template 'total and deterministic' (their statements: YtajbenpekphllaaTotals.lean).
  GIVEN WITH THE SEED: the statements are not yours to turn. If you find one false, say at which input.
  Laid BY PROGRAM, IN A SANDBOX (cutbox-rows.mjs): the forced cells as the released guide's own fill.sh prints them over the translation d33d7aa7e1f1eecb… (all of the seat's roots in one cut). By AI agents, Wed Nov 11 2026. No macro, syntax, notation, axiom, sorry.
-/
import Derived.Test.YtajbenpekphllaaChecked
import GoSem.Claim
import GoSem.ClaimJoined
import GoSem.ClaimMapViews
import Derived.JoinedTies
import Derived.KernelRfl
namespace Go.Proofs.Ytajbenpekphllaa
/- THE CELL 'sum', in the pinned program and in every row, IS THE sha256 OF THE DUMP (.gsa) THAT YtajbenpekphllaaProg.lean LOADS. Nothing in Lean hashes anything: it is a label: what it is worth is what the hold of that sum in a sandbox is worth. -/
noncomputable def Try.pinned : Pinned := { name := "ytajbenpekphllaa", sum := "d33d7aa7e1f1eecba01ee59ed594d220479b47a831caa19ff3760c202fa56acf", checked := Try.checked }
namespace Rows
def none {H : Type} : Left H := { results := [], args := [] }

/-- 'radiolinklaw04.ChecksumZero': WHATEVER THE INPUT: true; the input reads as it did. -/
def checksumZeroSpec : ChangeSpec := { name := "checksumZero", fn := fun _ => fun
  | [d] => { results := [.lit (.bool true)], args := [d] }
  | _ => none }
def checksumZeroRow : OpenClaim := { program := "ytajbenpekphllaa", sum := "d33d7aa7e1f1eecba01ee59ed594d220479b47a831caa19ff3760c202fa56acf", func := "radiolink/radiolinklaw04.ChecksumZero", spec := "checksumZero", apart := false }
def ChecksumZeroSaid : Prop := checksumZeroRow.holds Try.pinned (OpenSpec.ofChange checksumZeroSpec)

/-- ITS FALSE NEIGHBOUR: 'it returns false'. Refute it at one input. -/
def checksumZeroWrong : ChangeSpec := { name := "checksumZero", fn := fun _ => fun
  | [d] => { results := [.lit (.bool false)], args := [d] }
  | _ => none }
def ChecksumZeroWrongFalsely : Prop := checksumZeroRow.holds Try.pinned (OpenSpec.ofChange checksumZeroWrong)

/-- 'radiolinklaw04.ChecksumOrder': WHATEVER THE INPUT: true; the input reads as it did. -/
def checksumOrderSpec : ChangeSpec := { name := "checksumOrder", fn := fun _ => fun
  | [d1, d2] => { results := [.lit (.bool true)], args := [d1, d2] }
  | _ => none }
def checksumOrderRow : OpenClaim := { program := "ytajbenpekphllaa", sum := "d33d7aa7e1f1eecba01ee59ed594d220479b47a831caa19ff3760c202fa56acf", func := "radiolink/radiolinklaw04.ChecksumOrder", spec := "checksumOrder", apart := false }
def ChecksumOrderSaid : Prop := checksumOrderRow.holds Try.pinned (OpenSpec.ofChange checksumOrderSpec)

/-- ITS FALSE NEIGHBOUR: 'it returns false'. Refute it at one input. -/
def checksumOrderWrong : ChangeSpec := { name := "checksumOrder", fn := fun _ => fun
  | [d1, d2] => { results := [.lit (.bool false)], args := [d1, d2] }
  | _ => none }
def ChecksumOrderWrongFalsely : Prop := checksumOrderRow.holds Try.pinned (OpenSpec.ofChange checksumOrderWrong)

/-- 'radiolinklaw04.ChecksumParts': WHATEVER THE INPUT: true; the input reads as it did. -/
def checksumPartsSpec : ChangeSpec := { name := "checksumParts", fn := fun _ => fun
  | [d1, d2, d3] => { results := [.lit (.bool true)], args := [d1, d2, d3] }
  | _ => none }
def checksumPartsRow : OpenClaim := { program := "ytajbenpekphllaa", sum := "d33d7aa7e1f1eecba01ee59ed594d220479b47a831caa19ff3760c202fa56acf", func := "radiolink/radiolinklaw04.ChecksumParts", spec := "checksumParts", apart := false }
def ChecksumPartsSaid : Prop := checksumPartsRow.holds Try.pinned (OpenSpec.ofChange checksumPartsSpec)

/-- ITS FALSE NEIGHBOUR: 'it returns false'. Refute it at one input. -/
def checksumPartsWrong : ChangeSpec := { name := "checksumParts", fn := fun _ => fun
  | [d1, d2, d3] => { results := [.lit (.bool false)], args := [d1, d2, d3] }
  | _ => none }
def ChecksumPartsWrongFalsely : Prop := checksumPartsRow.holds Try.pinned (OpenSpec.ofChange checksumPartsWrong)

/-- 'radiolinklaw02.SerialNear': WHATEVER THE INPUT: true; the input reads as it did. -/
def serialNearSpec : ChangeSpec := { name := "serialNear", fn := fun _ => fun
  | [d1, d2, d3] => { results := [.lit (.bool true)], args := [d1, d2, d3] }
  | _ => none }
def serialNearRow : OpenClaim := { program := "ytajbenpekphllaa", sum := "d33d7aa7e1f1eecba01ee59ed594d220479b47a831caa19ff3760c202fa56acf", func := "radiolink/radiolinklaw02.SerialNear", spec := "serialNear", apart := false }
def SerialNearSaid : Prop := serialNearRow.holds Try.pinned (OpenSpec.ofChange serialNearSpec)

/-- ITS FALSE NEIGHBOUR: 'it returns false'. Refute it at one input. -/
def serialNearWrong : ChangeSpec := { name := "serialNear", fn := fun _ => fun
  | [d1, d2, d3] => { results := [.lit (.bool false)], args := [d1, d2, d3] }
  | _ => none }
def SerialNearWrongFalsely : Prop := serialNearRow.holds Try.pinned (OpenSpec.ofChange serialNearWrong)

/-- 'radiolinklaw02.SerialMoves': WHATEVER THE INPUT: true; the input reads as it did. -/
def serialMovesSpec : ChangeSpec := { name := "serialMoves", fn := fun _ => fun
  | [d1, d2, d3] => { results := [.lit (.bool true)], args := [d1, d2, d3] }
  | _ => none }
def serialMovesRow : OpenClaim := { program := "ytajbenpekphllaa", sum := "d33d7aa7e1f1eecba01ee59ed594d220479b47a831caa19ff3760c202fa56acf", func := "radiolink/radiolinklaw02.SerialMoves", spec := "serialMoves", apart := false }
def SerialMovesSaid : Prop := serialMovesRow.holds Try.pinned (OpenSpec.ofChange serialMovesSpec)

/-- ITS FALSE NEIGHBOUR: 'it returns false'. Refute it at one input. -/
def serialMovesWrong : ChangeSpec := { name := "serialMoves", fn := fun _ => fun
  | [d1, d2, d3] => { results := [.lit (.bool false)], args := [d1, d2, d3] }
  | _ => none }
def SerialMovesWrongFalsely : Prop := serialMovesRow.holds Try.pinned (OpenSpec.ofChange serialMovesWrong)

/-- 'radiolinklaw02.SerialExact': WHATEVER THE INPUT: true; the input reads as it did. -/
def serialExactSpec : ChangeSpec := { name := "serialExact", fn := fun _ => fun
  | [d1, d2, d3] => { results := [.lit (.bool true)], args := [d1, d2, d3] }
  | _ => none }
def serialExactRow : OpenClaim := { program := "ytajbenpekphllaa", sum := "d33d7aa7e1f1eecba01ee59ed594d220479b47a831caa19ff3760c202fa56acf", func := "radiolink/radiolinklaw02.SerialExact", spec := "serialExact", apart := false }
def SerialExactSaid : Prop := serialExactRow.holds Try.pinned (OpenSpec.ofChange serialExactSpec)

/-- ITS FALSE NEIGHBOUR: 'it returns false'. Refute it at one input. -/
def serialExactWrong : ChangeSpec := { name := "serialExact", fn := fun _ => fun
  | [d1, d2, d3] => { results := [.lit (.bool false)], args := [d1, d2, d3] }
  | _ => none }
def SerialExactWrongFalsely : Prop := serialExactRow.holds Try.pinned (OpenSpec.ofChange serialExactWrong)

/-- 'radiolinklaw02.SerialWindows': WHATEVER THE INPUT: true; the input reads as it did. -/
def serialWindowsSpec : ChangeSpec := { name := "serialWindows", fn := fun _ => fun
  | [d1, d2, d3] => { results := [.lit (.bool true)], args := [d1, d2, d3] }
  | _ => none }
def serialWindowsRow : OpenClaim := { program := "ytajbenpekphllaa", sum := "d33d7aa7e1f1eecba01ee59ed594d220479b47a831caa19ff3760c202fa56acf", func := "radiolink/radiolinklaw02.SerialWindows", spec := "serialWindows", apart := false }
def SerialWindowsSaid : Prop := serialWindowsRow.holds Try.pinned (OpenSpec.ofChange serialWindowsSpec)

/-- ITS FALSE NEIGHBOUR: 'it returns false'. Refute it at one input. -/
def serialWindowsWrong : ChangeSpec := { name := "serialWindows", fn := fun _ => fun
  | [d1, d2, d3] => { results := [.lit (.bool false)], args := [d1, d2, d3] }
  | _ => none }
def SerialWindowsWrongFalsely : Prop := serialWindowsRow.holds Try.pinned (OpenSpec.ofChange serialWindowsWrong)

/-- 'radiolinklaw04.ChecksumExact': WHATEVER THE INPUT: true; the input reads as it did. -/
def checksumExactSpec : ChangeSpec := { name := "checksumExact", fn := fun _ => fun
  | [d1, d2] => { results := [.lit (.bool true)], args := [d1, d2] }
  | _ => none }
def checksumExactRow : OpenClaim := { program := "ytajbenpekphllaa", sum := "d33d7aa7e1f1eecba01ee59ed594d220479b47a831caa19ff3760c202fa56acf", func := "radiolink/radiolinklaw04.ChecksumExact", spec := "checksumExact", apart := false }
def ChecksumExactSaid : Prop := checksumExactRow.holds Try.pinned (OpenSpec.ofChange checksumExactSpec)

/-- ITS FALSE NEIGHBOUR: 'it returns false'. Refute it at one input. -/
def checksumExactWrong : ChangeSpec := { name := "checksumExact", fn := fun _ => fun
  | [d1, d2] => { results := [.lit (.bool false)], args := [d1, d2] }
  | _ => none }
def ChecksumExactWrongFalsely : Prop := checksumExactRow.holds Try.pinned (OpenSpec.ofChange checksumExactWrong)

/-- 'radiolinklaw04.ChecksumUpdates': WHATEVER THE INPUT: true; the input reads as it did. -/
def checksumUpdatesSpec : ChangeSpec := { name := "checksumUpdates", fn := fun _ => fun
  | [d1, d2, d3] => { results := [.lit (.bool true)], args := [d1, d2, d3] }
  | _ => none }
def checksumUpdatesRow : OpenClaim := { program := "ytajbenpekphllaa", sum := "d33d7aa7e1f1eecba01ee59ed594d220479b47a831caa19ff3760c202fa56acf", func := "radiolink/radiolinklaw04.ChecksumUpdates", spec := "checksumUpdates", apart := false }
def ChecksumUpdatesSaid : Prop := checksumUpdatesRow.holds Try.pinned (OpenSpec.ofChange checksumUpdatesSpec)

/-- ITS FALSE NEIGHBOUR: 'it returns false'. Refute it at one input. -/
def checksumUpdatesWrong : ChangeSpec := { name := "checksumUpdates", fn := fun _ => fun
  | [d1, d2, d3] => { results := [.lit (.bool false)], args := [d1, d2, d3] }
  | _ => none }
def ChecksumUpdatesWrongFalsely : Prop := checksumUpdatesRow.holds Try.pinned (OpenSpec.ofChange checksumUpdatesWrong)

/- THE SECOND FORM. 'bulk': how many values and letters a reading holds, each counted each time it is reached (what is shared counts as often as it is met; a slice's spare places count too). A statement '..UptoSaid' is the law's where the arguments, and the package variables that the reading takes, are together of bulk at most 1048576: NARROWER than '..Said'. Prove '..Said' where nothing that the law and all that it calls make is longer than what came in: it says more and counts as full. Else prove '..UptoSaid'. A law counts once. -/
mutual
def uptoBulk {H : Type} : DataW H → Nat
  | .lit (.string bytes) => bytes.length + 1
  | .lit _ => 1
  | .nil => 1
  | .ptr d => uptoBulk d + 1
  | .slice elems spare => uptoBulkAll elems + uptoBulkAll spare + 1
  | .agg parts => uptoBulkAll parts + 1
  | .iface _ d => uptoBulk d + 1
  | .map entries => uptoBulkEntries entries + 1
  | .held _ => 1
def uptoBulkAll {H : Type} : List (DataW H) → Nat
  | [] => 0
  | d :: r => uptoBulk d + uptoBulkAll r
def uptoBulkEntries {H : Type} : List (Lit × DataW H) → Nat
  | [] => 0
  | x :: r => uptoBulkEntry x + uptoBulkEntries r
def uptoBulkEntry {H : Type} : Lit × DataW H → Nat
  | (.string bytes, d) => bytes.length + uptoBulk d + 1
  | (_, d) => uptoBulk d + 1
 end
def uptoSmall : (H : Type) → List (DataW H) → Bool := fun _ ds => decide (uptoBulkAll ds ≤ 1048576)
def OpenSpec.upto (s : _root_.Go.ChangeSpec) : _root_.Go.OpenSpec := { _root_.Go.OpenSpec.ofChange s with cond := some uptoSmall }

/-- 'radiolinklaw04.ChecksumZero', WHERE WHAT IT READS IS OF BULK AT MOST 1048576: true; the input reads as it did. -/
def checksumZeroUptoRow : OpenClaim := { program := "ytajbenpekphllaa", sum := "d33d7aa7e1f1eecba01ee59ed594d220479b47a831caa19ff3760c202fa56acf", func := "radiolink/radiolinklaw04.ChecksumZero", spec := "checksumZero", apart := false, narrowed := true }
def ChecksumZeroUptoSaid : Prop := checksumZeroUptoRow.holds Try.pinned (OpenSpec.upto checksumZeroSpec)

/-- 'radiolinklaw04.ChecksumOrder', WHERE WHAT IT READS IS OF BULK AT MOST 1048576: true; the input reads as it did. -/
def checksumOrderUptoRow : OpenClaim := { program := "ytajbenpekphllaa", sum := "d33d7aa7e1f1eecba01ee59ed594d220479b47a831caa19ff3760c202fa56acf", func := "radiolink/radiolinklaw04.ChecksumOrder", spec := "checksumOrder", apart := false, narrowed := true }
def ChecksumOrderUptoSaid : Prop := checksumOrderUptoRow.holds Try.pinned (OpenSpec.upto checksumOrderSpec)

/-- 'radiolinklaw04.ChecksumParts', WHERE WHAT IT READS IS OF BULK AT MOST 1048576: true; the input reads as it did. -/
def checksumPartsUptoRow : OpenClaim := { program := "ytajbenpekphllaa", sum := "d33d7aa7e1f1eecba01ee59ed594d220479b47a831caa19ff3760c202fa56acf", func := "radiolink/radiolinklaw04.ChecksumParts", spec := "checksumParts", apart := false, narrowed := true }
def ChecksumPartsUptoSaid : Prop := checksumPartsUptoRow.holds Try.pinned (OpenSpec.upto checksumPartsSpec)

/-- 'radiolinklaw02.SerialNear', WHERE WHAT IT READS IS OF BULK AT MOST 1048576: true; the input reads as it did. -/
def serialNearUptoRow : OpenClaim := { program := "ytajbenpekphllaa", sum := "d33d7aa7e1f1eecba01ee59ed594d220479b47a831caa19ff3760c202fa56acf", func := "radiolink/radiolinklaw02.SerialNear", spec := "serialNear", apart := false, narrowed := true }
def SerialNearUptoSaid : Prop := serialNearUptoRow.holds Try.pinned (OpenSpec.upto serialNearSpec)

/-- 'radiolinklaw02.SerialMoves', WHERE WHAT IT READS IS OF BULK AT MOST 1048576: true; the input reads as it did. -/
def serialMovesUptoRow : OpenClaim := { program := "ytajbenpekphllaa", sum := "d33d7aa7e1f1eecba01ee59ed594d220479b47a831caa19ff3760c202fa56acf", func := "radiolink/radiolinklaw02.SerialMoves", spec := "serialMoves", apart := false, narrowed := true }
def SerialMovesUptoSaid : Prop := serialMovesUptoRow.holds Try.pinned (OpenSpec.upto serialMovesSpec)

/-- 'radiolinklaw02.SerialExact', WHERE WHAT IT READS IS OF BULK AT MOST 1048576: true; the input reads as it did. -/
def serialExactUptoRow : OpenClaim := { program := "ytajbenpekphllaa", sum := "d33d7aa7e1f1eecba01ee59ed594d220479b47a831caa19ff3760c202fa56acf", func := "radiolink/radiolinklaw02.SerialExact", spec := "serialExact", apart := false, narrowed := true }
def SerialExactUptoSaid : Prop := serialExactUptoRow.holds Try.pinned (OpenSpec.upto serialExactSpec)

/-- 'radiolinklaw02.SerialWindows', WHERE WHAT IT READS IS OF BULK AT MOST 1048576: true; the input reads as it did. -/
def serialWindowsUptoRow : OpenClaim := { program := "ytajbenpekphllaa", sum := "d33d7aa7e1f1eecba01ee59ed594d220479b47a831caa19ff3760c202fa56acf", func := "radiolink/radiolinklaw02.SerialWindows", spec := "serialWindows", apart := false, narrowed := true }
def SerialWindowsUptoSaid : Prop := serialWindowsUptoRow.holds Try.pinned (OpenSpec.upto serialWindowsSpec)

/-- 'radiolinklaw04.ChecksumExact', WHERE WHAT IT READS IS OF BULK AT MOST 1048576: true; the input reads as it did. -/
def checksumExactUptoRow : OpenClaim := { program := "ytajbenpekphllaa", sum := "d33d7aa7e1f1eecba01ee59ed594d220479b47a831caa19ff3760c202fa56acf", func := "radiolink/radiolinklaw04.ChecksumExact", spec := "checksumExact", apart := false, narrowed := true }
def ChecksumExactUptoSaid : Prop := checksumExactUptoRow.holds Try.pinned (OpenSpec.upto checksumExactSpec)

/-- 'radiolinklaw04.ChecksumUpdates', WHERE WHAT IT READS IS OF BULK AT MOST 1048576: true; the input reads as it did. -/
def checksumUpdatesUptoRow : OpenClaim := { program := "ytajbenpekphllaa", sum := "d33d7aa7e1f1eecba01ee59ed594d220479b47a831caa19ff3760c202fa56acf", func := "radiolink/radiolinklaw04.ChecksumUpdates", spec := "checksumUpdates", apart := false, narrowed := true }
def ChecksumUpdatesUptoSaid : Prop := checksumUpdatesUptoRow.holds Try.pinned (OpenSpec.upto checksumUpdatesSpec)

end Rows
end Go.Proofs.Ytajbenpekphllaa
