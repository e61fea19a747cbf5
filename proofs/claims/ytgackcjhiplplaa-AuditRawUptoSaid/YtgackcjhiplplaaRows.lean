/-
  No cell of these rows narrows 'for every input' (looked for: loops, veiled, ifaces, maps, wideKeys, modest, calm, conditions, laid).
  DERIVED. THE GIVEN ROWS OF THIS SEAT. 3 by the template 'for every input the law returns true; each argument reads behind the call as it read before'; 0 by the template 'total and deterministic' (their statements: YtgackcjhiplplaaTotals.lean).
  GIVEN WITH THE SEED: the statements are not yours to turn. If you find one false, say at which input.
  Laid BY PROGRAM, IN A SANDBOX (cutbox-rows.mjs): the forced cells as the released guide's own fill.sh prints them over the translation 202ceed12f68efe9… (all of the seat's roots in one cut). By AI agents, Wed Nov 11 2026. No macro, syntax, notation, axiom, sorry.
-/
import Derived.Test.YtgackcjhiplplaaChecked
import GoSem.Claim
import GoSem.ClaimJoined
import GoSem.ClaimMapViews
import Derived.JoinedTies
import Derived.KernelRfl
namespace Go.Proofs.Ytgackcjhiplplaa
/- THE CELL 'sum', in the pinned program and in every row, IS THE sha256 OF THE DUMP (.gsa) THAT YtgackcjhiplplaaProg.lean LOADS. Nothing in Lean hashes anything: it is a label: what it is worth is what the hold of that sum in a sandbox is worth. -/
noncomputable def Try.pinned : Pinned := { name := "ytgackcjhiplplaa", sum := "202ceed12f68efe9e34da47a14df7a3e843913819a4276d49c82239899cef859", checked := Try.checked }
namespace Rows
def none {H : Type} : Left H := { results := [], args := [] }

/-- 'radiolinklaw44.AuditImplies': WHATEVER THE INPUT: true; the input reads as it did. -/
def auditImpliesSpec : ChangeSpec := { name := "auditImplies", fn := fun _ => fun
  | [d1, d2, d3] => { results := [.lit (.bool true)], args := [d1, d2, d3] }
  | _ => none }
def auditImpliesRow : OpenClaim := { program := "ytgackcjhiplplaa", sum := "202ceed12f68efe9e34da47a14df7a3e843913819a4276d49c82239899cef859", func := "radiolink/radiolinklaw44.AuditImplies", spec := "auditImplies", unfollowed := true, recurses := true, apart := false }
def AuditImpliesSaid : Prop := auditImpliesRow.holds Try.pinned (OpenSpec.ofChange auditImpliesSpec)

/-- ITS FALSE NEIGHBOUR: 'it returns false'. Refute it at one input. -/
def auditImpliesWrong : ChangeSpec := { name := "auditImplies", fn := fun _ => fun
  | [d1, d2, d3] => { results := [.lit (.bool false)], args := [d1, d2, d3] }
  | _ => none }
def AuditImpliesWrongFalsely : Prop := auditImpliesRow.holds Try.pinned (OpenSpec.ofChange auditImpliesWrong)

/-- 'radiolinklaw44.AuditRates': WHATEVER THE INPUT: true; the input reads as it did. -/
def auditRatesSpec : ChangeSpec := { name := "auditRates", fn := fun _ => fun
  | [d1, d2, d3, d4] => { results := [.lit (.bool true)], args := [d1, d2, d3, d4] }
  | _ => none }
def auditRatesRow : OpenClaim := { program := "ytgackcjhiplplaa", sum := "202ceed12f68efe9e34da47a14df7a3e843913819a4276d49c82239899cef859", func := "radiolink/radiolinklaw44.AuditRates", spec := "auditRates", unfollowed := true, recurses := true, apart := false }
def AuditRatesSaid : Prop := auditRatesRow.holds Try.pinned (OpenSpec.ofChange auditRatesSpec)

/-- ITS FALSE NEIGHBOUR: 'it returns false'. Refute it at one input. -/
def auditRatesWrong : ChangeSpec := { name := "auditRates", fn := fun _ => fun
  | [d1, d2, d3, d4] => { results := [.lit (.bool false)], args := [d1, d2, d3, d4] }
  | _ => none }
def AuditRatesWrongFalsely : Prop := auditRatesRow.holds Try.pinned (OpenSpec.ofChange auditRatesWrong)

/-- 'radiolinklaw44.AuditRaw': WHATEVER THE INPUT: true; the input reads as it did. -/
def auditRawSpec : ChangeSpec := { name := "auditRaw", fn := fun _ => fun
  | [d1, d2, d3, d4, d5, d6] => { results := [.lit (.bool true)], args := [d1, d2, d3, d4, d5, d6] }
  | _ => none }
def auditRawRow : OpenClaim := { program := "ytgackcjhiplplaa", sum := "202ceed12f68efe9e34da47a14df7a3e843913819a4276d49c82239899cef859", func := "radiolink/radiolinklaw44.AuditRaw", spec := "auditRaw", unfollowed := true, recurses := true, apart := false }
def AuditRawSaid : Prop := auditRawRow.holds Try.pinned (OpenSpec.ofChange auditRawSpec)

/-- ITS FALSE NEIGHBOUR: 'it returns false'. Refute it at one input. -/
def auditRawWrong : ChangeSpec := { name := "auditRaw", fn := fun _ => fun
  | [d1, d2, d3, d4, d5, d6] => { results := [.lit (.bool false)], args := [d1, d2, d3, d4, d5, d6] }
  | _ => none }
def AuditRawWrongFalsely : Prop := auditRawRow.holds Try.pinned (OpenSpec.ofChange auditRawWrong)

/- THE SECOND FORM. 'bulk': how many values and letters a reading holds, each counted each time it is reached (what is shared counts as often as it is met; a slice's spare places count too). A statement '..UptoSaid' is the law's where the arguments, and the package variables that the reading takes, are together of bulk at most 1048576: NARROWER than '..Said'. Prove '..Said' where nothing that the law and all that it calls make is longer than what came in: it says more and counts as full. Else prove '..UptoSaid'. A law counts once. -/
mutual
def uptoBulk {H : Type} : DataW H → Nat
  | .lit (.string bytes) => bytes.length + 1
  | .lit _ => 1
  | .nil => 1
  | .ptr d => uptoBulk d + 1
  | .slice elems spare => uptoBulkAll elems + uptoBulkAll spare + 1
  | .agg parts => uptoBulkAll parts + 1
  | .iface _ d => uptoBulk d + 1
  | .map entries => uptoBulkEntries entries + 1
  | .held _ => 1
def uptoBulkAll {H : Type} : List (DataW H) → Nat
  | [] => 0
  | d :: r => uptoBulk d + uptoBulkAll r
def uptoBulkEntries {H : Type} : List (Lit × DataW H) → Nat
  | [] => 0
  | x :: r => uptoBulkEntry x + uptoBulkEntries r
def uptoBulkEntry {H : Type} : Lit × DataW H → Nat
  | (.string bytes, d) => bytes.length + uptoBulk d + 1
  | (_, d) => uptoBulk d + 1
 end
def uptoSmall : (H : Type) → List (DataW H) → Bool := fun _ ds => decide (uptoBulkAll ds ≤ 1048576)
def OpenSpec.upto (s : _root_.Go.ChangeSpec) : _root_.Go.OpenSpec := { _root_.Go.OpenSpec.ofChange s with cond := some uptoSmall }

/-- 'radiolinklaw44.AuditImplies', WHERE WHAT IT READS IS OF BULK AT MOST 1048576: true; the input reads as it did. -/
def auditImpliesUptoRow : OpenClaim := { program := "ytgackcjhiplplaa", sum := "202ceed12f68efe9e34da47a14df7a3e843913819a4276d49c82239899cef859", func := "radiolink/radiolinklaw44.AuditImplies", spec := "auditImplies", unfollowed := true, recurses := true, apart := false, narrowed := true }
def AuditImpliesUptoSaid : Prop := auditImpliesUptoRow.holds Try.pinned (OpenSpec.upto auditImpliesSpec)

/-- 'radiolinklaw44.AuditRates', WHERE WHAT IT READS IS OF BULK AT MOST 1048576: true; the input reads as it did. -/
def auditRatesUptoRow : OpenClaim := { program := "ytgackcjhiplplaa", sum := "202ceed12f68efe9e34da47a14df7a3e843913819a4276d49c82239899cef859", func := "radiolink/radiolinklaw44.AuditRates", spec := "auditRates", unfollowed := true, recurses := true, apart := false, narrowed := true }
def AuditRatesUptoSaid : Prop := auditRatesUptoRow.holds Try.pinned (OpenSpec.upto auditRatesSpec)

/-- 'radiolinklaw44.AuditRaw', WHERE WHAT IT READS IS OF BULK AT MOST 1048576: true; the input reads as it did. -/
def auditRawUptoRow : OpenClaim := { program := "ytgackcjhiplplaa", sum := "202ceed12f68efe9e34da47a14df7a3e843913819a4276d49c82239899cef859", func := "radiolink/radiolinklaw44.AuditRaw", spec := "auditRaw", unfollowed := true, recurses := true, apart := false, narrowed := true }
def AuditRawUptoSaid : Prop := auditRawUptoRow.holds Try.pinned (OpenSpec.upto auditRawSpec)

end Rows
end Go.Proofs.Ytgackcjhiplplaa
