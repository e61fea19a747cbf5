/- Facts on this program's types. -/
import Derived.Test.YtgackcjhiplplaaMem
namespace Go.Proofs.Ytgackcjhiplplaa
open Go.ChangeShapes Go.WideShapes Go.ChangeAt Go.RowKit

theorem info_u8 : (Try.prog.info? 5).map (fun i => (i.zero, i.size, i.bytes)) = some (some (.int .u8 0), 1, 1) := by kernel_rfl

theorem app_u8 (B : Nat) (w : World) (a : Option Addr) (n cap : Nat) (xs : List Int) (hown : OwnI B 5 .u8 w a n cap xs)
    (b : Option Addr) (m c : Nat) (ys : List Int) (hr : Rd .u8 w b m ys) (hlen : n + m ≤ 140737488355328) (hbase : B ≤ w.heap.size) :
    ∃ a' cap' w', (Builtin.append_ #[22, 22] 22 #[.slice a n cap, .slice b m c]).run Try.prog w = .ok (.slice a' (n + m) cap') w' ∧ OwnI B 5 .u8 w' a' (n + m) cap' (xs ++ ys) ∧
      w.grownBy w' (Value.slice a n cap).ownBlock ∧ Follows w (.slice a n cap) (.slice a' (n + m) cap') := by
  obtain ⟨i0, hi, hz0, hz1, hz2⟩ := info_parts info_u8
  exact run_appI B _ _ _ i0 (.int .u8 0) .u8 1 Try.underlying22 hi hz0 hz1 hz2 rfl w a n cap xs hown b m c ys hr (by omega) (by simp [maxLen]; omega) hbase

/-- Onto nil. -/
theorem app_u8_nil (B : Nat) (w : World) (b : Option Addr) (m c : Nat) (ys : List Int) (hr : Rd .u8 w b m ys) (hlen : m ≤ 140737488355328) (hbase : B ≤ w.heap.size) :
    ∃ a' cap' w', (Builtin.append_ #[22, 22] 22 #[.slice none 0 0, .slice b m c]).run Try.prog w = .ok (.slice a' m cap') w' ∧ OwnI B 5 .u8 w' a' m cap' ys ∧
      w.grownBy w' none ∧ Follows w (.slice none 0 0) (.slice a' m cap') := by
  have h := app_u8 B w none 0 0 [] (OwnI.nil _ _ _ _) b m c ys hr (by omega) hbase
  simp only [Nat.zero_add, List.nil_append] at h
  exact h
end Go.Proofs.Ytgackcjhiplplaa
