/- Layer 28 (code): the reference's Length. -/
import Derived.Test.YtcleegibdcphiaaDoorCode
namespace Go.Proofs.YtcleegibdcphiaaDoor
open Go.ChangeShapes Go.WideShapes Go.ChangeAt Go.RowKit
open Cod

theorem rlength_any (n : Int) (w : World) : Calls Tryd.prog 31 #[.int .i64 n] w fun e w' => e = .returned (.int .i64 (lenS n)) ∧ w = w' := by
  go_enter Tryd.func31, Tryd.ntmps31
  go_wp2
  all_goals (go_ret; exact ⟨ret_i64 (by unfold lenS; split <;> omega), rfl⟩)
theorem rlength_is {n r : Int} (h : lenS n = r) (w : World) : Calls Tryd.prog 31 #[.int .i64 n] w fun e w' => e = .returned (.int .i64 r) ∧ w = w' := h ▸ rlength_any n w
end Go.Proofs.YtcleegibdcphiaaDoor
