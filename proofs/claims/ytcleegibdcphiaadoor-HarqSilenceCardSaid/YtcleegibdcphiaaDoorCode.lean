/- Layer 28 (code): contracts of the program: Length, next, likeness. -/
import Derived.Test.YtcleegibdcphiaaDoorBase
import Derived.Test.YtcleegibdcphiaaDoorInts
import Derived.Test.YtcleegibdcphiaaDoorSched2
import Derived.Test.YtcleegibdcphiaaDoorCodePlain
namespace Go.Proofs.YtcleegibdcphiaaDoor
open Go.ChangeShapes Go.WideShapes Go.ChangeAt Go.RowKit
open Cod

def lenS (n : Int) : Int := if 1 ≤ n ∧ n ≤ 2064 then 2 * (n + 2) else 0
theorem length_any (n : Int) (w : World) : Calls Tryd.prog 48 #[.int .i64 n] w fun e w' => e = .returned (.int .i64 (lenS n)) ∧ w = w' := by
  go_enter Tryd.func48, Tryd.ntmps48
  go_wp2
  all_goals (go_ret; exact ⟨ret_i64 (by unfold lenS; split <;> omega), rfl⟩)

def NextPost28 (s x : Int) (w : World) (e : Ending) (w' : World) : Prop := e = .returned (.tuple #[.int .i64 (nx s x), .agg #[.int .i64 (o0 s x), .int .i64 (o1 s x)]]) ∧ Gr w w'
theorem next28 (s x : Int) (w : World) (hs : isSt s) (hx : x = 0 ∨ x = 1) : Calls Tryd.prog 61 #[.int .i64 s, .int .i64 x] w (NextPost28 s x w) := by
  rcases hs with rfl | rfl | rfl | rfl <;> rcases hx with rfl | rfl
  all_goals
    go_enter Tryd.func61, Tryd.ntmps61
    go_wp2
    refine bodyPost_ret (v := .tuple #[.int .i64 (nx _ _), .agg #[.int .i64 (o0 _ _), .int .i64 (o1 _ _)]]) (by simp [results, Tryd.results61, go_sem, nx, o0, o1]; decide +kernel) rfl ⟨rfl, Gr.alloc _ _⟩

theorem like28 (a : Option Addr) (cap : Nat) (p0 p1 c0 c1 : Int) (w : World) (hr : Rd .i64 w a 2 [p0, p1]) (h0 : -127 ≤ p0 ∧ p0 ≤ 127) (h1 : -127 ≤ p1 ∧ p1 ≤ 127) (b0 : c0 = 0 ∨ c0 = 1) (b1 : c1 = 0 ∨ c1 = 1) :
    Calls Tryd.prog 67 #[.agg #[.int .i64 c0, .int .i64 c1], .slice a 2 cap] w fun e w' => e = .returned (.int .i64 (p0 * (1 - 2 * c0) + p1 * (1 - 2 * c1))) ∧ Gr w w' := by
  obtain ⟨b, off, rfl, hb, hc⟩ := hr.some (by omega)
  have q0 : w.cell? ⟨b, off, none⟩ = some (.int .i64 p0) := hc 0 (by omega)
  have q1 : w.cell? ⟨b, off + 1, none⟩ = some (.int .i64 p1) := hc 1 (by omega)
  have i0 : ∀ u : World, (Instr.index 79 (.agg #[.int .i64 c0, .int .i64 c1]) (.int .i64 0)).run Tryd.prog u = .ok (.int .i64 c0) u := fun u => run_index_cell (j := 0) u Tryd.underlying79 (by kernel_rfl) Tryd.underlying3 (by kernel_rfl) (by decide) rfl
  have i1 : ∀ u : World, (Instr.index 79 (.agg #[.int .i64 c0, .int .i64 c1]) (.int .i64 1)).run Tryd.prog u = .ok (.int .i64 c1) u := fun u => run_index_cell (j := 1) u Tryd.underlying79 (by kernel_rfl) Tryd.underlying3 (by kernel_rfl) (by decide) rfl
  clear hr hc
  rcases b0 with rfl | rfl <;> rcases b1 with rfl | rfl
  · go_enter Tryd.func67, Tryd.ntmps67
    go_wp2
    go_loop [5, 9] (fun t i => (i = .int .i64 0 ∧ t = .int .i64 0) ∨ (i = .int .i64 1 ∧ t = .int .i64 p0) ∨ (i = .int .i64 2 ∧ t = .int .i64 (p0 + p1))) (fun _ i => (2 - intOf i).toNat)
    case atStart => exact .inl ⟨rfl, rfl⟩
    case round =>
      rcases hrel with ⟨rfl, rfl⟩ | ⟨rfl, rfl⟩ | ⟨rfl, rfl⟩
      · go_wp2
        go_round
        case rel => exact .inr (.inl ⟨rfl, by go_num⟩)
        case measure => simp [intOf]
      · go_wp2
        go_round
        case rel => exact .inr (.inr ⟨rfl, by go_num⟩)
        case measure => simp [intOf]
      · go_wp2
        go_ret
        exact ⟨ret_i64 (by omega), Gr.alloc _ _⟩
  · go_enter Tryd.func67, Tryd.ntmps67
    go_wp2
    go_loop [5, 9] (fun t i => (i = .int .i64 0 ∧ t = .int .i64 0) ∨ (i = .int .i64 1 ∧ t = .int .i64 p0) ∨ (i = .int .i64 2 ∧ t = .int .i64 (p0 + (-p1)))) (fun _ i => (2 - intOf i).toNat)
    case atStart => exact .inl ⟨rfl, rfl⟩
    case round =>
      rcases hrel with ⟨rfl, rfl⟩ | ⟨rfl, rfl⟩ | ⟨rfl, rfl⟩
      · go_wp2
        go_round
        case rel => exact .inr (.inl ⟨rfl, by go_num⟩)
        case measure => simp [intOf]
      · go_wp2
        go_round
        case rel => exact .inr (.inr ⟨rfl, by go_num⟩)
        case measure => simp [intOf]
      · go_wp2
        go_ret
        exact ⟨ret_i64 (by omega), Gr.alloc _ _⟩
  · go_enter Tryd.func67, Tryd.ntmps67
    go_wp2
    go_loop [5, 9] (fun t i => (i = .int .i64 0 ∧ t = .int .i64 0) ∨ (i = .int .i64 1 ∧ t = .int .i64 (-p0)) ∨ (i = .int .i64 2 ∧ t = .int .i64 ((-p0) + p1))) (fun _ i => (2 - intOf i).toNat)
    case atStart => exact .inl ⟨rfl, rfl⟩
    case round =>
      rcases hrel with ⟨rfl, rfl⟩ | ⟨rfl, rfl⟩ | ⟨rfl, rfl⟩
      · go_wp2
        go_round
        case rel => exact .inr (.inl ⟨rfl, by go_num⟩)
        case measure => simp [intOf]
      · go_wp2
        go_round
        case rel => exact .inr (.inr ⟨rfl, by go_num⟩)
        case measure => simp [intOf]
      · go_wp2
        go_ret
        exact ⟨ret_i64 (by omega), Gr.alloc _ _⟩
  · go_enter Tryd.func67, Tryd.ntmps67
    go_wp2
    go_loop [5, 9] (fun t i => (i = .int .i64 0 ∧ t = .int .i64 0) ∨ (i = .int .i64 1 ∧ t = .int .i64 (-p0)) ∨ (i = .int .i64 2 ∧ t = .int .i64 ((-p0) + (-p1)))) (fun _ i => (2 - intOf i).toNat)
    case atStart => exact .inl ⟨rfl, rfl⟩
    case round =>
      rcases hrel with ⟨rfl, rfl⟩ | ⟨rfl, rfl⟩ | ⟨rfl, rfl⟩
      · go_wp2
        go_round
        case rel => exact .inr (.inl ⟨rfl, by go_num⟩)
        case measure => simp [intOf]
      · go_wp2
        go_round
        case rel => exact .inr (.inr ⟨rfl, by go_num⟩)
        case measure => simp [intOf]
      · go_wp2
        go_ret
        exact ⟨ret_i64 (by omega), Gr.alloc _ _⟩
end Go.Proofs.YtcleegibdcphiaaDoor
