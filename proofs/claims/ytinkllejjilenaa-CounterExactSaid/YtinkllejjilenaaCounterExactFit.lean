/- The law CounterExact: all lists. -/
import Derived.Test.YtinkllejjilenaaCounterExact
namespace Go.Proofs.Ytinkllejjilenaa
open Go.ChangeShapes Go.WideShapes Go.ChangeAt Go.RowKit

set_option maxRecDepth 100000 in
theorem exact15_far (ka : Option Addr) (kl kc : Nat) (ka' : Option Addr) (kl' kc' : Nat) (kn kb kd n0 n1 n2 : Int) (a : Option Addr) (len cap : Nat) (w : World) (hl : ¬ len ≤ 400) (hm : len ≤ 9223372036854775807) :
    Calls Try.prog 10 #[KeyVal ka kl kc ka' kl' kc' kn kb kd, .agg #[.int .i64 n0, .int .i64 n1, .int .i64 n2], .slice a len cap] w fun e w' => e = .returned (.bool true) ∧ Gr w w' := by
  have hl2 : decide (len ≤ 400) = false := by simpa using hl
  go_enter Try.func10, Try.ntmps10
  go_wp2_with ((go_at_call 26; refine (light_any _ _ _ _ hm).mono ?_; rintro e w' ⟨rfl, rfl⟩))
  refine (awake15 _).mono ?_
  rintro e w1 ⟨rfl, hg⟩
  have HG := Lib.hid (((Gr.alloc w _).trans (Gr.alloc _ _)).trans hg)
  clear hg
  go_wp2_with fail
  go_ret
  exact ⟨rfl, HG.out⟩
theorem exact15_fit (ka : Option Addr) (kl kc : Nat) (ka' : Option Addr) (kl' kc' : Nat) (kn kb kd n0 n1 n2 : Int) (a : Option Addr) (len cap : Nat) (ts : List Int) (w : World) (_k1 : i64 kn) (_k2 : i64 kb) (_k3 : i64 kd) (_h0 : i64 n0) (_h1 : i64 n1) (_h2 : i64 n2)
    (hr : Rd .i64 w a len ts) (_hc : len ≤ cap) (_hL : len ≤ 17592186043904) :
    Calls Try.prog 10 #[KeyVal ka kl kc ka' kl' kc' kn kb kd, .agg #[.int .i64 n0, .int .i64 n1, .int .i64 n2], .slice a len cap] w fun e w' => e = .returned (.bool true) ∧ Below w.heap.size w w' := by
  have key : Calls Try.prog 10 #[KeyVal ka kl kc ka' kl' kc' kn kb kd, .agg #[.int .i64 n0, .int .i64 n1, .int .i64 n2], .slice a len cap] w fun e w' => e = .returned (.bool true) ∧ Gr w w' := by
    by_cases hl : len ≤ 400
    · exact exact15 ka kl kc ka' kl' kc' kn kb kd n0 n1 n2 a len cap ts w hr hl
    · exact exact15_far ka kl kc ka' kl' kc' kn kb kd n0 n1 n2 a len cap w hl (by omega)
  exact key.mono fun _ _ ⟨he, hg⟩ => ⟨he, Below.of_none hg⟩
end Go.Proofs.Ytinkllejjilenaa
