/- The law LsbMonotone: its walk. -/
import Derived.Test.YtinkllejjilenaaLsbMono8
import Derived.Test.YtinkllejjilenaaLsbMono16
import Derived.Test.YtinkllejjilenaaLsbMono32
import Derived.Test.YtinkllejjilenaaLsbMono8l
import Derived.Test.YtinkllejjilenaaLsbMono16l
import Derived.Test.YtinkllejjilenaaLsbMono32l
namespace Go.Proofs.Ytinkllejjilenaa
open Go.ChangeShapes Go.WideShapes Go.ChangeAt Go.RowKit
theorem mono_fit (kind : Int) (a : Option Addr) (len cap : Nat) (xs : List Int) (n0 n1 : Int) (w : World) (_hk : i64 kind) (hr : Rd .i64 w a len xs) (hc : len ≤ cap) (_hL : len ≤ 17592186043904) (h0 : i64 n0) (h1 : i64 n1) :
    Calls Try.prog 5 #[.int .i64 kind, .slice a len cap, .agg #[.int .i64 n0, .int .i64 n1]] w fun e w' => e = .returned (.bool true) ∧ Below w.heap.size w w' := by
  have k1 := modF_lo kind 3
  have k2 := modF_hi kind 3 (by omega)
  have key : Calls Try.prog 5 #[.int .i64 kind, .slice a len cap, .agg #[.int .i64 n0, .int .i64 n1]] w fun e w' => e = .returned (.bool true) ∧ Gr w w' := by
    by_cases hl : len ≤ 60
    · by_cases c0 : modF kind 3 = 0
      · exact mono8 kind n0 n1 a len cap xs w hr hl h0 h1 c0
      · by_cases c1 : modF kind 3 = 1
        · exact mono16 kind n0 n1 a len cap xs w hr hl h0 h1 c1
        · exact mono32 kind n0 n1 a len cap xs w hr hl h0 h1 (by omega)
    · by_cases c0 : modF kind 3 = 0
      · exact mono8l kind n0 n1 a len cap xs w hr hc (by omega) h0 h1 c0
      · by_cases c1 : modF kind 3 = 1
        · exact mono16l kind n0 n1 a len cap xs w hr hc (by omega) h0 h1 c1
        · exact mono32l kind n0 n1 a len cap xs w hr hc (by omega) h0 h1 (by omega)
  exact key.mono fun _ _ ⟨he, hg⟩ => ⟨he, Below.of_none hg⟩
end Go.Proofs.Ytinkllejjilenaa
