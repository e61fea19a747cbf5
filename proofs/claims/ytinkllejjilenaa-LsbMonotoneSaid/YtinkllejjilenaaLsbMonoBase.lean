/- The law LsbMonotone: its walk. -/
import Derived.Test.YtinkllejjilenaaLsbLaws
import Derived.Test.YtinkllejjilenaaInts
namespace Go.Proofs.Ytinkllejjilenaa
open Go.ChangeShapes Go.WideShapes Go.ChangeAt Go.RowKit

theorem OwnI.le_cap {w : World} {B : Nat} {e : TypeId} {k : IntKind} {a : Option Addr} {n cap : Nat} {xs : List Int} (h : OwnI B e k w a n cap xs) : n ≤ cap := by
  rcases h.row.2 with ⟨_, h0⟩ | ⟨g, cap', cur, hv, _, _, hn, _, _, _⟩
  · omega
  · injection hv with _ _ e3
    omega
def refF (P v x : Int) : Int := modF (v + modF x 2000 - 1000) P
theorem take_map (f : Int → Int) (zs : List Int) (j : Nat) (h : j < zs.length) : (zs.take (j + 1)).map f = (zs.take j).map f ++ [f (zs[j]?.getD 0)] := by
  rw [List.take_add_one, List.map_append]; congr 1; simp [h]

end Go.Proofs.Ytinkllejjilenaa
