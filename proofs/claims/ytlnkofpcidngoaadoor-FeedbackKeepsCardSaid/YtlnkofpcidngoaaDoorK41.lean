import Derived.Test.YtlnkofpcidngoaaDoorK0
import Derived.Test.YtlnkofpcidngoaaDoorK12
import Derived.Test.YtlnkofpcidngoaaDoorK40
import Derived.Test.YtlnkofpcidngoaaDoorK1
namespace Go.Proofs.YtlnkofpcidngoaaDoor
open Go.ChangeShapes Go.WideShapes Go.ChangeAt Go.RowKit
open Crc
theorem mod11 {n m r : Int} (h : modF n m = r) (hm : m ≤ 9223372036854775807) (w : World) : Calls Tryd.prog 19 #[.int .i64 n, .int .i64 m] w fun e w' => e = .returned (.int .i64 r) ∧ w = w' := h ▸ mod_any n m w hm
end Go.Proofs.YtlnkofpcidngoaaDoor
