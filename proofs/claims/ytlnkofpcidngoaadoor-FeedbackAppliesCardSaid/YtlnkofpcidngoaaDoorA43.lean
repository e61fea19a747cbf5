/- Layer 9 (compressor): the reference's Valid, where it says yes. -/
import Derived.Test.YtlnkofpcidngoaaDoorA0
import Derived.Test.YtlnkofpcidngoaaDoorA17
import Derived.Test.YtlnkofpcidngoaaDoorA29
namespace Go.Proofs.YtlnkofpcidngoaaDoor
open Go.ChangeShapes Go.WideShapes Go.ChangeAt Go.RowKit
theorem rvalid_yes (mode width : Int) (a : Option Addr) (n c : Nat) (L : List Snd) (w : World) (hr : RdC w a n c L) (hok : validC mode width L = true) : Calls Tryd.prog 20 #[CVal mode width a n c] w fun e w' => e = .returned (.bool true) ∧ Gr w w' :=
 hok ▸ rcvalid_any mode width a n c L w hr (by have := hr.2.2.1; have := hr.2.1; simp only [maxLen] at *; omega)
end Go.Proofs.YtlnkofpcidngoaaDoor