/- Short names. -/
import Derived.Lib.Hide
namespace Go.Proofs.YtlnkofpcidngoaaDoor
theorem zqa {α : Type _} {l : List α} {i : Nat} {a : α} : l.toArray.setIfInBounds i a = (l.set i a).toArray := List.setIfInBounds_toArray l i a
theorem zqb {α : Type _} {a b : α} {l : List α} : (a :: l).set 0 b = b :: l := rfl
theorem zqc {α : Type _} {a b : α} {l : List α} {n : Nat} : (a :: l).set (n + 1) b = a :: l.set n b := rfl
theorem zqd {p : Prop} (h : p) : Go.RowKit.Hid p := Go.Lib.hid h
end Go.Proofs.YtlnkofpcidngoaaDoor
