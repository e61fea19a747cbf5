/- The law FlowExact (layer 06), as its frame wants it. -/
import Derived.Test.YtmojlengjoicoaaFlowX
namespace Go.Proofs.Ytmojlengjoicoaa
open Go.ChangeShapes Go.WideShapes Go.ChangeAt Go.RowKit

def hdrOf : List Int → Hdr
  | [a0, a1, a2, a3, a4, a5, a6, a7, a8, a9, a10, a11, a12, a13, a14] => ⟨a0, a1, a2, a3, a4, a5, a6, a7, a8, a9, a10, a11, a12, a13, a14⟩
  | _ => zeroH
theorem hdr_of {l : List Int} (h : l.length = 15) (hb : ∀ x ∈ l, i64 x) : l.map (Value.int .i64) = HCells (hdrOf l) ∧ HOk (hdrOf l) := by
  match l, h with
  | [a0, a1, a2, a3, a4, a5, a6, a7, a8, a9, a10, a11, a12, a13, a14], _ =>
    refine ⟨rfl, ?_⟩
    simp only [List.mem_cons, List.not_mem_nil, or_false, forall_eq_or_imp, forall_eq] at hb
    exact hb
theorem fexact_fit (xs ys : List Int) (n : Int) (w : World) (l0 : xs.length = 30) (b0 : ∀ x ∈ xs, i64 x) (l1 : ys.length = 2) (_b1 : ∀ x ∈ ys, i64 x) (_hn : i64 n) :
    Calls Try.prog 4 #[.agg (xs.map (Value.int .i64)).toArray, .agg (ys.map (Value.int .i64)).toArray, .int .i64 n] w fun e w' => e = .returned (.bool true) ∧ Below w.heap.size w w' := by
  obtain ⟨h1, o1⟩ := hdr_of (l := xs.take 15) (by simp; omega) (fun x hx => b0 x (List.mem_of_mem_take hx))
  obtain ⟨h2, o2⟩ := hdr_of (l := xs.drop 15) (by simp; omega) (fun x hx => b0 x (List.mem_of_mem_drop hx))
  obtain ⟨s, f, rfl⟩ := list2 l1
  have hcs : xs.map (Value.int .i64) = HCells (hdrOf (xs.take 15)) ++ HCells (hdrOf (xs.drop 15)) := by
    rw [← h1, ← h2, ← List.map_append, List.take_append_drop]
  exact (fexact_any _ _ _ s f n w hcs o1 o2).mono fun _ _ ⟨he, hg⟩ => ⟨he, Below.of_none hg⟩
end Go.Proofs.Ytmojlengjoicoaa
