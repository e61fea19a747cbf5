/- Memory, once more: stores into known blocks; what a turned block leaves alone. -/
import Derived.Test.YtgackcjhiplplaaSched
namespace Go.Proofs.Ytgackcjhiplplaa
open Go.ChangeShapes Go.WideShapes Go.ChangeAt Go.RowKit

theorem heap_lt {w : World} {p : Nat} {o : Obj} (h : w.heap[p]? = some o) : p < w.heap.size := by
  rcases Nat.lt_or_ge p w.heap.size with h1 | h1
  · exact h1
  · rw [Array.getElem?_eq_none h1] at h; cases h
theorem rd_keptBut {k : IntKind} {w w' : World} {r : Option Nat} {a : Option Addr} {len : Nat} {xs : List Int} (h : Rd k w a len xs) (hg : w.grownBy w' r) (hr : ∀ b off, 0 < len → a = some ⟨b, off, none⟩ → some b ≠ r) : Rd k w' a len xs := by
  obtain ⟨h1, h2, h3, h4⟩ := h
  refine ⟨h1, h2, h3, ?_⟩
  rcases h4 with h0 | ⟨b, off, rfl, hb, hc⟩
  · exact .inl h0
  · refine .inr ⟨b, off, rfl, Nat.lt_of_lt_of_le hb hg.size, fun i hi => ?_⟩
    rw [← hc i hi]
    exact World.cell?_of_block (hg.block b hb (hr b off (by omega) rfl))
theorem heap_setCell_eq {w : World} {p : Nat} {cs : Array Value} {e : TypeId} {fz : Nat × Nat} (h : w.heap[p]? = some (.cells cs e fz)) (i : Nat) (u : Value) : (w.setCell ⟨p, i, none⟩ u).heap[p]? = some (.cells (cs.setIfInBounds i u) e fz) := by
  simp [World.setCell, Array.getElem?_modify, h]
theorem grown_setAt (w : World) (p i : Nat) (u : Value) : w.grownBy (w.setCell ⟨p, i, none⟩ u) (some p) :=
  ⟨rfl, rfl, rfl, by simp [World.setCell], fun k _ hne => heap_setCell_ne _ _ _ _ (by intro h; exact hne (by rw [h]))⟩
theorem grown_trans' {w w1 w2 : World} {r : Option Nat} (h : w.grownBy w1 r) (k : w1.grownBy w2 r) : w.grownBy w2 r := grownBy_trans h k (.inl rfl)
theorem grown_weak {w w' : World} (h : w.grownBy w' none) (r : Option Nat) : w.grownBy w' r := ⟨h.os, h.tape, h.output, h.size, fun i hi _ => h.block i hi (by simp)⟩
theorem own_after {B : Nat} {e : TypeId} {k : IntKind} {w : World} {a : Option Addr} {n cap : Nat} {xs : List Int} (h : OwnI B e k w a n cap xs) {p : Nat} (hp : p < B) : ∀ b off, a = some ⟨b, off, none⟩ → p < b := by
  intro b off he
  subst he
  have := (h.below b rfl).1
  omega
theorem grown_new {w0 w : World} {r : Option Nat} (h : w0.grownBy w r) {a : Addr} (ha : w0.heap.size ≤ a.block) (u : Value) : w0.grownBy (w.setCell a u) r :=
  ⟨h.os, h.tape, h.output, by have := h.size; simpa [World.setCell] using this, fun k hk hne => by rw [heap_setCell_ne _ _ _ _ (by omega)]; exact h.block k hk hne⟩
theorem block_set5 {w : World} {g : Nat} {x0 x1 x2 x3 x4 : Value} {t : TypeId} (h : w.heap[g]? = some (.cells #[x0, x1, x2, x3, x4] t (0, 0))) (a b c d e : Value) :
    (((((w.setCell ⟨g, 0, none⟩ a).setCell ⟨g, 1, none⟩ b).setCell ⟨g, 2, none⟩ c).setCell ⟨g, 3, none⟩ d).setCell ⟨g, 4, none⟩ e).heap[g]? = some (.cells #[a, b, c, d, e] t (0, 0)) := by
  have := heap_setCell_eq (heap_setCell_eq (heap_setCell_eq (heap_setCell_eq (heap_setCell_eq h 0 a) 1 b) 2 c) 3 d) 4 e
  simpa using this
theorem grown_set5 (w : World) (g : Nat) (a b c d e : Value) : w.grownBy (((((w.setCell ⟨g, 0, none⟩ a).setCell ⟨g, 1, none⟩ b).setCell ⟨g, 2, none⟩ c).setCell ⟨g, 3, none⟩ d).setCell ⟨g, 4, none⟩ e) (some g) :=
  grown_trans' (grown_trans' (grown_trans' (grown_trans' (grown_setAt _ _ _ _) (grown_setAt _ _ _ _)) (grown_setAt _ _ _ _)) (grown_setAt _ _ _ _)) (grown_setAt _ _ _ _)
theorem rd_gr {k : IntKind} {w w' : World} {a : Option Addr} {len : Nat} {xs : List Int} (h : Rd k w a len xs) (hg : Gr w w') : Rd k w' a len xs := h.kept hg
end Go.Proofs.Ytgackcjhiplplaa
