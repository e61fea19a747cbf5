/- Many cells written at once (an aggregate in the middle of a block). Over any program. -/
import Derived.Test.YtgackcjhiplplaaMem2
import Derived.Deep.MidRow
namespace Go.Proofs.Ytgackcjhiplplaa
open Go.ChangeShapes Go.WideShapes Go.ChangeAt Go.RowKit

def setM {α : Type} : List α → Nat → List α → List α
  | xs, _, [] => xs
  | xs, o, v :: r => setM (xs.set o v) (o + 1) r
theorem setM_len {α : Type} : ∀ (vs : List α) (xs : List α) (o : Nat), (setM xs o vs).length = xs.length
  | [], _, _ => rfl
  | v :: r, xs, o => by unfold setM; rw [setM_len r]; simp
theorem setM_mid {α : Type} : ∀ (vs A C D : List α), C.length = vs.length → setM (A ++ (C ++ D)) A.length vs = A ++ (vs ++ D)
  | [], A, C, D, h => by
    have : C = [] := List.eq_nil_of_length_eq_zero (by simpa using h)
    subst this; rfl
  | v :: r, A, [], D, h => by simp at h
  | v :: r, A, c :: C, D, h => by
    unfold setM
    have e : (A ++ (c :: C ++ D)).set A.length v = (A ++ [v]) ++ (C ++ D) := by simp [List.set_append_right]
    rw [e, show A.length + 1 = (A ++ [v]).length by simp, setM_mid r (A ++ [v]) C D (by simpa using h)]
    simp
theorem setM_last {α : Type} (vs A C : List α) (h : C.length = vs.length) : setM (A ++ C) A.length vs = A ++ vs := by
  have := setM_mid vs A C [] h
  simpa using this
theorem setM_whole {α : Type} (vs C : List α) (h : C.length = vs.length) : setM C 0 vs = vs := by
  have := setM_mid vs [] C [] h
  simpa using this
theorem heap_setCells {g : Nat} {e : TypeId} {fz : Nat × Nat} : ∀ (vs : List Value) (o : Nat) (w : World) (cs : List Value), w.heap[g]? = some (.cells cs.toArray e fz) → (w.setCells g o vs).heap[g]? = some (.cells (setM cs o vs).toArray e fz)
  | [], _, _, _, h => h
  | v :: r, o, w, cs, h => by
    have h1 := heap_setCell_eq h o v
    rw [List.setIfInBounds_toArray] at h1
    exact heap_setCells r (o + 1) _ _ h1
theorem grown_setCells (g : Nat) : ∀ (vs : List Value) (o : Nat) (w : World), w.grownBy (w.setCells g o vs) (some g)
  | [], _, w => grownBy_refl w _
  | v :: r, o, w => grown_trans' (grown_setAt w g o v) (grown_setCells g r (o + 1) _)
theorem grown_setCells_new {w0 w : World} {r : Option Nat} (h : w0.grownBy w r) {g : Nat} (hg : w0.heap.size ≤ g) (vs : List Value) (o : Nat) : w0.grownBy (w.setCells g o vs) r := by
  have k := grown_setCells g vs o w
  exact ⟨k.os.trans h.os, k.tape.trans h.tape, k.output.trans h.output, Nat.le_trans h.size k.size, fun i hi hne => by
    rw [k.block i (Nat.lt_of_lt_of_le hi h.size) (by simp; omega)]; exact h.block i hi hne⟩
theorem own_setCells {base : Nat} {e : TypeId} {size g n cap : Nat} : ∀ (vs : List Value) (o : Nat) (w : World) (xs : List Value), w.ownsRow base e size (.slice (some ⟨g, 0, none⟩) n cap) n xs →
    (w.setCells g o vs).ownsRow base e size (.slice (some ⟨g, 0, none⟩) n cap) n (setM xs o vs)
  | [], _, _, _, h => h
  | v :: r, o, _, _, h => own_setCells r (o + 1) _ _ (h.stored o v).1
/-- A block whose cells are known takes a range. -/
theorem there_block {w : World} {g : Nat} {cs : Array Value} {e : TypeId} (h : w.heap[g]? = some (.cells cs e (0, 0))) {o n : Nat} (hn : o + n ≤ cs.size) : w.there g o n := by
  intro j hj
  rw [cell_of_block h, frozen_of_block h]
  exact ⟨by rw [Array.getElem?_eq_getElem (by omega)]; rfl, rfl⟩
theorem there_own {w : World} {base : Nat} {e : TypeId} {size g n cap : Nat} {xs : List Value} (h : w.ownsRow base e size (.slice (some ⟨g, 0, none⟩) n cap) n xs) {o k : Nat} (hk : o + k ≤ xs.length) : w.there g o k := by
  intro j hj
  have hl := h.1
  rw [h.cellAt (o + j) (by omega)]
  exact ⟨by simp [show o + j < xs.length by omega], h.frozenAt _⟩
end Go.Proofs.Ytgackcjhiplplaa
