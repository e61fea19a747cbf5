/- Calls and literal slices that make memory inside a region that draws its order. -/
import Derived.Test.YtgackcjhiplplaaMem2
namespace Go.Proofs.Ytgackcjhiplplaa
open Go.ChangeShapes Go.WideShapes Go.ChangeAt Go.RowKit

/-- A slice of integers that is made. -/
def NRd (n : Nat) (xs : List Int) : Sched.NPred := fun _ _ v w => ∃ (a : Option Addr) (c : Nat), v = .slice a n c ∧ Rd .i64 w a n xs
theorem NRd.stable (n : Nat) (xs : List Int) : Sched.Stable (NRd n xs) := by
  rintro lo hi v w w' ⟨a, c, h1, h2⟩ hg
  exact ⟨a, c, h1, h2.kept hg⟩
/-- A new block, a value made of its number. -/
def NRow1 (f : Nat → Value) (o : Obj) : Sched.NPred := fun lo hi v w => v = f lo ∧ lo < hi ∧ w.heap[lo]? = some o
theorem NRow1.stable (f : Nat → Value) (o : Obj) : Sched.Stable (NRow1 f o) := by
  rintro lo hi v w w' ⟨h1, h2, h3⟩ hg
  exact ⟨h1, h2, by rw [hg.block lo (heap_lt h3) (by simp)]; exact h3⟩
/-- A literal slice of one integer. -/
def NOne (k : IntKind) (e : TypeId) (y : Int) : Sched.NPred := NRow1 (fun lo => .slice (some ⟨lo, 0, none⟩) 1 1) (.cells #[.int k y] e)
theorem NOne.rd {k : IntKind} {e : TypeId} {y : Int} {lo hi : Nat} {v : Value} {w : World} (h : NOne k e y lo hi v w) (hy : (Lit.int k y).wf = true) : v = .slice (some ⟨lo, 0, none⟩) 1 1 ∧ Rd k w (some ⟨lo, 0, none⟩) 1 [y] := by
  obtain ⟨h1, h2, h3⟩ := h
  refine ⟨h1, rfl, by intro z hz; simp at hz; subst hz; exact hy, by simp [maxLen], .inr ⟨lo, 0, rfl, heap_lt h3, fun i hi => ?_⟩⟩
  obtain rfl : i = 0 := by omega
  rw [cell_of_block h3]; rfl
/-- Two values lie in different blocks. -/
def Apart (u v : Value) : Prop := ∀ g, u.ownBlock = some g → v.ownBlock ≠ some g
theorem Apart.symm {u v : Value} (h : Apart u v) : Apart v u := fun g h1 h2 => h g h2 h1
theorem Apart.nil (v : Value) (c : Nat) : Apart (.slice none 0 c) v := by intro g h; simp [Value.ownBlock] at h
theorem Apart.grow {w : World} {u v v' : Value} (h : Apart u v) (hf : Follows w v v') (hu : ∀ g, u.ownBlock = some g → g < w.heap.size) : Apart u v' := by
  intro g h1 h2
  rcases hf with e | ⟨g', e, hg⟩
  · rw [e] at h2; exact h g h1 h2
  · rw [e] at h2
    have := hu g h1
    injection h2 with h2
    omega
theorem Apart.ne {u v : Value} (h : Apart u v) : u.ownBlock = none ∨ u.ownBlock ≠ v.ownBlock := by
  cases hu : u.ownBlock with
  | none => exact .inl rfl
  | some g => exact .inr fun e => h g hu e.symm
/-- An append among the last operations of a drawn region. -/
theorem Sched.walk2_app {P : Program} {ops : Array Oper} {Q : Act → World → Prop} {o : Oper} {r : List Oper} {a : Act} {w : World} (hw : Region.wanted o (yielded ops a.tmps) = true) (s x : Operand) (t : TypeId)
    (ho : o.op = .call { callee := .builtin .append, args := #[s, x], argTypes := #[t, t] }) {vs vx v' : Value} {w' : World} (hs : a.eval s = vs) (hx : a.eval x = vx)
    (hrun : (Builtin.append_ #[t, t] o.type #[vs, vx]).run P w = .ok v' w') (h : Sched.Walk2 P ops Q r (a.put o.dst v') w') : Sched.Walk2 P ops Q (o :: r) a w := by
  refine Sched.walk2_go hw fun K hK => ?_
  unfold Sched.tq execOp
  simp only [ho, resolve, invoke, builtin, Sem.run_bind, Sem.run_pure, Result.andThen_ok, List.map_toArray, List.map_cons, List.map_nil, hs, hx, hrun]
  exact hK _ _ h
end Go.Proofs.Ytgackcjhiplplaa
