/- Layer 05 (packet): Parse of the reference. -/
import Derived.Test.YtlnkofpcidngoaaDoorA0
import Derived.Test.YtlnkofpcidngoaaDoorA26
namespace Go.Proofs.YtlnkofpcidngoaaDoor
open Go.ChangeShapes Go.WideShapes Go.ChangeAt Go.RowKit
theorem and8_1 : ∀ n : Fin 256, bits .and .u8 (n.val : Int) 1 = (n.val : Int) % 2 := by decide +kernel
theorem and8_127 : ∀ n : Fin 256, bits .and .u8 (n.val : Int) 127 = (n.val : Int) % 128 := by decide +kernel
theorem and8_one {y : Int} (h0 : 0 ≤ y) (h1 : y ≤ 255) : bits .and .u8 y 1 = y % 2 := by
 have h := and8_1 ⟨y.toNat, by omega⟩
 rw [show (((⟨y.toNat, by omega⟩ : Fin 256)).val : Int) = y by simp; omega] at h
 exact h
theorem and8_low {y : Int} (h0 : 0 ≤ y) (h1 : y ≤ 255) : bits .and .u8 y 127 = y % 128 := by
 have h := and8_127 ⟨y.toNat, by omega⟩
 rw [show (((⟨y.toNat, by omega⟩ : Fin 256)).val : Int) = y by simp; omega] at h
 exact h
theorem bsame_is {a b : Option Addr} {l c l' c' : Nat} {xs ys : List Int} {E : Bool} (hE : decide (xs = ys) = E) (w : World) (hx : Rd .u8 w a l xs) (hy : Rd .u8 w b l' ys) :
  Calls Tryd.prog 26 #[.slice a l c, .slice b l' c'] w fun e w' => e = .returned (.bool E) ∧ w = w' := hE ▸ bsame_any a b l c l' c' xs ys w hx hy
theorem nq_appP {P : Program} {o : Oper} {a : Act} {w : World} {N : Sched.NPred} (s x : Operand) (t : TypeId)
  (ho : o.op = .call { callee := .builtin .append, args := #[s, x], argTypes := #[t, t] }) {vs vx v' : Value} {w' : World} (hs : a.eval s = vs) (hx : a.eval x = vx)
  (hrun : (Builtin.append_ #[t, t] o.type #[vs, vx]).run P w = .ok v' w') (h : Gr w w' ∧ N w.heap.size w'.heap.size v' w') : Sched.nq P o a w N := by
 unfold Sched.nq execOp
 simp only [ho, resolve, invoke, builtin, Sem.run_bind, Sem.run_pure, Result.andThen_ok, List.map_toArray, List.map_cons, List.map_nil, hs, hx, hrun]
 exact h
theorem blk_keptP {w w' : World} {g : Nat} {o : Obj} {r : Option Nat} (h : w.heap[g]? = some o) (hg : w.grownBy w' r) (hne : some g ≠ r) : w'.heap[g]? = some o := by
 rw [hg.block _ (heap_lt h) hne]; exact h
theorem buildF_two {h : Hdr} {ys xs : List Int} (h28 : 28 ≤ xs.length) (hn : (buildF h ys).1 ≠ 0) : (buildF h ys).2 ≠ xs := by
 intro he
 unfold buildF at hn he
 split at hn
 ·split at hn
  ·rename_i h1 h2
   rw [if_pos h1, if_pos h2] at he
   simp only at he
   rw [← he] at h28; simp at h28
  ·simp at hn
 ·rename_i h1
  rw [if_neg h1] at he
  simp only at he
  rw [← he] at h28; simp at h28
end Go.Proofs.YtlnkofpcidngoaaDoor