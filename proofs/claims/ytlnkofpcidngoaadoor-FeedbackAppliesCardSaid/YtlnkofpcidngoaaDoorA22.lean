/- The law FlowExact (layer 06): its walk. -/
import Derived.Test.YtlnkofpcidngoaaDoorA0
import Derived.Test.YtlnkofpcidngoaaDoorA20
import Derived.Test.YtlnkofpcidngoaaDoorA11
namespace Go.Proofs.YtlnkofpcidngoaaDoor
open Go.ChangeShapes Go.WideShapes Go.ChangeAt Go.RowKit
theorem Sched.gq_load_mid {P : Program} {o : Oper} {a : Act} {w : World} {late : Bool} (ty : TypeId) (x : Operand) (ho : o.op = .load ty x) (b off : Nat) (hx : a.eval x = .pointer (some ⟨b, off, none⟩)) (cs : List Value) (d : TypeDesc) (hc : w.rangeAt b off cs)
  (hu : P.underlying ty = some d) (hd : d.isRow = true) (hi : (P.info? ty).map (·.size) = some cs.length) : Sched.gq P o a w (.agg cs.toArray) late := by
 unfold Sched.gq execOp
 simp only [ho, hx, Instr.loadAt, Instr.sureAddr, Sem.run_bind, Sem.run_pure, Result.andThen_ok, run_loadVar_mid w b off ty cs d hc hu hd hi]
 exact ⟨trivial, trivial⟩
theorem Sched2.gq_load_mid {P : Program} {o : Oper} {a : Act} {w : World} {late : Bool} (ty : TypeId) (x : Operand) (ho : o.op = .load ty x) (b off : Nat) (hx : a.eval x = .pointer (some ⟨b, off, none⟩)) (cs : List Value) (d : TypeDesc) (hc : w.rangeAt b off cs)
  (hu : P.underlying ty = some d) (hd : d.isRow = true) (hi : (P.info? ty).map (·.size) = some cs.length) : Sched2.gq P o a w (.agg cs.toArray) late := by
 unfold Sched2.gq execOp
 simp only [ho, hx, Instr.loadAt, Instr.sureAddr, Sem.run_bind, Sem.run_pure, Result.andThen_ok, run_loadVar_mid w b off ty cs d hc hu hd hi]
 exact ⟨trivial, trivial⟩
theorem tq_store {P : Program} {o : Oper} {a : Act} {w : World} {K : Act → World → Prop} (ty : TypeId) (x y : Operand) (ho : o.op = .store ty x y)
  (b off : Nat) (cells : Array Value) (hx : a.eval x = .pointer (some ⟨b, off, none⟩)) (hy : a.eval y = .agg cells)
  (ht : w.there b off cells.size) (hi : (P.info? ty).map (·.size) = some cells.size) (h1 : cells.all (·.oneCell') = true)
  (h : K (a.put o.dst undef) (w.setCells b off cells.toList)) : Sched.tq P o a w K := by
 unfold Sched.tq execOp
 simp only [ho, hx, hy, Instr.storeAt, Instr.sureAddr, Sem.run_bind, Sem.run_pure, Result.andThen_ok, run_storeVar_mid w b off ty cells ht hi h1]
 exact h
theorem rstat_is {a R : Hdr} (h : statH a = R) (w : World) : Calls Tryd.prog 77 #[HVal a] w fun e w' => e = .returned (HVal R) ∧ Gr w w' := h ▸ rstat_any a w
theorem rchg_is {a b : Hdr} {R : Int} (h : chH a b = R) (w : World) : Calls Tryd.prog 37 #[HVal a, HVal b] w fun e w' => e = .returned (.int .i64 R) ∧ Gr w w' := h ▸ rchanged_any a b w
end Go.Proofs.YtlnkofpcidngoaaDoor