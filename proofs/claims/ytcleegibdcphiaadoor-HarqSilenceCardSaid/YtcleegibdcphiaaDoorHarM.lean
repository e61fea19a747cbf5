/- Layer 29 (harq): announcements, what Send returns; laws on whole rows. -/
import Derived.Test.YtcleegibdcphiaaDoorHarI
import Derived.Test.YtcleegibdcphiaaDoorHarL
import Derived.Test.YtcleegibdcphiaaDoorCodeEnc
namespace Go.Proofs.YtcleegibdcphiaaDoor
open Go.ChangeShapes Go.WideShapes Go.ChangeAt Go.RowKit
open Cod

theorem Sched.pq_load_row {P : Program} {o : Oper} {a : Act} {w : World} {late : Bool} (ty : TypeId) (x : Operand) (ho : o.op = .load ty x)
    (g : Nat) (hx : a.eval x = .pointer (some ⟨g, 0, none⟩)) (t : TypeId) (cs : Array Value) (fr : Nat × Nat) (d : TypeDesc) (hg : w.heap[g]? = some (.cells cs t fr))
    (hu : P.underlying ty = some d) (hd : (match d with | .struct _ | .array _ _ => true | _ => false) = true) (hi : (P.info? ty).map (·.size) = some cs.size) : Sched.gq P o a w (.agg cs) late := by
  unfold Sched.gq execOp
  simp only [ho, hx, Instr.loadAt, Instr.sureAddr, Sem.run_bind, Sem.run_pure, Result.andThen_ok, run_loadVar_row w g t ty cs fr d hg hu hd hi]
  exact ⟨trivial, trivial⟩
theorem PBlk.load {g : Nat} {p : Pc} {w : World} (hb : PBlk g p w) {o : Oper} {a : Act} {late : Bool} (x : Operand) (ho : o.op = .load 24 x) (hx : a.eval x = .pointer (some ⟨g, 0, none⟩)) : Sched.gq Tryd.prog o a w (PVal p) late :=
  Sched.pq_load_row 24 x ho g hx _ _ _ _ hb Tryd.underlying24 rfl (by kernel_rfl)
structure An where
  proc : Int
  fresh : Int
  ver : Int
  size : Int
  coded : Int
def ACells (a : An) : Array Value := #[.int .i64 a.proc, .int .i64 a.fresh, .int .i64 a.ver, .int .i64 a.size, .int .i64 a.coded]
def AVal (a : An) : Value := .agg #[.int .i64 a.proc, .int .i64 a.fresh, .int .i64 a.ver, .int .i64 a.size, .int .i64 a.coded]
def AList (a : An) : List Value := [.int .i64 a.proc, .int .i64 a.fresh, .int .i64 a.ver, .int .i64 a.size, .int .i64 a.coded]
def ABlk (g : Nat) (a : An) (w : World) : Prop := w.heap[g]? = some (.cells (ACells a) 29 (0, 0))
def zeroA : An := ⟨0, 0, 0, 0, 0⟩
theorem ABlk.kept {g : Nat} {a : An} {w w' : World} (h : ABlk g a w) (hg : Gr w w') : ABlk g a w' := (hg.block g (heap_lt h) (by simp)).trans h
theorem alist_one (a : An) : (AList a).toArray.all (·.oneCell') = true := all_oneCell_toArray (by
  intro v hv
  simp only [AList, List.mem_cons, List.not_mem_nil, or_false] at hv
  rcases hv with rfl | rfl | rfl | rfl | rfl <;> rfl)
theorem ablk_at {g : Nat} {p : An} {w : World} (h : ABlk g p w) (i : Nat) {v : Value} (hv : (ACells p)[i]? = some v) : w.cell? ⟨g, i, none⟩ = some v := by
  rw [cell_of_block h]; exact hv
theorem ablk_there {g : Nat} {p : An} {w : World} (h : ABlk g p w) : w.there g 0 5 := there_block h (by simp [ACells])
theorem ablk_put {g : Nat} {p : An} {w : World} (h : ABlk g p w) (q : An) : ABlk g q (w.setCells g 0 (AList q)) := heap_setCells (AList q) 0 w (AList p) h
theorem ablk_other {g k : Nat} {p : An} {w : World} (h : ABlk g p w) (vs : List Value) (hk : g ≠ k) : ABlk g p (w.setCells k 0 vs) :=
  ((grown_setCells k vs 0 w).block g (heap_lt h) (by simpa using hk)).trans h
theorem ABlk.load {g : Nat} {p : An} {w : World} (hb : ABlk g p w) {o : Oper} {a : Act} {late : Bool} (x : Operand) (ho : o.op = .load 29 x) (hx : a.eval x = .pointer (some ⟨g, 0, none⟩)) : Sched.gq Tryd.prog o a w (AVal p) late :=
  Sched.pq_load_row 29 x ho g hx _ _ _ _ hb Tryd.underlying29 rfl (by kernel_rfl)
theorem results_cell_cell2 {P : Program} {fn : Func} {p q u v : Tmp} {ty ty2 : TypeId} (h : fn.results = #[.cell p ty, .cell q ty2, .tmp u, .tmp v]) (tmps : Array Value) (w : World) (g : Nat) (t : TypeId) (cs : Array Value) (fr : Nat × Nat) (d : TypeDesc)
    (hp : tmps.getD p undef = .pointer (some ⟨g, 0, none⟩)) (hg : w.heap[g]? = some (.cells cs t fr))
    (hu : P.underlying ty = some d) (hd : (match d with | .struct _ | .array _ _ => true | _ => false) = true) (hi : (P.info? ty).map (·.size) = some cs.size)
    (g2 : Nat) (t2 : TypeId) (cs2 : Array Value) (fr2 : Nat × Nat) (d2 : TypeDesc)
    (hp2 : tmps.getD q undef = .pointer (some ⟨g2, 0, none⟩)) (hg2 : w.heap[g2]? = some (.cells cs2 t2 fr2))
    (hu2 : P.underlying ty2 = some d2) (hd2 : (match d2 with | .struct _ | .array _ _ => true | _ => false) = true) (hi2 : (P.info? ty2).map (·.size) = some cs2.size) :
    (results fn tmps).run P w = .ok (.tuple #[.agg cs, .agg cs2, tmps.getD u undef, tmps.getD v undef]) w := by
  have hp' : tmps[p]?.getD undef = .pointer (some ⟨g, 0, none⟩) := by simpa using hp
  have hp2' : tmps[q]?.getD undef = .pointer (some ⟨g2, 0, none⟩) := by simpa using hp2
  simp [results, h, hp', hp2', asAddr, run_loadVar_row w g t ty cs fr d hg hu hd hi, run_loadVar_row w g2 t2 ty2 cs2 fr2 d2 hg2 hu2 hd2 hi2]
def sendE (p : Pc) (number : Int) : Int := if validPc p = false then 1 else if p.act = false then 14 else if number < 0 ∨ 4 ≤ number then 3 else if p.tries = 32 then 13 else 0
def sendP (p : Pc) (number : Int) : Pc := if sendE p number = 0 then { p with tries := p.tries + 1, ver := (p.ver + 1) % 4 } else p
def sendA (p : Pc) (number : Int) : An := if sendE p number = 0 then ⟨number, p.fresh, p.ver, p.len, p.coded⟩ else zeroA
def sendS (p : Pc) (blk : List Int) (number : Int) : List Int := if sendE p number = 0 then sentL blk p.ver.toNat p.coded.toNat else []
def SendPost (p : Pc) (blk : List Int) (number : Int) (w : World) (e : Ending) (w' : World) : Prop :=
  ∃ a' c' a2 n2 c2, e = .returned (.tuple #[PVal { sendP p number with a := a', cap := c' }, AVal (sendA p number), .slice a2 n2 c2, .int .i64 (sendE p number)]) ∧ OwnI w.heap.size 5 .u8 w' a' p.len c' blk ∧ OwnI w.heap.size 3 .i64 w' a2 n2 c2 (sendS p blk number) ∧ Gr w w'
theorem send_facts {p : Pc} {number : Int} (h1 : ¬ validPc p = false) (h2 : ¬ p.act = false) (h3 : ¬ (number < 0 ∨ 4 ≤ number)) (h4 : ¬ p.tries = 32) :
    sendE p number = 0 ∧ (0 ≤ p.fresh ∧ p.fresh ≤ 1) ∧ (0 ≤ p.ver ∧ p.ver < 4) ∧ (0 ≤ p.tries ∧ p.tries < 32) ∧ (1 ≤ p.len ∧ p.len ≤ 256) ∧ (1 ≤ p.coded ∧ p.coded ≤ 1152) := by
  refine ⟨by unfold sendE; rw [if_neg h1, if_neg h2, if_neg h3, if_neg h4], ?_⟩
  have hv : validPc p = true := by simpa using h1
  have ha : p.act = true := by simpa using h2
  unfold validPc inPc sizedB codedB at hv
  rw [ha] at hv
  simp only [Bool.and_eq_true, decide_eq_true_eq, Bool.not_true, Bool.false_or] at hv
  omega
end Go.Proofs.YtcleegibdcphiaaDoor
