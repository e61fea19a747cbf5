/- Layer 29 (harq): collectors; the closure that Receive defers. -/
import Derived.Test.YtcleegibdcphiaaDoorHarO
import Derived.Test.YtcleegibdcphiaaDoorHarN
import Derived.Defers
namespace Go.Proofs.YtcleegibdcphiaaDoor
open Go.ChangeShapes Go.WideShapes Go.ChangeAt Go.RowKit
open Cod

structure Cl where
  fresh : Int
  size : Int
  a : Option Addr
  len : Nat
  cap : Nat
  some : Bool
  done : Bool
def CCells (c : Cl) : Array Value := #[.int .i64 c.fresh, .int .i64 c.size, .slice c.a c.len c.cap, .bool c.some, .bool c.done]
def CVal (c : Cl) : Value := .agg #[.int .i64 c.fresh, .int .i64 c.size, .slice c.a c.len c.cap, .bool c.some, .bool c.done]
def CList (c : Cl) : List Value := [.int .i64 c.fresh, .int .i64 c.size, .slice c.a c.len c.cap, .bool c.some, .bool c.done]
def CBlk (g : Nat) (c : Cl) (w : World) : Prop := w.heap[g]? = Option.some (.cells (CCells c) 27 (0, 0))
def zeroC : Cl := ⟨0, 0, none, 0, 0, false, false⟩
theorem CBlk.kept {g : Nat} {c : Cl} {w w' : World} (h : CBlk g c w) (hg : Gr w w') : CBlk g c w' := (hg.block g (heap_lt h) (by simp)).trans h
theorem CBlk.keptBut {g k : Nat} {c : Cl} {w w' : World} (h : CBlk g c w) (hg : w.grownBy w' (Option.some k)) (hk : g ≠ k) : CBlk g c w' := (hg.block g (heap_lt h) (by simpa using hk)).trans h
theorem ABlk.keptBut {g k : Nat} {c : An} {w w' : World} (h : ABlk g c w) (hg : w.grownBy w' (Option.some k)) (hk : g ≠ k) : ABlk g c w' := (hg.block g (heap_lt h) (by simpa using hk)).trans h
theorem clist_one (c : Cl) : (CList c).toArray.all (·.oneCell') = true := all_oneCell_toArray (by
  intro v hv
  simp only [CList, List.mem_cons, List.not_mem_nil, or_false] at hv
  rcases hv with rfl | rfl | rfl | rfl | rfl <;> rfl)
theorem cblk_at {g : Nat} {p : Cl} {w : World} (h : CBlk g p w) (i : Nat) {v : Value} (hv : (CCells p)[i]? = Option.some v) : w.cell? ⟨g, i, none⟩ = Option.some v := by
  rw [cell_of_block h]; exact hv
theorem cblk_there {g : Nat} {p : Cl} {w : World} (h : CBlk g p w) : w.there g 0 5 := there_block h (by simp [CCells])
theorem cblk_put {g : Nat} {p : Cl} {w : World} (h : CBlk g p w) (q : Cl) : CBlk g q (w.setCells g 0 (CList q)) := heap_setCells (CList q) 0 w (CList p) h
theorem cblk_other {g k : Nat} {p : Cl} {w : World} (h : CBlk g p w) (vs : List Value) (hk : g ≠ k) : CBlk g p (w.setCells k 0 vs) :=
  ((grown_setCells k vs 0 w).block g (heap_lt h) (by simpa using hk)).trans h
def EBlk (g : Nat) (E : Int) (w : World) : Prop := w.heap[g]? = Option.some (.cells #[.int .i64 E] 32 (0, 0))
theorem EBlk.kept {g : Nat} {c : Int} {w w' : World} (h : EBlk g c w) (hg : Gr w w') : EBlk g c w' := (hg.block g (heap_lt h) (by simp)).trans h
theorem EBlk.keptBut {g k : Nat} {c : Int} {w w' : World} (h : EBlk g c w) (hg : w.grownBy w' (Option.some k)) (hk : g ≠ k) : EBlk g c w' := (hg.block g (heap_lt h) (by simpa using hk)).trans h
theorem eblk_at {g : Nat} {E : Int} {w : World} (h : EBlk g E w) : w.cell? ⟨g, 0, none⟩ = Option.some (.int .i64 E) := by rw [cell_of_block h]; rfl
/-- The deferred closure where nothing went wrong. -/
theorem rec1_ok (g9 g3 g6 : Nat) (u : FrameMode) (w : World) (h : EBlk g9 0 w) :
    CallsD Tryd.prog 46 #[.pointer (Option.some ⟨g9, 0, none⟩), .pointer (Option.some ⟨g3, 0, none⟩), .pointer (Option.some ⟨g6, 0, none⟩)] u w fun e u' w' => u' = u ∧ (e = .returned (.tuple #[]) ∧ w' = w) := by
  have c0 := eblk_at h
  clear h
  go_enter_d Tryd.func46, Tryd.ntmps46
  go_wp2_with fail
  go_end0
  first | exact ⟨rfl, rfl⟩ | simp
set_option maxRecDepth 20000 in
set_option maxHeartbeats 2000000 in
theorem rec1_no (g9 g3 g6 : Nat) (E : Int) (c X : Cl) (ss : List Int) (u : FrameMode) (w0 w : World) (h : EBlk g9 E w) (hE : E ≠ 0) (hc : CBlk g3 c w) (hX : CBlk g6 X w) (h36 : g3 ≠ g6) (hr : Rd .i64 w0 c.a c.len ss) (hg0 : Gr w0 w) (h6 : w0.heap.size ≤ g6) (hm : c.len ≤ 17592186044000) :
    CallsD Tryd.prog 46 #[.pointer (Option.some ⟨g9, 0, none⟩), .pointer (Option.some ⟨g3, 0, none⟩), .pointer (Option.some ⟨g6, 0, none⟩)] u w fun e u' w' => u' = u ∧ (e = .returned (.tuple #[]) ∧ w.grownBy w' (Option.some g6) ∧ ∃ a' c', CBlk g6 { c with a := a', cap := c' } w' ∧ OwnI w.heap.size 3 .i64 w' a' c.len c' ss) := by
  have c0 := eblk_at h
  have he : (E != 0) = true := by simpa using hE
  obtain ⟨w1, hw1⟩ : ∃ y, y = w.setCells g6 0 (CList c) := ⟨_, rfl⟩
  have hx1 := cblk_put hX c
  have hc1 := cblk_other hc (k := g6) (CList c) h36
  have hgs1 := grown_setCells g6 (CList c) 0 w
  have hg1 := grown_setCells_new hg0 h6 (CList c) 0
  rw [← hw1] at hx1 hc1 hgs1 hg1
  have hcu := hc
  have c12 := cblk_at hc1 2 (v := .slice c.a c.len c.cap) rfl
  unfold CBlk CCells at hcu
  have HCU := Lib.hid hcu
  have HTH := Lib.hid (cblk_there hX)
  have HX1 := Lib.hid hx1
  have HR1 := Lib.hid (rd_gr hr hg1)
  have HGS1 := Lib.hid hgs1
  have HW1 := Lib.hid hw1
  clear h hc hX hr hg0 hw1 hx1 hc1 hgs1 hg1 hcu
  go_enter_d Tryd.func46, Tryd.ntmps46
  go_upto_region 1 with (fail)
  go_upto_region 2 with (first | (refine wpList_load_w rfl 27 _ rfl g3 rfl 27 _ _ _ HCU.out Tryd.underlying27 rfl (by kernel_rfl) ?_) | (refine wpList_store_mid rfl 27 _ _ rfl g6 0 (CList c).toArray rfl rfl HTH.out (by kernel_rfl) (clist_one _) ?_; rw [← HW1.out]))
  clear c0
  go_wp2_with fail
  refine (cloneI29 c.a c.len c.cap ss w1 HR1.out hm).mono ?_
  rintro e w2 ⟨a', c', rfl, ho2, hg2⟩
  have hx2 := HX1.out.kept hg2
  have cx := cblk_at hx2 2 (v := .slice c.a c.len c.cap) rfl
  have fx := frozen_of_block hx2 2
  obtain ⟨w3, hw3⟩ : ∃ y, y = w2.setCell ⟨g6, 2, none⟩ (.slice a' c.len c') := ⟨_, rfl⟩
  have hx3 : CBlk g6 { c with a := a', cap := c' } w3 := by rw [hw3]; exact heap_setCell_eq hx2 2 (.slice a' c.len c')
  have hgs3 : w2.grownBy w3 (Option.some g6) := by rw [hw3]; exact grown_setAt w2 g6 2 _
  have hne : (Value.slice a' c.len c').ownBlock = none ∨ (Value.slice a' c.len c').ownBlock ≠ Option.some g6 := by
    have h6' := heap_lt HX1.out
    cases hv : (Value.slice a' c.len c').ownBlock with
    | none => exact .inl rfl
    | some b => exact .inr (by intro h2; have := (ho2.below b hv).1; cases h2; omega)
  have HO3 := Lib.hid ((ho2.weak29 (B' := w.heap.size) HGS1.out.size).kept hgs3 hne)
  have HX3 := Lib.hid hx3
  have HGS := Lib.hid (grownBy_trans (grownBy_trans HGS1.out hg2 (.inr (.inl rfl))) hgs3 (.inl rfl))
  have HW3 := Lib.hid hw3
  clear hx2 hw3 hx3 hgs3 hne ho2 hg2 c12
  go_wp2_with fail
  rw [← HW3.out]
  go_end0
  exact ⟨rfl, HGS.out, a', c', HX3.out, HO3.out⟩
end Go.Proofs.YtcleegibdcphiaaDoor
