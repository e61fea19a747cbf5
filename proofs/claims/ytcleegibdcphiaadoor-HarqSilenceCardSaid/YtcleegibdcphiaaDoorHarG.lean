/- Layer 29 (harq): copied. -/
import Derived.Test.YtcleegibdcphiaaDoorHarF
import Derived.Deep.MidRow
namespace Go.Proofs.YtcleegibdcphiaaDoor
open Go.ChangeShapes Go.WideShapes Go.ChangeAt Go.RowKit

theorem wpList_load_w {P : Program} {ops : Array Oper} {rest : List Oper} {o : Oper} {a : Act} {w : World} {Q : Exit → Act → World → Prop} (hw : Region.wanted o (yielded ops a.tmps) = true) (ty : TypeId) (x : Operand) (ho : o.op = .load ty x)
    (g : Nat) (hx : a.eval x = .pointer (some ⟨g, 0, none⟩)) (t : TypeId) (cs : Array Value) (fr : Nat × Nat) (d : TypeDesc) (hg : w.heap[g]? = some (.cells cs t fr))
    (hu : P.underlying ty = some d) (hd : (match d with | .struct _ | .array _ _ => true | _ => false) = true) (hi : (P.info? ty).map (·.size) = some cs.size)
    (h : wpList P ops Q rest (a.put o.dst (.agg cs)) w) : wpList P ops Q (o :: rest) a w := by
  unfold wpList
  rw [if_pos hw]
  left
  exact wp_load_row ty x ho g hx t cs fr d hg hu hd hi h
def PList (p : Pc) : List Value := [.bool p.act, .slice p.a p.len p.cap, .int .i64 p.coded, .int .i64 p.fresh, .int .i64 p.ver, .int .i64 p.tries]
theorem plist_one (p : Pc) : (PList p).toArray.all (·.oneCell') = true := all_oneCell_toArray (by
  intro v hv
  simp only [PList, List.mem_cons, List.not_mem_nil, or_false] at hv
  rcases hv with rfl | rfl | rfl | rfl | rfl | rfl <;> rfl)
def CopPost (p : Pc) (blk : List Int) (w : World) (e : Ending) (w' : World) : Prop := ∃ a' c', e = .returned (PVal { p with a := a', cap := c' }) ∧ OwnI w.heap.size 5 .u8 w' a' p.len c' blk ∧ Gr w w'
set_option maxRecDepth 20000 in
set_option maxHeartbeats 2000000 in
theorem copied_any (p : Pc) (blk : List Int) (w : World) (hr : Rd .u8 w p.a p.len blk) (hl : p.len ≤ 17592186044000) : Calls Tryd.prog 35 #[PVal p] w (CopPost p blk w) := by
  have HR := Lib.hid hr
  clear hr
  unfold PVal
  go_enter Tryd.func35, Tryd.ntmps35
  go_upto_region 1 with (fail)
  obtain ⟨w0, hw0⟩ : ∃ y, y = w.alloc (.cells #[.bool p.act, .slice p.a p.len p.cap, .int .i64 p.coded, .int .i64 p.fresh, .int .i64 p.ver, .int .i64 p.tries] 24) := ⟨_, rfl⟩
  have hb0 : PBlk w.heap.size p w0 := by rw [hw0]; exact heap_alloc_new _ _
  have hg0 : Gr w w0 := by rw [hw0]; exact Gr.alloc _ _
  have hs0 : w0.heap.size = w.heap.size + 1 := by rw [hw0]; simp
  rw [← hw0]
  obtain ⟨w1, hw1⟩ : ∃ y, y = w0.alloc (.cells #[.bool false, .slice none 0 0, .int .i64 0, .int .i64 0, .int .i64 0, .int .i64 0] 24) := ⟨_, rfl⟩
  have hg1 : Gr w0 w1 := by rw [hw1]; exact Gr.alloc _ _
  have hz1 : w1.heap[w.heap.size + 1]? = some (.cells #[.bool false, .slice none 0 0, .int .i64 0, .int .i64 0, .int .i64 0, .int .i64 0] 24 (0, 0)) := by rw [hw1, ← hs0]; exact heap_alloc_new _ _
  rw [← hw1]
  have hb1 := hb0.kept hg1
  have HG1 := Lib.hid (hg0.trans hg1)
  clear hw0 hw1
  unfold PBlk PCells at hb1
  have c1 : w1.cell? ⟨w.heap.size, 1, none⟩ = some (.slice p.a p.len p.cap) := by rw [cell_of_block hb1]; rfl
  have HB1 := Lib.hid hb1
  have HZ1 := Lib.hid hz1
  clear hb0 hg0 hb1 hg1 hz1
  go_wp2_with fail
  refine (cloneB29 p.a p.len p.cap blk w1 (rd_gr HR.out HG1.out) (by omega)).mono ?_
  rintro e w2 ⟨a', c', rfl, ho2, hg2⟩
  have hb2 := (hg2.block _ (heap_lt HB1.out) (by simp)).trans HB1.out
  have hz2 := (hg2.block _ (heap_lt HZ1.out) (by simp)).trans HZ1.out
  have hlt1 := heap_lt HZ1.out
  have c2 : w2.cell? ⟨w.heap.size, 1, none⟩ = some (.slice p.a p.len p.cap) := by rw [cell_of_block hb2]; rfl
  have f2 : w2.frozen? ⟨w.heap.size, 1, none⟩ = false := frozen_of_block hb2 1
  have hown : ∀ r, (Value.slice a' p.len c').ownBlock = some r → w1.heap.size ≤ r := fun r hr => (ho2.below r hr).1
  obtain ⟨w3, hw3⟩ : ∃ y, y = w2.setCell ⟨w.heap.size, 1, none⟩ (.slice a' p.len c') := ⟨_, rfl⟩
  have hb3 : w3.heap[w.heap.size]? = some (.cells #[.bool p.act, .slice a' p.len c', .int .i64 p.coded, .int .i64 p.fresh, .int .i64 p.ver, .int .i64 p.tries] 24 (0, 0)) := by
    rw [hw3]
    have h := heap_setCell_eq hb2 1 (.slice a' p.len c')
    simpa using h
  have hz3 := (show w3.heap[w.heap.size + 1]? = w2.heap[w.heap.size + 1]? by rw [hw3]; exact heap_setCell_ne _ _ _ _ (by simp)).trans hz2
  have hgs : w2.grownBy w3 (some w.heap.size) := by rw [hw3]; exact grown_setAt w2 w.heap.size 1 _
  have hg3 : Gr w w3 := by rw [hw3]; exact grown_set (HG1.out.trans hg2) (a := ⟨w.heap.size, 1, none⟩) (Nat.le_refl _) _
  have hne : ∀ r : Nat, r < w1.heap.size → (Value.slice a' p.len c').ownBlock = none ∨ (Value.slice a' p.len c').ownBlock ≠ some r := by
    intro r hr
    cases hv : (Value.slice a' p.len c').ownBlock with
    | none => exact .inl rfl
    | some g => exact .inr (by intro h; have := hown g hv; cases h; omega)
  have ho3 := (ho2.weak29 (B' := w.heap.size) HG1.out.size).kept hgs (hne _ (by omega))
  obtain ⟨w4, hw4⟩ : ∃ y, y = w3.setCells (w.heap.size + 1) 0 [.bool p.act, .slice a' p.len c', .int .i64 p.coded, .int .i64 p.fresh, .int .i64 p.ver, .int .i64 p.tries] := ⟨_, rfl⟩
  have hz4 := heap_setCells [.bool p.act, .slice a' p.len c', .int .i64 p.coded, .int .i64 p.fresh, .int .i64 p.ver, .int .i64 p.tries] 0 w3 _ hz3
  rw [← hw4] at hz4
  have hgs4 : w3.grownBy w4 (some (w.heap.size + 1)) := by rw [hw4]; exact grown_setCells _ _ _ _
  have hg4 : Gr w w4 := by rw [hw4]; exact grown_setCells_new hg3 (by omega) _ _
  have ho4 := ho3.kept hgs4 (hne _ hlt1)
  have hth := there_block hz3 (o := 0) (n := 6) (by simp)
  have HTH := Lib.hid hth
  have HB3 := Lib.hid hb3
  have HZ4 := Lib.hid hz4
  have HO4 := Lib.hid ho4
  have HG4 := Lib.hid hg4
  have HW4 := Lib.hid hw4
  have HW3 := Lib.hid hw3
  clear hth hb3 hz4 ho4 hg4 hw4 hw3 ho3 ho2 hgs hgs4 hg3 hg2 hz3 hz2 hb2 hne hown hlt1 c1 HB1 HZ1
  go_upto_region 2 with (fail)
  rw [← HW3.out]
  go_wp2_with (first | (refine wpList_load_w rfl 24 _ rfl w.heap.size rfl 24 _ _ _ HB3.out Tryd.underlying24 rfl (by kernel_rfl) ?_) | (refine wpList_store_mid rfl 24 _ _ rfl (w.heap.size + 1) 0 #[.bool p.act, .slice a' p.len c', .int .i64 p.coded, .int .i64 p.fresh, .int .i64 p.ver, .int .i64 p.tries] rfl rfl HTH.out (by kernel_rfl) (plist_one { p with a := a', cap := c' }) ?_; rw [← HW4.out]))
  exact bodyPost_ret (v := PVal { p with a := a', cap := c' }) (results_cell_row Tryd.results35 _ _ (w.heap.size + 1) _ _ _ _ rfl HZ4.out Tryd.underlying24 rfl (by kernel_rfl)) rfl ⟨a', c', rfl, HO4.out, HG4.out⟩
end Go.Proofs.YtcleegibdcphiaaDoor
