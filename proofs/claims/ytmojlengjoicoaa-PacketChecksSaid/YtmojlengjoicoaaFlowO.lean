/- Dice: an odd header. -/
import Derived.Test.YtmojlengjoicoaaFlowF
namespace Go.Proofs.Ytmojlengjoicoaa
open Go.ChangeShapes Go.WideShapes Go.ChangeAt Go.RowKit

def OddPost (p : Nat) (w : World) (e : Ending) (w' : World) : Prop := ∃ r : Hdr, e = .returned (HVal r) ∧ HOk r ∧ Die w' p ∧ w.grownBy w' (some p)
def oddVals : List Int := [-1, 0, 1, 2, 127, 128, 255, 256, 65535, 65536, 4294967296, 4611686018427387904]
theorem odd_val (j : Nat) (h : j < 12) : ∃ v, (oddVals.map (Value.int .i64)).toArray[j]? = some (.int .i64 v) ∧ i64 v := by
  have : j = 0 ∨ j = 1 ∨ j = 2 ∨ j = 3 ∨ j = 4 ∨ j = 5 ∨ j = 6 ∨ j = 7 ∨ j = 8 ∨ j = 9 ∨ j = 10 ∨ j = 11 := by omega
  rcases this with rfl | rfl | rfl | rfl | rfl | rfl | rfl | rfl | rfl | rfl | rfl | rfl <;> exact ⟨_, rfl, by constructor <;> decide⟩
theorem heap_ltO {w : World} {i : Nat} {o : Obj} (h : w.heap[i]? = some o) : i < w.heap.size := heap_lt h
def odd0 (h : Hdr) (x : Int) : Hdr := ⟨x, h.tos, h.id, h.fixed, h.ttl, h.frm, h.to, h.fport, h.tport, h.check, h.marker, h.type, h.seq, h.time, h.source⟩
theorem odd0_ok {h : Hdr} {x : Int} (ho : HOk h) (hx : i64 x) : HOk (odd0 h x) := by
  obtain ⟨_, o1, o2, o3, o4, o5, o6, o7, o8, o9, o10, o11, o12, o13, o14⟩ := ho
  exact ⟨hx, o1, o2, o3, o4, o5, o6, o7, o8, o9, o10, o11, o12, o13, o14⟩
def odd1 (h : Hdr) (x : Int) : Hdr := ⟨h.kind, x, h.id, h.fixed, h.ttl, h.frm, h.to, h.fport, h.tport, h.check, h.marker, h.type, h.seq, h.time, h.source⟩
theorem odd1_ok {h : Hdr} {x : Int} (ho : HOk h) (hx : i64 x) : HOk (odd1 h x) := by
  obtain ⟨o0, _, o2, o3, o4, o5, o6, o7, o8, o9, o10, o11, o12, o13, o14⟩ := ho
  exact ⟨o0, hx, o2, o3, o4, o5, o6, o7, o8, o9, o10, o11, o12, o13, o14⟩
def odd2 (h : Hdr) (x : Int) : Hdr := ⟨h.kind, h.tos, x, h.fixed, h.ttl, h.frm, h.to, h.fport, h.tport, h.check, h.marker, h.type, h.seq, h.time, h.source⟩
theorem odd2_ok {h : Hdr} {x : Int} (ho : HOk h) (hx : i64 x) : HOk (odd2 h x) := by
  obtain ⟨o0, o1, _, o3, o4, o5, o6, o7, o8, o9, o10, o11, o12, o13, o14⟩ := ho
  exact ⟨o0, o1, hx, o3, o4, o5, o6, o7, o8, o9, o10, o11, o12, o13, o14⟩
def odd3 (h : Hdr) (x : Int) : Hdr := ⟨h.kind, h.tos, h.id, x, h.ttl, h.frm, h.to, h.fport, h.tport, h.check, h.marker, h.type, h.seq, h.time, h.source⟩
theorem odd3_ok {h : Hdr} {x : Int} (ho : HOk h) (hx : i64 x) : HOk (odd3 h x) := by
  obtain ⟨o0, o1, o2, _, o4, o5, o6, o7, o8, o9, o10, o11, o12, o13, o14⟩ := ho
  exact ⟨o0, o1, o2, hx, o4, o5, o6, o7, o8, o9, o10, o11, o12, o13, o14⟩
def odd4 (h : Hdr) (x : Int) : Hdr := ⟨h.kind, h.tos, h.id, h.fixed, x, h.frm, h.to, h.fport, h.tport, h.check, h.marker, h.type, h.seq, h.time, h.source⟩
theorem odd4_ok {h : Hdr} {x : Int} (ho : HOk h) (hx : i64 x) : HOk (odd4 h x) := by
  obtain ⟨o0, o1, o2, o3, _, o5, o6, o7, o8, o9, o10, o11, o12, o13, o14⟩ := ho
  exact ⟨o0, o1, o2, o3, hx, o5, o6, o7, o8, o9, o10, o11, o12, o13, o14⟩
def odd5 (h : Hdr) (x : Int) : Hdr := ⟨h.kind, h.tos, h.id, h.fixed, h.ttl, x, h.to, h.fport, h.tport, h.check, h.marker, h.type, h.seq, h.time, h.source⟩
theorem odd5_ok {h : Hdr} {x : Int} (ho : HOk h) (hx : i64 x) : HOk (odd5 h x) := by
  obtain ⟨o0, o1, o2, o3, o4, _, o6, o7, o8, o9, o10, o11, o12, o13, o14⟩ := ho
  exact ⟨o0, o1, o2, o3, o4, hx, o6, o7, o8, o9, o10, o11, o12, o13, o14⟩
def odd6 (h : Hdr) (x : Int) : Hdr := ⟨h.kind, h.tos, h.id, h.fixed, h.ttl, h.frm, x, h.fport, h.tport, h.check, h.marker, h.type, h.seq, h.time, h.source⟩
theorem odd6_ok {h : Hdr} {x : Int} (ho : HOk h) (hx : i64 x) : HOk (odd6 h x) := by
  obtain ⟨o0, o1, o2, o3, o4, o5, _, o7, o8, o9, o10, o11, o12, o13, o14⟩ := ho
  exact ⟨o0, o1, o2, o3, o4, o5, hx, o7, o8, o9, o10, o11, o12, o13, o14⟩
def odd7 (h : Hdr) (x : Int) : Hdr := ⟨h.kind, h.tos, h.id, h.fixed, h.ttl, h.frm, h.to, x, h.tport, h.check, h.marker, h.type, h.seq, h.time, h.source⟩
theorem odd7_ok {h : Hdr} {x : Int} (ho : HOk h) (hx : i64 x) : HOk (odd7 h x) := by
  obtain ⟨o0, o1, o2, o3, o4, o5, o6, _, o8, o9, o10, o11, o12, o13, o14⟩ := ho
  exact ⟨o0, o1, o2, o3, o4, o5, o6, hx, o8, o9, o10, o11, o12, o13, o14⟩
def odd8 (h : Hdr) (x : Int) : Hdr := ⟨h.kind, h.tos, h.id, h.fixed, h.ttl, h.frm, h.to, h.fport, x, h.check, h.marker, h.type, h.seq, h.time, h.source⟩
theorem odd8_ok {h : Hdr} {x : Int} (ho : HOk h) (hx : i64 x) : HOk (odd8 h x) := by
  obtain ⟨o0, o1, o2, o3, o4, o5, o6, o7, _, o9, o10, o11, o12, o13, o14⟩ := ho
  exact ⟨o0, o1, o2, o3, o4, o5, o6, o7, hx, o9, o10, o11, o12, o13, o14⟩
def odd9 (h : Hdr) (x : Int) : Hdr := ⟨h.kind, h.tos, h.id, h.fixed, h.ttl, h.frm, h.to, h.fport, h.tport, x, h.marker, h.type, h.seq, h.time, h.source⟩
theorem odd9_ok {h : Hdr} {x : Int} (ho : HOk h) (hx : i64 x) : HOk (odd9 h x) := by
  obtain ⟨o0, o1, o2, o3, o4, o5, o6, o7, o8, _, o10, o11, o12, o13, o14⟩ := ho
  exact ⟨o0, o1, o2, o3, o4, o5, o6, o7, o8, hx, o10, o11, o12, o13, o14⟩
def odd10 (h : Hdr) (x : Int) : Hdr := ⟨h.kind, h.tos, h.id, h.fixed, h.ttl, h.frm, h.to, h.fport, h.tport, h.check, x, h.type, h.seq, h.time, h.source⟩
theorem odd10_ok {h : Hdr} {x : Int} (ho : HOk h) (hx : i64 x) : HOk (odd10 h x) := by
  obtain ⟨o0, o1, o2, o3, o4, o5, o6, o7, o8, o9, _, o11, o12, o13, o14⟩ := ho
  exact ⟨o0, o1, o2, o3, o4, o5, o6, o7, o8, o9, hx, o11, o12, o13, o14⟩
def odd11 (h : Hdr) (x : Int) : Hdr := ⟨h.kind, h.tos, h.id, h.fixed, h.ttl, h.frm, h.to, h.fport, h.tport, h.check, h.marker, x, h.seq, h.time, h.source⟩
theorem odd11_ok {h : Hdr} {x : Int} (ho : HOk h) (hx : i64 x) : HOk (odd11 h x) := by
  obtain ⟨o0, o1, o2, o3, o4, o5, o6, o7, o8, o9, o10, _, o12, o13, o14⟩ := ho
  exact ⟨o0, o1, o2, o3, o4, o5, o6, o7, o8, o9, o10, hx, o12, o13, o14⟩
def odd12 (h : Hdr) (x : Int) : Hdr := ⟨h.kind, h.tos, h.id, h.fixed, h.ttl, h.frm, h.to, h.fport, h.tport, h.check, h.marker, h.type, x, h.time, h.source⟩
theorem odd12_ok {h : Hdr} {x : Int} (ho : HOk h) (hx : i64 x) : HOk (odd12 h x) := by
  obtain ⟨o0, o1, o2, o3, o4, o5, o6, o7, o8, o9, o10, o11, _, o13, o14⟩ := ho
  exact ⟨o0, o1, o2, o3, o4, o5, o6, o7, o8, o9, o10, o11, hx, o13, o14⟩
def odd13 (h : Hdr) (x : Int) : Hdr := ⟨h.kind, h.tos, h.id, h.fixed, h.ttl, h.frm, h.to, h.fport, h.tport, h.check, h.marker, h.type, h.seq, x, h.source⟩
theorem odd13_ok {h : Hdr} {x : Int} (ho : HOk h) (hx : i64 x) : HOk (odd13 h x) := by
  obtain ⟨o0, o1, o2, o3, o4, o5, o6, o7, o8, o9, o10, o11, o12, _, o14⟩ := ho
  exact ⟨o0, o1, o2, o3, o4, o5, o6, o7, o8, o9, o10, o11, o12, hx, o14⟩
def odd14 (h : Hdr) (x : Int) : Hdr := ⟨h.kind, h.tos, h.id, h.fixed, h.ttl, h.frm, h.to, h.fport, h.tport, h.check, h.marker, h.type, h.seq, h.time, x⟩
theorem odd14_ok {h : Hdr} {x : Int} (ho : HOk h) (hx : i64 x) : HOk (odd14 h x) := by
  obtain ⟨o0, o1, o2, o3, o4, o5, o6, o7, o8, o9, o10, o11, o12, o13, _⟩ := ho
  exact ⟨o0, o1, o2, o3, o4, o5, o6, o7, o8, o9, o10, o11, o12, o13, hx⟩
-- the end: R is the result
-- one field is written, then the end
set_option maxRecDepth 100000 in
set_option maxHeartbeats 4000000 in
theorem odd_any (p : Nat) (h : Hdr) (w : World) (hd : Die w p) (ho : HOk h) : Calls Try.prog 37 #[.pointer (some ⟨p, 0, none⟩), HVal h] w (OddPost p w) := by
  have hplt := hd.lt
  have HD := Lib.hid hd
  have HO := Lib.hid ho
  clear hd ho
  go_enter Try.func37, Try.ntmps37
  go_upto_region 1 with (fail)
  obtain ⟨w1, hw1⟩ : ∃ y, y = (w.alloc (.cells (HCells h).toArray 29)).alloc (.cells (HCells zeroH).toArray 29) := ⟨_, rfl⟩
  have hr1 : HRel p h w w1 := by
    rw [hw1]
    exact ⟨heap_alloc2_old _ _ _, heap_alloc2_new _ _ _, HD.out.kept ((Gr.alloc _ _).trans (Gr.alloc _ _)) (by simp), grown_weak ((Gr.alloc _ _).trans (Gr.alloc _ _)) _⟩
  simp only [HCells, zeroH] at hw1
  rw [← hw1]
  have hz1 : w1.heap.size = w.heap.size + 2 := by rw [hw1]; simp
  have HR1 := Lib.hid hr1
  clear hw1 hr1
  go_wp2_with fail
  refine (next_any p 12 _ (HR1.out.2.2.1.kept (Gr.alloc _ _) (by simp)) (by omega) (by omega)).mono ?_
  rintro e w2 ⟨j, rfl, j1, j2, hd2, hg2⟩
  obtain ⟨jn, rfl⟩ : ∃ n : Nat, j = n := ⟨j.toNat, by omega⟩
  obtain ⟨v, hv, hvi⟩ := odd_val jn (by omega)
  have hblk : w2.heap[w1.heap.size]? = some (.cells (oddVals.map (Value.int .i64)).toArray 3 (0, 0)) := blk_kept (heap_alloc_new _ _) hg2 (by simp; omega)
  rw [hz1] at hblk
  have kc : w2.cell? ⟨w.heap.size + 2, jn, none⟩ = some (.int .i64 v) := by rw [cell_of_block hblk]; exact hv
  have HR2 := Lib.hid (HR1.out.dice hplt hd2 (grown_trans' (grown_weak (Gr.alloc _ _) _) hg2))
  have HVI := Lib.hid hvi
  clear hd2 hg2 hv hvi hblk HR1
  have hj : jn < 12 := by omega
  go_wp2_with fail
  refine (next_any p 15 _ HR2.out.2.2.1 (by omega) (by omega)).mono ?_
  rintro e w3 ⟨u, rfl, u1, u2, hd3, hg3⟩
  have HR3 := Lib.hid (HR2.out.dice hplt hd3 hg3)
  clear hd3 hg3 kc hj j1 j2 HR2
  have hu : u = 0 ∨ u = 1 ∨ u = 2 ∨ u = 3 ∨ u = 4 ∨ u = 5 ∨ u = 6 ∨ u = 7 ∨ u = 8 ∨ u = 9 ∨ u = 10 ∨ u = 11 ∨ u = 12 ∨ u = 13 ∨ u = 14 := by omega
  clear u1 u2
  rcases hu with rfl | rfl | rfl | rfl | rfl | rfl | rfl | rfl | rfl | rfl | rfl | rfl | rfl | rfl | rfl
  · have x1 : w3.cell? ⟨w.heap.size, 0, none⟩ = some (.int .i64 h.kind) := HR3.out.at 0 rfl
    have f1 := HR3.out.1.fz 0
    go_upto_region 32 with (fail)
    clear x1 f1
    obtain ⟨w19, hw19⟩ : ∃ y, y = w3.setCell ⟨w.heap.size, 0, none⟩ (.int .i64 v) := ⟨_, rfl⟩
    rw [← hw19]
    have HRS := Lib.hid (show HRel p (odd0 h v) w w19 by rw [hw19]; exact HR3.out.set hplt 0 _ rfl)
    clear hw19
    have hr' := (HRS).out.1
    unfold HBlk at hr'
    have HRR := Lib.hid hr'
    obtain ⟨w9, hw9⟩ : ∃ y, y = (w19).setCells (w.heap.size + 1) 0 (HCells ((odd0 h v))).toArray.toList := ⟨_, rfl⟩
    have HBE := Lib.hid (show HBlk (w.heap.size + 1) ((odd0 h v)) w9 by rw [hw9]; exact (HRS).out.2.1.put ((odd0 h v)))
    have HTH := Lib.hid ((HRS).out.2.1.there)
    have HGE := Lib.hid (show w.grownBy w9 (some p) by rw [hw9]; exact grown_setCells_new (HRS).out.2.2.2 (by omega) _ _)
    have HDE := Lib.hid (show Die w9 p by rw [hw9]; exact (HRS).out.2.2.1.kept (grown_setCells (w.heap.size + 1) _ _ _) (by simp; omega))
    have HW9 := Lib.hid hw9
    clear hr' hw9
    go_wp2_with (first | (refine wpList_load_row rfl 29 _ rfl w.heap.size rfl 29 _ _ _ HRR.out Try.underlying29 rfl (by kernel_rfl) ?_) | (refine wpList_store_mid rfl 29 _ _ rfl (w.heap.size + 1) 0 (HCells ((odd0 h v))).toArray rfl rfl HTH.out (by kernel_rfl) (hcells_one _) ?_; rw [← HW9.out]))
    exact bodyPost_ret (v := HVal ((odd0 h v))) (results_cell_row Try.results37 _ _ (w.heap.size + 1) _ _ _ _ rfl HBE.out Try.underlying29 rfl (by kernel_rfl)) rfl ⟨(odd0 h v), rfl, odd0_ok HO.out HVI.out, HDE.out, HGE.out⟩
  · have x1 : w3.cell? ⟨w.heap.size, 1, none⟩ = some (.int .i64 h.tos) := HR3.out.at 1 rfl
    have f1 := HR3.out.1.fz 1
    go_upto_region 32 with (fail)
    clear x1 f1
    obtain ⟨w19, hw19⟩ : ∃ y, y = w3.setCell ⟨w.heap.size, 1, none⟩ (.int .i64 v) := ⟨_, rfl⟩
    rw [← hw19]
    have HRS := Lib.hid (show HRel p (odd1 h v) w w19 by rw [hw19]; exact HR3.out.set hplt 1 _ rfl)
    clear hw19
    have hr' := (HRS).out.1
    unfold HBlk at hr'
    have HRR := Lib.hid hr'
    obtain ⟨w9, hw9⟩ : ∃ y, y = (w19).setCells (w.heap.size + 1) 0 (HCells ((odd1 h v))).toArray.toList := ⟨_, rfl⟩
    have HBE := Lib.hid (show HBlk (w.heap.size + 1) ((odd1 h v)) w9 by rw [hw9]; exact (HRS).out.2.1.put ((odd1 h v)))
    have HTH := Lib.hid ((HRS).out.2.1.there)
    have HGE := Lib.hid (show w.grownBy w9 (some p) by rw [hw9]; exact grown_setCells_new (HRS).out.2.2.2 (by omega) _ _)
    have HDE := Lib.hid (show Die w9 p by rw [hw9]; exact (HRS).out.2.2.1.kept (grown_setCells (w.heap.size + 1) _ _ _) (by simp; omega))
    have HW9 := Lib.hid hw9
    clear hr' hw9
    go_wp2_with (first | (refine wpList_load_row rfl 29 _ rfl w.heap.size rfl 29 _ _ _ HRR.out Try.underlying29 rfl (by kernel_rfl) ?_) | (refine wpList_store_mid rfl 29 _ _ rfl (w.heap.size + 1) 0 (HCells ((odd1 h v))).toArray rfl rfl HTH.out (by kernel_rfl) (hcells_one _) ?_; rw [← HW9.out]))
    exact bodyPost_ret (v := HVal ((odd1 h v))) (results_cell_row Try.results37 _ _ (w.heap.size + 1) _ _ _ _ rfl HBE.out Try.underlying29 rfl (by kernel_rfl)) rfl ⟨(odd1 h v), rfl, odd1_ok HO.out HVI.out, HDE.out, HGE.out⟩
  · have x1 : w3.cell? ⟨w.heap.size, 2, none⟩ = some (.int .i64 h.id) := HR3.out.at 2 rfl
    have f1 := HR3.out.1.fz 2
    go_upto_region 32 with (fail)
    clear x1 f1
    obtain ⟨w19, hw19⟩ : ∃ y, y = w3.setCell ⟨w.heap.size, 2, none⟩ (.int .i64 v) := ⟨_, rfl⟩
    rw [← hw19]
    have HRS := Lib.hid (show HRel p (odd2 h v) w w19 by rw [hw19]; exact HR3.out.set hplt 2 _ rfl)
    clear hw19
    have hr' := (HRS).out.1
    unfold HBlk at hr'
    have HRR := Lib.hid hr'
    obtain ⟨w9, hw9⟩ : ∃ y, y = (w19).setCells (w.heap.size + 1) 0 (HCells ((odd2 h v))).toArray.toList := ⟨_, rfl⟩
    have HBE := Lib.hid (show HBlk (w.heap.size + 1) ((odd2 h v)) w9 by rw [hw9]; exact (HRS).out.2.1.put ((odd2 h v)))
    have HTH := Lib.hid ((HRS).out.2.1.there)
    have HGE := Lib.hid (show w.grownBy w9 (some p) by rw [hw9]; exact grown_setCells_new (HRS).out.2.2.2 (by omega) _ _)
    have HDE := Lib.hid (show Die w9 p by rw [hw9]; exact (HRS).out.2.2.1.kept (grown_setCells (w.heap.size + 1) _ _ _) (by simp; omega))
    have HW9 := Lib.hid hw9
    clear hr' hw9
    go_wp2_with (first | (refine wpList_load_row rfl 29 _ rfl w.heap.size rfl 29 _ _ _ HRR.out Try.underlying29 rfl (by kernel_rfl) ?_) | (refine wpList_store_mid rfl 29 _ _ rfl (w.heap.size + 1) 0 (HCells ((odd2 h v))).toArray rfl rfl HTH.out (by kernel_rfl) (hcells_one _) ?_; rw [← HW9.out]))
    exact bodyPost_ret (v := HVal ((odd2 h v))) (results_cell_row Try.results37 _ _ (w.heap.size + 1) _ _ _ _ rfl HBE.out Try.underlying29 rfl (by kernel_rfl)) rfl ⟨(odd2 h v), rfl, odd2_ok HO.out HVI.out, HDE.out, HGE.out⟩
  · have x1 : w3.cell? ⟨w.heap.size, 3, none⟩ = some (.int .i64 h.fixed) := HR3.out.at 3 rfl
    have f1 := HR3.out.1.fz 3
    go_upto_region 32 with (fail)
    clear x1 f1
    obtain ⟨w19, hw19⟩ : ∃ y, y = w3.setCell ⟨w.heap.size, 3, none⟩ (.int .i64 v) := ⟨_, rfl⟩
    rw [← hw19]
    have HRS := Lib.hid (show HRel p (odd3 h v) w w19 by rw [hw19]; exact HR3.out.set hplt 3 _ rfl)
    clear hw19
    have hr' := (HRS).out.1
    unfold HBlk at hr'
    have HRR := Lib.hid hr'
    obtain ⟨w9, hw9⟩ : ∃ y, y = (w19).setCells (w.heap.size + 1) 0 (HCells ((odd3 h v))).toArray.toList := ⟨_, rfl⟩
    have HBE := Lib.hid (show HBlk (w.heap.size + 1) ((odd3 h v)) w9 by rw [hw9]; exact (HRS).out.2.1.put ((odd3 h v)))
    have HTH := Lib.hid ((HRS).out.2.1.there)
    have HGE := Lib.hid (show w.grownBy w9 (some p) by rw [hw9]; exact grown_setCells_new (HRS).out.2.2.2 (by omega) _ _)
    have HDE := Lib.hid (show Die w9 p by rw [hw9]; exact (HRS).out.2.2.1.kept (grown_setCells (w.heap.size + 1) _ _ _) (by simp; omega))
    have HW9 := Lib.hid hw9
    clear hr' hw9
    go_wp2_with (first | (refine wpList_load_row rfl 29 _ rfl w.heap.size rfl 29 _ _ _ HRR.out Try.underlying29 rfl (by kernel_rfl) ?_) | (refine wpList_store_mid rfl 29 _ _ rfl (w.heap.size + 1) 0 (HCells ((odd3 h v))).toArray rfl rfl HTH.out (by kernel_rfl) (hcells_one _) ?_; rw [← HW9.out]))
    exact bodyPost_ret (v := HVal ((odd3 h v))) (results_cell_row Try.results37 _ _ (w.heap.size + 1) _ _ _ _ rfl HBE.out Try.underlying29 rfl (by kernel_rfl)) rfl ⟨(odd3 h v), rfl, odd3_ok HO.out HVI.out, HDE.out, HGE.out⟩
  · have x1 : w3.cell? ⟨w.heap.size, 4, none⟩ = some (.int .i64 h.ttl) := HR3.out.at 4 rfl
    have f1 := HR3.out.1.fz 4
    go_upto_region 32 with (fail)
    clear x1 f1
    obtain ⟨w19, hw19⟩ : ∃ y, y = w3.setCell ⟨w.heap.size, 4, none⟩ (.int .i64 v) := ⟨_, rfl⟩
    rw [← hw19]
    have HRS := Lib.hid (show HRel p (odd4 h v) w w19 by rw [hw19]; exact HR3.out.set hplt 4 _ rfl)
    clear hw19
    have hr' := (HRS).out.1
    unfold HBlk at hr'
    have HRR := Lib.hid hr'
    obtain ⟨w9, hw9⟩ : ∃ y, y = (w19).setCells (w.heap.size + 1) 0 (HCells ((odd4 h v))).toArray.toList := ⟨_, rfl⟩
    have HBE := Lib.hid (show HBlk (w.heap.size + 1) ((odd4 h v)) w9 by rw [hw9]; exact (HRS).out.2.1.put ((odd4 h v)))
    have HTH := Lib.hid ((HRS).out.2.1.there)
    have HGE := Lib.hid (show w.grownBy w9 (some p) by rw [hw9]; exact grown_setCells_new (HRS).out.2.2.2 (by omega) _ _)
    have HDE := Lib.hid (show Die w9 p by rw [hw9]; exact (HRS).out.2.2.1.kept (grown_setCells (w.heap.size + 1) _ _ _) (by simp; omega))
    have HW9 := Lib.hid hw9
    clear hr' hw9
    go_wp2_with (first | (refine wpList_load_row rfl 29 _ rfl w.heap.size rfl 29 _ _ _ HRR.out Try.underlying29 rfl (by kernel_rfl) ?_) | (refine wpList_store_mid rfl 29 _ _ rfl (w.heap.size + 1) 0 (HCells ((odd4 h v))).toArray rfl rfl HTH.out (by kernel_rfl) (hcells_one _) ?_; rw [← HW9.out]))
    exact bodyPost_ret (v := HVal ((odd4 h v))) (results_cell_row Try.results37 _ _ (w.heap.size + 1) _ _ _ _ rfl HBE.out Try.underlying29 rfl (by kernel_rfl)) rfl ⟨(odd4 h v), rfl, odd4_ok HO.out HVI.out, HDE.out, HGE.out⟩
  · have x1 : w3.cell? ⟨w.heap.size, 5, none⟩ = some (.int .i64 h.frm) := HR3.out.at 5 rfl
    have f1 := HR3.out.1.fz 5
    go_upto_region 32 with (fail)
    clear x1 f1
    obtain ⟨w19, hw19⟩ : ∃ y, y = w3.setCell ⟨w.heap.size, 5, none⟩ (.int .i64 v) := ⟨_, rfl⟩
    rw [← hw19]
    have HRS := Lib.hid (show HRel p (odd5 h v) w w19 by rw [hw19]; exact HR3.out.set hplt 5 _ rfl)
    clear hw19
    have hr' := (HRS).out.1
    unfold HBlk at hr'
    have HRR := Lib.hid hr'
    obtain ⟨w9, hw9⟩ : ∃ y, y = (w19).setCells (w.heap.size + 1) 0 (HCells ((odd5 h v))).toArray.toList := ⟨_, rfl⟩
    have HBE := Lib.hid (show HBlk (w.heap.size + 1) ((odd5 h v)) w9 by rw [hw9]; exact (HRS).out.2.1.put ((odd5 h v)))
    have HTH := Lib.hid ((HRS).out.2.1.there)
    have HGE := Lib.hid (show w.grownBy w9 (some p) by rw [hw9]; exact grown_setCells_new (HRS).out.2.2.2 (by omega) _ _)
    have HDE := Lib.hid (show Die w9 p by rw [hw9]; exact (HRS).out.2.2.1.kept (grown_setCells (w.heap.size + 1) _ _ _) (by simp; omega))
    have HW9 := Lib.hid hw9
    clear hr' hw9
    go_wp2_with (first | (refine wpList_load_row rfl 29 _ rfl w.heap.size rfl 29 _ _ _ HRR.out Try.underlying29 rfl (by kernel_rfl) ?_) | (refine wpList_store_mid rfl 29 _ _ rfl (w.heap.size + 1) 0 (HCells ((odd5 h v))).toArray rfl rfl HTH.out (by kernel_rfl) (hcells_one _) ?_; rw [← HW9.out]))
    exact bodyPost_ret (v := HVal ((odd5 h v))) (results_cell_row Try.results37 _ _ (w.heap.size + 1) _ _ _ _ rfl HBE.out Try.underlying29 rfl (by kernel_rfl)) rfl ⟨(odd5 h v), rfl, odd5_ok HO.out HVI.out, HDE.out, HGE.out⟩
  · have x1 : w3.cell? ⟨w.heap.size, 6, none⟩ = some (.int .i64 h.to) := HR3.out.at 6 rfl
    have f1 := HR3.out.1.fz 6
    go_upto_region 32 with (fail)
    clear x1 f1
    obtain ⟨w19, hw19⟩ : ∃ y, y = w3.setCell ⟨w.heap.size, 6, none⟩ (.int .i64 v) := ⟨_, rfl⟩
    rw [← hw19]
    have HRS := Lib.hid (show HRel p (odd6 h v) w w19 by rw [hw19]; exact HR3.out.set hplt 6 _ rfl)
    clear hw19
    have hr' := (HRS).out.1
    unfold HBlk at hr'
    have HRR := Lib.hid hr'
    obtain ⟨w9, hw9⟩ : ∃ y, y = (w19).setCells (w.heap.size + 1) 0 (HCells ((odd6 h v))).toArray.toList := ⟨_, rfl⟩
    have HBE := Lib.hid (show HBlk (w.heap.size + 1) ((odd6 h v)) w9 by rw [hw9]; exact (HRS).out.2.1.put ((odd6 h v)))
    have HTH := Lib.hid ((HRS).out.2.1.there)
    have HGE := Lib.hid (show w.grownBy w9 (some p) by rw [hw9]; exact grown_setCells_new (HRS).out.2.2.2 (by omega) _ _)
    have HDE := Lib.hid (show Die w9 p by rw [hw9]; exact (HRS).out.2.2.1.kept (grown_setCells (w.heap.size + 1) _ _ _) (by simp; omega))
    have HW9 := Lib.hid hw9
    clear hr' hw9
    go_wp2_with (first | (refine wpList_load_row rfl 29 _ rfl w.heap.size rfl 29 _ _ _ HRR.out Try.underlying29 rfl (by kernel_rfl) ?_) | (refine wpList_store_mid rfl 29 _ _ rfl (w.heap.size + 1) 0 (HCells ((odd6 h v))).toArray rfl rfl HTH.out (by kernel_rfl) (hcells_one _) ?_; rw [← HW9.out]))
    exact bodyPost_ret (v := HVal ((odd6 h v))) (results_cell_row Try.results37 _ _ (w.heap.size + 1) _ _ _ _ rfl HBE.out Try.underlying29 rfl (by kernel_rfl)) rfl ⟨(odd6 h v), rfl, odd6_ok HO.out HVI.out, HDE.out, HGE.out⟩
  · have x1 : w3.cell? ⟨w.heap.size, 7, none⟩ = some (.int .i64 h.fport) := HR3.out.at 7 rfl
    have f1 := HR3.out.1.fz 7
    go_upto_region 32 with (fail)
    clear x1 f1
    obtain ⟨w19, hw19⟩ : ∃ y, y = w3.setCell ⟨w.heap.size, 7, none⟩ (.int .i64 v) := ⟨_, rfl⟩
    rw [← hw19]
    have HRS := Lib.hid (show HRel p (odd7 h v) w w19 by rw [hw19]; exact HR3.out.set hplt 7 _ rfl)
    clear hw19
    have hr' := (HRS).out.1
    unfold HBlk at hr'
    have HRR := Lib.hid hr'
    obtain ⟨w9, hw9⟩ : ∃ y, y = (w19).setCells (w.heap.size + 1) 0 (HCells ((odd7 h v))).toArray.toList := ⟨_, rfl⟩
    have HBE := Lib.hid (show HBlk (w.heap.size + 1) ((odd7 h v)) w9 by rw [hw9]; exact (HRS).out.2.1.put ((odd7 h v)))
    have HTH := Lib.hid ((HRS).out.2.1.there)
    have HGE := Lib.hid (show w.grownBy w9 (some p) by rw [hw9]; exact grown_setCells_new (HRS).out.2.2.2 (by omega) _ _)
    have HDE := Lib.hid (show Die w9 p by rw [hw9]; exact (HRS).out.2.2.1.kept (grown_setCells (w.heap.size + 1) _ _ _) (by simp; omega))
    have HW9 := Lib.hid hw9
    clear hr' hw9
    go_wp2_with (first | (refine wpList_load_row rfl 29 _ rfl w.heap.size rfl 29 _ _ _ HRR.out Try.underlying29 rfl (by kernel_rfl) ?_) | (refine wpList_store_mid rfl 29 _ _ rfl (w.heap.size + 1) 0 (HCells ((odd7 h v))).toArray rfl rfl HTH.out (by kernel_rfl) (hcells_one _) ?_; rw [← HW9.out]))
    exact bodyPost_ret (v := HVal ((odd7 h v))) (results_cell_row Try.results37 _ _ (w.heap.size + 1) _ _ _ _ rfl HBE.out Try.underlying29 rfl (by kernel_rfl)) rfl ⟨(odd7 h v), rfl, odd7_ok HO.out HVI.out, HDE.out, HGE.out⟩
  · have x1 : w3.cell? ⟨w.heap.size, 8, none⟩ = some (.int .i64 h.tport) := HR3.out.at 8 rfl
    have f1 := HR3.out.1.fz 8
    go_upto_region 32 with (fail)
    clear x1 f1
    obtain ⟨w19, hw19⟩ : ∃ y, y = w3.setCell ⟨w.heap.size, 8, none⟩ (.int .i64 v) := ⟨_, rfl⟩
    rw [← hw19]
    have HRS := Lib.hid (show HRel p (odd8 h v) w w19 by rw [hw19]; exact HR3.out.set hplt 8 _ rfl)
    clear hw19
    have hr' := (HRS).out.1
    unfold HBlk at hr'
    have HRR := Lib.hid hr'
    obtain ⟨w9, hw9⟩ : ∃ y, y = (w19).setCells (w.heap.size + 1) 0 (HCells ((odd8 h v))).toArray.toList := ⟨_, rfl⟩
    have HBE := Lib.hid (show HBlk (w.heap.size + 1) ((odd8 h v)) w9 by rw [hw9]; exact (HRS).out.2.1.put ((odd8 h v)))
    have HTH := Lib.hid ((HRS).out.2.1.there)
    have HGE := Lib.hid (show w.grownBy w9 (some p) by rw [hw9]; exact grown_setCells_new (HRS).out.2.2.2 (by omega) _ _)
    have HDE := Lib.hid (show Die w9 p by rw [hw9]; exact (HRS).out.2.2.1.kept (grown_setCells (w.heap.size + 1) _ _ _) (by simp; omega))
    have HW9 := Lib.hid hw9
    clear hr' hw9
    go_wp2_with (first | (refine wpList_load_row rfl 29 _ rfl w.heap.size rfl 29 _ _ _ HRR.out Try.underlying29 rfl (by kernel_rfl) ?_) | (refine wpList_store_mid rfl 29 _ _ rfl (w.heap.size + 1) 0 (HCells ((odd8 h v))).toArray rfl rfl HTH.out (by kernel_rfl) (hcells_one _) ?_; rw [← HW9.out]))
    exact bodyPost_ret (v := HVal ((odd8 h v))) (results_cell_row Try.results37 _ _ (w.heap.size + 1) _ _ _ _ rfl HBE.out Try.underlying29 rfl (by kernel_rfl)) rfl ⟨(odd8 h v), rfl, odd8_ok HO.out HVI.out, HDE.out, HGE.out⟩
  · have x1 : w3.cell? ⟨w.heap.size, 9, none⟩ = some (.int .i64 h.check) := HR3.out.at 9 rfl
    have f1 := HR3.out.1.fz 9
    go_upto_region 32 with (fail)
    clear x1 f1
    obtain ⟨w19, hw19⟩ : ∃ y, y = w3.setCell ⟨w.heap.size, 9, none⟩ (.int .i64 v) := ⟨_, rfl⟩
    rw [← hw19]
    have HRS := Lib.hid (show HRel p (odd9 h v) w w19 by rw [hw19]; exact HR3.out.set hplt 9 _ rfl)
    clear hw19
    have hr' := (HRS).out.1
    unfold HBlk at hr'
    have HRR := Lib.hid hr'
    obtain ⟨w9, hw9⟩ : ∃ y, y = (w19).setCells (w.heap.size + 1) 0 (HCells ((odd9 h v))).toArray.toList := ⟨_, rfl⟩
    have HBE := Lib.hid (show HBlk (w.heap.size + 1) ((odd9 h v)) w9 by rw [hw9]; exact (HRS).out.2.1.put ((odd9 h v)))
    have HTH := Lib.hid ((HRS).out.2.1.there)
    have HGE := Lib.hid (show w.grownBy w9 (some p) by rw [hw9]; exact grown_setCells_new (HRS).out.2.2.2 (by omega) _ _)
    have HDE := Lib.hid (show Die w9 p by rw [hw9]; exact (HRS).out.2.2.1.kept (grown_setCells (w.heap.size + 1) _ _ _) (by simp; omega))
    have HW9 := Lib.hid hw9
    clear hr' hw9
    go_wp2_with (first | (refine wpList_load_row rfl 29 _ rfl w.heap.size rfl 29 _ _ _ HRR.out Try.underlying29 rfl (by kernel_rfl) ?_) | (refine wpList_store_mid rfl 29 _ _ rfl (w.heap.size + 1) 0 (HCells ((odd9 h v))).toArray rfl rfl HTH.out (by kernel_rfl) (hcells_one _) ?_; rw [← HW9.out]))
    exact bodyPost_ret (v := HVal ((odd9 h v))) (results_cell_row Try.results37 _ _ (w.heap.size + 1) _ _ _ _ rfl HBE.out Try.underlying29 rfl (by kernel_rfl)) rfl ⟨(odd9 h v), rfl, odd9_ok HO.out HVI.out, HDE.out, HGE.out⟩
  · have x1 : w3.cell? ⟨w.heap.size, 10, none⟩ = some (.int .i64 h.marker) := HR3.out.at 10 rfl
    have f1 := HR3.out.1.fz 10
    go_upto_region 32 with (fail)
    clear x1 f1
    obtain ⟨w19, hw19⟩ : ∃ y, y = w3.setCell ⟨w.heap.size, 10, none⟩ (.int .i64 v) := ⟨_, rfl⟩
    rw [← hw19]
    have HRS := Lib.hid (show HRel p (odd10 h v) w w19 by rw [hw19]; exact HR3.out.set hplt 10 _ rfl)
    clear hw19
    have hr' := (HRS).out.1
    unfold HBlk at hr'
    have HRR := Lib.hid hr'
    obtain ⟨w9, hw9⟩ : ∃ y, y = (w19).setCells (w.heap.size + 1) 0 (HCells ((odd10 h v))).toArray.toList := ⟨_, rfl⟩
    have HBE := Lib.hid (show HBlk (w.heap.size + 1) ((odd10 h v)) w9 by rw [hw9]; exact (HRS).out.2.1.put ((odd10 h v)))
    have HTH := Lib.hid ((HRS).out.2.1.there)
    have HGE := Lib.hid (show w.grownBy w9 (some p) by rw [hw9]; exact grown_setCells_new (HRS).out.2.2.2 (by omega) _ _)
    have HDE := Lib.hid (show Die w9 p by rw [hw9]; exact (HRS).out.2.2.1.kept (grown_setCells (w.heap.size + 1) _ _ _) (by simp; omega))
    have HW9 := Lib.hid hw9
    clear hr' hw9
    go_wp2_with (first | (refine wpList_load_row rfl 29 _ rfl w.heap.size rfl 29 _ _ _ HRR.out Try.underlying29 rfl (by kernel_rfl) ?_) | (refine wpList_store_mid rfl 29 _ _ rfl (w.heap.size + 1) 0 (HCells ((odd10 h v))).toArray rfl rfl HTH.out (by kernel_rfl) (hcells_one _) ?_; rw [← HW9.out]))
    exact bodyPost_ret (v := HVal ((odd10 h v))) (results_cell_row Try.results37 _ _ (w.heap.size + 1) _ _ _ _ rfl HBE.out Try.underlying29 rfl (by kernel_rfl)) rfl ⟨(odd10 h v), rfl, odd10_ok HO.out HVI.out, HDE.out, HGE.out⟩
  · have x1 : w3.cell? ⟨w.heap.size, 11, none⟩ = some (.int .i64 h.type) := HR3.out.at 11 rfl
    have f1 := HR3.out.1.fz 11
    go_upto_region 32 with (fail)
    clear x1 f1
    obtain ⟨w19, hw19⟩ : ∃ y, y = w3.setCell ⟨w.heap.size, 11, none⟩ (.int .i64 v) := ⟨_, rfl⟩
    rw [← hw19]
    have HRS := Lib.hid (show HRel p (odd11 h v) w w19 by rw [hw19]; exact HR3.out.set hplt 11 _ rfl)
    clear hw19
    have hr' := (HRS).out.1
    unfold HBlk at hr'
    have HRR := Lib.hid hr'
    obtain ⟨w9, hw9⟩ : ∃ y, y = (w19).setCells (w.heap.size + 1) 0 (HCells ((odd11 h v))).toArray.toList := ⟨_, rfl⟩
    have HBE := Lib.hid (show HBlk (w.heap.size + 1) ((odd11 h v)) w9 by rw [hw9]; exact (HRS).out.2.1.put ((odd11 h v)))
    have HTH := Lib.hid ((HRS).out.2.1.there)
    have HGE := Lib.hid (show w.grownBy w9 (some p) by rw [hw9]; exact grown_setCells_new (HRS).out.2.2.2 (by omega) _ _)
    have HDE := Lib.hid (show Die w9 p by rw [hw9]; exact (HRS).out.2.2.1.kept (grown_setCells (w.heap.size + 1) _ _ _) (by simp; omega))
    have HW9 := Lib.hid hw9
    clear hr' hw9
    go_wp2_with (first | (refine wpList_load_row rfl 29 _ rfl w.heap.size rfl 29 _ _ _ HRR.out Try.underlying29 rfl (by kernel_rfl) ?_) | (refine wpList_store_mid rfl 29 _ _ rfl (w.heap.size + 1) 0 (HCells ((odd11 h v))).toArray rfl rfl HTH.out (by kernel_rfl) (hcells_one _) ?_; rw [← HW9.out]))
    exact bodyPost_ret (v := HVal ((odd11 h v))) (results_cell_row Try.results37 _ _ (w.heap.size + 1) _ _ _ _ rfl HBE.out Try.underlying29 rfl (by kernel_rfl)) rfl ⟨(odd11 h v), rfl, odd11_ok HO.out HVI.out, HDE.out, HGE.out⟩
  · have x1 : w3.cell? ⟨w.heap.size, 12, none⟩ = some (.int .i64 h.seq) := HR3.out.at 12 rfl
    have f1 := HR3.out.1.fz 12
    go_upto_region 32 with (fail)
    clear x1 f1
    obtain ⟨w19, hw19⟩ : ∃ y, y = w3.setCell ⟨w.heap.size, 12, none⟩ (.int .i64 v) := ⟨_, rfl⟩
    rw [← hw19]
    have HRS := Lib.hid (show HRel p (odd12 h v) w w19 by rw [hw19]; exact HR3.out.set hplt 12 _ rfl)
    clear hw19
    have hr' := (HRS).out.1
    unfold HBlk at hr'
    have HRR := Lib.hid hr'
    obtain ⟨w9, hw9⟩ : ∃ y, y = (w19).setCells (w.heap.size + 1) 0 (HCells ((odd12 h v))).toArray.toList := ⟨_, rfl⟩
    have HBE := Lib.hid (show HBlk (w.heap.size + 1) ((odd12 h v)) w9 by rw [hw9]; exact (HRS).out.2.1.put ((odd12 h v)))
    have HTH := Lib.hid ((HRS).out.2.1.there)
    have HGE := Lib.hid (show w.grownBy w9 (some p) by rw [hw9]; exact grown_setCells_new (HRS).out.2.2.2 (by omega) _ _)
    have HDE := Lib.hid (show Die w9 p by rw [hw9]; exact (HRS).out.2.2.1.kept (grown_setCells (w.heap.size + 1) _ _ _) (by simp; omega))
    have HW9 := Lib.hid hw9
    clear hr' hw9
    go_wp2_with (first | (refine wpList_load_row rfl 29 _ rfl w.heap.size rfl 29 _ _ _ HRR.out Try.underlying29 rfl (by kernel_rfl) ?_) | (refine wpList_store_mid rfl 29 _ _ rfl (w.heap.size + 1) 0 (HCells ((odd12 h v))).toArray rfl rfl HTH.out (by kernel_rfl) (hcells_one _) ?_; rw [← HW9.out]))
    exact bodyPost_ret (v := HVal ((odd12 h v))) (results_cell_row Try.results37 _ _ (w.heap.size + 1) _ _ _ _ rfl HBE.out Try.underlying29 rfl (by kernel_rfl)) rfl ⟨(odd12 h v), rfl, odd12_ok HO.out HVI.out, HDE.out, HGE.out⟩
  · have x1 : w3.cell? ⟨w.heap.size, 13, none⟩ = some (.int .i64 h.time) := HR3.out.at 13 rfl
    have f1 := HR3.out.1.fz 13
    go_upto_region 32 with (fail)
    clear x1 f1
    obtain ⟨w19, hw19⟩ : ∃ y, y = w3.setCell ⟨w.heap.size, 13, none⟩ (.int .i64 v) := ⟨_, rfl⟩
    rw [← hw19]
    have HRS := Lib.hid (show HRel p (odd13 h v) w w19 by rw [hw19]; exact HR3.out.set hplt 13 _ rfl)
    clear hw19
    have hr' := (HRS).out.1
    unfold HBlk at hr'
    have HRR := Lib.hid hr'
    obtain ⟨w9, hw9⟩ : ∃ y, y = (w19).setCells (w.heap.size + 1) 0 (HCells ((odd13 h v))).toArray.toList := ⟨_, rfl⟩
    have HBE := Lib.hid (show HBlk (w.heap.size + 1) ((odd13 h v)) w9 by rw [hw9]; exact (HRS).out.2.1.put ((odd13 h v)))
    have HTH := Lib.hid ((HRS).out.2.1.there)
    have HGE := Lib.hid (show w.grownBy w9 (some p) by rw [hw9]; exact grown_setCells_new (HRS).out.2.2.2 (by omega) _ _)
    have HDE := Lib.hid (show Die w9 p by rw [hw9]; exact (HRS).out.2.2.1.kept (grown_setCells (w.heap.size + 1) _ _ _) (by simp; omega))
    have HW9 := Lib.hid hw9
    clear hr' hw9
    go_wp2_with (first | (refine wpList_load_row rfl 29 _ rfl w.heap.size rfl 29 _ _ _ HRR.out Try.underlying29 rfl (by kernel_rfl) ?_) | (refine wpList_store_mid rfl 29 _ _ rfl (w.heap.size + 1) 0 (HCells ((odd13 h v))).toArray rfl rfl HTH.out (by kernel_rfl) (hcells_one _) ?_; rw [← HW9.out]))
    exact bodyPost_ret (v := HVal ((odd13 h v))) (results_cell_row Try.results37 _ _ (w.heap.size + 1) _ _ _ _ rfl HBE.out Try.underlying29 rfl (by kernel_rfl)) rfl ⟨(odd13 h v), rfl, odd13_ok HO.out HVI.out, HDE.out, HGE.out⟩
  · have x1 : w3.cell? ⟨w.heap.size, 14, none⟩ = some (.int .i64 h.source) := HR3.out.at 14 rfl
    have f1 := HR3.out.1.fz 14
    go_upto_region 32 with (fail)
    clear x1 f1
    obtain ⟨w19, hw19⟩ : ∃ y, y = w3.setCell ⟨w.heap.size, 14, none⟩ (.int .i64 v) := ⟨_, rfl⟩
    rw [← hw19]
    have HRS := Lib.hid (show HRel p (odd14 h v) w w19 by rw [hw19]; exact HR3.out.set hplt 14 _ rfl)
    clear hw19
    have hr' := (HRS).out.1
    unfold HBlk at hr'
    have HRR := Lib.hid hr'
    obtain ⟨w9, hw9⟩ : ∃ y, y = (w19).setCells (w.heap.size + 1) 0 (HCells ((odd14 h v))).toArray.toList := ⟨_, rfl⟩
    have HBE := Lib.hid (show HBlk (w.heap.size + 1) ((odd14 h v)) w9 by rw [hw9]; exact (HRS).out.2.1.put ((odd14 h v)))
    have HTH := Lib.hid ((HRS).out.2.1.there)
    have HGE := Lib.hid (show w.grownBy w9 (some p) by rw [hw9]; exact grown_setCells_new (HRS).out.2.2.2 (by omega) _ _)
    have HDE := Lib.hid (show Die w9 p by rw [hw9]; exact (HRS).out.2.2.1.kept (grown_setCells (w.heap.size + 1) _ _ _) (by simp; omega))
    have HW9 := Lib.hid hw9
    clear hr' hw9
    go_wp2_with (first | (refine wpList_load_row rfl 29 _ rfl w.heap.size rfl 29 _ _ _ HRR.out Try.underlying29 rfl (by kernel_rfl) ?_) | (refine wpList_store_mid rfl 29 _ _ rfl (w.heap.size + 1) 0 (HCells ((odd14 h v))).toArray rfl rfl HTH.out (by kernel_rfl) (hcells_one _) ?_; rw [← HW9.out]))
    exact bodyPost_ret (v := HVal ((odd14 h v))) (results_cell_row Try.results37 _ _ (w.heap.size + 1) _ _ _ _ rfl HBE.out Try.underlying29 rfl (by kernel_rfl)) rfl ⟨(odd14 h v), rfl, odd14_ok HO.out HVI.out, HDE.out, HGE.out⟩
end Go.Proofs.Ytmojlengjoicoaa
