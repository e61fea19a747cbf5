/- Several texts in one. -/
import Derived.Test.YtlnkofpcidngoaaDoorK0
import Derived.Test.YtlnkofpcidngoaaDoorK16
import Derived.Laws.MakeOwn
namespace Go.Proofs.YtlnkofpcidngoaaDoor
open Go.ChangeShapes Go.WideShapes Go.ChangeAt Go.RowKit
abbrev L0 : List Snd := List.replicate 16 zeroS
theorem made_snd : madeCells (SVal zeroS).cells (16 * 9) = (L0.flatMap SCells).toArray := by kernel_rfl
theorem make_snd (w : World) : (Instr.makeSlice 22 (.int .i64 16) (.int .i64 16)).run Tryd.prog w = .ok (.slice (some ⟨w.heap.size, 0, none⟩) 16 16) (w.alloc (.cells (L0.flatMap SCells).toArray 46)) := by
 obtain ⟨i0, hi, hz0, hz1, hz2⟩ := info_parts info_snd
 have h := run_make (P := Tryd.prog) w 22 46 i0 _ Tryd.underlying22 hi hz0 .i64 .i64 16 16 (by omega) (by omega) (by rw [hz2]; omega) (by omega)
 rw [hz1] at h
 rw [← made_snd]
 exact h
theorem rd_L0 {w : World} {g : Nat} (h : w.heap[g]? = some (.cells (L0.flatMap SCells).toArray 46 (0, 0))) : RdC w (some ⟨g, 0, none⟩) 16 16 L0 := by
 refine ⟨by simp, Nat.le_refl _, by simp [maxLen], (fun e => by cases e), .inr ⟨g, 0, rfl, heap_lt h, fun i hi => ?_⟩, fun s hs => ?_⟩
 · rw [Nat.zero_add, cell_of_block h]; simp
 · obtain rfl : s = zeroS := (List.mem_replicate.1 hs).2
   exact ⟨rfl, Nat.le_refl _, by simp [zeroS, maxLen], (fun _ => ⟨rfl, rfl⟩), .inl rfl, by simp [zeroS]⟩
theorem valid_L0 {mode width : Int} (h : shapedB mode width = true) : validC mode width L0 = true := by
 refine valid_yes h (by simp) (fun i hi => ?_)
 have hi2 : i < 16 := by simpa using hi
 have hz : L0[i]? = some zeroS := by rw [List.getElem?_replicate, if_pos hi2]
 rw [okAt_at hz]
 have h1 : ctxB mode width zeroS = true := rfl
 have h2 : (L0.take i).any (likeB zeroS) = false := by rw [List.any_eq_false]; intro t _; simp [likeB, zeroS]
 rw [h1, h2]; rfl
def NewPost2 (mode width : Int) (w : World) (e : Ending) (w' : World) : Prop := ∃ a c, e = .returned (.tuple #[CVal mode width a 16 c, .int .i64 0]) ∧ RdC w' a 16 c L0 ∧ Gr w w' ∧ ∀ b off, a = some ⟨b, off, none⟩ → w.heap.size ≤ b
set_option maxRecDepth 20000 in
set_option maxHeartbeats 2000000 in
theorem new2_any (mode width : Int) (w : World) (h : shapedB mode width = true) : Calls Tryd.prog 10 #[.int .i64 mode, .int .i64 width] w (NewPost2 mode width w) := by
 obtain ⟨m1, m2, q1, q2⟩ := shaped_yes h
 clear h
 go_enter Tryd.func10, Tryd.ntmps10
 go_upto_region 1 with (fail)
 obtain ⟨w1, hw1⟩ : ∃ y, y = w.alloc (.cells #[.int .i64 0, .int .i64 0, .slice none 0 0] 24) := ⟨_, rfl⟩
 have HZ1 := zqd (show CBlk w.heap.size 24 [.int .i64 0, .int .i64 0, .slice none 0 0] w1 by rw [hw1]; exact CBlk.new _ _ _)
 have HG1 := zqd (show Gr w w1 by rw [hw1]; exact Gr.alloc _ _)
 rw [← hw1]
 clear hw1
 have d1 : decide (mode < 1) = false := decide_eq_false (by omega)
 have d2 : decide (3 < mode) = false := decide_eq_false (by omega)
 have d3 : decide (width < 1) = false := decide_eq_false (by omega)
 have d4 : decide (8 < width) = false := decide_eq_false (by omega)
 have hmk := make_snd w1
 obtain ⟨w2, hw2⟩ : ∃ y, y = w1.alloc (.cells (L0.flatMap SCells).toArray 46) := ⟨_, rfl⟩
 have HR2 := zqd (show RdC w2 (some ⟨w1.heap.size, 0, none⟩) 16 16 L0 from rd_L0 (by rw [hw2]; exact heap_alloc_new _ _))
 have hg2 : Gr w1 w2 := by rw [hw2]; exact Gr.alloc _ _
 rw [← hw2] at hmk
 have HZ2 := zqd (HZ1.out.kept hg2)
 have HG2 := zqd (HG1.out.trans hg2)
 have hlz := HZ1.out.lt
 clear hw2 hg2 m1 m2 q1 q2
 go_wp2_with (refine cblk_store rfl 24 _ _ rfl w.heap.size [.int .i64 mode, .int .i64 width, .slice (some ⟨w1.heap.size, 0, none⟩) 16 16] HZ2.out rfl rfl rfl (by kernel_rfl) rfl ?_; intro w9 hb9 he9; have HB9 := zqd hb9; have HGE := zqd (show Gr w w9 by rw [← he9]; exact gr_setCells HG2.out (Nat.le_refl _) _ _); have hgs := grown_setCells w.heap.size [.int .i64 mode, .int .i64 width, .slice (some ⟨w1.heap.size, 0, none⟩) 16 16] 0 w2; have HGS := zqd (show w2.grownBy w9 (some w.heap.size) by rw [← he9]; exact hgs); clear hb9 he9 hgs)
 refine bodyPost_ret (results_c1 Tryd.results10 _ _ w.heap.size _ _ rfl HB9.out Tryd.underlying24 rfl (by kernel_rfl)) rfl ⟨_, _, rfl, ?_, HGE.out, fun b off e => by injection e with e; injection e with e1 e2; omega⟩
 obtain ⟨r1, r2, r3, r4, r5, r6⟩ := HR2.out
 refine ⟨r1, r2, r3, r4, seg_but r5 HGS.out (fun b off _ e => by injection e with e; injection e with e1 e2; subst e1; simp; omega), fun s hs => ?_⟩
 obtain rfl : s = zeroS := (List.mem_replicate.1 hs).2
 exact ⟨rfl, Nat.le_refl _, by simp [zeroS, maxLen], (fun _ => ⟨rfl, rfl⟩), .inl rfl, by simp [zeroS]⟩
end Go.Proofs.YtlnkofpcidngoaaDoor
