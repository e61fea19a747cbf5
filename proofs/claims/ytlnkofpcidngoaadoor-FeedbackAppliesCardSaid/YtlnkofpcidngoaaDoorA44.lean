/- Layer 05 (packet), the reference's Parse once more: its payload lies in new memory. -/
import Derived.Test.YtlnkofpcidngoaaDoorA0
import Derived.Test.YtlnkofpcidngoaaDoorA37
namespace Go.Proofs.YtlnkofpcidngoaaDoor
open Go.ChangeShapes Go.WideShapes Go.ChangeAt Go.RowKit
def ParsePost2 (F : Hdr × List Int × Int) (w : World) (e : Ending) (w' : World) : Prop :=
 ∃ a n cap, e = .returned (.tuple #[HVal F.1, .slice a n cap, .int .i64 F.2.2]) ∧ n = F.2.1.length ∧ Rd .u8 w' a n F.2.1 ∧ Gr w w' ∧ ∀ q off, a = some ⟨q, off, none⟩ → w.heap.size < q
set_option maxRecDepth 100000 in
set_option maxHeartbeats 4000000 in
theorem rparse2_any (a : Option Addr) (len cap : Nat) (xs : List Int) (w : World) (hr : Rd .u8 w a len xs) (_hcap : len ≤ cap) (hL : len ≤ 140737488351232) : Calls Tryd.prog 33 #[.slice a len cap] w (ParsePost2 (parseF xs) w) := by
 obtain ⟨F, hF⟩ : ∃ F, parseF xs = F := ⟨_, rfl⟩
 rw [hF]
 have HF := zqd hF
 have HR := zqd hr
 have HL := zqd hr.len
 have HB := zqd hr.bytes
 clear hr hF
 go_enter Tryd.func33, Tryd.ntmps33
 go_upto_region 1 with (fail)
 obtain ⟨w1, hw1⟩ : ∃ y, y = w.alloc (.cells (HCells zeroH).toArray 49) := ⟨_, rfl⟩
 have hb1 : HBlk w.heap.size zeroH w1 := by rw [hw1]; exact heap_alloc_new _ _
 have hg1 : Gr w w1 := by rw [hw1]; exact Gr.alloc _ _
 simp only [HCells, zeroH] at hw1
 first | rw [← hw1] | (go_show; fail)
 have HB1 := zqd hb1
 have HG1 := zqd hg1
 clear hw1 hb1 hg1
 by_cases hbad : len < 28 ∨ 1500 < len
 ·have HRES := zqd (show F = (zeroH, [], 2) by rw [← HF.out]; exact parseF_bad (by rw [HL.out]; exact hbad))
  have hbe := ((HB1.out).kept (Gr.refl _)).put (zeroH)
  have hthr := (HB1.out).there
  have hge := grown_setCells_new (HG1.out) (g := w.heap.size) (by omega) (HCells (zeroH)) 0
  obtain ⟨w9, hw9⟩ : ∃ y, y = (w1).setCells w.heap.size 0 (HCells (zeroH)).toArray.toList := ⟨_, rfl⟩
  have HBE := zqd (show HBlk w.heap.size (zeroH) w9 by rw [hw9]; exact hbe)
  have HTH := zqd hthr
  have HGE := zqd (show Gr w w9 by rw [hw9]; exact hge)
  have HW9 := zqd hw9
  clear hbe hthr hge hw9
  rcases hbad with hbad | hbad
  ·go_wp2_with (refine wpList_store_mid rfl 49 _ _ rfl w.heap.size 0 (HCells zeroH).toArray rfl rfl HTH.out (by kernel_rfl) (hcells_one _) ?_; rw [← HW9.out])
   refine bodyPost_ret (results_cell_row2 Tryd.results33 _ _ w.heap.size _ _ _ _ rfl HBE.out Tryd.underlying49 rfl (by kernel_rfl)) rfl ?_
   rw [HRES.out]
   exact ⟨none, 0, 0, rfl, rfl, (OwnI.nil 0 5 _ _).rd, HGE.out, fun q off e => by cases e⟩
  ·have h28 : ¬ len < 28 := by omega
   go_wp2_with (refine wpList_store_mid rfl 49 _ _ rfl w.heap.size 0 (HCells zeroH).toArray rfl rfl HTH.out (by kernel_rfl) (hcells_one _) ?_; rw [← HW9.out])
   refine bodyPost_ret (results_cell_row2 Tryd.results33 _ _ w.heap.size _ _ _ _ rfl HBE.out Tryd.underlying49 rfl (by kernel_rfl)) rfl ?_
   rw [HRES.out]
   exact ⟨none, 0, 0, rfl, rfl, (OwnI.nil 0 5 _ _).rd, HGE.out, fun q off e => by cases e⟩
 have hlo : 28 ≤ len := by omega
 have hhi : len ≤ 1500 := by omega
 clear hbad hL
 obtain ⟨b, off, rfl, hb, hc⟩ := HR.out.some (by omega)
 have HC := zqd hc
 have HBB := zqd hb
 clear hc hb
 obtain ⟨y1, e1⟩ : ∃ y, xs[1]?.getD 0 = y := ⟨_, rfl⟩
 obtain ⟨y6, e6⟩ : ∃ y, xs[6]?.getD 0 = y := ⟨_, rfl⟩
 obtain ⟨y8, e8⟩ : ∃ y, xs[8]?.getD 0 = y := ⟨_, rfl⟩
 obtain ⟨v4, e4⟩ : ∃ y, getN xs 4 2 = y := ⟨_, rfl⟩
 obtain ⟨v12, e12⟩ : ∃ y, getN xs 12 4 = y := ⟨_, rfl⟩
 obtain ⟨v16, e16⟩ : ∃ y, getN xs 16 4 = y := ⟨_, rfl⟩
 obtain ⟨v20, e20⟩ : ∃ y, getN xs 20 2 = y := ⟨_, rfl⟩
 obtain ⟨v22, e22⟩ : ∃ y, getN xs 22 2 = y := ⟨_, rfl⟩
 obtain ⟨v26, e26⟩ : ∃ y, getN xs 26 2 = y := ⟨_, rfl⟩
 obtain ⟨p1, p2⟩ := e1 ▸ getD_byte HB.out 1
 obtain ⟨q1, q2⟩ := e6 ▸ getD_byte HB.out 6
 obtain ⟨r1, r2⟩ := e8 ▸ getD_byte HB.out 8
 have l1 : ∀ u, Gr w1 u → u.cell? ⟨b, off + 1, none⟩ = some (.int .u8 y1) := fun u hu => by rw [← e1]; exact (HG1.out.trans hu).cell (HC.out 1 (by omega))
 have l6 : ∀ u, Gr w1 u → u.cell? ⟨b, off + 6, none⟩ = some (.int .u8 y6) := fun u hu => by rw [← e6]; exact (HG1.out.trans hu).cell (HC.out 6 (by omega))
 have l8 : ∀ u, Gr w1 u → u.cell? ⟨b, off + 8, none⟩ = some (.int .u8 y8) := fun u hu => by rw [← e8]; exact (HG1.out.trans hu).cell (HC.out 8 (by omega))
 obtain ⟨f6, ef⟩ : ∃ f, y6 / 64 % 2 = f := ⟨_, rfl⟩
 have HP0 := zqd (show parse0 xs = ⟨1, y1, v4, f6, y8, v12, v16, v20, v22, v26, 0, 0, 0, 0, 0⟩ by rw [parse0, e1, e6, e8, e4, e12, e16, e20, e22, e26, ef])
 have HRQ := zqd (HR.out.kept HG1.out)
 have hand : bits .and .u8 (y6 / 64) 1 = f6 := by rw [← ef]; exact and8_one (by omega) (by omega)
 have E4 := zqd e4
 have E12 := zqd e12
 have E16 := zqd e16
 have E20 := zqd e20
 have E22 := zqd e22
 have E26 := zqd e26
 clear e1 e6 e8 e4 e12 e16 e20 e22 e26
 go_upto_region 3 with (fail)
 refine Sched.wp_region_sched 28 [] [27] (by kernel_rfl) (by kernel_rfl) ?_
 simp only [List.take_succ_cons, List.take_zero, List.drop_succ_cons, List.drop_zero]
 repeat (first | ((first | (refine Sched.walk1_no rfl rfl (fun K hK => ?_)) | (refine Sched.walk1_gr rfl rfl rfl (fun K hK => ?_); apply Exists.intro; refine ⟨fun w1 hw1 => ?_, ?_⟩; (focus (go_simp; (try go_ints); (try (simp only [IntWalk.iteOmega]; go_simp)); first | done | ((go_at_call 54; (with_reducible exact gr_same (rget_is (cap := cap) E4.out 4 2 _ rfl rfl (rd_gr HRQ.out hw1) (by omega) (by omega) (by omega) (by omega))))) | ((go_at_call 54; (with_reducible exact gr_same (rget_is (cap := cap) E12.out 12 4 _ rfl rfl (rd_gr HRQ.out hw1) (by omega) (by omega) (by omega) (by omega))))) | ((go_at_call 54; (with_reducible exact gr_same (rget_is (cap := cap) E16.out 16 4 _ rfl rfl (rd_gr HRQ.out hw1) (by omega) (by omega) (by omega) (by omega))))) | ((go_at_call 54; (with_reducible exact gr_same (rget_is (cap := cap) E20.out 20 2 _ rfl rfl (rd_gr HRQ.out hw1) (by omega) (by omega) (by omega) (by omega))))) | ((go_at_call 54; (with_reducible exact gr_same (rget_is (cap := cap) E22.out 22 2 _ rfl rfl (rd_gr HRQ.out hw1) (by omega) (by omega) (by omega) (by omega))))) | ((go_at_call 54; (with_reducible exact gr_same (rget_is (cap := cap) E26.out 26 2 _ rfl rfl (rd_gr HRQ.out hw1) (by omega) (by omega) (by omega) (by omega))))) | (with_reducible rfl) | (with_reducible exact ⟨rfl, rfl⟩))))); simp only [Act.put, zqa, zqb, zqc]; refine hK _ ?_; clear hK K) | (refine Sched.walk1_box rfl rfl ?_; apply Exists.intro; refine ⟨fun w1 hw1 => ?_, ?_⟩; (focus (go_simp; exact ⟨Gr.alloc _ _, rfl, by simp, heap_alloc_new _ _⟩))))
 refine Sched.walk1_nil ?_
 intro wq hwq
 dsimp only [Sched.EndN, List.nil_append, List.cons_append, Act.put]
 rintro g hi v ⟨rfl, hlt, hblk⟩ hlo - - -
 try simp only [zqa, zqb, zqc]
 have hgz : w.heap.size < g := Nat.lt_of_lt_of_le (heap_lt HB1.out) hlo
 have hgl : w.heap.size ≤ g := Nat.le_of_lt hgz
 have hgn : w.heap.size ≠ g := by omega
 have hbq : HBlk g zeroH wq := hblk
 have hth := hbq.there
 have hbe := hbq.put ⟨1, y1, v4, f6, y8, v12, v16, v20, v22, v26, 0, 0, 0, 0, 0⟩
 have hge := grown_setCells_new (HG1.out.trans hwq) (g := g) hgl (HCells ⟨1, y1, v4, f6, y8, v12, v16, v20, v22, v26, 0, 0, 0, 0, 0⟩) 0
 have hze := blk_keptP (w' := wq.setCells g 0 (HCells ⟨1, y1, v4, f6, y8, v12, v16, v20, v22, v26, 0, 0, 0, 0, 0⟩)) (HB1.out.kept hwq) (grown_setCells g _ 0 wq) (by simp; omega)
 obtain ⟨w2, hw2⟩ : ∃ y, y = wq.setCells g 0 (HCells ⟨1, y1, v4, f6, y8, v12, v16, v20, v22, v26, 0, 0, 0, 0, 0⟩).toArray.toList := ⟨_, rfl⟩
 have HB2 := zqd (show HBlk g ⟨1, y1, v4, f6, y8, v12, v16, v20, v22, v26, 0, 0, 0, 0, 0⟩ w2 by rw [hw2]; exact hbe)
 have HZ2 := zqd (show HBlk w.heap.size zeroH w2 by rw [hw2]; exact hze)
 have HG2 := zqd (show Gr w w2 by rw [hw2]; exact hge)
 have HTH := zqd hth
 clear hbq hth hbe hge hze l1 l6 l8 hand ef HRQ HB1 HG1 hblk hlt hlo
 refine Sched.walk2_go rfl (fun K hK => ?_)
 refine tq_storeP 49 _ _ rfl g 0 (HCells ⟨1, y1, v4, f6, y8, v12, v16, v20, v22, v26, 0, 0, 0, 0, 0⟩).toArray rfl rfl HTH.out (by kernel_rfl) (hcells_one _) ?_
 rw [← hw2]
 clear hw2 HTH hwq
 dsimp only [Act.put]
 try simp only [zqa, zqb, zqc]
 refine hK _ _ ?_
 clear hK K
 refine Sched.walk2_nil ?_
 by_cases h40 : 40 ≤ len
 ·obtain ⟨y28, e28⟩ : ∃ y, xs[28]?.getD 0 = y := ⟨_, rfl⟩
  have c28 : w2.cell? ⟨b, off + 28, none⟩ = some (.int .u8 y28) := by rw [← e28]; exact HG2.out.cell (HC.out 28 (by omega))
  have E28 := zqd e28
  clear e28
  by_cases hrt : y28 = 128
  ·have hrb : (y28 == 128) = true := by simpa using hrt
   have hB : rtpB xs = true := by unfold rtpB; rw [HL.out, decide_eq_true h40, E28.out, decide_eq_true hrt]; rfl
   have HBT := zqd hB
   clear hrt hB
   obtain ⟨y29, e29⟩ : ∃ y, xs[29]?.getD 0 = y := ⟨_, rfl⟩
   obtain ⟨z1, z2⟩ := e29 ▸ getD_byte HB.out 29
   obtain ⟨v30, e30⟩ : ∃ y, getN xs 30 2 = y := ⟨_, rfl⟩
   obtain ⟨v32, e32⟩ : ∃ y, getN xs 32 4 = y := ⟨_, rfl⟩
   obtain ⟨v36, e36⟩ : ∃ y, getN xs 36 4 = y := ⟨_, rfl⟩
   have hs29 : ∃ f, y29 / 128 = f := ⟨_, rfl⟩
   have ha29 : ∃ f, y29 % 128 = f := ⟨_, rfl⟩
   obtain ⟨m29, hm29⟩ := hs29
   obtain ⟨t29, ht29⟩ := ha29
   have HP1 := zqd (show parse1 xs = ⟨2, y1, v4, f6, y8, v12, v16, v20, v22, v26, m29, t29, v30, v32, v36⟩ by
    rw [parse1_of, HP0.out, e29, e30, e32, e36, hm29, ht29])
   have x29 : ∀ u, Gr w u → u.cell? ⟨b, off + 29, none⟩ = some (.int .u8 y29) := fun u hu => by rw [← e29]; exact hu.cell (HC.out 29 (by omega))
   have X29 := zqd x29
   have E30 := zqd e30
   have E32 := zqd e32
   have E36 := zqd e36
   have HM29 := zqd hm29
   have HT29 := zqd ht29
   clear e29 e30 e32 e36 x29 hm29 ht29
   have c0 := HB2.out.at 0 rfl
   have f0 := HB2.out.fz 0
   go_upto_region 7 with (fail)
   obtain ⟨w3, hw3⟩ : ∃ y, y = w2.setCell ⟨g, 0, none⟩ (.int .i64 2) := ⟨_, rfl⟩
   have HB3 := zqd (show HBlk g ⟨2, y1, v4, f6, y8, v12, v16, v20, v22, v26, 0, 0, 0, 0, 0⟩ w3 by rw [hw3]; exact HB2.out.set 0 (.int .i64 2) rfl)
   have HZ3 := zqd (show HBlk w.heap.size zeroH w3 by rw [hw3]; exact HZ2.out.other 0 (.int .i64 2) hgn)
   have HG3 := zqd (show Gr w w3 by rw [hw3]; exact grown_set HG2.out hgl _)
   first | rw [← hw3] | (go_show; fail)
   clear hw3 c0 f0 c28
   have hI : ∀ u, Gr w3 u → u.cell? ⟨b, off + 29, none⟩ = some (.int .u8 y29) := fun u hu => X29.out u (HG3.out.trans hu)
   have hm29 := HM29.out
   have hand : bits .and .u8 y29 127 = t29 := by rw [← HT29.out]; exact and8_low z1 z2
   have ht29 := HT29.out
   go_upto_region 7 with (fail)
   refine Sched2.wp_region_sched (fun u => u.cell? ⟨b, off + 29, none⟩ = some (.int .u8 y29)) [5, 6, 7, 8, 9, 12] [] [11, 13] true hI (by kernel_rfl) (by kernel_rfl) ?_
   repeat (first | (refine Sched2.walk1_ord rfl ?_) | ((first | (refine Sched2.walk1_no rfl rfl rfl (fun K hK => ?_)) | (refine Sched2.walk1_gr rfl rfl rfl rfl (fun K hK => ?_); apply Exists.intro; refine ⟨fun w1 hw1 => ?_, ?_⟩; (focus (go_simp; (try go_ints); (try (simp only [IntWalk.iteOmega]; go_simp)); first | done | (with_reducible rfl) | (with_reducible exact ⟨rfl, rfl⟩)))) | (refine Sched2.walk1_late rfl rfl rfl rfl (fun K hK => ?_); apply Exists.intro; refine ⟨fun w1 hw1 => ?_, ?_⟩; (focus (go_simp; (try go_ints); (try (simp only [IntWalk.iteOmega]; go_simp)); first | done | (with_reducible rfl) | (with_reducible exact ⟨rfl, rfl⟩))))); simp only [Act.put, zqa, zqb, zqc]; refine hK _ ?_; clear hK K))
   refine Sched2.walk1_nil ?_
   intro wq hwq
   have hq := HB3.out.kept hwq
   have hgq := HG3.out.trans hwq
   have hs := hq.set 10 (.int .i64 m29) (k := ⟨2, y1, v4, f6, y8, v12, v16, v20, v22, v26, m29, 0, 0, 0, 0⟩) rfl
   have hgs := grown_set hgq (a := ⟨g, 10, none⟩) hgl (.int .i64 m29)
   have c1 := hq.at 10 rfl
   have f1 := hq.fz 10
   have c2 := hs.at 11 rfl
   have f2 := hs.fz 11
   have hi2 := X29.out _ hgs
   have HS := zqd (hs.set 11 (.int .i64 t29) (k := ⟨2, y1, v4, f6, y8, v12, v16, v20, v22, v26, m29, t29, 0, 0, 0⟩) rfl)
   have HGS := zqd (grown_set hgs (a := ⟨g, 11, none⟩) hgl (.int .i64 t29))
   have HZS := zqd (((HZ3.out.kept hwq).other 10 (.int .i64 m29) hgn).other 11 (.int .i64 t29) hgn)
   clear hq hs hI hgq hgs
   dsimp only [Sched.EndN, List.nil_append, List.cons_append, Act.put]
   (try simp only [zqa, zqb, zqc])
   simp only [Sched2.lasts, List.filterMap_cons, List.filterMap_nil, List.getElem?_toArray, List.getElem?_cons_succ, List.getElem?_cons_zero]
   repeat (first | (refine Sched2.walk2_no rfl (fun K hK => ?_); simp only [Act.put, zqa, zqb, zqc]; refine hK _ ?_; clear hK K) | (refine Sched2.walk2_go rfl (fun K hK => ?_); go_simp; (try go_ints); (try (simp only [IntWalk.iteOmega]; go_simp)); first | (refine hK _ _ (by first | exact .inl ⟨rfl, rfl⟩ | exact .inr ((by assumption))) ?_; clear hK K) | fail))
   refine Sched2.walk2_nil ?_
   obtain ⟨w4, hw4⟩ : ∃ y, y = (wq.setCell ⟨g, 10, none⟩ (.int .i64 m29)).setCell ⟨g, 11, none⟩ (.int .i64 t29) := ⟨_, rfl⟩
   have HB4 := zqd (show HBlk g ⟨2, y1, v4, f6, y8, v12, v16, v20, v22, v26, m29, t29, 0, 0, 0⟩ w4 by rw [hw4]; exact HS.out)
   have HZ4 := zqd (show HBlk w.heap.size zeroH w4 by rw [hw4]; exact HZS.out)
   have HG4 := zqd (show Gr w w4 by rw [hw4]; exact HGS.out)
   first | rw [← hw4] | (go_show; fail)
   clear hw4 HS HGS HZS c1 f1 c2 f2 hi2 hwq wq hm29 hand ht29
   have HR4 := zqd (HR.out.kept HG4.out)
   have h1 := HB4.out.set 12 (.int .i64 v30) (k := ⟨2, y1, v4, f6, y8, v12, v16, v20, v22, v26, m29, t29, v30, 0, 0⟩) rfl
   have h2 := h1.set 13 (.int .i64 v32) (k := ⟨2, y1, v4, f6, y8, v12, v16, v20, v22, v26, m29, t29, v30, v32, 0⟩) rfl
   have h3 := h2.set 14 (.int .i64 v36) (k := ⟨2, y1, v4, f6, y8, v12, v16, v20, v22, v26, m29, t29, v30, v32, v36⟩) rfl
   have g3 := grown_set (grown_set (grown_set HG4.out (a := ⟨g, 12, none⟩) hgl (.int .i64 v30)) (a := ⟨g, 13, none⟩) hgl (.int .i64 v32)) (a := ⟨g, 14, none⟩) hgl (.int .i64 v36)
   have c1 := HB4.out.at 12 rfl
   have f1 := HB4.out.fz 12
   have c2 := h1.at 13 rfl
   have f2 := h1.fz 13
   have c3 := h2.at 14 rfl
   have f3 := h2.fz 14
   have H3 := zqd h3
   have G3 := zqd g3
   clear h1 h2 h3 g3
   go_upto_region 9 with (first | (go_at_call 54; ((with_reducible refine (rget_is (cap := cap) E30.out 30 2 _ rfl rfl HR4.out (by omega) (by omega) (by omega) (by omega)).mono ?_)); rintro e w' ⟨rfl, rfl⟩) | (go_at_call 54; ((with_reducible refine (rget_is (cap := cap) E32.out 32 4 _ rfl rfl HR4.out (by omega) (by omega) (by omega) (by omega)).mono ?_)); rintro e w' ⟨rfl, rfl⟩) | (go_at_call 54; ((with_reducible refine (rget_is (cap := cap) E36.out 36 4 _ rfl rfl HR4.out (by omega) (by omega) (by omega) (by omega)).mono ?_)); rintro e w' ⟨rfl, rfl⟩))
   obtain ⟨w5, hw5⟩ : ∃ y, y = ((w4.setCell ⟨g, 12, none⟩ (.int .i64 v30)).setCell ⟨g, 13, none⟩ (.int .i64 v32)).setCell ⟨g, 14, none⟩ (.int .i64 v36) := ⟨_, rfl⟩
   have HB5 := zqd (show HBlk g ⟨2, y1, v4, f6, y8, v12, v16, v20, v22, v26, m29, t29, v30, v32, v36⟩ w5 by rw [hw5]; exact H3.out)
   have HZ5 := zqd (show HBlk w.heap.size zeroH w5 by rw [hw5]; exact ((HZ4.out.other 12 (.int .i64 v30) hgn).other 13 (.int .i64 v32) hgn).other 14 (.int .i64 v36) hgn)
   have HG5 := zqd (show Gr w w5 by rw [hw5]; exact G3.out)
   first | rw [← hw5] | (go_show; fail)
   clear hw5 H3 G3 c1 f1 c2 f2 c3 f3 HR4
   have HQ := zqd (show parseH xs = ⟨2, y1, v4, f6, y8, v12, v16, v20, v22, v26, m29, t29, v30, v32, v36⟩ ∧ parseN xs = 40 by
    rw [parseH, parseN, HBT.out]; exact ⟨HP1.out, rfl⟩)
   rcases Nat.lt_or_ge 40 cap with hcn | hcn
   ·have hne : ¬ cap = 40 := by omega
    have hqq := (HB5).out
    unfold HBlk at hqq
    have HQQ := zqd hqq
    clear hqq
    obtain ⟨R, hR⟩ : ∃ R, buildF (parseH xs) (xs.drop 40) = R := ⟨_, rfl⟩
    have HRB := zqd hR
    have HRD := zqd ((rd_from HR.out 40 h40 hcn))
    clear hR
    go_upto_region 9 with (fail)
    refine SchedD.wp_region_schedd 10 [] [4, 5, 6, 8] (SchedD.nsel [(4, NBld R), (5, NBld R), (6, NBy R.2), (8, NBy R.2)]) [(5, [(4, 81)]), (6, [(5, 76)]), (7, [(5, 76)]), (8, [(6, 82)])] (by kernel_rfl) (by kernel_rfl) ?_
    simp only [List.take_succ_cons, List.take_zero, List.drop_succ_cons, List.drop_zero]
    have HAK := zqd (fun u (hu : Gr w5 u) => (HB5).out.kept hu)
    (with_reducible refine SchedD.walk1_gr ?_ ?_ ?_ ?_ (fun K hK => ?_)); (focus rfl); (focus rfl); (focus rfl); (focus rfl)
    refine ⟨HVal ⟨2, y1, v4, f6, y8, v12, v16, v20, v22, v26, m29, t29, v30, v32, v36⟩, fun w1 hw1 => (HAK.out w1 hw1).load _ rfl rfl, ?_⟩
    simp only [Act.put, zqa, zqb, zqc]
    refine hK _ ?_
    clear hK K
    repeat (first | ((first | ((with_reducible refine SchedD.walk1_no ?_ ?_ ?_ (fun K hK => ?_)); (focus rfl); (focus rfl); (focus rfl)) | ((with_reducible refine SchedD.walk1_gr ?_ ?_ ?_ ?_ (fun K hK => ?_)); (focus rfl); (focus rfl); (focus rfl); (focus rfl); apply Exists.intro; refine ⟨fun w1 hw1 => ?_, ?_⟩; (focus (go_simp; (try go_ints); (try (simp only [IntWalk.iteOmega]; go_simp)); first | done | (with_reducible rfl) | (with_reducible exact ⟨rfl, rfl⟩))))); simp only [Act.put, zqa, zqb, zqc]; refine hK _ ?_; clear hK K))
    refine SchedD.walk1_new0 (NBld R) rfl rfl rfl rfl (NBld.stable _) (fun u hu => ?_) ?_
    ·go_simp
     go_at_call 57
     refine (rbuild_any ⟨2, y1, v4, f6, y8, v12, v16, v20, v22, v26, m29, t29, v30, v32, v36⟩ (some ⟨b, off + 40, none⟩) (len - 40) (cap - 40) _ u ((HRD.out.kept (HG5).out).kept hu) (by omega)).mono ?_
     rw [← (HQ).out.1, HRB.out]
     rintro e w8 ⟨a8, n8, c8, rfl, _, hby, hgr⟩
     exact ⟨_, rfl, hgr, a8, n8, c8, rfl, hby.rd⟩
    refine SchedD.walk1_new1 (NBld R) (NBld R) 4 81 rfl rfl rfl rfl (NBld.stable _) (fun u hu lo1 hi1 u1 q1 => ?_) ?_
    ·obtain ⟨a8, n8, c8, rfl, hr1⟩ := q1
     refine ⟨rfl, ?_⟩
     go_simp
     exact ⟨Gr.refl _, a8, n8, c8, rfl, hr1⟩
    refine SchedD.walk1_new1 (NBy R.2) (NBld R) 5 76 rfl rfl rfl rfl (NBy.stable _) (fun u hu lo1 hi1 u1 q1 => ?_) ?_
    ·obtain ⟨a8, n8, c8, rfl, hr1⟩ := q1
     refine ⟨rfl, ?_⟩
     go_simp
     exact ⟨Gr.refl _, a8, n8, c8, rfl, hr1⟩
    refine SchedD.walk1_dep1 (.int .i64 R.1) (NBld R) 5 76 rfl rfl rfl rfl (fun u hu lo1 hi1 u1 q1 => ?_) ?_
    ·obtain ⟨a8, n8, c8, rfl, hr1⟩ := q1
     refine ⟨rfl, ?_⟩
     go_simp
     first | done | exact ⟨rfl, rfl⟩
    refine SchedD.walk1_new1 (NBy R.2) (NBy R.2) 6 82 rfl rfl rfl rfl (NBy.stable _) (fun u hu lo1 hi1 u1 q1 => ?_) ?_
    ·obtain ⟨a8, n8, c8, rfl, hr1⟩ := q1
     refine ⟨rfl, ?_⟩
     go_simp
     exact ⟨Gr.refl _, a8, n8, c8, rfl, hr1⟩
    repeat (first | ((first | ((with_reducible refine SchedD.walk1_no ?_ ?_ ?_ (fun K hK => ?_)); (focus rfl); (focus rfl); (focus rfl)) | ((with_reducible refine SchedD.walk1_gr ?_ ?_ ?_ ?_ (fun K hK => ?_)); (focus rfl); (focus rfl); (focus rfl); (focus rfl); apply Exists.intro; refine ⟨fun w1 hw1 => ?_, ?_⟩; (focus (go_simp; (try go_ints); (try (simp only [IntWalk.iteOmega]; go_simp)); first | done | (with_reducible rfl) | (with_reducible exact ⟨rfl, rfl⟩))))); simp only [Act.put, zqa, zqb, zqc]; refine hK _ ?_; clear hK K))
    (with_reducible refine SchedD.walk1_nil ?_)
    intro wq hwq
    dsimp only [Sched.EndN, List.nil_append, List.cons_append, Act.put]
    rintro - - v1 ⟨a1, n1, c1, rfl, -⟩ - - - - - - v2 ⟨a2, n2, c2, rfl, -⟩ - - - - - - v3 ⟨a3, n3, c3, rfl, -⟩ - - - - - - v4 ⟨a4, n4, c4, rfl, hr4⟩ - - - -
    (try simp only [zqa, zqb, zqc])
    refine Sched.walk2_nil ?_
    obtain ⟨E, hE⟩ : ∃ E, decide (xs = R.2) = E := ⟨_, rfl⟩
    have HE := zqd hE
    have HR4 := zqd hr4
    have HRX := zqd ((HR.out.kept (HG5).out).kept hwq)
    have HGW := zqd ((HG5).out.trans hwq)
    have HBW := zqd ((HB5).out.kept hwq)
    have HZW := zqd ((HZ5).out.kept hwq)
    clear hE hr4 hwq HAK HQQ
    by_cases hre : R.1 = 0
    rotate_left
    ·have hre1 : (R.1 == 0) = false := by simpa using hre
     have hre2 : (R.1 != 0) = true := by simpa using hre
     have HRES := zqd (show F = (zeroH, [], 4) by
      have hn : ¬ R.2 = xs := by rw [← HRB.out]; exact buildF_two (by rw [HL.out]; omega) (by rw [HRB.out]; exact hre)
      rw [← HF.out, parseF, if_neg (by rw [HL.out]; omega), (HQ).out.2, HRB.out, if_neg hn])
     have hbe := ((HZW.out).kept (Gr.refl _)).put (zeroH)
     have hthr := (HZW.out).there
     have hge := grown_setCells_new (HGW.out) (g := w.heap.size) (by omega) (HCells (zeroH)) 0
     obtain ⟨w9, hw9⟩ : ∃ y, y = (wq).setCells w.heap.size 0 (HCells (zeroH)).toArray.toList := ⟨_, rfl⟩
     have HBE := zqd (show HBlk w.heap.size (zeroH) w9 by rw [hw9]; exact hbe)
     have HTH := zqd hthr
     have HGE := zqd (show Gr w w9 by rw [hw9]; exact hge)
     have HW9 := zqd hw9
     clear hbe hthr hge hw9
     go_wp2_with (refine wpList_store_mid rfl 49 _ _ rfl w.heap.size 0 (HCells zeroH).toArray rfl rfl HTH.out (by kernel_rfl) (hcells_one _) ?_; rw [← HW9.out])
     refine bodyPost_ret (results_cell_row2 Tryd.results33 _ _ w.heap.size _ _ _ _ rfl HBE.out Tryd.underlying49 rfl (by kernel_rfl)) rfl ?_
     rw [HRES.out]
     exact ⟨none, 0, 0, rfl, rfl, (OwnI.nil 0 5 _ _).rd, HGE.out, fun q off e => by cases e⟩
    have hre1 : (R.1 == 0) = true := by simpa using hre
    have hre2 : (R.1 != 0) = false := by simpa using hre
    clear hre
    go_wp2_with fail
    refine (bsame_is HE.out wq HRX.out HR4.out).mono ?_
    rintro e w' ⟨rfl, rfl⟩
    cases E
    ·have HRES := zqd (show F = (zeroH, [], 4) by
      have hn : ¬ R.2 = xs := fun h => of_decide_eq_false HE.out h.symm
      rw [← HF.out, parseF, if_neg (by rw [HL.out]; omega), (HQ).out.2, HRB.out, if_neg hn])
     have hbe := ((HZW.out).kept (Gr.refl _)).put (zeroH)
     have hthr := (HZW.out).there
     have hge := grown_setCells_new (HGW.out) (g := w.heap.size) (by omega) (HCells (zeroH)) 0
     obtain ⟨w9, hw9⟩ : ∃ y, y = (wq).setCells w.heap.size 0 (HCells (zeroH)).toArray.toList := ⟨_, rfl⟩
     have HBE := zqd (show HBlk w.heap.size (zeroH) w9 by rw [hw9]; exact hbe)
     have HTH := zqd hthr
     have HGE := zqd (show Gr w w9 by rw [hw9]; exact hge)
     have HW9 := zqd hw9
     clear hbe hthr hge hw9
     go_wp2_with (refine wpList_store_mid rfl 49 _ _ rfl w.heap.size 0 (HCells zeroH).toArray rfl rfl HTH.out (by kernel_rfl) (hcells_one _) ?_; rw [← HW9.out])
     refine bodyPost_ret (results_cell_row2 Tryd.results33 _ _ w.heap.size _ _ _ _ rfl HBE.out Tryd.underlying49 rfl (by kernel_rfl)) rfl ?_
     rw [HRES.out]
     exact ⟨none, 0, 0, rfl, rfl, (OwnI.nil 0 5 _ _).rd, HGE.out, fun q off e => by cases e⟩
    ·have HRES := zqd (show F = (parseH xs, xs.drop 40, 0) by
      have hn : R.2 = xs := (of_decide_eq_true HE.out).symm
      rw [← HF.out, parseF, if_neg (by rw [HL.out]; omega), (HQ).out.2, HRB.out, if_pos hn])
     have HAK := zqd (fun u (hu : Gr wq u) => HBW.out.kept hu)
     go_upto_region 12 with (fail)
     refine Sched.wp_region_sched 5 [] [4] (by kernel_rfl) (by kernel_rfl) ?_
     simp only [List.take_succ_cons, List.take_zero, List.drop_succ_cons, List.drop_zero]
     refine Sched.walk1_gr rfl rfl rfl (fun K hK => ?_)
     refine ⟨HVal ⟨2, y1, v4, f6, y8, v12, v16, v20, v22, v26, m29, t29, v30, v32, v36⟩, fun w1 hw1 => (HAK.out w1 hw1).load _ rfl rfl, ?_⟩
     simp only [Act.put, zqa, zqb, zqc]
     refine hK _ ?_
     clear hK K
     repeat (first | ((first | (refine Sched.walk1_no rfl rfl (fun K hK => ?_)) | (refine Sched.walk1_gr rfl rfl rfl (fun K hK => ?_); apply Exists.intro; refine ⟨fun w1 hw1 => ?_, ?_⟩; (focus (go_simp; (try go_ints); (try (simp only [IntWalk.iteOmega]; go_simp)); first | done | (with_reducible rfl) | (with_reducible exact ⟨rfl, rfl⟩))))); simp only [Act.put, zqa, zqb, zqc]; refine hK _ ?_; clear hK K) | (refine Sched.walk1_box rfl rfl ?_; apply Exists.intro; refine ⟨fun w1 hw1 => ?_, ?_⟩; (focus (go_simp; exact ⟨Gr.alloc _ _, rfl, by simp, heap_alloc_new _ _⟩))))
     refine Sched.walk1_new (NOwn (w.heap.size + 1) (xs.drop 40)) rfl rfl (NOwn.stable _ _) (fun u hu => ?_) ?_
     ·have hz9 := heap_lt HZW.out
      have hz8 := hu.size
      obtain ⟨a8, c8, w8, hrun, ho8, hg8, _⟩ := app_u8_nil (w.heap.size + 1) u ((some ⟨b, off + 40, none⟩)) ((len - 40)) ((cap - 40)) _ ((HRD.out.kept HGW.out).kept hu) (by omega) (by omega)
      exact nq_appP _ _ _ rfl rfl rfl hrun ⟨hg8, a8, _, c8, rfl, ho8⟩
     (with_reducible refine Sched.walk1_nil ?_)
     intro wz hwz
     dsimp only [Sched.EndN, List.nil_append, List.cons_append, Act.put]
     rintro - - v5 ⟨a5, n5, c5, rfl, ho5⟩ - - - -
     (try simp only [zqa, zqb, zqc])
     have hrz := HZW.out.kept hwz
     have hge0 := HGW.out.trans hwz
     have hbe := ((hrz).kept (Gr.refl _)).put (⟨2, y1, v4, f6, y8, v12, v16, v20, v22, v26, m29, t29, v30, v32, v36⟩)
     have hthr := (hrz).there
     have hge := grown_setCells_new (hge0) (g := w.heap.size) (by omega) (HCells (⟨2, y1, v4, f6, y8, v12, v16, v20, v22, v26, m29, t29, v30, v32, v36⟩)) 0
     obtain ⟨w9, hw9⟩ : ∃ y, y = (wz).setCells w.heap.size 0 (HCells (⟨2, y1, v4, f6, y8, v12, v16, v20, v22, v26, m29, t29, v30, v32, v36⟩)).toArray.toList := ⟨_, rfl⟩
     have HBE := zqd (show HBlk w.heap.size (⟨2, y1, v4, f6, y8, v12, v16, v20, v22, v26, m29, t29, v30, v32, v36⟩) w9 by rw [hw9]; exact hbe)
     have HTH := zqd hthr
     have HGE := zqd (show Gr w w9 by rw [hw9]; exact hge)
     have HW9 := zqd hw9
     clear hbe hthr hge hw9
     have hr5 := rd_keptBut (w' := w9) ho5.rd (r := some w.heap.size) (by rw [HW9.out]; exact grown_setCells _ _ _ _) (fun b' off' _ he => by have := own_after ho5 (p := w.heap.size) (by omega) b' off' he; simp; omega)
     have HR5 := zqd hr5
     have HF5 := zqd (show ∀ q off, a5 = some ⟨q, off, none⟩ → w.heap.size < q from fun q off he => own_after ho5 (p := w.heap.size) (by omega) q off he)
     clear hr5 ho5 hrz hge0 hwz
     refine Sched.walk2_go rfl (fun K hK => ?_)
     refine tq_storeP 49 _ _ rfl w.heap.size 0 (HCells (⟨2, y1, v4, f6, y8, v12, v16, v20, v22, v26, m29, t29, v30, v32, v36⟩)).toArray rfl rfl HTH.out (by kernel_rfl) (hcells_one _) ?_
     rw [← HW9.out]
     dsimp only [Act.put]
     try simp only [zqa, zqb, zqc]
     refine hK _ _ ?_
     clear hK K
     repeat (first | (refine Sched.walk2_no rfl (fun K hK => ?_); simp only [Act.put, zqa, zqb, zqc]; refine hK _ ?_; clear hK K) | (refine Sched.walk2_go rfl (fun K hK => ?_); go_simp; (try go_ints); (try (simp only [IntWalk.iteOmega]; go_simp)); (refine hK _ _ ?_; clear hK K)))
     refine Sched.walk2_nil ?_
     go_wp2_with fail
     refine bodyPost_ret (results_cell_row2 Tryd.results33 _ _ w.heap.size _ _ _ _ rfl HBE.out Tryd.underlying49 rfl (by kernel_rfl)) rfl ?_
     rw [HRES.out, (HQ).out.1]
     exact ⟨a5, n5, c5, rfl, HR5.out.len.symm, HR5.out, HGE.out, HF5.out⟩
   ·obtain rfl : cap = 40 := by omega
    obtain rfl : len = 40 := by omega
    have hqq := (HB5).out
    unfold HBlk at hqq
    have HQQ := zqd hqq
    clear hqq
    obtain ⟨R, hR⟩ : ∃ R, buildF (parseH xs) (xs.drop 40) = R := ⟨_, rfl⟩
    have HRB := zqd hR
    have HRD := zqd ((rd_none (w := w) (some ⟨b, off, none⟩) xs 40 (by rw [HL.out]; omega)))
    clear hR
    go_upto_region 9 with (fail)
    refine SchedD.wp_region_schedd 10 [] [4, 5, 6, 8] (SchedD.nsel [(4, NBld R), (5, NBld R), (6, NBy R.2), (8, NBy R.2)]) [(5, [(4, 81)]), (6, [(5, 76)]), (7, [(5, 76)]), (8, [(6, 82)])] (by kernel_rfl) (by kernel_rfl) ?_
    simp only [List.take_succ_cons, List.take_zero, List.drop_succ_cons, List.drop_zero]
    have HAK := zqd (fun u (hu : Gr w5 u) => (HB5).out.kept hu)
    (with_reducible refine SchedD.walk1_gr ?_ ?_ ?_ ?_ (fun K hK => ?_)); (focus rfl); (focus rfl); (focus rfl); (focus rfl)
    refine ⟨HVal ⟨2, y1, v4, f6, y8, v12, v16, v20, v22, v26, m29, t29, v30, v32, v36⟩, fun w1 hw1 => (HAK.out w1 hw1).load _ rfl rfl, ?_⟩
    simp only [Act.put, zqa, zqb, zqc]
    refine hK _ ?_
    clear hK K
    repeat (first | ((first | ((with_reducible refine SchedD.walk1_no ?_ ?_ ?_ (fun K hK => ?_)); (focus rfl); (focus rfl); (focus rfl)) | ((with_reducible refine SchedD.walk1_gr ?_ ?_ ?_ ?_ (fun K hK => ?_)); (focus rfl); (focus rfl); (focus rfl); (focus rfl); apply Exists.intro; refine ⟨fun w1 hw1 => ?_, ?_⟩; (focus (go_simp; (try go_ints); (try (simp only [IntWalk.iteOmega]; go_simp)); first | done | (with_reducible rfl) | (with_reducible exact ⟨rfl, rfl⟩))))); simp only [Act.put, zqa, zqb, zqc]; refine hK _ ?_; clear hK K))
    refine SchedD.walk1_new0 (NBld R) rfl rfl rfl rfl (NBld.stable _) (fun u hu => ?_) ?_
    ·go_simp
     go_at_call 57
     refine (rbuild_any ⟨2, y1, v4, f6, y8, v12, v16, v20, v22, v26, m29, t29, v30, v32, v36⟩ (some ⟨b, off, none⟩) 0 0 _ u ((HRD.out.kept (HG5).out).kept hu) (by omega)).mono ?_
     rw [← (HQ).out.1, HRB.out]
     rintro e w8 ⟨a8, n8, c8, rfl, _, hby, hgr⟩
     exact ⟨_, rfl, hgr, a8, n8, c8, rfl, hby.rd⟩
    refine SchedD.walk1_new1 (NBld R) (NBld R) 4 81 rfl rfl rfl rfl (NBld.stable _) (fun u hu lo1 hi1 u1 q1 => ?_) ?_
    ·obtain ⟨a8, n8, c8, rfl, hr1⟩ := q1
     refine ⟨rfl, ?_⟩
     go_simp
     exact ⟨Gr.refl _, a8, n8, c8, rfl, hr1⟩
    refine SchedD.walk1_new1 (NBy R.2) (NBld R) 5 76 rfl rfl rfl rfl (NBy.stable _) (fun u hu lo1 hi1 u1 q1 => ?_) ?_
    ·obtain ⟨a8, n8, c8, rfl, hr1⟩ := q1
     refine ⟨rfl, ?_⟩
     go_simp
     exact ⟨Gr.refl _, a8, n8, c8, rfl, hr1⟩
    refine SchedD.walk1_dep1 (.int .i64 R.1) (NBld R) 5 76 rfl rfl rfl rfl (fun u hu lo1 hi1 u1 q1 => ?_) ?_
    ·obtain ⟨a8, n8, c8, rfl, hr1⟩ := q1
     refine ⟨rfl, ?_⟩
     go_simp
     first | done | exact ⟨rfl, rfl⟩
    refine SchedD.walk1_new1 (NBy R.2) (NBy R.2) 6 82 rfl rfl rfl rfl (NBy.stable _) (fun u hu lo1 hi1 u1 q1 => ?_) ?_
    ·obtain ⟨a8, n8, c8, rfl, hr1⟩ := q1
     refine ⟨rfl, ?_⟩
     go_simp
     exact ⟨Gr.refl _, a8, n8, c8, rfl, hr1⟩
    repeat (first | ((first | ((with_reducible refine SchedD.walk1_no ?_ ?_ ?_ (fun K hK => ?_)); (focus rfl); (focus rfl); (focus rfl)) | ((with_reducible refine SchedD.walk1_gr ?_ ?_ ?_ ?_ (fun K hK => ?_)); (focus rfl); (focus rfl); (focus rfl); (focus rfl); apply Exists.intro; refine ⟨fun w1 hw1 => ?_, ?_⟩; (focus (go_simp; (try go_ints); (try (simp only [IntWalk.iteOmega]; go_simp)); first | done | (with_reducible rfl) | (with_reducible exact ⟨rfl, rfl⟩))))); simp only [Act.put, zqa, zqb, zqc]; refine hK _ ?_; clear hK K))
    (with_reducible refine SchedD.walk1_nil ?_)
    intro wq hwq
    dsimp only [Sched.EndN, List.nil_append, List.cons_append, Act.put]
    rintro - - v1 ⟨a1, n1, c1, rfl, -⟩ - - - - - - v2 ⟨a2, n2, c2, rfl, -⟩ - - - - - - v3 ⟨a3, n3, c3, rfl, -⟩ - - - - - - v4 ⟨a4, n4, c4, rfl, hr4⟩ - - - -
    (try simp only [zqa, zqb, zqc])
    refine Sched.walk2_nil ?_
    obtain ⟨E, hE⟩ : ∃ E, decide (xs = R.2) = E := ⟨_, rfl⟩
    have HE := zqd hE
    have HR4 := zqd hr4
    have HRX := zqd ((HR.out.kept (HG5).out).kept hwq)
    have HGW := zqd ((HG5).out.trans hwq)
    have HBW := zqd ((HB5).out.kept hwq)
    have HZW := zqd ((HZ5).out.kept hwq)
    clear hE hr4 hwq HAK HQQ
    by_cases hre : R.1 = 0
    rotate_left
    ·have hre1 : (R.1 == 0) = false := by simpa using hre
     have hre2 : (R.1 != 0) = true := by simpa using hre
     have HRES := zqd (show F = (zeroH, [], 4) by
      have hn : ¬ R.2 = xs := by rw [← HRB.out]; exact buildF_two (by rw [HL.out]; omega) (by rw [HRB.out]; exact hre)
      rw [← HF.out, parseF, if_neg (by rw [HL.out]; omega), (HQ).out.2, HRB.out, if_neg hn])
     have hbe := ((HZW.out).kept (Gr.refl _)).put (zeroH)
     have hthr := (HZW.out).there
     have hge := grown_setCells_new (HGW.out) (g := w.heap.size) (by omega) (HCells (zeroH)) 0
     obtain ⟨w9, hw9⟩ : ∃ y, y = (wq).setCells w.heap.size 0 (HCells (zeroH)).toArray.toList := ⟨_, rfl⟩
     have HBE := zqd (show HBlk w.heap.size (zeroH) w9 by rw [hw9]; exact hbe)
     have HTH := zqd hthr
     have HGE := zqd (show Gr w w9 by rw [hw9]; exact hge)
     have HW9 := zqd hw9
     clear hbe hthr hge hw9
     go_wp2_with (refine wpList_store_mid rfl 49 _ _ rfl w.heap.size 0 (HCells zeroH).toArray rfl rfl HTH.out (by kernel_rfl) (hcells_one _) ?_; rw [← HW9.out])
     refine bodyPost_ret (results_cell_row2 Tryd.results33 _ _ w.heap.size _ _ _ _ rfl HBE.out Tryd.underlying49 rfl (by kernel_rfl)) rfl ?_
     rw [HRES.out]
     exact ⟨none, 0, 0, rfl, rfl, (OwnI.nil 0 5 _ _).rd, HGE.out, fun q off e => by cases e⟩
    have hre1 : (R.1 == 0) = true := by simpa using hre
    have hre2 : (R.1 != 0) = false := by simpa using hre
    clear hre
    go_wp2_with fail
    refine (bsame_is HE.out wq HRX.out HR4.out).mono ?_
    rintro e w' ⟨rfl, rfl⟩
    cases E
    ·have HRES := zqd (show F = (zeroH, [], 4) by
      have hn : ¬ R.2 = xs := fun h => of_decide_eq_false HE.out h.symm
      rw [← HF.out, parseF, if_neg (by rw [HL.out]; omega), (HQ).out.2, HRB.out, if_neg hn])
     have hbe := ((HZW.out).kept (Gr.refl _)).put (zeroH)
     have hthr := (HZW.out).there
     have hge := grown_setCells_new (HGW.out) (g := w.heap.size) (by omega) (HCells (zeroH)) 0
     obtain ⟨w9, hw9⟩ : ∃ y, y = (wq).setCells w.heap.size 0 (HCells (zeroH)).toArray.toList := ⟨_, rfl⟩
     have HBE := zqd (show HBlk w.heap.size (zeroH) w9 by rw [hw9]; exact hbe)
     have HTH := zqd hthr
     have HGE := zqd (show Gr w w9 by rw [hw9]; exact hge)
     have HW9 := zqd hw9
     clear hbe hthr hge hw9
     go_wp2_with (refine wpList_store_mid rfl 49 _ _ rfl w.heap.size 0 (HCells zeroH).toArray rfl rfl HTH.out (by kernel_rfl) (hcells_one _) ?_; rw [← HW9.out])
     refine bodyPost_ret (results_cell_row2 Tryd.results33 _ _ w.heap.size _ _ _ _ rfl HBE.out Tryd.underlying49 rfl (by kernel_rfl)) rfl ?_
     rw [HRES.out]
     exact ⟨none, 0, 0, rfl, rfl, (OwnI.nil 0 5 _ _).rd, HGE.out, fun q off e => by cases e⟩
    ·have HRES := zqd (show F = (parseH xs, xs.drop 40, 0) by
      have hn : R.2 = xs := (of_decide_eq_true HE.out).symm
      rw [← HF.out, parseF, if_neg (by rw [HL.out]; omega), (HQ).out.2, HRB.out, if_pos hn])
     have HAK := zqd (fun u (hu : Gr wq u) => HBW.out.kept hu)
     go_upto_region 12 with (fail)
     refine Sched.wp_region_sched 5 [] [4] (by kernel_rfl) (by kernel_rfl) ?_
     simp only [List.take_succ_cons, List.take_zero, List.drop_succ_cons, List.drop_zero]
     refine Sched.walk1_gr rfl rfl rfl (fun K hK => ?_)
     refine ⟨HVal ⟨2, y1, v4, f6, y8, v12, v16, v20, v22, v26, m29, t29, v30, v32, v36⟩, fun w1 hw1 => (HAK.out w1 hw1).load _ rfl rfl, ?_⟩
     simp only [Act.put, zqa, zqb, zqc]
     refine hK _ ?_
     clear hK K
     repeat (first | ((first | (refine Sched.walk1_no rfl rfl (fun K hK => ?_)) | (refine Sched.walk1_gr rfl rfl rfl (fun K hK => ?_); apply Exists.intro; refine ⟨fun w1 hw1 => ?_, ?_⟩; (focus (go_simp; (try go_ints); (try (simp only [IntWalk.iteOmega]; go_simp)); first | done | (with_reducible rfl) | (with_reducible exact ⟨rfl, rfl⟩))))); simp only [Act.put, zqa, zqb, zqc]; refine hK _ ?_; clear hK K) | (refine Sched.walk1_box rfl rfl ?_; apply Exists.intro; refine ⟨fun w1 hw1 => ?_, ?_⟩; (focus (go_simp; exact ⟨Gr.alloc _ _, rfl, by simp, heap_alloc_new _ _⟩))))
     refine Sched.walk1_new (NOwn (w.heap.size + 1) (xs.drop 40)) rfl rfl (NOwn.stable _ _) (fun u hu => ?_) ?_
     ·have hz9 := heap_lt HZW.out
      have hz8 := hu.size
      obtain ⟨a8, c8, w8, hrun, ho8, hg8, _⟩ := app_u8_nil (w.heap.size + 1) u ((some ⟨b, off, none⟩)) (0) (0) _ ((HRD.out.kept HGW.out).kept hu) (by omega) (by omega)
      exact nq_appP _ _ _ rfl rfl rfl hrun ⟨hg8, a8, _, c8, rfl, ho8⟩
     (with_reducible refine Sched.walk1_nil ?_)
     intro wz hwz
     dsimp only [Sched.EndN, List.nil_append, List.cons_append, Act.put]
     rintro - - v5 ⟨a5, n5, c5, rfl, ho5⟩ - - - -
     (try simp only [zqa, zqb, zqc])
     have hrz := HZW.out.kept hwz
     have hge0 := HGW.out.trans hwz
     have hbe := ((hrz).kept (Gr.refl _)).put (⟨2, y1, v4, f6, y8, v12, v16, v20, v22, v26, m29, t29, v30, v32, v36⟩)
     have hthr := (hrz).there
     have hge := grown_setCells_new (hge0) (g := w.heap.size) (by omega) (HCells (⟨2, y1, v4, f6, y8, v12, v16, v20, v22, v26, m29, t29, v30, v32, v36⟩)) 0
     obtain ⟨w9, hw9⟩ : ∃ y, y = (wz).setCells w.heap.size 0 (HCells (⟨2, y1, v4, f6, y8, v12, v16, v20, v22, v26, m29, t29, v30, v32, v36⟩)).toArray.toList := ⟨_, rfl⟩
     have HBE := zqd (show HBlk w.heap.size (⟨2, y1, v4, f6, y8, v12, v16, v20, v22, v26, m29, t29, v30, v32, v36⟩) w9 by rw [hw9]; exact hbe)
     have HTH := zqd hthr
     have HGE := zqd (show Gr w w9 by rw [hw9]; exact hge)
     have HW9 := zqd hw9
     clear hbe hthr hge hw9
     have hr5 := rd_keptBut (w' := w9) ho5.rd (r := some w.heap.size) (by rw [HW9.out]; exact grown_setCells _ _ _ _) (fun b' off' _ he => by have := own_after ho5 (p := w.heap.size) (by omega) b' off' he; simp; omega)
     have HR5 := zqd hr5
     have HF5 := zqd (show ∀ q off, a5 = some ⟨q, off, none⟩ → w.heap.size < q from fun q off he => own_after ho5 (p := w.heap.size) (by omega) q off he)
     clear hr5 ho5 hrz hge0 hwz
     refine Sched.walk2_go rfl (fun K hK => ?_)
     refine tq_storeP 49 _ _ rfl w.heap.size 0 (HCells (⟨2, y1, v4, f6, y8, v12, v16, v20, v22, v26, m29, t29, v30, v32, v36⟩)).toArray rfl rfl HTH.out (by kernel_rfl) (hcells_one _) ?_
     rw [← HW9.out]
     dsimp only [Act.put]
     try simp only [zqa, zqb, zqc]
     refine hK _ _ ?_
     clear hK K
     repeat (first | (refine Sched.walk2_no rfl (fun K hK => ?_); simp only [Act.put, zqa, zqb, zqc]; refine hK _ ?_; clear hK K) | (refine Sched.walk2_go rfl (fun K hK => ?_); go_simp; (try go_ints); (try (simp only [IntWalk.iteOmega]; go_simp)); (refine hK _ _ ?_; clear hK K)))
     refine Sched.walk2_nil ?_
     go_wp2_with fail
     refine bodyPost_ret (results_cell_row2 Tryd.results33 _ _ w.heap.size _ _ _ _ rfl HBE.out Tryd.underlying49 rfl (by kernel_rfl)) rfl ?_
     rw [HRES.out, (HQ).out.1]
     exact ⟨a5, n5, c5, rfl, HR5.out.len.symm, HR5.out, HGE.out, HF5.out⟩
  ·have hrb : (y28 == 128) = false := by simpa using hrt
   have HQ := zqd (show parseH xs = ⟨1, y1, v4, f6, y8, v12, v16, v20, v22, v26, 0, 0, 0, 0, 0⟩ ∧ parseN xs = 28 by
    have hB : rtpB xs = false := by unfold rtpB; rw [HL.out, decide_eq_true h40, E28.out, decide_eq_false hrt]; rfl
    rw [parseH, parseN, hB]; exact ⟨HP0.out, rfl⟩)
   have hcn : 28 < cap := by omega
   have hne : ¬ cap = 28 := by omega
   clear hrt
   have hqq := (HB2).out
   unfold HBlk at hqq
   have HQQ := zqd hqq
   clear hqq
   obtain ⟨R, hR⟩ : ∃ R, buildF (parseH xs) (xs.drop 28) = R := ⟨_, rfl⟩
   have HRB := zqd hR
   have HRD := zqd ((rd_from HR.out 28 hlo hcn))
   clear hR
   go_upto_region 9 with (fail)
   refine SchedD.wp_region_schedd 10 [] [4, 5, 6, 8] (SchedD.nsel [(4, NBld R), (5, NBld R), (6, NBy R.2), (8, NBy R.2)]) [(5, [(4, 81)]), (6, [(5, 76)]), (7, [(5, 76)]), (8, [(6, 82)])] (by kernel_rfl) (by kernel_rfl) ?_
   simp only [List.take_succ_cons, List.take_zero, List.drop_succ_cons, List.drop_zero]
   have HAK := zqd (fun u (hu : Gr w2 u) => (HB2).out.kept hu)
   (with_reducible refine SchedD.walk1_gr ?_ ?_ ?_ ?_ (fun K hK => ?_)); (focus rfl); (focus rfl); (focus rfl); (focus rfl)
   refine ⟨HVal ⟨1, y1, v4, f6, y8, v12, v16, v20, v22, v26, 0, 0, 0, 0, 0⟩, fun w1 hw1 => (HAK.out w1 hw1).load _ rfl rfl, ?_⟩
   simp only [Act.put, zqa, zqb, zqc]
   refine hK _ ?_
   clear hK K
   repeat (first | ((first | ((with_reducible refine SchedD.walk1_no ?_ ?_ ?_ (fun K hK => ?_)); (focus rfl); (focus rfl); (focus rfl)) | ((with_reducible refine SchedD.walk1_gr ?_ ?_ ?_ ?_ (fun K hK => ?_)); (focus rfl); (focus rfl); (focus rfl); (focus rfl); apply Exists.intro; refine ⟨fun w1 hw1 => ?_, ?_⟩; (focus (go_simp; (try go_ints); (try (simp only [IntWalk.iteOmega]; go_simp)); first | done | (with_reducible rfl) | (with_reducible exact ⟨rfl, rfl⟩))))); simp only [Act.put, zqa, zqb, zqc]; refine hK _ ?_; clear hK K))
   refine SchedD.walk1_new0 (NBld R) rfl rfl rfl rfl (NBld.stable _) (fun u hu => ?_) ?_
   ·go_simp
    go_at_call 57
    refine (rbuild_any ⟨1, y1, v4, f6, y8, v12, v16, v20, v22, v26, 0, 0, 0, 0, 0⟩ (some ⟨b, off + 28, none⟩) (len - 28) (cap - 28) _ u ((HRD.out.kept (HG2).out).kept hu) (by omega)).mono ?_
    rw [← (HQ).out.1, HRB.out]
    rintro e w8 ⟨a8, n8, c8, rfl, _, hby, hgr⟩
    exact ⟨_, rfl, hgr, a8, n8, c8, rfl, hby.rd⟩
   refine SchedD.walk1_new1 (NBld R) (NBld R) 4 81 rfl rfl rfl rfl (NBld.stable _) (fun u hu lo1 hi1 u1 q1 => ?_) ?_
   ·obtain ⟨a8, n8, c8, rfl, hr1⟩ := q1
    refine ⟨rfl, ?_⟩
    go_simp
    exact ⟨Gr.refl _, a8, n8, c8, rfl, hr1⟩
   refine SchedD.walk1_new1 (NBy R.2) (NBld R) 5 76 rfl rfl rfl rfl (NBy.stable _) (fun u hu lo1 hi1 u1 q1 => ?_) ?_
   ·obtain ⟨a8, n8, c8, rfl, hr1⟩ := q1
    refine ⟨rfl, ?_⟩
    go_simp
    exact ⟨Gr.refl _, a8, n8, c8, rfl, hr1⟩
   refine SchedD.walk1_dep1 (.int .i64 R.1) (NBld R) 5 76 rfl rfl rfl rfl (fun u hu lo1 hi1 u1 q1 => ?_) ?_
   ·obtain ⟨a8, n8, c8, rfl, hr1⟩ := q1
    refine ⟨rfl, ?_⟩
    go_simp
    first | done | exact ⟨rfl, rfl⟩
   refine SchedD.walk1_new1 (NBy R.2) (NBy R.2) 6 82 rfl rfl rfl rfl (NBy.stable _) (fun u hu lo1 hi1 u1 q1 => ?_) ?_
   ·obtain ⟨a8, n8, c8, rfl, hr1⟩ := q1
    refine ⟨rfl, ?_⟩
    go_simp
    exact ⟨Gr.refl _, a8, n8, c8, rfl, hr1⟩
   repeat (first | ((first | ((with_reducible refine SchedD.walk1_no ?_ ?_ ?_ (fun K hK => ?_)); (focus rfl); (focus rfl); (focus rfl)) | ((with_reducible refine SchedD.walk1_gr ?_ ?_ ?_ ?_ (fun K hK => ?_)); (focus rfl); (focus rfl); (focus rfl); (focus rfl); apply Exists.intro; refine ⟨fun w1 hw1 => ?_, ?_⟩; (focus (go_simp; (try go_ints); (try (simp only [IntWalk.iteOmega]; go_simp)); first | done | (with_reducible rfl) | (with_reducible exact ⟨rfl, rfl⟩))))); simp only [Act.put, zqa, zqb, zqc]; refine hK _ ?_; clear hK K))
   (with_reducible refine SchedD.walk1_nil ?_)
   intro wq hwq
   dsimp only [Sched.EndN, List.nil_append, List.cons_append, Act.put]
   rintro - - v1 ⟨a1, n1, c1, rfl, -⟩ - - - - - - v2 ⟨a2, n2, c2, rfl, -⟩ - - - - - - v3 ⟨a3, n3, c3, rfl, -⟩ - - - - - - v4 ⟨a4, n4, c4, rfl, hr4⟩ - - - -
   (try simp only [zqa, zqb, zqc])
   refine Sched.walk2_nil ?_
   obtain ⟨E, hE⟩ : ∃ E, decide (xs = R.2) = E := ⟨_, rfl⟩
   have HE := zqd hE
   have HR4 := zqd hr4
   have HRX := zqd ((HR.out.kept (HG2).out).kept hwq)
   have HGW := zqd ((HG2).out.trans hwq)
   have HBW := zqd ((HB2).out.kept hwq)
   have HZW := zqd ((HZ2).out.kept hwq)
   clear hE hr4 hwq HAK HQQ
   by_cases hre : R.1 = 0
   rotate_left
   ·have hre1 : (R.1 == 0) = false := by simpa using hre
    have hre2 : (R.1 != 0) = true := by simpa using hre
    have HRES := zqd (show F = (zeroH, [], 4) by
     have hn : ¬ R.2 = xs := by rw [← HRB.out]; exact buildF_two (by rw [HL.out]; omega) (by rw [HRB.out]; exact hre)
     rw [← HF.out, parseF, if_neg (by rw [HL.out]; omega), (HQ).out.2, HRB.out, if_neg hn])
    have hbe := ((HZW.out).kept (Gr.refl _)).put (zeroH)
    have hthr := (HZW.out).there
    have hge := grown_setCells_new (HGW.out) (g := w.heap.size) (by omega) (HCells (zeroH)) 0
    obtain ⟨w9, hw9⟩ : ∃ y, y = (wq).setCells w.heap.size 0 (HCells (zeroH)).toArray.toList := ⟨_, rfl⟩
    have HBE := zqd (show HBlk w.heap.size (zeroH) w9 by rw [hw9]; exact hbe)
    have HTH := zqd hthr
    have HGE := zqd (show Gr w w9 by rw [hw9]; exact hge)
    have HW9 := zqd hw9
    clear hbe hthr hge hw9
    go_wp2_with (refine wpList_store_mid rfl 49 _ _ rfl w.heap.size 0 (HCells zeroH).toArray rfl rfl HTH.out (by kernel_rfl) (hcells_one _) ?_; rw [← HW9.out])
    refine bodyPost_ret (results_cell_row2 Tryd.results33 _ _ w.heap.size _ _ _ _ rfl HBE.out Tryd.underlying49 rfl (by kernel_rfl)) rfl ?_
    rw [HRES.out]
    exact ⟨none, 0, 0, rfl, rfl, (OwnI.nil 0 5 _ _).rd, HGE.out, fun q off e => by cases e⟩
   have hre1 : (R.1 == 0) = true := by simpa using hre
   have hre2 : (R.1 != 0) = false := by simpa using hre
   clear hre
   go_wp2_with fail
   refine (bsame_is HE.out wq HRX.out HR4.out).mono ?_
   rintro e w' ⟨rfl, rfl⟩
   cases E
   ·have HRES := zqd (show F = (zeroH, [], 4) by
     have hn : ¬ R.2 = xs := fun h => of_decide_eq_false HE.out h.symm
     rw [← HF.out, parseF, if_neg (by rw [HL.out]; omega), (HQ).out.2, HRB.out, if_neg hn])
    have hbe := ((HZW.out).kept (Gr.refl _)).put (zeroH)
    have hthr := (HZW.out).there
    have hge := grown_setCells_new (HGW.out) (g := w.heap.size) (by omega) (HCells (zeroH)) 0
    obtain ⟨w9, hw9⟩ : ∃ y, y = (wq).setCells w.heap.size 0 (HCells (zeroH)).toArray.toList := ⟨_, rfl⟩
    have HBE := zqd (show HBlk w.heap.size (zeroH) w9 by rw [hw9]; exact hbe)
    have HTH := zqd hthr
    have HGE := zqd (show Gr w w9 by rw [hw9]; exact hge)
    have HW9 := zqd hw9
    clear hbe hthr hge hw9
    go_wp2_with (refine wpList_store_mid rfl 49 _ _ rfl w.heap.size 0 (HCells zeroH).toArray rfl rfl HTH.out (by kernel_rfl) (hcells_one _) ?_; rw [← HW9.out])
    refine bodyPost_ret (results_cell_row2 Tryd.results33 _ _ w.heap.size _ _ _ _ rfl HBE.out Tryd.underlying49 rfl (by kernel_rfl)) rfl ?_
    rw [HRES.out]
    exact ⟨none, 0, 0, rfl, rfl, (OwnI.nil 0 5 _ _).rd, HGE.out, fun q off e => by cases e⟩
   ·have HRES := zqd (show F = (parseH xs, xs.drop 28, 0) by
     have hn : R.2 = xs := (of_decide_eq_true HE.out).symm
     rw [← HF.out, parseF, if_neg (by rw [HL.out]; omega), (HQ).out.2, HRB.out, if_pos hn])
    have HAK := zqd (fun u (hu : Gr wq u) => HBW.out.kept hu)
    go_upto_region 12 with (fail)
    refine Sched.wp_region_sched 5 [] [4] (by kernel_rfl) (by kernel_rfl) ?_
    simp only [List.take_succ_cons, List.take_zero, List.drop_succ_cons, List.drop_zero]
    refine Sched.walk1_gr rfl rfl rfl (fun K hK => ?_)
    refine ⟨HVal ⟨1, y1, v4, f6, y8, v12, v16, v20, v22, v26, 0, 0, 0, 0, 0⟩, fun w1 hw1 => (HAK.out w1 hw1).load _ rfl rfl, ?_⟩
    simp only [Act.put, zqa, zqb, zqc]
    refine hK _ ?_
    clear hK K
    repeat (first | ((first | (refine Sched.walk1_no rfl rfl (fun K hK => ?_)) | (refine Sched.walk1_gr rfl rfl rfl (fun K hK => ?_); apply Exists.intro; refine ⟨fun w1 hw1 => ?_, ?_⟩; (focus (go_simp; (try go_ints); (try (simp only [IntWalk.iteOmega]; go_simp)); first | done | (with_reducible rfl) | (with_reducible exact ⟨rfl, rfl⟩))))); simp only [Act.put, zqa, zqb, zqc]; refine hK _ ?_; clear hK K) | (refine Sched.walk1_box rfl rfl ?_; apply Exists.intro; refine ⟨fun w1 hw1 => ?_, ?_⟩; (focus (go_simp; exact ⟨Gr.alloc _ _, rfl, by simp, heap_alloc_new _ _⟩))))
    refine Sched.walk1_new (NOwn (w.heap.size + 1) (xs.drop 28)) rfl rfl (NOwn.stable _ _) (fun u hu => ?_) ?_
    ·have hz9 := heap_lt HZW.out
     have hz8 := hu.size
     obtain ⟨a8, c8, w8, hrun, ho8, hg8, _⟩ := app_u8_nil (w.heap.size + 1) u ((some ⟨b, off + 28, none⟩)) ((len - 28)) ((cap - 28)) _ ((HRD.out.kept HGW.out).kept hu) (by omega) (by omega)
     exact nq_appP _ _ _ rfl rfl rfl hrun ⟨hg8, a8, _, c8, rfl, ho8⟩
    (with_reducible refine Sched.walk1_nil ?_)
    intro wz hwz
    dsimp only [Sched.EndN, List.nil_append, List.cons_append, Act.put]
    rintro - - v5 ⟨a5, n5, c5, rfl, ho5⟩ - - - -
    (try simp only [zqa, zqb, zqc])
    have hrz := HZW.out.kept hwz
    have hge0 := HGW.out.trans hwz
    have hbe := ((hrz).kept (Gr.refl _)).put (⟨1, y1, v4, f6, y8, v12, v16, v20, v22, v26, 0, 0, 0, 0, 0⟩)
    have hthr := (hrz).there
    have hge := grown_setCells_new (hge0) (g := w.heap.size) (by omega) (HCells (⟨1, y1, v4, f6, y8, v12, v16, v20, v22, v26, 0, 0, 0, 0, 0⟩)) 0
    obtain ⟨w9, hw9⟩ : ∃ y, y = (wz).setCells w.heap.size 0 (HCells (⟨1, y1, v4, f6, y8, v12, v16, v20, v22, v26, 0, 0, 0, 0, 0⟩)).toArray.toList := ⟨_, rfl⟩
    have HBE := zqd (show HBlk w.heap.size (⟨1, y1, v4, f6, y8, v12, v16, v20, v22, v26, 0, 0, 0, 0, 0⟩) w9 by rw [hw9]; exact hbe)
    have HTH := zqd hthr
    have HGE := zqd (show Gr w w9 by rw [hw9]; exact hge)
    have HW9 := zqd hw9
    clear hbe hthr hge hw9
    have hr5 := rd_keptBut (w' := w9) ho5.rd (r := some w.heap.size) (by rw [HW9.out]; exact grown_setCells _ _ _ _) (fun b' off' _ he => by have := own_after ho5 (p := w.heap.size) (by omega) b' off' he; simp; omega)
    have HR5 := zqd hr5
    have HF5 := zqd (show ∀ q off, a5 = some ⟨q, off, none⟩ → w.heap.size < q from fun q off he => own_after ho5 (p := w.heap.size) (by omega) q off he)
    clear hr5 ho5 hrz hge0 hwz
    refine Sched.walk2_go rfl (fun K hK => ?_)
    refine tq_storeP 49 _ _ rfl w.heap.size 0 (HCells (⟨1, y1, v4, f6, y8, v12, v16, v20, v22, v26, 0, 0, 0, 0, 0⟩)).toArray rfl rfl HTH.out (by kernel_rfl) (hcells_one _) ?_
    rw [← HW9.out]
    dsimp only [Act.put]
    try simp only [zqa, zqb, zqc]
    refine hK _ _ ?_
    clear hK K
    repeat (first | (refine Sched.walk2_no rfl (fun K hK => ?_); simp only [Act.put, zqa, zqb, zqc]; refine hK _ ?_; clear hK K) | (refine Sched.walk2_go rfl (fun K hK => ?_); go_simp; (try go_ints); (try (simp only [IntWalk.iteOmega]; go_simp)); (refine hK _ _ ?_; clear hK K)))
    refine Sched.walk2_nil ?_
    go_wp2_with fail
    refine bodyPost_ret (results_cell_row2 Tryd.results33 _ _ w.heap.size _ _ _ _ rfl HBE.out Tryd.underlying49 rfl (by kernel_rfl)) rfl ?_
    rw [HRES.out, (HQ).out.1]
    exact ⟨a5, n5, c5, rfl, HR5.out.len.symm, HR5.out, HGE.out, HF5.out⟩
 ·have HQ := zqd (show parseH xs = ⟨1, y1, v4, f6, y8, v12, v16, v20, v22, v26, 0, 0, 0, 0, 0⟩ ∧ parseN xs = 28 by
   have hB : rtpB xs = false := by unfold rtpB; rw [HL.out, decide_eq_false h40]; rfl
   rw [parseH, parseN, hB]; exact ⟨HP0.out, rfl⟩)
  rcases Nat.lt_or_ge 28 cap with hcn | hcn
  ·have hne : ¬ cap = 28 := by omega
   have hqq := (HB2).out
   unfold HBlk at hqq
   have HQQ := zqd hqq
   clear hqq
   obtain ⟨R, hR⟩ : ∃ R, buildF (parseH xs) (xs.drop 28) = R := ⟨_, rfl⟩
   have HRB := zqd hR
   have HRD := zqd ((rd_from HR.out 28 hlo hcn))
   clear hR
   go_upto_region 9 with (fail)
   refine SchedD.wp_region_schedd 10 [] [4, 5, 6, 8] (SchedD.nsel [(4, NBld R), (5, NBld R), (6, NBy R.2), (8, NBy R.2)]) [(5, [(4, 81)]), (6, [(5, 76)]), (7, [(5, 76)]), (8, [(6, 82)])] (by kernel_rfl) (by kernel_rfl) ?_
   simp only [List.take_succ_cons, List.take_zero, List.drop_succ_cons, List.drop_zero]
   have HAK := zqd (fun u (hu : Gr w2 u) => (HB2).out.kept hu)
   (with_reducible refine SchedD.walk1_gr ?_ ?_ ?_ ?_ (fun K hK => ?_)); (focus rfl); (focus rfl); (focus rfl); (focus rfl)
   refine ⟨HVal ⟨1, y1, v4, f6, y8, v12, v16, v20, v22, v26, 0, 0, 0, 0, 0⟩, fun w1 hw1 => (HAK.out w1 hw1).load _ rfl rfl, ?_⟩
   simp only [Act.put, zqa, zqb, zqc]
   refine hK _ ?_
   clear hK K
   repeat (first | ((first | ((with_reducible refine SchedD.walk1_no ?_ ?_ ?_ (fun K hK => ?_)); (focus rfl); (focus rfl); (focus rfl)) | ((with_reducible refine SchedD.walk1_gr ?_ ?_ ?_ ?_ (fun K hK => ?_)); (focus rfl); (focus rfl); (focus rfl); (focus rfl); apply Exists.intro; refine ⟨fun w1 hw1 => ?_, ?_⟩; (focus (go_simp; (try go_ints); (try (simp only [IntWalk.iteOmega]; go_simp)); first | done | (with_reducible rfl) | (with_reducible exact ⟨rfl, rfl⟩))))); simp only [Act.put, zqa, zqb, zqc]; refine hK _ ?_; clear hK K))
   refine SchedD.walk1_new0 (NBld R) rfl rfl rfl rfl (NBld.stable _) (fun u hu => ?_) ?_
   ·go_simp
    go_at_call 57
    refine (rbuild_any ⟨1, y1, v4, f6, y8, v12, v16, v20, v22, v26, 0, 0, 0, 0, 0⟩ (some ⟨b, off + 28, none⟩) (len - 28) (cap - 28) _ u ((HRD.out.kept (HG2).out).kept hu) (by omega)).mono ?_
    rw [← (HQ).out.1, HRB.out]
    rintro e w8 ⟨a8, n8, c8, rfl, _, hby, hgr⟩
    exact ⟨_, rfl, hgr, a8, n8, c8, rfl, hby.rd⟩
   refine SchedD.walk1_new1 (NBld R) (NBld R) 4 81 rfl rfl rfl rfl (NBld.stable _) (fun u hu lo1 hi1 u1 q1 => ?_) ?_
   ·obtain ⟨a8, n8, c8, rfl, hr1⟩ := q1
    refine ⟨rfl, ?_⟩
    go_simp
    exact ⟨Gr.refl _, a8, n8, c8, rfl, hr1⟩
   refine SchedD.walk1_new1 (NBy R.2) (NBld R) 5 76 rfl rfl rfl rfl (NBy.stable _) (fun u hu lo1 hi1 u1 q1 => ?_) ?_
   ·obtain ⟨a8, n8, c8, rfl, hr1⟩ := q1
    refine ⟨rfl, ?_⟩
    go_simp
    exact ⟨Gr.refl _, a8, n8, c8, rfl, hr1⟩
   refine SchedD.walk1_dep1 (.int .i64 R.1) (NBld R) 5 76 rfl rfl rfl rfl (fun u hu lo1 hi1 u1 q1 => ?_) ?_
   ·obtain ⟨a8, n8, c8, rfl, hr1⟩ := q1
    refine ⟨rfl, ?_⟩
    go_simp
    first | done | exact ⟨rfl, rfl⟩
   refine SchedD.walk1_new1 (NBy R.2) (NBy R.2) 6 82 rfl rfl rfl rfl (NBy.stable _) (fun u hu lo1 hi1 u1 q1 => ?_) ?_
   ·obtain ⟨a8, n8, c8, rfl, hr1⟩ := q1
    refine ⟨rfl, ?_⟩
    go_simp
    exact ⟨Gr.refl _, a8, n8, c8, rfl, hr1⟩
   repeat (first | ((first | ((with_reducible refine SchedD.walk1_no ?_ ?_ ?_ (fun K hK => ?_)); (focus rfl); (focus rfl); (focus rfl)) | ((with_reducible refine SchedD.walk1_gr ?_ ?_ ?_ ?_ (fun K hK => ?_)); (focus rfl); (focus rfl); (focus rfl); (focus rfl); apply Exists.intro; refine ⟨fun w1 hw1 => ?_, ?_⟩; (focus (go_simp; (try go_ints); (try (simp only [IntWalk.iteOmega]; go_simp)); first | done | (with_reducible rfl) | (with_reducible exact ⟨rfl, rfl⟩))))); simp only [Act.put, zqa, zqb, zqc]; refine hK _ ?_; clear hK K))
   (with_reducible refine SchedD.walk1_nil ?_)
   intro wq hwq
   dsimp only [Sched.EndN, List.nil_append, List.cons_append, Act.put]
   rintro - - v1 ⟨a1, n1, c1, rfl, -⟩ - - - - - - v2 ⟨a2, n2, c2, rfl, -⟩ - - - - - - v3 ⟨a3, n3, c3, rfl, -⟩ - - - - - - v4 ⟨a4, n4, c4, rfl, hr4⟩ - - - -
   (try simp only [zqa, zqb, zqc])
   refine Sched.walk2_nil ?_
   obtain ⟨E, hE⟩ : ∃ E, decide (xs = R.2) = E := ⟨_, rfl⟩
   have HE := zqd hE
   have HR4 := zqd hr4
   have HRX := zqd ((HR.out.kept (HG2).out).kept hwq)
   have HGW := zqd ((HG2).out.trans hwq)
   have HBW := zqd ((HB2).out.kept hwq)
   have HZW := zqd ((HZ2).out.kept hwq)
   clear hE hr4 hwq HAK HQQ
   by_cases hre : R.1 = 0
   rotate_left
   ·have hre1 : (R.1 == 0) = false := by simpa using hre
    have hre2 : (R.1 != 0) = true := by simpa using hre
    have HRES := zqd (show F = (zeroH, [], 4) by
     have hn : ¬ R.2 = xs := by rw [← HRB.out]; exact buildF_two (by rw [HL.out]; omega) (by rw [HRB.out]; exact hre)
     rw [← HF.out, parseF, if_neg (by rw [HL.out]; omega), (HQ).out.2, HRB.out, if_neg hn])
    have hbe := ((HZW.out).kept (Gr.refl _)).put (zeroH)
    have hthr := (HZW.out).there
    have hge := grown_setCells_new (HGW.out) (g := w.heap.size) (by omega) (HCells (zeroH)) 0
    obtain ⟨w9, hw9⟩ : ∃ y, y = (wq).setCells w.heap.size 0 (HCells (zeroH)).toArray.toList := ⟨_, rfl⟩
    have HBE := zqd (show HBlk w.heap.size (zeroH) w9 by rw [hw9]; exact hbe)
    have HTH := zqd hthr
    have HGE := zqd (show Gr w w9 by rw [hw9]; exact hge)
    have HW9 := zqd hw9
    clear hbe hthr hge hw9
    go_wp2_with (refine wpList_store_mid rfl 49 _ _ rfl w.heap.size 0 (HCells zeroH).toArray rfl rfl HTH.out (by kernel_rfl) (hcells_one _) ?_; rw [← HW9.out])
    refine bodyPost_ret (results_cell_row2 Tryd.results33 _ _ w.heap.size _ _ _ _ rfl HBE.out Tryd.underlying49 rfl (by kernel_rfl)) rfl ?_
    rw [HRES.out]
    exact ⟨none, 0, 0, rfl, rfl, (OwnI.nil 0 5 _ _).rd, HGE.out, fun q off e => by cases e⟩
   have hre1 : (R.1 == 0) = true := by simpa using hre
   have hre2 : (R.1 != 0) = false := by simpa using hre
   clear hre
   go_wp2_with fail
   refine (bsame_is HE.out wq HRX.out HR4.out).mono ?_
   rintro e w' ⟨rfl, rfl⟩
   cases E
   ·have HRES := zqd (show F = (zeroH, [], 4) by
     have hn : ¬ R.2 = xs := fun h => of_decide_eq_false HE.out h.symm
     rw [← HF.out, parseF, if_neg (by rw [HL.out]; omega), (HQ).out.2, HRB.out, if_neg hn])
    have hbe := ((HZW.out).kept (Gr.refl _)).put (zeroH)
    have hthr := (HZW.out).there
    have hge := grown_setCells_new (HGW.out) (g := w.heap.size) (by omega) (HCells (zeroH)) 0
    obtain ⟨w9, hw9⟩ : ∃ y, y = (wq).setCells w.heap.size 0 (HCells (zeroH)).toArray.toList := ⟨_, rfl⟩
    have HBE := zqd (show HBlk w.heap.size (zeroH) w9 by rw [hw9]; exact hbe)
    have HTH := zqd hthr
    have HGE := zqd (show Gr w w9 by rw [hw9]; exact hge)
    have HW9 := zqd hw9
    clear hbe hthr hge hw9
    go_wp2_with (refine wpList_store_mid rfl 49 _ _ rfl w.heap.size 0 (HCells zeroH).toArray rfl rfl HTH.out (by kernel_rfl) (hcells_one _) ?_; rw [← HW9.out])
    refine bodyPost_ret (results_cell_row2 Tryd.results33 _ _ w.heap.size _ _ _ _ rfl HBE.out Tryd.underlying49 rfl (by kernel_rfl)) rfl ?_
    rw [HRES.out]
    exact ⟨none, 0, 0, rfl, rfl, (OwnI.nil 0 5 _ _).rd, HGE.out, fun q off e => by cases e⟩
   ·have HRES := zqd (show F = (parseH xs, xs.drop 28, 0) by
     have hn : R.2 = xs := (of_decide_eq_true HE.out).symm
     rw [← HF.out, parseF, if_neg (by rw [HL.out]; omega), (HQ).out.2, HRB.out, if_pos hn])
    have HAK := zqd (fun u (hu : Gr wq u) => HBW.out.kept hu)
    go_upto_region 12 with (fail)
    refine Sched.wp_region_sched 5 [] [4] (by kernel_rfl) (by kernel_rfl) ?_
    simp only [List.take_succ_cons, List.take_zero, List.drop_succ_cons, List.drop_zero]
    refine Sched.walk1_gr rfl rfl rfl (fun K hK => ?_)
    refine ⟨HVal ⟨1, y1, v4, f6, y8, v12, v16, v20, v22, v26, 0, 0, 0, 0, 0⟩, fun w1 hw1 => (HAK.out w1 hw1).load _ rfl rfl, ?_⟩
    simp only [Act.put, zqa, zqb, zqc]
    refine hK _ ?_
    clear hK K
    repeat (first | ((first | (refine Sched.walk1_no rfl rfl (fun K hK => ?_)) | (refine Sched.walk1_gr rfl rfl rfl (fun K hK => ?_); apply Exists.intro; refine ⟨fun w1 hw1 => ?_, ?_⟩; (focus (go_simp; (try go_ints); (try (simp only [IntWalk.iteOmega]; go_simp)); first | done | (with_reducible rfl) | (with_reducible exact ⟨rfl, rfl⟩))))); simp only [Act.put, zqa, zqb, zqc]; refine hK _ ?_; clear hK K) | (refine Sched.walk1_box rfl rfl ?_; apply Exists.intro; refine ⟨fun w1 hw1 => ?_, ?_⟩; (focus (go_simp; exact ⟨Gr.alloc _ _, rfl, by simp, heap_alloc_new _ _⟩))))
    refine Sched.walk1_new (NOwn (w.heap.size + 1) (xs.drop 28)) rfl rfl (NOwn.stable _ _) (fun u hu => ?_) ?_
    ·have hz9 := heap_lt HZW.out
     have hz8 := hu.size
     obtain ⟨a8, c8, w8, hrun, ho8, hg8, _⟩ := app_u8_nil (w.heap.size + 1) u ((some ⟨b, off + 28, none⟩)) ((len - 28)) ((cap - 28)) _ ((HRD.out.kept HGW.out).kept hu) (by omega) (by omega)
     exact nq_appP _ _ _ rfl rfl rfl hrun ⟨hg8, a8, _, c8, rfl, ho8⟩
    (with_reducible refine Sched.walk1_nil ?_)
    intro wz hwz
    dsimp only [Sched.EndN, List.nil_append, List.cons_append, Act.put]
    rintro - - v5 ⟨a5, n5, c5, rfl, ho5⟩ - - - -
    (try simp only [zqa, zqb, zqc])
    have hrz := HZW.out.kept hwz
    have hge0 := HGW.out.trans hwz
    have hbe := ((hrz).kept (Gr.refl _)).put (⟨1, y1, v4, f6, y8, v12, v16, v20, v22, v26, 0, 0, 0, 0, 0⟩)
    have hthr := (hrz).there
    have hge := grown_setCells_new (hge0) (g := w.heap.size) (by omega) (HCells (⟨1, y1, v4, f6, y8, v12, v16, v20, v22, v26, 0, 0, 0, 0, 0⟩)) 0
    obtain ⟨w9, hw9⟩ : ∃ y, y = (wz).setCells w.heap.size 0 (HCells (⟨1, y1, v4, f6, y8, v12, v16, v20, v22, v26, 0, 0, 0, 0, 0⟩)).toArray.toList := ⟨_, rfl⟩
    have HBE := zqd (show HBlk w.heap.size (⟨1, y1, v4, f6, y8, v12, v16, v20, v22, v26, 0, 0, 0, 0, 0⟩) w9 by rw [hw9]; exact hbe)
    have HTH := zqd hthr
    have HGE := zqd (show Gr w w9 by rw [hw9]; exact hge)
    have HW9 := zqd hw9
    clear hbe hthr hge hw9
    have hr5 := rd_keptBut (w' := w9) ho5.rd (r := some w.heap.size) (by rw [HW9.out]; exact grown_setCells _ _ _ _) (fun b' off' _ he => by have := own_after ho5 (p := w.heap.size) (by omega) b' off' he; simp; omega)
    have HR5 := zqd hr5
    have HF5 := zqd (show ∀ q off, a5 = some ⟨q, off, none⟩ → w.heap.size < q from fun q off he => own_after ho5 (p := w.heap.size) (by omega) q off he)
    clear hr5 ho5 hrz hge0 hwz
    refine Sched.walk2_go rfl (fun K hK => ?_)
    refine tq_storeP 49 _ _ rfl w.heap.size 0 (HCells (⟨1, y1, v4, f6, y8, v12, v16, v20, v22, v26, 0, 0, 0, 0, 0⟩)).toArray rfl rfl HTH.out (by kernel_rfl) (hcells_one _) ?_
    rw [← HW9.out]
    dsimp only [Act.put]
    try simp only [zqa, zqb, zqc]
    refine hK _ _ ?_
    clear hK K
    repeat (first | (refine Sched.walk2_no rfl (fun K hK => ?_); simp only [Act.put, zqa, zqb, zqc]; refine hK _ ?_; clear hK K) | (refine Sched.walk2_go rfl (fun K hK => ?_); go_simp; (try go_ints); (try (simp only [IntWalk.iteOmega]; go_simp)); (refine hK _ _ ?_; clear hK K)))
    refine Sched.walk2_nil ?_
    go_wp2_with fail
    refine bodyPost_ret (results_cell_row2 Tryd.results33 _ _ w.heap.size _ _ _ _ rfl HBE.out Tryd.underlying49 rfl (by kernel_rfl)) rfl ?_
    rw [HRES.out, (HQ).out.1]
    exact ⟨a5, n5, c5, rfl, HR5.out.len.symm, HR5.out, HGE.out, HF5.out⟩
  ·obtain rfl : cap = 28 := by omega
   obtain rfl : len = 28 := by omega
   have hqq := (HB2).out
   unfold HBlk at hqq
   have HQQ := zqd hqq
   clear hqq
   obtain ⟨R, hR⟩ : ∃ R, buildF (parseH xs) (xs.drop 28) = R := ⟨_, rfl⟩
   have HRB := zqd hR
   have HRD := zqd ((rd_none (w := w) (some ⟨b, off, none⟩) xs 28 (by rw [HL.out]; omega)))
   clear hR
   go_upto_region 9 with (fail)
   refine SchedD.wp_region_schedd 10 [] [4, 5, 6, 8] (SchedD.nsel [(4, NBld R), (5, NBld R), (6, NBy R.2), (8, NBy R.2)]) [(5, [(4, 81)]), (6, [(5, 76)]), (7, [(5, 76)]), (8, [(6, 82)])] (by kernel_rfl) (by kernel_rfl) ?_
   simp only [List.take_succ_cons, List.take_zero, List.drop_succ_cons, List.drop_zero]
   have HAK := zqd (fun u (hu : Gr w2 u) => (HB2).out.kept hu)
   (with_reducible refine SchedD.walk1_gr ?_ ?_ ?_ ?_ (fun K hK => ?_)); (focus rfl); (focus rfl); (focus rfl); (focus rfl)
   refine ⟨HVal ⟨1, y1, v4, f6, y8, v12, v16, v20, v22, v26, 0, 0, 0, 0, 0⟩, fun w1 hw1 => (HAK.out w1 hw1).load _ rfl rfl, ?_⟩
   simp only [Act.put, zqa, zqb, zqc]
   refine hK _ ?_
   clear hK K
   repeat (first | ((first | ((with_reducible refine SchedD.walk1_no ?_ ?_ ?_ (fun K hK => ?_)); (focus rfl); (focus rfl); (focus rfl)) | ((with_reducible refine SchedD.walk1_gr ?_ ?_ ?_ ?_ (fun K hK => ?_)); (focus rfl); (focus rfl); (focus rfl); (focus rfl); apply Exists.intro; refine ⟨fun w1 hw1 => ?_, ?_⟩; (focus (go_simp; (try go_ints); (try (simp only [IntWalk.iteOmega]; go_simp)); first | done | (with_reducible rfl) | (with_reducible exact ⟨rfl, rfl⟩))))); simp only [Act.put, zqa, zqb, zqc]; refine hK _ ?_; clear hK K))
   refine SchedD.walk1_new0 (NBld R) rfl rfl rfl rfl (NBld.stable _) (fun u hu => ?_) ?_
   ·go_simp
    go_at_call 57
    refine (rbuild_any ⟨1, y1, v4, f6, y8, v12, v16, v20, v22, v26, 0, 0, 0, 0, 0⟩ (some ⟨b, off, none⟩) 0 0 _ u ((HRD.out.kept (HG2).out).kept hu) (by omega)).mono ?_
    rw [← (HQ).out.1, HRB.out]
    rintro e w8 ⟨a8, n8, c8, rfl, _, hby, hgr⟩
    exact ⟨_, rfl, hgr, a8, n8, c8, rfl, hby.rd⟩
   refine SchedD.walk1_new1 (NBld R) (NBld R) 4 81 rfl rfl rfl rfl (NBld.stable _) (fun u hu lo1 hi1 u1 q1 => ?_) ?_
   ·obtain ⟨a8, n8, c8, rfl, hr1⟩ := q1
    refine ⟨rfl, ?_⟩
    go_simp
    exact ⟨Gr.refl _, a8, n8, c8, rfl, hr1⟩
   refine SchedD.walk1_new1 (NBy R.2) (NBld R) 5 76 rfl rfl rfl rfl (NBy.stable _) (fun u hu lo1 hi1 u1 q1 => ?_) ?_
   ·obtain ⟨a8, n8, c8, rfl, hr1⟩ := q1
    refine ⟨rfl, ?_⟩
    go_simp
    exact ⟨Gr.refl _, a8, n8, c8, rfl, hr1⟩
   refine SchedD.walk1_dep1 (.int .i64 R.1) (NBld R) 5 76 rfl rfl rfl rfl (fun u hu lo1 hi1 u1 q1 => ?_) ?_
   ·obtain ⟨a8, n8, c8, rfl, hr1⟩ := q1
    refine ⟨rfl, ?_⟩
    go_simp
    first | done | exact ⟨rfl, rfl⟩
   refine SchedD.walk1_new1 (NBy R.2) (NBy R.2) 6 82 rfl rfl rfl rfl (NBy.stable _) (fun u hu lo1 hi1 u1 q1 => ?_) ?_
   ·obtain ⟨a8, n8, c8, rfl, hr1⟩ := q1
    refine ⟨rfl, ?_⟩
    go_simp
    exact ⟨Gr.refl _, a8, n8, c8, rfl, hr1⟩
   repeat (first | ((first | ((with_reducible refine SchedD.walk1_no ?_ ?_ ?_ (fun K hK => ?_)); (focus rfl); (focus rfl); (focus rfl)) | ((with_reducible refine SchedD.walk1_gr ?_ ?_ ?_ ?_ (fun K hK => ?_)); (focus rfl); (focus rfl); (focus rfl); (focus rfl); apply Exists.intro; refine ⟨fun w1 hw1 => ?_, ?_⟩; (focus (go_simp; (try go_ints); (try (simp only [IntWalk.iteOmega]; go_simp)); first | done | (with_reducible rfl) | (with_reducible exact ⟨rfl, rfl⟩))))); simp only [Act.put, zqa, zqb, zqc]; refine hK _ ?_; clear hK K))
   (with_reducible refine SchedD.walk1_nil ?_)
   intro wq hwq
   dsimp only [Sched.EndN, List.nil_append, List.cons_append, Act.put]
   rintro - - v1 ⟨a1, n1, c1, rfl, -⟩ - - - - - - v2 ⟨a2, n2, c2, rfl, -⟩ - - - - - - v3 ⟨a3, n3, c3, rfl, -⟩ - - - - - - v4 ⟨a4, n4, c4, rfl, hr4⟩ - - - -
   (try simp only [zqa, zqb, zqc])
   refine Sched.walk2_nil ?_
   obtain ⟨E, hE⟩ : ∃ E, decide (xs = R.2) = E := ⟨_, rfl⟩
   have HE := zqd hE
   have HR4 := zqd hr4
   have HRX := zqd ((HR.out.kept (HG2).out).kept hwq)
   have HGW := zqd ((HG2).out.trans hwq)
   have HBW := zqd ((HB2).out.kept hwq)
   have HZW := zqd ((HZ2).out.kept hwq)
   clear hE hr4 hwq HAK HQQ
   by_cases hre : R.1 = 0
   rotate_left
   ·have hre1 : (R.1 == 0) = false := by simpa using hre
    have hre2 : (R.1 != 0) = true := by simpa using hre
    have HRES := zqd (show F = (zeroH, [], 4) by
     have hn : ¬ R.2 = xs := by rw [← HRB.out]; exact buildF_two (by rw [HL.out]; omega) (by rw [HRB.out]; exact hre)
     rw [← HF.out, parseF, if_neg (by rw [HL.out]; omega), (HQ).out.2, HRB.out, if_neg hn])
    have hbe := ((HZW.out).kept (Gr.refl _)).put (zeroH)
    have hthr := (HZW.out).there
    have hge := grown_setCells_new (HGW.out) (g := w.heap.size) (by omega) (HCells (zeroH)) 0
    obtain ⟨w9, hw9⟩ : ∃ y, y = (wq).setCells w.heap.size 0 (HCells (zeroH)).toArray.toList := ⟨_, rfl⟩
    have HBE := zqd (show HBlk w.heap.size (zeroH) w9 by rw [hw9]; exact hbe)
    have HTH := zqd hthr
    have HGE := zqd (show Gr w w9 by rw [hw9]; exact hge)
    have HW9 := zqd hw9
    clear hbe hthr hge hw9
    go_wp2_with (refine wpList_store_mid rfl 49 _ _ rfl w.heap.size 0 (HCells zeroH).toArray rfl rfl HTH.out (by kernel_rfl) (hcells_one _) ?_; rw [← HW9.out])
    refine bodyPost_ret (results_cell_row2 Tryd.results33 _ _ w.heap.size _ _ _ _ rfl HBE.out Tryd.underlying49 rfl (by kernel_rfl)) rfl ?_
    rw [HRES.out]
    exact ⟨none, 0, 0, rfl, rfl, (OwnI.nil 0 5 _ _).rd, HGE.out, fun q off e => by cases e⟩
   have hre1 : (R.1 == 0) = true := by simpa using hre
   have hre2 : (R.1 != 0) = false := by simpa using hre
   clear hre
   go_wp2_with fail
   refine (bsame_is HE.out wq HRX.out HR4.out).mono ?_
   rintro e w' ⟨rfl, rfl⟩
   cases E
   ·have HRES := zqd (show F = (zeroH, [], 4) by
     have hn : ¬ R.2 = xs := fun h => of_decide_eq_false HE.out h.symm
     rw [← HF.out, parseF, if_neg (by rw [HL.out]; omega), (HQ).out.2, HRB.out, if_neg hn])
    have hbe := ((HZW.out).kept (Gr.refl _)).put (zeroH)
    have hthr := (HZW.out).there
    have hge := grown_setCells_new (HGW.out) (g := w.heap.size) (by omega) (HCells (zeroH)) 0
    obtain ⟨w9, hw9⟩ : ∃ y, y = (wq).setCells w.heap.size 0 (HCells (zeroH)).toArray.toList := ⟨_, rfl⟩
    have HBE := zqd (show HBlk w.heap.size (zeroH) w9 by rw [hw9]; exact hbe)
    have HTH := zqd hthr
    have HGE := zqd (show Gr w w9 by rw [hw9]; exact hge)
    have HW9 := zqd hw9
    clear hbe hthr hge hw9
    go_wp2_with (refine wpList_store_mid rfl 49 _ _ rfl w.heap.size 0 (HCells zeroH).toArray rfl rfl HTH.out (by kernel_rfl) (hcells_one _) ?_; rw [← HW9.out])
    refine bodyPost_ret (results_cell_row2 Tryd.results33 _ _ w.heap.size _ _ _ _ rfl HBE.out Tryd.underlying49 rfl (by kernel_rfl)) rfl ?_
    rw [HRES.out]
    exact ⟨none, 0, 0, rfl, rfl, (OwnI.nil 0 5 _ _).rd, HGE.out, fun q off e => by cases e⟩
   ·have HRES := zqd (show F = (parseH xs, xs.drop 28, 0) by
     have hn : R.2 = xs := (of_decide_eq_true HE.out).symm
     rw [← HF.out, parseF, if_neg (by rw [HL.out]; omega), (HQ).out.2, HRB.out, if_pos hn])
    have HAK := zqd (fun u (hu : Gr wq u) => HBW.out.kept hu)
    go_upto_region 12 with (fail)
    refine Sched.wp_region_sched 5 [] [4] (by kernel_rfl) (by kernel_rfl) ?_
    simp only [List.take_succ_cons, List.take_zero, List.drop_succ_cons, List.drop_zero]
    refine Sched.walk1_gr rfl rfl rfl (fun K hK => ?_)
    refine ⟨HVal ⟨1, y1, v4, f6, y8, v12, v16, v20, v22, v26, 0, 0, 0, 0, 0⟩, fun w1 hw1 => (HAK.out w1 hw1).load _ rfl rfl, ?_⟩
    simp only [Act.put, zqa, zqb, zqc]
    refine hK _ ?_
    clear hK K
    repeat (first | ((first | (refine Sched.walk1_no rfl rfl (fun K hK => ?_)) | (refine Sched.walk1_gr rfl rfl rfl (fun K hK => ?_); apply Exists.intro; refine ⟨fun w1 hw1 => ?_, ?_⟩; (focus (go_simp; (try go_ints); (try (simp only [IntWalk.iteOmega]; go_simp)); first | done | (with_reducible rfl) | (with_reducible exact ⟨rfl, rfl⟩))))); simp only [Act.put, zqa, zqb, zqc]; refine hK _ ?_; clear hK K) | (refine Sched.walk1_box rfl rfl ?_; apply Exists.intro; refine ⟨fun w1 hw1 => ?_, ?_⟩; (focus (go_simp; exact ⟨Gr.alloc _ _, rfl, by simp, heap_alloc_new _ _⟩))))
    refine Sched.walk1_new (NOwn (w.heap.size + 1) (xs.drop 28)) rfl rfl (NOwn.stable _ _) (fun u hu => ?_) ?_
    ·have hz9 := heap_lt HZW.out
     have hz8 := hu.size
     obtain ⟨a8, c8, w8, hrun, ho8, hg8, _⟩ := app_u8_nil (w.heap.size + 1) u ((some ⟨b, off, none⟩)) (0) (0) _ ((HRD.out.kept HGW.out).kept hu) (by omega) (by omega)
     exact nq_appP _ _ _ rfl rfl rfl hrun ⟨hg8, a8, _, c8, rfl, ho8⟩
    (with_reducible refine Sched.walk1_nil ?_)
    intro wz hwz
    dsimp only [Sched.EndN, List.nil_append, List.cons_append, Act.put]
    rintro - - v5 ⟨a5, n5, c5, rfl, ho5⟩ - - - -
    (try simp only [zqa, zqb, zqc])
    have hrz := HZW.out.kept hwz
    have hge0 := HGW.out.trans hwz
    have hbe := ((hrz).kept (Gr.refl _)).put (⟨1, y1, v4, f6, y8, v12, v16, v20, v22, v26, 0, 0, 0, 0, 0⟩)
    have hthr := (hrz).there
    have hge := grown_setCells_new (hge0) (g := w.heap.size) (by omega) (HCells (⟨1, y1, v4, f6, y8, v12, v16, v20, v22, v26, 0, 0, 0, 0, 0⟩)) 0
    obtain ⟨w9, hw9⟩ : ∃ y, y = (wz).setCells w.heap.size 0 (HCells (⟨1, y1, v4, f6, y8, v12, v16, v20, v22, v26, 0, 0, 0, 0, 0⟩)).toArray.toList := ⟨_, rfl⟩
    have HBE := zqd (show HBlk w.heap.size (⟨1, y1, v4, f6, y8, v12, v16, v20, v22, v26, 0, 0, 0, 0, 0⟩) w9 by rw [hw9]; exact hbe)
    have HTH := zqd hthr
    have HGE := zqd (show Gr w w9 by rw [hw9]; exact hge)
    have HW9 := zqd hw9
    clear hbe hthr hge hw9
    have hr5 := rd_keptBut (w' := w9) ho5.rd (r := some w.heap.size) (by rw [HW9.out]; exact grown_setCells _ _ _ _) (fun b' off' _ he => by have := own_after ho5 (p := w.heap.size) (by omega) b' off' he; simp; omega)
    have HR5 := zqd hr5
    have HF5 := zqd (show ∀ q off, a5 = some ⟨q, off, none⟩ → w.heap.size < q from fun q off he => own_after ho5 (p := w.heap.size) (by omega) q off he)
    clear hr5 ho5 hrz hge0 hwz
    refine Sched.walk2_go rfl (fun K hK => ?_)
    refine tq_storeP 49 _ _ rfl w.heap.size 0 (HCells (⟨1, y1, v4, f6, y8, v12, v16, v20, v22, v26, 0, 0, 0, 0, 0⟩)).toArray rfl rfl HTH.out (by kernel_rfl) (hcells_one _) ?_
    rw [← HW9.out]
    dsimp only [Act.put]
    try simp only [zqa, zqb, zqc]
    refine hK _ _ ?_
    clear hK K
    repeat (first | (refine Sched.walk2_no rfl (fun K hK => ?_); simp only [Act.put, zqa, zqb, zqc]; refine hK _ ?_; clear hK K) | (refine Sched.walk2_go rfl (fun K hK => ?_); go_simp; (try go_ints); (try (simp only [IntWalk.iteOmega]; go_simp)); (refine hK _ _ ?_; clear hK K)))
    refine Sched.walk2_nil ?_
    go_wp2_with fail
    refine bodyPost_ret (results_cell_row2 Tryd.results33 _ _ w.heap.size _ _ _ _ rfl HBE.out Tryd.underlying49 rfl (by kernel_rfl)) rfl ?_
    rw [HRES.out, (HQ).out.1]
    exact ⟨a5, n5, c5, rfl, HR5.out.len.symm, HR5.out, HGE.out, HF5.out⟩
end Go.Proofs.YtlnkofpcidngoaaDoor