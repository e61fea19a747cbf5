import Derived.Test.YtlnkofpcidngoaaDoorB0
import Derived.Test.YtlnkofpcidngoaaDoorB15
namespace Go.Proofs.YtlnkofpcidngoaaDoor
open Go.ChangeShapes Go.WideShapes Go.ChangeAt Go.RowKit
open Crc
theorem fb_code {c k n : Int} (h1 : 0 ≤ c) (h2 : c < 16) (h5 : 0 ≤ n) (h6 : n ≤ 65535) : fbB c k n = (decide (0 ≤ k) && decide (k ≤ 2)) := by
 unfold fbB
 rw [decide_eq_true h1, decide_eq_true h2, decide_eq_true h5, decide_eq_true h6]
 simp
set_option maxRecDepth 100000 in
set_option maxHeartbeats 2000000 in
theorem rfdecode_any (a : Option Addr) (len cap : Nat) (xs : List Int) (w : World) (hr : Rd .u8 w a len xs) (hcap : len ≤ cap) (hL : len ≤ 140737488351232) : Calls Tryd.prog 25 #[.slice a len cap] w (FdPost (decF xs) w) := by
 obtain ⟨F, hF⟩ : ∃ F, decF xs = F := ⟨_, rfl⟩
 rw [hF]
 have HF := zqd hF
 have HR := zqd hr
 have HL := zqd hr.1
 clear hF hr
 go_enter Tryd.func25, Tryd.ntmps25
 go_upto_region 1 with (fail)
 obtain ⟨w1, hw1⟩ : ∃ y, y = w.alloc (.cells #[.int .i64 0, .int .i64 0, .int .i64 0] 26) := ⟨_, rfl⟩
 have HZ1 := zqd (show CBlk w.heap.size 26 [.int .i64 0, .int .i64 0, .int .i64 0] w1 by rw [hw1]; exact CBlk.new _ _ _)
 have HG1 := zqd (show Gr w w1 by rw [hw1]; exact Gr.alloc _ _)
 rw [← hw1]
 clear hw1
 by_cases h0 : len = 0
 · have HRES := zqd (show F = (0, 0, 0, 5) by rw [← HF.out, decF, if_pos (by rw [HL.out]; exact h0)])
   go_wp2_with (refine cblk_store rfl 26 _ _ rfl w.heap.size [.int .i64 (0), .int .i64 (0), .int .i64 (0)] (HZ1.out) rfl rfl rfl (by kernel_rfl) rfl ?_; intro w9 hb9 he9; have HB9 := zqd hb9; have HGE := zqd (show Gr w w9 by rw [← he9]; exact gr_setCells (HG1.out) (Nat.le_refl _) _ _); clear hb9 he9)
   refine bodyPost_ret (results_c1 Tryd.results25 _ _ w.heap.size _ _ rfl HB9.out Tryd.underlying26 rfl (by kernel_rfl)) rfl ⟨?_, HGE.out⟩
   rw [HRES.out]
   rfl
 · obtain ⟨b0, off, ea, -, hc⟩ := HR.out.some (by omega)
   subst ea
   have HC := zqd (show ∀ i, i < len → ∀ u, Gr w u → u.cell? ⟨b0, off + i, none⟩ = some (.int .u8 (xat xs i)) from fun i hi u hu => hu.cell (hc i hi))
   clear hc
   obtain ⟨x0, e0⟩ : ∃ x, xat xs 0 = x := ⟨_, rfl⟩
   have hx0 := xat_rng HR.out 0
   rw [e0] at hx0
   obtain ⟨p0, q0⟩ := hx0
   have HX0 := zqd e0
   clear e0
   go_upto_region 5 with (fail)
   obtain ⟨w2, hw2⟩ : ∃ y, y = w1.alloc (.cells #[.int .i64 0, .int .i64 0, .int .i64 0] 26) := ⟨_, rfl⟩
   have HY2 := zqd (show CBlk w1.heap.size 26 [.int .i64 0, .int .i64 0, .int .i64 0] w2 by rw [hw2]; exact CBlk.new _ _ _)
   have hg2 : Gr w1 w2 := by rw [hw2]; exact Gr.alloc _ _
   rw [← hw2]
   have HZ2 := zqd (HZ1.out.kept hg2)
   have HG2 := zqd (HG1.out.trans hg2)
   have hle := HG1.out.size
   have hz1 := HZ1.out.lt
   clear hw2 hg2 HZ1
   have HC0 := zqd (show ∀ u, Gr w2 u → u.cell? ⟨b0, off, none⟩ = some (.int .u8 x0) from fun u hu => by rw [← HX0.out]; exact HC.out 0 (by omega) u (HG2.out.trans hu))
   have c0 := HC0.out w2 (Gr.refl _)
   by_cases hlong : x0 / 16 = 14
   · have hb0 : (x0 / 16 == 14) = true := by simpa using hlong
     have hn0 := byte_fin (p := fun x => bits .and .u8 x 15 = x % 16) and15 p0 q0
     go_upto_region 6 with (fail)
     clear c0
     have c0 := HC0.out
     refine Sched.wp_region_sched 7 [] [] (by kernel_rfl) (by kernel_rfl) ?_
     simp only [List.take_succ_cons, List.take_zero, List.drop_succ_cons, List.drop_zero]
     repeat (first | (refine Sched.walk1_no rfl rfl (fun K hK => ?_); simp only [Act.put, zqa, zqb, zqc]; refine hK _ ?_; clear hK K) | (refine Sched.walk1_gr rfl rfl rfl (fun K hK => ?_); apply Exists.intro; refine ⟨fun w1 hw1 => ?_, ?_⟩; (focus (go_simp; (try go_ints); (try (simp only [IntWalk.iteOmega]; go_simp)); first | done | fail | (with_reducible rfl) | (with_reducible exact ⟨rfl, rfl⟩))); simp only [Act.put, zqa, zqb, zqc]; refine hK _ ?_; clear hK K) | (refine Sched.walk1_pure rfl rfl rfl (fun K hK => ?_); apply Exists.intro; refine ⟨fun w1 => ?_, ?_⟩; (focus (go_simp; (try go_ints); (try (simp only [IntWalk.iteOmega]; go_simp)); first | done | (with_reducible rfl) | (with_reducible exact ⟨rfl, rfl⟩))); simp only [Act.put, zqa, zqb, zqc]; refine hK _ ?_; clear hK K) | (refine Sched.walk1_box rfl rfl ?_; apply Exists.intro; refine ⟨fun w1 hw1 => ?_, ?_⟩; (focus (go_simp; exact ⟨Gr.alloc _ _, rfl, by simp, heap_alloc_new _ _⟩))))
     refine Sched.walk1_nil ?_
     intro wq hwq
     have hyq := HY2.out.kept hwq
     have y0 := hyq.at 0 rfl
     have yf := hyq.fz 0
     dsimp only [Sched.EndN, List.nil_append, List.cons_append, Act.put]
     (try simp only [zqa, zqb, zqc])
     repeat (first | (refine Sched.walk2_no rfl (fun K hK => ?_); simp only [Act.put, zqa, zqb, zqc]; refine hK _ ?_; clear hK K) | (refine Sched.walk2_go rfl (fun K hK => ?_); go_simp; (try go_ints); (try (simp only [IntWalk.iteOmega]; go_simp)); first | (refine hK _ _ ?_; clear hK K) | fail))
     refine Sched.walk2_nil ?_
     obtain ⟨w3, hw3⟩ : ∃ y, y = wq.setCell ⟨w1.heap.size, 0, none⟩ (.int .i64 (x0 % 16)) := ⟨_, rfl⟩
     rw [← hw3]
     have HY3 := zqd (show CBlk w1.heap.size 26 [.int .i64 (x0 % 16), .int .i64 0, .int .i64 0] w3 by rw [hw3]; exact hyq.set 0 _ rfl)
     have HZ3 := zqd (show CBlk w.heap.size 26 [.int .i64 0, .int .i64 0, .int .i64 0] w3 by rw [hw3]; exact (HZ2.out.kept hwq).other 0 _ (by omega))
     have HG3 := zqd (show Gr w w3 by rw [hw3]; exact gr_setCell (HG2.out.trans hwq) hle _ _)
     clear hw3 hyq y0 yf c0 hwq hn0
     by_cases h5 : len < 1 + 4
     · have hdt : decT 1 (x0 % 16) xs = (0, 0, 0, 5) := by rw [decT, if_pos (by rw [HL.out]; exact h5)]
       have HRES := zqd (show F = (0, 0, 0, 5) by rw [← HF.out, decF, if_neg (by rw [HL.out]; omega), HX0.out, if_pos hlong, hdt])
       go_wp2_with (refine cblk_store rfl 26 _ _ rfl w.heap.size [.int .i64 (0), .int .i64 (0), .int .i64 (0)] (HZ3.out) rfl rfl rfl (by kernel_rfl) rfl ?_; intro w9 hb9 he9; have HB9 := zqd hb9; have HGE := zqd (show Gr w w9 by rw [← he9]; exact gr_setCells (HG3.out) (Nat.le_refl _) _ _); clear hb9 he9)
       refine bodyPost_ret (results_c1 Tryd.results25 _ _ w.heap.size _ _ rfl HB9.out Tryd.underlying26 rfl (by kernel_rfl)) rfl ⟨?_, HGE.out⟩
       rw [HRES.out]
       rfl
     · obtain ⟨x1, e1⟩ : ∃ x, xat xs 1 = x := ⟨_, rfl⟩
       obtain ⟨x2, e2⟩ : ∃ x, xat xs (1 + 1) = x := ⟨_, rfl⟩
       obtain ⟨x3, e3⟩ : ∃ x, xat xs (1 + 2) = x := ⟨_, rfl⟩
       obtain ⟨x4, e4⟩ : ∃ x, xat xs (1 + 3) = x := ⟨_, rfl⟩
       have r1 := xat_rng HR.out 1
       have r2 := xat_rng HR.out (1 + 1)
       have r3 := xat_rng HR.out (1 + 2)
       have r4 := xat_rng HR.out (1 + 3)
       rw [e1] at r1
       rw [e2] at r2
       rw [e3] at r3
       rw [e4] at r4
       obtain ⟨p1, q1⟩ := r1
       obtain ⟨p2, q2⟩ := r2
       obtain ⟨p3, q3⟩ := r3
       obtain ⟨p4, q4⟩ := r4
       have HE1 := zqd e1
       have HE2 := zqd e2
       have HE3 := zqd e3
       have HE4 := zqd e4
       clear e1 e2 e3 e4
       obtain ⟨n, hn⟩ : ∃ n, 256 * x2 + x3 = n := ⟨_, rfl⟩
       have HN := zqd (show 256 * xat xs (1 + 1) + xat xs (1 + 2) = n by rw [HE2.out, HE3.out, hn])
       have hnr : 0 ≤ n ∧ n ≤ 65535 := by omega
       have HGN := zqd (show getN xs (1 + 1) 2 = n by simp only [getN]; rw [← HN.out]; simp only [xat]; simp)
       obtain ⟨V, hV⟩ : ∃ V, fbB (x0 % 16) (x1 - 240) n = V := ⟨_, rfl⟩
       have HVE := zqd (show V = (decide (0 ≤ x1 - 240) && decide (x1 - 240 ≤ 2)) by rw [← hV]; exact fb_code (by omega) (by omega) hnr.1 hnr.2)
       have HDT := zqd (show decT 1 (x0 % 16) xs = if 1 + 4 < len ∨ V = false ∨ ((1 : Nat) = 1 ∧ ((x0 % 16) : Int) = 0) then (0, 0, 0, 4) else if sumV 8 (xs.take (1 + 3)) = x4 then (x0 % 16, x1 - 240, n, 0) else (0, 0, 0, 6) by
         rw [decT, if_neg (by rw [HL.out]; exact h5), HL.out, HE1.out, HN.out, HE4.out, hV])
       clear hV hn hnr
       have c1 : (w3).cell? ⟨b0, off + 1, none⟩ = some (.int .u8 x1) := by rw [← HE1.out]; exact HC.out 1 (by omega) _ (HG3.out)
       by_cases h6 : 1 + 4 < len
       · have hdt : decT 1 (x0 % 16) xs = (0, 0, 0, 4) := by rw [HDT.out, if_pos (.inl h6)]
         have HRES := zqd (show F = (0, 0, 0, 4) by rw [← HF.out, decF, if_neg (by rw [HL.out]; omega), HX0.out, if_pos hlong, hdt])
         go_wp2_with (refine cblk_store rfl 26 _ _ rfl w.heap.size [.int .i64 (0), .int .i64 (0), .int .i64 (0)] (HZ3.out) rfl rfl rfl (by kernel_rfl) rfl ?_; intro w9 hb9 he9; have HB9 := zqd hb9; have HGE := zqd (show Gr w w9 by rw [← he9]; exact gr_setCells (HG3.out) (Nat.le_refl _) _ _); clear hb9 he9)
         refine bodyPost_ret (results_c1 Tryd.results25 _ _ w.heap.size _ _ rfl HB9.out Tryd.underlying26 rfl (by kernel_rfl)) rfl ⟨?_, HGE.out⟩
         rw [HRES.out]
         rfl
       · obtain rfl : len = 1 + 4 := by omega
         have hy0 := (HY3.out).at 0 rfl
         by_cases hz : x0 % 16 = 0
         · have hdt : decT 1 (x0 % 16) xs = (0, 0, 0, 4) := by rw [HDT.out, if_pos (.inr (.inr ⟨by trivial, hz⟩))]
           have HRES := zqd (show F = (0, 0, 0, 4) by rw [← HF.out, decF, if_neg (by rw [HL.out]; omega), HX0.out, if_pos hlong, hdt])
           go_wp2_with (refine cblk_store rfl 26 _ _ rfl w.heap.size [.int .i64 (0), .int .i64 (0), .int .i64 (0)] (HZ3.out) rfl rfl rfl (by kernel_rfl) rfl ?_; intro w9 hb9 he9; have HB9 := zqd hb9; have HGE := zqd (show Gr w w9 by rw [← he9]; exact gr_setCells (HG3.out) (Nat.le_refl _) _ _); clear hb9 he9)
           refine bodyPost_ret (results_c1 Tryd.results25 _ _ w.heap.size _ _ rfl HB9.out Tryd.underlying26 rfl (by kernel_rfl)) rfl ⟨?_, HGE.out⟩
           rw [HRES.out]
           rfl
         · by_cases h7 : x1 < 240
           · have hdt : decT 1 (x0 % 16) xs = (0, 0, 0, 4) := by rw [HDT.out, if_pos (.inr (.inl (by rw [HVE.out, decide_eq_false (by omega)]; rfl)))]
             have HRES := zqd (show F = (0, 0, 0, 4) by rw [← HF.out, decF, if_neg (by rw [HL.out]; omega), HX0.out, if_pos hlong, hdt])
             go_wp2_with (refine cblk_store rfl 26 _ _ rfl w.heap.size [.int .i64 (0), .int .i64 (0), .int .i64 (0)] (HZ3.out) rfl rfl rfl (by kernel_rfl) rfl ?_; intro w9 hb9 he9; have HB9 := zqd hb9; have HGE := zqd (show Gr w w9 by rw [← he9]; exact gr_setCells (HG3.out) (Nat.le_refl _) _ _); clear hb9 he9)
             refine bodyPost_ret (results_c1 Tryd.results25 _ _ w.heap.size _ _ rfl HB9.out Tryd.underlying26 rfl (by kernel_rfl)) rfl ⟨?_, HGE.out⟩
             rw [HRES.out]
             rfl
           · by_cases h9 : 242 < x1
             · have hdt : decT 1 (x0 % 16) xs = (0, 0, 0, 4) := by rw [HDT.out, if_pos (.inr (.inl (by rw [HVE.out, decide_eq_false (show ¬ x1 - 240 ≤ 2 by omega)]; simp)))]
               have HRES := zqd (show F = (0, 0, 0, 4) by rw [← HF.out, decF, if_neg (by rw [HL.out]; omega), HX0.out, if_pos hlong, hdt])
               go_wp2_with (refine cblk_store rfl 26 _ _ rfl w.heap.size [.int .i64 (0), .int .i64 (0), .int .i64 (0)] (HZ3.out) rfl rfl rfl (by kernel_rfl) rfl ?_; intro w9 hb9 he9; have HB9 := zqd hb9; have HGE := zqd (show Gr w w9 by rw [← he9]; exact gr_setCells (HG3.out) (Nat.le_refl _) _ _); clear hb9 he9)
               refine bodyPost_ret (results_c1 Tryd.results25 _ _ w.heap.size _ _ rfl HB9.out Tryd.underlying26 rfl (by kernel_rfl)) rfl ⟨?_, HGE.out⟩
               rw [HRES.out]
               rfl
             · obtain rfl : V = true := by rw [HVE.out, decide_eq_true (by omega), decide_eq_true (by omega)]; rfl
               go_upto_region 11 with (fail)
               clear c1 hy0
               have c1 : ∀ u, Gr w3 u → u.cell? ⟨b0, off + 1, none⟩ = some (.int .u8 x1) := fun u hu => by rw [← HE1.out]; exact HC.out 1 (by omega) u ((HG3.out).trans hu)
               have hw1m : (x1 - 240) % 256 = x1 - 240 := by omega
               have hI : ∀ u, Gr w3 u → Rd .u8 u (some ⟨b0, off, none⟩) (1 + 4) xs := fun u hu => HR.out.kept ((HG3.out).trans hu)
               refine Sched2.wp_region_sched (fun u => Rd .u8 u (some ⟨b0, off, none⟩) (1 + 4) xs) [6, 7, 8, 9] [] [11, 12, 13] true hI (by kernel_rfl) (by kernel_rfl) ?_
               repeat (first | (refine Sched2.walk1_ord rfl ?_) | (refine Sched2.walk1_no rfl rfl rfl (fun K hK => ?_); simp only [Act.put, zqa, zqb, zqc]; refine hK _ ?_; clear hK K) | (refine Sched2.walk1_gr rfl rfl rfl rfl (fun K hK => ?_); apply Exists.intro; refine ⟨fun w1 hw1 => ?_, ?_⟩; (focus (go_simp; (try go_ints); (try (simp only [IntWalk.iteOmega]; go_simp)); first | done | ((go_at_call 54; (with_reducible exact gr_late (rget_is (cap := cap) HGN.out _ _ _ rfl rfl hw1 (by omega) (by omega) (by omega) (by omega))))) | ((go_at_call 54; (with_reducible exact gr_same (rget_is (cap := cap) HGN.out _ _ _ rfl rfl (hI _ hw1) (by omega) (by omega) (by omega) (by omega))))) | (with_reducible rfl) | (with_reducible exact ⟨rfl, rfl⟩))); simp only [Act.put, zqa, zqb, zqc]; refine hK _ ?_; clear hK K) | (refine Sched2.walk1_late rfl rfl rfl rfl (fun K hK => ?_); apply Exists.intro; refine ⟨fun w1 hw1 => ?_, ?_⟩; (focus (go_simp; (try go_ints); (try (simp only [IntWalk.iteOmega]; go_simp)); first | done | ((go_at_call 54; (with_reducible exact gr_late (rget_is (cap := cap) HGN.out _ _ _ rfl rfl hw1 (by omega) (by omega) (by omega) (by omega))))) | ((go_at_call 54; (with_reducible exact gr_same (rget_is (cap := cap) HGN.out _ _ _ rfl rfl (hI _ hw1) (by omega) (by omega) (by omega) (by omega))))) | (with_reducible rfl) | (with_reducible exact ⟨rfl, rfl⟩))); simp only [Act.put, zqa, zqb, zqc]; refine hK _ ?_; clear hK K) | (refine Sched2.walk1_box rfl rfl rfl ?_; apply Exists.intro; refine ⟨fun w1 hw1 => ?_, ?_⟩; (focus (go_simp; exact ⟨Gr.alloc _ _, rfl, by simp, heap_alloc_new _ _⟩))))
               refine Sched2.walk1_nil ?_
               intro wq hwq
               have hyq := (HY3.out).kept hwq
               have y1 := hyq.at 1 rfl
               have yf1 := hyq.fz 1
               have y2 := hyq.at 2 rfl
               have yf2 := hyq.fz 2
               have hiq : ∀ i v, Rd .u8 (wq.setCell ⟨w1.heap.size, i, none⟩ v) (some ⟨b0, off, none⟩) (1 + 4) xs := fun i v => HR.out.kept (gr_setCell ((HG3.out).trans hwq) hle _ _)
               dsimp only [Sched.EndN, List.nil_append, List.cons_append, Act.put]
               (try simp only [zqa, zqb, zqc])
               simp only [Sched2.lasts, List.filterMap_cons, List.filterMap_nil, List.getElem?_toArray, List.getElem?_cons_succ, List.getElem?_cons_zero]
               repeat (first | (refine Sched2.walk2_no rfl (fun K hK => ?_); simp only [Act.put, zqa, zqb, zqc]; refine hK _ ?_; clear hK K) | (refine Sched2.walk2_go rfl (fun K hK => ?_); go_simp; (try go_ints); (try (simp only [IntWalk.iteOmega]; go_simp)); first | (refine hK _ _ (by first | exact .inl ⟨rfl, rfl⟩ | exact .inr ((hiq _ _))) ?_; clear hK K) | fail))
               refine Sched2.walk2_nil ?_
               obtain ⟨w5, hw5⟩ : ∃ y, y = (wq.setCell ⟨w1.heap.size, 1, none⟩ (.int .i64 (x1 - 240))).setCell ⟨w1.heap.size, 2, none⟩ (.int .i64 n) := ⟨_, rfl⟩
               rw [← hw5]
               have HY5 := zqd (show CBlk w1.heap.size 26 [.int .i64 (x0 % 16), .int .i64 (x1 - 240), .int .i64 n] w5 by rw [hw5]; exact (hyq.set 1 _ rfl).set 2 _ rfl)
               have HZ5 := zqd (show CBlk w.heap.size 26 [.int .i64 0, .int .i64 0, .int .i64 0] w5 by rw [hw5]; exact (((HZ3.out).kept hwq).other 1 _ (by omega)).other 2 _ (by omega))
               have HG5 := zqd (show Gr w w5 by rw [hw5]; exact gr_setCell (gr_setCell ((HG3.out).trans hwq) hle _ _) hle _ _)
               clear hw5 hyq y1 y2 yf1 yf2 hwq hiq hI c1 hw1m
               obtain ⟨S, hS⟩ : ∃ S, sumV 8 (xs.take (1 + 3)) = S := ⟨_, rfl⟩
               have HS := zqd hS
               clear hS
               go_wp2_with fail
               refine (rsum_is HS.out (show sumE 8 = 0 by decide) _ (1 + 3) _ w5 (rd_takeC (HR.out.kept HG5.out) (by omega))).mono ?_
               rintro e w7 ⟨rfl, hg7⟩
               have HY7 := zqd (HY5.out.kept hg7)
               have HZ7 := zqd (HZ5.out.kept hg7)
               have HG7 := zqd (HG5.out.trans hg7)
               have c4 : w7.cell? ⟨b0, off + (1 + 3), none⟩ = some (.int .u8 x4) := by rw [← HE4.out]; exact HC.out (1 + 3) (by omega) w7 (HG5.out.trans hg7)
               clear hg7 HY5 HZ5 HG5
               by_cases h8 : S = x4
               · have HDT2 := zqd (show F = (x0 % 16, x1 - 240, n, 0) by rw [← HF.out, decF, if_neg (by rw [HL.out]; omega), HX0.out, if_pos hlong, HDT.out, if_neg (by rintro (h | h | h) <;> first | omega | (cases h; done)), HS.out, if_pos h8])
                 have hsb : (S != x4) = false := by simpa using h8
                 go_upto_region 15 with (fail)
                 go_wp2_with (first | (refine cblk_load rfl 26 _ rfl w1.heap.size rfl HY7.out Tryd.underlying26 rfl (by kernel_rfl) ?_) | (refine cblk_store rfl 26 _ _ rfl w.heap.size [.int .i64 (x0 % 16), .int .i64 (x1 - 240), .int .i64 n] HZ7.out rfl rfl rfl (by kernel_rfl) rfl ?_; intro w9 hb9 he9; have HB9 := zqd hb9; have HGE := zqd (show Gr w w9 by rw [← he9]; exact gr_setCells HG7.out (Nat.le_refl _) _ _); clear hb9 he9))
                 refine bodyPost_ret (results_c1 Tryd.results25 _ _ w.heap.size _ _ rfl HB9.out Tryd.underlying26 rfl (by kernel_rfl)) rfl ⟨?_, HGE.out⟩
                 rw [HDT2.out]
                 rfl
               · have HRES := zqd (show F = (0, 0, 0, 6) by rw [← HF.out, decF, if_neg (by rw [HL.out]; omega), HX0.out, if_pos hlong, HDT.out, if_neg (by rintro (h | h | h) <;> first | omega | (cases h; done)), HS.out, if_neg h8])
                 have hsb : (S != x4) = true := by simpa using h8
                 go_wp2_with (refine cblk_store rfl 26 _ _ rfl w.heap.size [.int .i64 (0), .int .i64 (0), .int .i64 (0)] (HZ7.out) rfl rfl rfl (by kernel_rfl) rfl ?_; intro w9 hb9 he9; have HB9 := zqd hb9; have HGE := zqd (show Gr w w9 by rw [← he9]; exact gr_setCells (HG7.out) (Nat.le_refl _) _ _); clear hb9 he9)
                 refine bodyPost_ret (results_c1 Tryd.results25 _ _ w.heap.size _ _ rfl HB9.out Tryd.underlying26 rfl (by kernel_rfl)) rfl ⟨?_, HGE.out⟩
                 rw [HRES.out]
                 rfl
   · have hb0 : (x0 / 16 == 14) = false := by simpa using hlong
     go_upto_region 7 with (fail)
     clear c0
     by_cases h5 : len < 0 + 4
     · have hdt : decT 0 (0) xs = (0, 0, 0, 5) := by rw [decT, if_pos (by rw [HL.out]; exact h5)]
       have HRES := zqd (show F = (0, 0, 0, 5) by rw [← HF.out, decF, if_neg (by rw [HL.out]; omega), HX0.out, if_neg hlong, hdt])
       go_wp2_with (refine cblk_store rfl 26 _ _ rfl w.heap.size [.int .i64 (0), .int .i64 (0), .int .i64 (0)] (HZ2.out) rfl rfl rfl (by kernel_rfl) rfl ?_; intro w9 hb9 he9; have HB9 := zqd hb9; have HGE := zqd (show Gr w w9 by rw [← he9]; exact gr_setCells (HG2.out) (Nat.le_refl _) _ _); clear hb9 he9)
       refine bodyPost_ret (results_c1 Tryd.results25 _ _ w.heap.size _ _ rfl HB9.out Tryd.underlying26 rfl (by kernel_rfl)) rfl ⟨?_, HGE.out⟩
       rw [HRES.out]
       rfl
     · obtain ⟨x1, e1⟩ : ∃ x, xat xs 0 = x := ⟨_, rfl⟩
       obtain ⟨x2, e2⟩ : ∃ x, xat xs (0 + 1) = x := ⟨_, rfl⟩
       obtain ⟨x3, e3⟩ : ∃ x, xat xs (0 + 2) = x := ⟨_, rfl⟩
       obtain ⟨x4, e4⟩ : ∃ x, xat xs (0 + 3) = x := ⟨_, rfl⟩
       have r1 := xat_rng HR.out 0
       have r2 := xat_rng HR.out (0 + 1)
       have r3 := xat_rng HR.out (0 + 2)
       have r4 := xat_rng HR.out (0 + 3)
       rw [e1] at r1
       rw [e2] at r2
       rw [e3] at r3
       rw [e4] at r4
       obtain ⟨p1, q1⟩ := r1
       obtain ⟨p2, q2⟩ := r2
       obtain ⟨p3, q3⟩ := r3
       obtain ⟨p4, q4⟩ := r4
       have HE1 := zqd e1
       have HE2 := zqd e2
       have HE3 := zqd e3
       have HE4 := zqd e4
       clear e1 e2 e3 e4
       obtain ⟨n, hn⟩ : ∃ n, 256 * x2 + x3 = n := ⟨_, rfl⟩
       have HN := zqd (show 256 * xat xs (0 + 1) + xat xs (0 + 2) = n by rw [HE2.out, HE3.out, hn])
       have hnr : 0 ≤ n ∧ n ≤ 65535 := by omega
       have HGN := zqd (show getN xs (0 + 1) 2 = n by simp only [getN]; rw [← HN.out]; simp only [xat]; simp)
       obtain ⟨V, hV⟩ : ∃ V, fbB (0) (x1 - 240) n = V := ⟨_, rfl⟩
       have HVE := zqd (show V = (decide (0 ≤ x1 - 240) && decide (x1 - 240 ≤ 2)) by rw [← hV]; exact fb_code (by omega) (by omega) hnr.1 hnr.2)
       have HDT := zqd (show decT 0 (0) xs = if 0 + 4 < len ∨ V = false ∨ ((0 : Nat) = 1 ∧ ((0) : Int) = 0) then (0, 0, 0, 4) else if sumV 8 (xs.take (0 + 3)) = x4 then (0, x1 - 240, n, 0) else (0, 0, 0, 6) by
         rw [decT, if_neg (by rw [HL.out]; exact h5), HL.out, HE1.out, HN.out, HE4.out, hV])
       clear hV hn hnr
       have c1 : (w2).cell? ⟨b0, off, none⟩ = some (.int .u8 x1) := by rw [← HE1.out]; exact HC.out 0 (by omega) _ (HG2.out)
       by_cases h6 : 0 + 4 < len
       · have hdt : decT 0 (0) xs = (0, 0, 0, 4) := by rw [HDT.out, if_pos (.inl h6)]
         have HRES := zqd (show F = (0, 0, 0, 4) by rw [← HF.out, decF, if_neg (by rw [HL.out]; omega), HX0.out, if_neg hlong, hdt])
         go_wp2_with (refine cblk_store rfl 26 _ _ rfl w.heap.size [.int .i64 (0), .int .i64 (0), .int .i64 (0)] (HZ2.out) rfl rfl rfl (by kernel_rfl) rfl ?_; intro w9 hb9 he9; have HB9 := zqd hb9; have HGE := zqd (show Gr w w9 by rw [← he9]; exact gr_setCells (HG2.out) (Nat.le_refl _) _ _); clear hb9 he9)
         refine bodyPost_ret (results_c1 Tryd.results25 _ _ w.heap.size _ _ rfl HB9.out Tryd.underlying26 rfl (by kernel_rfl)) rfl ⟨?_, HGE.out⟩
         rw [HRES.out]
         rfl
       · obtain rfl : len = 0 + 4 := by omega
         have hy0 := (HY2.out).at 0 rfl
         by_cases h7 : x1 < 240
         · have hdt : decT 0 (0) xs = (0, 0, 0, 4) := by rw [HDT.out, if_pos (.inr (.inl (by rw [HVE.out, decide_eq_false (by omega)]; rfl)))]
           have HRES := zqd (show F = (0, 0, 0, 4) by rw [← HF.out, decF, if_neg (by rw [HL.out]; omega), HX0.out, if_neg hlong, hdt])
           go_wp2_with (refine cblk_store rfl 26 _ _ rfl w.heap.size [.int .i64 (0), .int .i64 (0), .int .i64 (0)] (HZ2.out) rfl rfl rfl (by kernel_rfl) rfl ?_; intro w9 hb9 he9; have HB9 := zqd hb9; have HGE := zqd (show Gr w w9 by rw [← he9]; exact gr_setCells (HG2.out) (Nat.le_refl _) _ _); clear hb9 he9)
           refine bodyPost_ret (results_c1 Tryd.results25 _ _ w.heap.size _ _ rfl HB9.out Tryd.underlying26 rfl (by kernel_rfl)) rfl ⟨?_, HGE.out⟩
           rw [HRES.out]
           rfl
         · by_cases h9 : 242 < x1
           · have hdt : decT 0 (0) xs = (0, 0, 0, 4) := by rw [HDT.out, if_pos (.inr (.inl (by rw [HVE.out, decide_eq_false (show ¬ x1 - 240 ≤ 2 by omega)]; simp)))]
             have HRES := zqd (show F = (0, 0, 0, 4) by rw [← HF.out, decF, if_neg (by rw [HL.out]; omega), HX0.out, if_neg hlong, hdt])
             go_wp2_with (refine cblk_store rfl 26 _ _ rfl w.heap.size [.int .i64 (0), .int .i64 (0), .int .i64 (0)] (HZ2.out) rfl rfl rfl (by kernel_rfl) rfl ?_; intro w9 hb9 he9; have HB9 := zqd hb9; have HGE := zqd (show Gr w w9 by rw [← he9]; exact gr_setCells (HG2.out) (Nat.le_refl _) _ _); clear hb9 he9)
             refine bodyPost_ret (results_c1 Tryd.results25 _ _ w.heap.size _ _ rfl HB9.out Tryd.underlying26 rfl (by kernel_rfl)) rfl ⟨?_, HGE.out⟩
             rw [HRES.out]
             rfl
           · obtain rfl : V = true := by rw [HVE.out, decide_eq_true (by omega), decide_eq_true (by omega)]; rfl
             go_upto_region 11 with (fail)
             clear c1 hy0
             have c1 : ∀ u, Gr w2 u → u.cell? ⟨b0, off, none⟩ = some (.int .u8 x1) := fun u hu => by rw [← HE1.out]; exact HC.out 0 (by omega) u ((HG2.out).trans hu)
             have hw1m : (x1 - 240) % 256 = x1 - 240 := by omega
             have hI : ∀ u, Gr w2 u → Rd .u8 u (some ⟨b0, off, none⟩) (0 + 4) xs := fun u hu => HR.out.kept ((HG2.out).trans hu)
             refine Sched2.wp_region_sched (fun u => Rd .u8 u (some ⟨b0, off, none⟩) (0 + 4) xs) [6, 7, 8, 9] [] [11, 12, 13] true hI (by kernel_rfl) (by kernel_rfl) ?_
             repeat (first | (refine Sched2.walk1_ord rfl ?_) | (refine Sched2.walk1_no rfl rfl rfl (fun K hK => ?_); simp only [Act.put, zqa, zqb, zqc]; refine hK _ ?_; clear hK K) | (refine Sched2.walk1_gr rfl rfl rfl rfl (fun K hK => ?_); apply Exists.intro; refine ⟨fun w1 hw1 => ?_, ?_⟩; (focus (go_simp; (try go_ints); (try (simp only [IntWalk.iteOmega]; go_simp)); first | done | ((go_at_call 54; (with_reducible exact gr_late (rget_is (cap := cap) HGN.out _ _ _ rfl rfl hw1 (by omega) (by omega) (by omega) (by omega))))) | ((go_at_call 54; (with_reducible exact gr_same (rget_is (cap := cap) HGN.out _ _ _ rfl rfl (hI _ hw1) (by omega) (by omega) (by omega) (by omega))))) | (with_reducible rfl) | (with_reducible exact ⟨rfl, rfl⟩))); simp only [Act.put, zqa, zqb, zqc]; refine hK _ ?_; clear hK K) | (refine Sched2.walk1_late rfl rfl rfl rfl (fun K hK => ?_); apply Exists.intro; refine ⟨fun w1 hw1 => ?_, ?_⟩; (focus (go_simp; (try go_ints); (try (simp only [IntWalk.iteOmega]; go_simp)); first | done | ((go_at_call 54; (with_reducible exact gr_late (rget_is (cap := cap) HGN.out _ _ _ rfl rfl hw1 (by omega) (by omega) (by omega) (by omega))))) | ((go_at_call 54; (with_reducible exact gr_same (rget_is (cap := cap) HGN.out _ _ _ rfl rfl (hI _ hw1) (by omega) (by omega) (by omega) (by omega))))) | (with_reducible rfl) | (with_reducible exact ⟨rfl, rfl⟩))); simp only [Act.put, zqa, zqb, zqc]; refine hK _ ?_; clear hK K) | (refine Sched2.walk1_box rfl rfl rfl ?_; apply Exists.intro; refine ⟨fun w1 hw1 => ?_, ?_⟩; (focus (go_simp; exact ⟨Gr.alloc _ _, rfl, by simp, heap_alloc_new _ _⟩))))
             refine Sched2.walk1_nil ?_
             intro wq hwq
             have hyq := (HY2.out).kept hwq
             have y1 := hyq.at 1 rfl
             have yf1 := hyq.fz 1
             have y2 := hyq.at 2 rfl
             have yf2 := hyq.fz 2
             have hiq : ∀ i v, Rd .u8 (wq.setCell ⟨w1.heap.size, i, none⟩ v) (some ⟨b0, off, none⟩) (0 + 4) xs := fun i v => HR.out.kept (gr_setCell ((HG2.out).trans hwq) hle _ _)
             dsimp only [Sched.EndN, List.nil_append, List.cons_append, Act.put]
             (try simp only [zqa, zqb, zqc])
             simp only [Sched2.lasts, List.filterMap_cons, List.filterMap_nil, List.getElem?_toArray, List.getElem?_cons_succ, List.getElem?_cons_zero]
             repeat (first | (refine Sched2.walk2_no rfl (fun K hK => ?_); simp only [Act.put, zqa, zqb, zqc]; refine hK _ ?_; clear hK K) | (refine Sched2.walk2_go rfl (fun K hK => ?_); go_simp; (try go_ints); (try (simp only [IntWalk.iteOmega]; go_simp)); first | (refine hK _ _ (by first | exact .inl ⟨rfl, rfl⟩ | exact .inr ((hiq _ _))) ?_; clear hK K) | fail))
             refine Sched2.walk2_nil ?_
             obtain ⟨w5, hw5⟩ : ∃ y, y = (wq.setCell ⟨w1.heap.size, 1, none⟩ (.int .i64 (x1 - 240))).setCell ⟨w1.heap.size, 2, none⟩ (.int .i64 n) := ⟨_, rfl⟩
             rw [← hw5]
             have HY5 := zqd (show CBlk w1.heap.size 26 [.int .i64 (0), .int .i64 (x1 - 240), .int .i64 n] w5 by rw [hw5]; exact (hyq.set 1 _ rfl).set 2 _ rfl)
             have HZ5 := zqd (show CBlk w.heap.size 26 [.int .i64 0, .int .i64 0, .int .i64 0] w5 by rw [hw5]; exact (((HZ2.out).kept hwq).other 1 _ (by omega)).other 2 _ (by omega))
             have HG5 := zqd (show Gr w w5 by rw [hw5]; exact gr_setCell (gr_setCell ((HG2.out).trans hwq) hle _ _) hle _ _)
             clear hw5 hyq y1 y2 yf1 yf2 hwq hiq hI c1 hw1m
             obtain ⟨S, hS⟩ : ∃ S, sumV 8 (xs.take (0 + 3)) = S := ⟨_, rfl⟩
             have HS := zqd hS
             clear hS
             go_wp2_with fail
             refine (rsum_is HS.out (show sumE 8 = 0 by decide) _ (0 + 3) _ w5 (rd_takeC (HR.out.kept HG5.out) (by omega))).mono ?_
             rintro e w7 ⟨rfl, hg7⟩
             have HY7 := zqd (HY5.out.kept hg7)
             have HZ7 := zqd (HZ5.out.kept hg7)
             have HG7 := zqd (HG5.out.trans hg7)
             have c4 : w7.cell? ⟨b0, off + (3), none⟩ = some (.int .u8 x4) := by rw [← HE4.out]; exact HC.out (0 + 3) (by omega) w7 (HG5.out.trans hg7)
             clear hg7 HY5 HZ5 HG5
             by_cases h8 : S = x4
             · have HDT2 := zqd (show F = (0, x1 - 240, n, 0) by rw [← HF.out, decF, if_neg (by rw [HL.out]; omega), HX0.out, if_neg hlong, HDT.out, if_neg (by rintro (h | h | h) <;> first | omega | (cases h; done)), HS.out, if_pos h8])
               have hsb : (S != x4) = false := by simpa using h8
               go_upto_region 15 with (fail)
               go_wp2_with (first | (refine cblk_load rfl 26 _ rfl w1.heap.size rfl HY7.out Tryd.underlying26 rfl (by kernel_rfl) ?_) | (refine cblk_store rfl 26 _ _ rfl w.heap.size [.int .i64 (0), .int .i64 (x1 - 240), .int .i64 n] HZ7.out rfl rfl rfl (by kernel_rfl) rfl ?_; intro w9 hb9 he9; have HB9 := zqd hb9; have HGE := zqd (show Gr w w9 by rw [← he9]; exact gr_setCells HG7.out (Nat.le_refl _) _ _); clear hb9 he9))
               refine bodyPost_ret (results_c1 Tryd.results25 _ _ w.heap.size _ _ rfl HB9.out Tryd.underlying26 rfl (by kernel_rfl)) rfl ⟨?_, HGE.out⟩
               rw [HDT2.out]
               rfl
             · have HRES := zqd (show F = (0, 0, 0, 6) by rw [← HF.out, decF, if_neg (by rw [HL.out]; omega), HX0.out, if_neg hlong, HDT.out, if_neg (by rintro (h | h | h) <;> first | omega | (cases h; done)), HS.out, if_neg h8])
               have hsb : (S != x4) = true := by simpa using h8
               go_wp2_with (refine cblk_store rfl 26 _ _ rfl w.heap.size [.int .i64 (0), .int .i64 (0), .int .i64 (0)] (HZ7.out) rfl rfl rfl (by kernel_rfl) rfl ?_; intro w9 hb9 he9; have HB9 := zqd hb9; have HGE := zqd (show Gr w w9 by rw [← he9]; exact gr_setCells (HG7.out) (Nat.le_refl _) _ _); clear hb9 he9)
               refine bodyPost_ret (results_c1 Tryd.results25 _ _ w.heap.size _ _ rfl HB9.out Tryd.underlying26 rfl (by kernel_rfl)) rfl ⟨?_, HGE.out⟩
               rw [HRES.out]
               rfl
end Go.Proofs.YtlnkofpcidngoaaDoor
