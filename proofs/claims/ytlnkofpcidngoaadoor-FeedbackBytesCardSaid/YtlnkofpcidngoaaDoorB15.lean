import Derived.Test.YtlnkofpcidngoaaDoorB0
import Derived.Test.YtlnkofpcidngoaaDoorB13
import Derived.Test.YtlnkofpcidngoaaDoorB14
namespace Go.Proofs.YtlnkofpcidngoaaDoor
open Go.ChangeShapes Go.WideShapes Go.ChangeAt Go.RowKit
open Crc
def xat (xs : List Int) (i : Nat) : Int := xs[i]?.getD 0
def decT (L : Nat) (c : Int) (xs : List Int) : Int × Int × Int × Int :=
 if xs.length < L + 4 then (0, 0, 0, 5) else
 if L + 4 < xs.length ∨ fbB c (xat xs L - 240) (256 * xat xs (L + 1) + xat xs (L + 2)) = false ∨ (L = 1 ∧ c = 0) then (0, 0, 0, 4) else
 if sumV 8 (xs.take (L + 3)) = xat xs (L + 3) then (c, xat xs L - 240, 256 * xat xs (L + 1) + xat xs (L + 2), 0) else (0, 0, 0, 6)
def decF (xs : List Int) : Int × Int × Int × Int :=
 if xs.length = 0 then (0, 0, 0, 5) else if xat xs 0 / 16 = 14 then decT 1 (xat xs 0 % 16) xs else decT 0 0 xs
def FdPost (F : Int × Int × Int × Int) (w : World) (e : Ending) (w' : World) : Prop := e = .returned (.tuple #[FVal F.1 F.2.1 F.2.2.1, .int .i64 F.2.2.2]) ∧ Gr w w'
theorem and240 : ∀ n : Fin 256, (bits .and .u8 (n.val : Int) 240 == 224) = decide ((n.val : Int) / 16 = 14) := by decide +kernel
theorem andn240 : ∀ n : Fin 256, bits .andNot .u8 (n.val : Int) 240 = (n.val : Int) % 16 := by decide +kernel
theorem and15 : ∀ n : Fin 256, bits .and .u8 (n.val : Int) 15 = (n.val : Int) % 16 := by decide +kernel
theorem byte_fin {p : Int → Prop} (h : ∀ n : Fin 256, p (n.val : Int)) {x : Int} (h0 : 0 ≤ x) (h1 : x ≤ 255) : p x := by
 obtain ⟨m, rfl⟩ : ∃ m : Nat, x = m := ⟨x.toNat, by omega⟩
 exact h ⟨m, by omega⟩
theorem xat_rng {w : World} {a : Option Addr} {len : Nat} {xs : List Int} (h : Rd .u8 w a len xs) (i : Nat) : 0 ≤ xat xs i ∧ xat xs i ≤ 255 := by
 unfold xat
 rcases Nat.lt_or_ge i xs.length with hi | hi
 · rw [List.getElem?_eq_getElem hi]
   exact rd_bytes h _ (List.getElem_mem hi)
 · rw [List.getElem?_eq_none hi]; simp
theorem rd_takeC {k : IntKind} {w : World} {a : Option Addr} {n m : Nat} {xs : List Int} (h : Rd k w a n xs) (hm : m ≤ n) : Rd k w a m (xs.take m) := by
 obtain ⟨h1, h2, h3, h4⟩ := h
 refine ⟨by simp; omega, fun y hy => h2 y (List.mem_of_mem_take hy), by omega, ?_⟩
 rcases h4 with h0 | ⟨b, off, rfl, hb, hc⟩
 · exact .inl (by omega)
 · refine .inr ⟨b, off, rfl, hb, fun i hi => ?_⟩
   rw [hc i (by omega), List.getElem?_take_of_lt hi]
set_option maxRecDepth 100000 in
set_option maxHeartbeats 2000000 in
theorem decode_any (a : Option Addr) (len cap : Nat) (xs : List Int) (w : World) (hl : LaidIn w) (hr : Rd .u8 w a len xs) (hcap : len ≤ cap) (hL : len ≤ 140737488351232) : Calls Tryd.prog 24 #[.slice a len cap] w (FdPost (decF xs) w) := by
 obtain ⟨F, hF⟩ : ∃ F, decF xs = F := ⟨_, rfl⟩
 rw [hF]
 have HF := zqd hF
 have HLA := zqd hl
 have HR := zqd hr
 have HL := zqd hr.1
 clear hF hl hr
 go_enter Tryd.func24, Tryd.ntmps24
 go_upto_region 1 with (fail)
 obtain ⟨w1, hw1⟩ : ∃ y, y = w.alloc (.cells #[.int .i64 0, .int .i64 0, .int .i64 0] 26) := ⟨_, rfl⟩
 have HZ1 := zqd (show CBlk w.heap.size 26 [.int .i64 0, .int .i64 0, .int .i64 0] w1 by rw [hw1]; exact CBlk.new _ _ _)
 have HG1 := zqd (show Gr w w1 by rw [hw1]; exact Gr.alloc _ _)
 rw [← hw1]
 clear hw1
 by_cases h0 : len = 0
 · have HRES := zqd (show F = (0, 0, 0, 5) by rw [← HF.out, decF, if_pos (by rw [HL.out]; exact h0)])
   go_wp2_with (refine cblk_store rfl 26 _ _ rfl w.heap.size [.int .i64 (0), .int .i64 (0), .int .i64 (0)] (HZ1.out) rfl rfl rfl (by kernel_rfl) rfl ?_; intro w9 hb9 he9; have HB9 := zqd hb9; have HGE := zqd (show Gr w w9 by rw [← he9]; exact gr_setCells (HG1.out) (Nat.le_refl _) _ _); clear hb9 he9)
   refine bodyPost_ret (results_c1 Tryd.results24 _ _ w.heap.size _ _ rfl HB9.out Tryd.underlying26 rfl (by kernel_rfl)) rfl ⟨?_, HGE.out⟩
   rw [HRES.out]
   rfl
 · obtain ⟨b0, off, ea, -, hc⟩ := HR.out.some (by omega)
   subst ea
   have HC := zqd (show ∀ i, i < len → ∀ u, Gr w u → u.cell? ⟨b0, off + i, none⟩ = some (.int .u8 (xat xs i)) from fun i hi u hu => hu.cell (hc i hi))
   clear hc
   obtain ⟨x0, e0⟩ : ∃ x, xat xs 0 = x := ⟨_, rfl⟩
   have hx0 := xat_rng HR.out 0
   rw [e0] at hx0
   obtain ⟨p0, q0⟩ := hx0
   have c0 : w1.cell? ⟨b0, off, none⟩ = some (.int .u8 x0) := by rw [← e0]; exact HC.out 0 (by omega) w1 HG1.out
   have HX0 := zqd e0
   have ha0 := byte_fin (p := fun x => (bits .and .u8 x 240 == 224) = decide (x / 16 = 14)) and240 p0 q0
   clear e0
   go_upto_region 5 with (fail)
   obtain ⟨w2, hw2⟩ : ∃ y, y = w1.alloc (.cells #[.int .i64 0, .int .i64 0, .int .i64 0] 26) := ⟨_, rfl⟩
   have HY2 := zqd (show CBlk w1.heap.size 26 [.int .i64 0, .int .i64 0, .int .i64 0] w2 by rw [hw2]; exact CBlk.new _ _ _)
   have hg2 : Gr w1 w2 := by rw [hw2]; exact Gr.alloc _ _
   rw [← hw2]
   have HZ2 := zqd (HZ1.out.kept hg2)
   have HG2 := zqd (HG1.out.trans hg2)
   have hle := HG1.out.size
   have hz1 := HZ1.out.lt
   clear hw2 hg2 c0 HZ1
   have HC0 := zqd (show ∀ u, Gr w2 u → u.cell? ⟨b0, off, none⟩ = some (.int .u8 x0) from fun u hu => by rw [← HX0.out]; exact HC.out 0 (by omega) u (HG2.out.trans hu))
   have c0 := HC0.out w2 (Gr.refl _)
   by_cases hlong : x0 / 16 = 14
   · have hb0 : (bits .and .u8 x0 240 == 224) = true := by rw [ha0]; exact decide_eq_true hlong
     have hn0 := byte_fin (p := fun x => bits .andNot .u8 x 240 = x % 16) andn240 p0 q0
     clear ha0
     go_upto_region 6 with (fail)
     clear c0
     have c0 := HC0.out
     refine Sched.wp_region_sched 7 [] [] (by kernel_rfl) (by kernel_rfl) ?_
     simp only [List.take_succ_cons, List.take_zero, List.drop_succ_cons, List.drop_zero]
     repeat (first | (refine Sched.walk1_no rfl rfl (fun K hK => ?_); simp only [Act.put, zqa, zqb, zqc]; refine hK _ ?_; clear hK K) | (refine Sched.walk1_gr rfl rfl rfl (fun K hK => ?_); apply Exists.intro; refine ⟨fun w1 hw1 => ?_, ?_⟩; (focus (go_simp; (try go_ints); (try (simp only [IntWalk.iteOmega]; go_simp)); first | done | fail | (with_reducible rfl) | (with_reducible exact ⟨rfl, rfl⟩))); simp only [Act.put, zqa, zqb, zqc]; refine hK _ ?_; clear hK K) | (refine Sched.walk1_pure rfl rfl rfl (fun K hK => ?_); apply Exists.intro; refine ⟨fun w1 => ?_, ?_⟩; (focus (go_simp; (try go_ints); (try (simp only [IntWalk.iteOmega]; go_simp)); first | done | (with_reducible rfl) | (with_reducible exact ⟨rfl, rfl⟩))); simp only [Act.put, zqa, zqb, zqc]; refine hK _ ?_; clear hK K) | (refine Sched.walk1_box rfl rfl ?_; apply Exists.intro; refine ⟨fun w1 hw1 => ?_, ?_⟩; (focus (go_simp; exact ⟨Gr.alloc _ _, rfl, by simp, heap_alloc_new _ _⟩))))
     refine Sched.walk1_nil ?_
     intro wq hwq
     have hyq := HY2.out.kept hwq
     have y0 := hyq.at 0 rfl
     have yf := hyq.fz 0
     dsimp only [Sched.EndN, List.nil_append, List.cons_append, Act.put]
     (try simp only [zqa, zqb, zqc])
     repeat (first | (refine Sched.walk2_no rfl (fun K hK => ?_); simp only [Act.put, zqa, zqb, zqc]; refine hK _ ?_; clear hK K) | (refine Sched.walk2_go rfl (fun K hK => ?_); go_simp; (try go_ints); (try (simp only [IntWalk.iteOmega]; go_simp)); first | (refine hK _ _ ?_; clear hK K) | fail))
     refine Sched.walk2_nil ?_
     obtain ⟨w3, hw3⟩ : ∃ y, y = wq.setCell ⟨w1.heap.size, 0, none⟩ (.int .i64 (x0 % 16)) := ⟨_, rfl⟩
     rw [← hw3]
     have HY3 := zqd (show CBlk w1.heap.size 26 [.int .i64 (x0 % 16), .int .i64 0, .int .i64 0] w3 by rw [hw3]; exact hyq.set 0 _ rfl)
     have HZ3 := zqd (show CBlk w.heap.size 26 [.int .i64 0, .int .i64 0, .int .i64 0] w3 by rw [hw3]; exact (HZ2.out.kept hwq).other 0 _ (by omega))
     have HG3 := zqd (show Gr w w3 by rw [hw3]; exact gr_setCell (HG2.out.trans hwq) hle _ _)
     clear hw3 hyq y0 yf c0 hwq hn0
     by_cases h5 : len < 1 + 4
     · have hdt : decT 1 (x0 % 16) xs = (0, 0, 0, 5) := by rw [decT, if_pos (by rw [HL.out]; exact h5)]
       have HRES := zqd (show F = (0, 0, 0, 5) by rw [← HF.out, decF, if_neg (by rw [HL.out]; omega), HX0.out, if_pos hlong, hdt])
       go_wp2_with (refine cblk_store rfl 26 _ _ rfl w.heap.size [.int .i64 (0), .int .i64 (0), .int .i64 (0)] (HZ3.out) rfl rfl rfl (by kernel_rfl) rfl ?_; intro w9 hb9 he9; have HB9 := zqd hb9; have HGE := zqd (show Gr w w9 by rw [← he9]; exact gr_setCells (HG3.out) (Nat.le_refl _) _ _); clear hb9 he9)
       refine bodyPost_ret (results_c1 Tryd.results24 _ _ w.heap.size _ _ rfl HB9.out Tryd.underlying26 rfl (by kernel_rfl)) rfl ⟨?_, HGE.out⟩
       rw [HRES.out]
       rfl
     · obtain ⟨x1, e1⟩ : ∃ x, xat xs 1 = x := ⟨_, rfl⟩
       obtain ⟨x2, e2⟩ : ∃ x, xat xs (1 + 1) = x := ⟨_, rfl⟩
       obtain ⟨x3, e3⟩ : ∃ x, xat xs (1 + 2) = x := ⟨_, rfl⟩
       obtain ⟨x4, e4⟩ : ∃ x, xat xs (1 + 3) = x := ⟨_, rfl⟩
       have r1 := xat_rng HR.out 1
       have r2 := xat_rng HR.out (1 + 1)
       have r3 := xat_rng HR.out (1 + 2)
       have r4 := xat_rng HR.out (1 + 3)
       rw [e1] at r1
       rw [e2] at r2
       rw [e3] at r3
       rw [e4] at r4
       obtain ⟨p1, q1⟩ := r1
       obtain ⟨p2, q2⟩ := r2
       obtain ⟨p3, q3⟩ := r3
       obtain ⟨p4, q4⟩ := r4
       have HE1 := zqd e1
       have HE2 := zqd e2
       have HE3 := zqd e3
       have HE4 := zqd e4
       clear e1 e2 e3 e4
       have HC1 := zqd (show ∀ u, Gr w3 u → u.cell? ⟨b0, off + 1, none⟩ = some (.int .u8 x1) from fun u hu => by rw [← HE1.out]; exact HC.out 1 (by omega) u ((HG3.out).trans hu))
       have HC2 := zqd (show ∀ u, Gr w3 u → u.cell? ⟨b0, off + 1 + 1, none⟩ = some (.int .u8 x2) from fun u hu => by rw [← HE2.out]; exact HC.out (1 + 1) (by omega) u ((HG3.out).trans hu))
       have HC3 := zqd (show ∀ u, Gr w3 u → u.cell? ⟨b0, off + 1 + 2, none⟩ = some (.int .u8 x3) from fun u hu => by rw [← HE3.out]; exact HC.out (1 + 2) (by omega) u ((HG3.out).trans hu))
       have HC4 := zqd (show ∀ u, Gr w3 u → u.cell? ⟨b0, off + 1 + 3, none⟩ = some (.int .u8 x4) from fun u hu => by rw [← HE4.out]; exact HC.out (1 + 3) (by omega) u ((HG3.out).trans hu))
       have c1 := HC1.out w3 (Gr.refl _)
       have y1 := (HY3.out).at 1 rfl
       have yf1 := (HY3.out).fz 1
       go_upto_region 11 with (fail)
       obtain ⟨w4, hw4⟩ : ∃ y, y = (w3).setCell ⟨w1.heap.size, 1, none⟩ (.int .i64 (x1 - 240)) := ⟨_, rfl⟩
       rw [← hw4]
       have HY4 := zqd (show CBlk w1.heap.size 26 [.int .i64 (x0 % 16), .int .i64 (x1 - 240), .int .i64 0] w4 by rw [hw4]; exact (HY3.out).set 1 _ rfl)
       have HZ4 := zqd (show CBlk w.heap.size 26 [.int .i64 0, .int .i64 0, .int .i64 0] w4 by rw [hw4]; exact (HZ3.out).other 1 _ (by omega))
       have HG4 := zqd (show Gr w w4 by rw [hw4]; exact gr_setCell HG3.out hle _ _)
       clear hw4 c1 y1 yf1 HC1 HC2 HC3 HC4
       have c2 : ∀ u, Gr w4 u → u.cell? ⟨b0, off + 1 + 1, none⟩ = some (.int .u8 x2) := fun u hu => by rw [← HE2.out]; exact HC.out (1 + 1) (by omega) u (HG4.out.trans hu)
       have c3 : ∀ u, Gr w4 u → u.cell? ⟨b0, off + 1 + 2, none⟩ = some (.int .u8 x3) := fun u hu => by rw [← HE3.out]; exact HC.out (1 + 2) (by omega) u (HG4.out.trans hu)
       have hob := or_byte p2 (by omega) p3 q3
       refine Sched.wp_region_sched 11 [] [] (by kernel_rfl) (by kernel_rfl) ?_
       simp only [List.take_succ_cons, List.take_zero, List.drop_succ_cons, List.drop_zero]
       repeat (first | (refine Sched.walk1_no rfl rfl (fun K hK => ?_); simp only [Act.put, zqa, zqb, zqc]; refine hK _ ?_; clear hK K) | (refine Sched.walk1_gr rfl rfl rfl (fun K hK => ?_); apply Exists.intro; refine ⟨fun w1 hw1 => ?_, ?_⟩; (focus (go_simp; (try go_ints); (try (simp only [IntWalk.iteOmega]; go_simp)); first | done | fail | (with_reducible rfl) | (with_reducible exact ⟨rfl, rfl⟩))); simp only [Act.put, zqa, zqb, zqc]; refine hK _ ?_; clear hK K) | (refine Sched.walk1_pure rfl rfl rfl (fun K hK => ?_); apply Exists.intro; refine ⟨fun w1 => ?_, ?_⟩; (focus (go_simp; (try go_ints); (try (simp only [IntWalk.iteOmega]; go_simp)); first | done | (with_reducible rfl) | (with_reducible exact ⟨rfl, rfl⟩))); simp only [Act.put, zqa, zqb, zqc]; refine hK _ ?_; clear hK K) | (refine Sched.walk1_box rfl rfl ?_; apply Exists.intro; refine ⟨fun w1 hw1 => ?_, ?_⟩; (focus (go_simp; exact ⟨Gr.alloc _ _, rfl, by simp, heap_alloc_new _ _⟩))))
       refine Sched.walk1_nil ?_
       intro wq hwq
       have hyq := HY4.out.kept hwq
       have y2 := hyq.at 2 rfl
       have yf2 := hyq.fz 2
       dsimp only [Sched.EndN, List.nil_append, List.cons_append, Act.put]
       (try simp only [zqa, zqb, zqc])
       repeat (first | (refine Sched.walk2_no rfl (fun K hK => ?_); simp only [Act.put, zqa, zqb, zqc]; refine hK _ ?_; clear hK K) | (refine Sched.walk2_go rfl (fun K hK => ?_); go_simp; (try go_ints); (try (simp only [IntWalk.iteOmega]; go_simp)); first | (refine hK _ _ ?_; clear hK K) | fail))
       refine Sched.walk2_nil ?_
       obtain ⟨n, hn⟩ : ∃ n, 256 * x2 + x3 = n := ⟨_, rfl⟩
       rw [hn]
       obtain ⟨w5, hw5⟩ : ∃ y, y = wq.setCell ⟨w1.heap.size, 2, none⟩ (.int .i64 n) := ⟨_, rfl⟩
       rw [← hw5]
       have HY5 := zqd (show CBlk w1.heap.size 26 [.int .i64 (x0 % 16), .int .i64 (x1 - 240), .int .i64 n] w5 by rw [hw5]; exact hyq.set 2 _ rfl)
       have HZ5 := zqd (show CBlk w.heap.size 26 [.int .i64 0, .int .i64 0, .int .i64 0] w5 by rw [hw5]; exact (HZ4.out.kept hwq).other 2 _ (by omega))
       have HG5 := zqd (show Gr w w5 by rw [hw5]; exact gr_setCell (HG4.out.trans hwq) hle _ _)
       have HN := zqd (show 256 * xat xs (1 + 1) + xat xs (1 + 2) = n by rw [HE2.out, HE3.out, hn])
       clear hw5 hyq y2 yf2 c2 c3 hob hwq HY4 HZ4 HG4 hn
       obtain ⟨V, hV⟩ : ∃ V, fbB (x0 % 16) (x1 - 240) n = V := ⟨_, rfl⟩
       have HV := zqd hV
       have HDT := zqd (show decT 1 (x0 % 16) xs = if 1 + 4 < len ∨ V = false ∨ ((1 : Nat) = 1 ∧ ((x0 % 16) : Int) = 0) then (0, 0, 0, 4) else if sumV 8 (xs.take (1 + 3)) = x4 then (x0 % 16, x1 - 240, n, 0) else (0, 0, 0, 6) by
         rw [decT, if_neg (by rw [HL.out]; exact h5), HL.out, HE1.out, HN.out, HE4.out, hV])
       clear hV
       by_cases h6 : 1 + 4 < len
       · have hdt : decT 1 (x0 % 16) xs = (0, 0, 0, 4) := by rw [HDT.out, if_pos (.inl h6)]
         have HRES := zqd (show F = (0, 0, 0, 4) by rw [← HF.out, decF, if_neg (by rw [HL.out]; omega), HX0.out, if_pos hlong, hdt])
         go_wp2_with (refine cblk_store rfl 26 _ _ rfl w.heap.size [.int .i64 (0), .int .i64 (0), .int .i64 (0)] (HZ5.out) rfl rfl rfl (by kernel_rfl) rfl ?_; intro w9 hb9 he9; have HB9 := zqd hb9; have HGE := zqd (show Gr w w9 by rw [← he9]; exact gr_setCells (HG5.out) (Nat.le_refl _) _ _); clear hb9 he9)
         refine bodyPost_ret (results_c1 Tryd.results24 _ _ w.heap.size _ _ rfl HB9.out Tryd.underlying26 rfl (by kernel_rfl)) rfl ⟨?_, HGE.out⟩
         rw [HRES.out]
         rfl
       · obtain rfl : len = 1 + 4 := by omega
         go_wp2_with (refine cblk_load rfl 26 _ rfl w1.heap.size rfl HY5.out Tryd.underlying26 rfl (by kernel_rfl) ?_)
         refine (fbvalid_is HV.out w5).mono ?_
         rintro e w6 ⟨rfl, hg6⟩
         have HY6 := zqd (HY5.out.kept hg6)
         have HZ6 := zqd (HZ5.out.kept hg6)
         have HG6 := zqd (HG5.out.trans hg6)
         clear hg6 HY5 HZ5 HG5
         cases V
         · have hdt : decT 1 (x0 % 16) xs = (0, 0, 0, 4) := by rw [HDT.out, if_pos (.inr (.inl rfl))]
           have HRES := zqd (show F = (0, 0, 0, 4) by rw [← HF.out, decF, if_neg (by rw [HL.out]; omega), HX0.out, if_pos hlong, hdt])
           go_wp2_with (refine cblk_store rfl 26 _ _ rfl w.heap.size [.int .i64 (0), .int .i64 (0), .int .i64 (0)] (HZ6.out) rfl rfl rfl (by kernel_rfl) rfl ?_; intro w9 hb9 he9; have HB9 := zqd hb9; have HGE := zqd (show Gr w w9 by rw [← he9]; exact gr_setCells (HG6.out) (Nat.le_refl _) _ _); clear hb9 he9)
           refine bodyPost_ret (results_c1 Tryd.results24 _ _ w.heap.size _ _ rfl HB9.out Tryd.underlying26 rfl (by kernel_rfl)) rfl ⟨?_, HGE.out⟩
           rw [HRES.out]
           rfl
         · have hy0 := HY6.out.at 0 rfl
           by_cases hz : x0 % 16 = 0
           · have hdt : decT 1 (x0 % 16) xs = (0, 0, 0, 4) := by rw [HDT.out, if_pos (.inr (.inr ⟨by trivial, hz⟩))]
             have HRES := zqd (show F = (0, 0, 0, 4) by rw [← HF.out, decF, if_neg (by rw [HL.out]; omega), HX0.out, if_pos hlong, hdt])
             go_wp2_with (refine cblk_store rfl 26 _ _ rfl w.heap.size [.int .i64 (0), .int .i64 (0), .int .i64 (0)] (HZ6.out) rfl rfl rfl (by kernel_rfl) rfl ?_; intro w9 hb9 he9; have HB9 := zqd hb9; have HGE := zqd (show Gr w w9 by rw [← he9]; exact gr_setCells (HG6.out) (Nat.le_refl _) _ _); clear hb9 he9)
             refine bodyPost_ret (results_c1 Tryd.results24 _ _ w.heap.size _ _ rfl HB9.out Tryd.underlying26 rfl (by kernel_rfl)) rfl ⟨?_, HGE.out⟩
             rw [HRES.out]
             rfl
           · obtain ⟨S, hS⟩ : ∃ S, sumV 8 (xs.take (1 + 3)) = S := ⟨_, rfl⟩
             have HS := zqd hS
             clear hS
             go_upto_region 14 with (fail)
             go_wp2_with fail
             refine (sum_is HS.out (show sumE 8 = 0 by decide) _ (1 + 3) _ w6 (laid_gr HLA.out HG6.out) (by constructor <;> omega) (rd_takeC (HR.out.kept HG6.out) (by omega))).mono ?_
             rintro e w7 ⟨rfl, hg7⟩
             have HY7 := zqd (HY6.out.kept hg7)
             have HZ7 := zqd (HZ6.out.kept hg7)
             have HG7 := zqd (HG6.out.trans hg7)
             have c4 : w7.cell? ⟨b0, off + 1 + 3, none⟩ = some (.int .u8 x4) := by rw [← HE4.out]; exact HC.out (1 + 3) (by omega) w7 (HG6.out.trans hg7)
             clear hg7 HY6 HZ6 HG6
             by_cases h8 : S = x4
             · have HDT2 := zqd (show F = (x0 % 16, x1 - 240, n, 0) by rw [← HF.out, decF, if_neg (by rw [HL.out]; omega), HX0.out, if_pos hlong, HDT.out, if_neg (by rintro (h | h | h) <;> first | omega | (cases h; done)), HS.out, if_pos h8])
               have hsb : (S != x4) = false := by simpa using h8
               go_upto_region 17 with (fail)
               go_wp2_with (first | (refine cblk_load rfl 26 _ rfl w1.heap.size rfl HY7.out Tryd.underlying26 rfl (by kernel_rfl) ?_) | (refine cblk_store rfl 26 _ _ rfl w.heap.size [.int .i64 (x0 % 16), .int .i64 (x1 - 240), .int .i64 n] HZ7.out rfl rfl rfl (by kernel_rfl) rfl ?_; intro w9 hb9 he9; have HB9 := zqd hb9; have HGE := zqd (show Gr w w9 by rw [← he9]; exact gr_setCells HG7.out (Nat.le_refl _) _ _); clear hb9 he9))
               refine bodyPost_ret (results_c1 Tryd.results24 _ _ w.heap.size _ _ rfl HB9.out Tryd.underlying26 rfl (by kernel_rfl)) rfl ⟨?_, HGE.out⟩
               rw [HDT2.out]
               rfl
             · have HRES := zqd (show F = (0, 0, 0, 6) by rw [← HF.out, decF, if_neg (by rw [HL.out]; omega), HX0.out, if_pos hlong, HDT.out, if_neg (by rintro (h | h | h) <;> first | omega | (cases h; done)), HS.out, if_neg h8])
               have hsb : (S != x4) = true := by simpa using h8
               go_wp2_with (refine cblk_store rfl 26 _ _ rfl w.heap.size [.int .i64 (0), .int .i64 (0), .int .i64 (0)] (HZ7.out) rfl rfl rfl (by kernel_rfl) rfl ?_; intro w9 hb9 he9; have HB9 := zqd hb9; have HGE := zqd (show Gr w w9 by rw [← he9]; exact gr_setCells (HG7.out) (Nat.le_refl _) _ _); clear hb9 he9)
               refine bodyPost_ret (results_c1 Tryd.results24 _ _ w.heap.size _ _ rfl HB9.out Tryd.underlying26 rfl (by kernel_rfl)) rfl ⟨?_, HGE.out⟩
               rw [HRES.out]
               rfl
   · have hb0 : (bits .and .u8 x0 240 == 224) = false := by rw [ha0]; exact decide_eq_false hlong
     clear ha0
     go_upto_region 7 with (fail)
     clear c0
     by_cases h5 : len < 0 + 4
     · have hdt : decT 0 (0) xs = (0, 0, 0, 5) := by rw [decT, if_pos (by rw [HL.out]; exact h5)]
       have HRES := zqd (show F = (0, 0, 0, 5) by rw [← HF.out, decF, if_neg (by rw [HL.out]; omega), HX0.out, if_neg hlong, hdt])
       go_wp2_with (refine cblk_store rfl 26 _ _ rfl w.heap.size [.int .i64 (0), .int .i64 (0), .int .i64 (0)] (HZ2.out) rfl rfl rfl (by kernel_rfl) rfl ?_; intro w9 hb9 he9; have HB9 := zqd hb9; have HGE := zqd (show Gr w w9 by rw [← he9]; exact gr_setCells (HG2.out) (Nat.le_refl _) _ _); clear hb9 he9)
       refine bodyPost_ret (results_c1 Tryd.results24 _ _ w.heap.size _ _ rfl HB9.out Tryd.underlying26 rfl (by kernel_rfl)) rfl ⟨?_, HGE.out⟩
       rw [HRES.out]
       rfl
     · obtain ⟨x1, e1⟩ : ∃ x, xat xs 0 = x := ⟨_, rfl⟩
       obtain ⟨x2, e2⟩ : ∃ x, xat xs (0 + 1) = x := ⟨_, rfl⟩
       obtain ⟨x3, e3⟩ : ∃ x, xat xs (0 + 2) = x := ⟨_, rfl⟩
       obtain ⟨x4, e4⟩ : ∃ x, xat xs (0 + 3) = x := ⟨_, rfl⟩
       have r1 := xat_rng HR.out 0
       have r2 := xat_rng HR.out (0 + 1)
       have r3 := xat_rng HR.out (0 + 2)
       have r4 := xat_rng HR.out (0 + 3)
       rw [e1] at r1
       rw [e2] at r2
       rw [e3] at r3
       rw [e4] at r4
       obtain ⟨p1, q1⟩ := r1
       obtain ⟨p2, q2⟩ := r2
       obtain ⟨p3, q3⟩ := r3
       obtain ⟨p4, q4⟩ := r4
       have HE1 := zqd e1
       have HE2 := zqd e2
       have HE3 := zqd e3
       have HE4 := zqd e4
       clear e1 e2 e3 e4
       have HC1 := zqd (show ∀ u, Gr w2 u → u.cell? ⟨b0, off, none⟩ = some (.int .u8 x1) from fun u hu => by rw [← HE1.out]; exact HC.out 0 (by omega) u ((HG2.out).trans hu))
       have HC2 := zqd (show ∀ u, Gr w2 u → u.cell? ⟨b0, off + 1, none⟩ = some (.int .u8 x2) from fun u hu => by rw [← HE2.out]; exact HC.out (0 + 1) (by omega) u ((HG2.out).trans hu))
       have HC3 := zqd (show ∀ u, Gr w2 u → u.cell? ⟨b0, off + 2, none⟩ = some (.int .u8 x3) from fun u hu => by rw [← HE3.out]; exact HC.out (0 + 2) (by omega) u ((HG2.out).trans hu))
       have HC4 := zqd (show ∀ u, Gr w2 u → u.cell? ⟨b0, off + 3, none⟩ = some (.int .u8 x4) from fun u hu => by rw [← HE4.out]; exact HC.out (0 + 3) (by omega) u ((HG2.out).trans hu))
       have c1 := HC1.out w2 (Gr.refl _)
       have y1 := (HY2.out).at 1 rfl
       have yf1 := (HY2.out).fz 1
       go_upto_region 11 with (fail)
       obtain ⟨w4, hw4⟩ : ∃ y, y = (w2).setCell ⟨w1.heap.size, 1, none⟩ (.int .i64 (x1 - 240)) := ⟨_, rfl⟩
       rw [← hw4]
       have HY4 := zqd (show CBlk w1.heap.size 26 [.int .i64 (0), .int .i64 (x1 - 240), .int .i64 0] w4 by rw [hw4]; exact (HY2.out).set 1 _ rfl)
       have HZ4 := zqd (show CBlk w.heap.size 26 [.int .i64 0, .int .i64 0, .int .i64 0] w4 by rw [hw4]; exact (HZ2.out).other 1 _ (by omega))
       have HG4 := zqd (show Gr w w4 by rw [hw4]; exact gr_setCell HG2.out hle _ _)
       clear hw4 c1 y1 yf1 HC1 HC2 HC3 HC4
       have c2 : ∀ u, Gr w4 u → u.cell? ⟨b0, off + 1, none⟩ = some (.int .u8 x2) := fun u hu => by rw [← HE2.out]; exact HC.out (0 + 1) (by omega) u (HG4.out.trans hu)
       have c3 : ∀ u, Gr w4 u → u.cell? ⟨b0, off + 2, none⟩ = some (.int .u8 x3) := fun u hu => by rw [← HE3.out]; exact HC.out (0 + 2) (by omega) u (HG4.out.trans hu)
       have hob := or_byte p2 (by omega) p3 q3
       refine Sched.wp_region_sched 11 [] [] (by kernel_rfl) (by kernel_rfl) ?_
       simp only [List.take_succ_cons, List.take_zero, List.drop_succ_cons, List.drop_zero]
       repeat (first | (refine Sched.walk1_no rfl rfl (fun K hK => ?_); simp only [Act.put, zqa, zqb, zqc]; refine hK _ ?_; clear hK K) | (refine Sched.walk1_gr rfl rfl rfl (fun K hK => ?_); apply Exists.intro; refine ⟨fun w1 hw1 => ?_, ?_⟩; (focus (go_simp; (try go_ints); (try (simp only [IntWalk.iteOmega]; go_simp)); first | done | fail | (with_reducible rfl) | (with_reducible exact ⟨rfl, rfl⟩))); simp only [Act.put, zqa, zqb, zqc]; refine hK _ ?_; clear hK K) | (refine Sched.walk1_pure rfl rfl rfl (fun K hK => ?_); apply Exists.intro; refine ⟨fun w1 => ?_, ?_⟩; (focus (go_simp; (try go_ints); (try (simp only [IntWalk.iteOmega]; go_simp)); first | done | (with_reducible rfl) | (with_reducible exact ⟨rfl, rfl⟩))); simp only [Act.put, zqa, zqb, zqc]; refine hK _ ?_; clear hK K) | (refine Sched.walk1_box rfl rfl ?_; apply Exists.intro; refine ⟨fun w1 hw1 => ?_, ?_⟩; (focus (go_simp; exact ⟨Gr.alloc _ _, rfl, by simp, heap_alloc_new _ _⟩))))
       refine Sched.walk1_nil ?_
       intro wq hwq
       have hyq := HY4.out.kept hwq
       have y2 := hyq.at 2 rfl
       have yf2 := hyq.fz 2
       dsimp only [Sched.EndN, List.nil_append, List.cons_append, Act.put]
       (try simp only [zqa, zqb, zqc])
       repeat (first | (refine Sched.walk2_no rfl (fun K hK => ?_); simp only [Act.put, zqa, zqb, zqc]; refine hK _ ?_; clear hK K) | (refine Sched.walk2_go rfl (fun K hK => ?_); go_simp; (try go_ints); (try (simp only [IntWalk.iteOmega]; go_simp)); first | (refine hK _ _ ?_; clear hK K) | fail))
       refine Sched.walk2_nil ?_
       obtain ⟨n, hn⟩ : ∃ n, 256 * x2 + x3 = n := ⟨_, rfl⟩
       rw [hn]
       obtain ⟨w5, hw5⟩ : ∃ y, y = wq.setCell ⟨w1.heap.size, 2, none⟩ (.int .i64 n) := ⟨_, rfl⟩
       rw [← hw5]
       have HY5 := zqd (show CBlk w1.heap.size 26 [.int .i64 (0), .int .i64 (x1 - 240), .int .i64 n] w5 by rw [hw5]; exact hyq.set 2 _ rfl)
       have HZ5 := zqd (show CBlk w.heap.size 26 [.int .i64 0, .int .i64 0, .int .i64 0] w5 by rw [hw5]; exact (HZ4.out.kept hwq).other 2 _ (by omega))
       have HG5 := zqd (show Gr w w5 by rw [hw5]; exact gr_setCell (HG4.out.trans hwq) hle _ _)
       have HN := zqd (show 256 * xat xs (0 + 1) + xat xs (0 + 2) = n by rw [HE2.out, HE3.out, hn])
       clear hw5 hyq y2 yf2 c2 c3 hob hwq HY4 HZ4 HG4 hn
       obtain ⟨V, hV⟩ : ∃ V, fbB (0) (x1 - 240) n = V := ⟨_, rfl⟩
       have HV := zqd hV
       have HDT := zqd (show decT 0 (0) xs = if 0 + 4 < len ∨ V = false ∨ ((0 : Nat) = 1 ∧ ((0) : Int) = 0) then (0, 0, 0, 4) else if sumV 8 (xs.take (0 + 3)) = x4 then (0, x1 - 240, n, 0) else (0, 0, 0, 6) by
         rw [decT, if_neg (by rw [HL.out]; exact h5), HL.out, HE1.out, HN.out, HE4.out, hV])
       clear hV
       by_cases h6 : 0 + 4 < len
       · have hdt : decT 0 (0) xs = (0, 0, 0, 4) := by rw [HDT.out, if_pos (.inl h6)]
         have HRES := zqd (show F = (0, 0, 0, 4) by rw [← HF.out, decF, if_neg (by rw [HL.out]; omega), HX0.out, if_neg hlong, hdt])
         go_wp2_with (refine cblk_store rfl 26 _ _ rfl w.heap.size [.int .i64 (0), .int .i64 (0), .int .i64 (0)] (HZ5.out) rfl rfl rfl (by kernel_rfl) rfl ?_; intro w9 hb9 he9; have HB9 := zqd hb9; have HGE := zqd (show Gr w w9 by rw [← he9]; exact gr_setCells (HG5.out) (Nat.le_refl _) _ _); clear hb9 he9)
         refine bodyPost_ret (results_c1 Tryd.results24 _ _ w.heap.size _ _ rfl HB9.out Tryd.underlying26 rfl (by kernel_rfl)) rfl ⟨?_, HGE.out⟩
         rw [HRES.out]
         rfl
       · obtain rfl : len = 0 + 4 := by omega
         go_wp2_with (refine cblk_load rfl 26 _ rfl w1.heap.size rfl HY5.out Tryd.underlying26 rfl (by kernel_rfl) ?_)
         refine (fbvalid_is HV.out w5).mono ?_
         rintro e w6 ⟨rfl, hg6⟩
         have HY6 := zqd (HY5.out.kept hg6)
         have HZ6 := zqd (HZ5.out.kept hg6)
         have HG6 := zqd (HG5.out.trans hg6)
         clear hg6 HY5 HZ5 HG5
         cases V
         · have hdt : decT 0 (0) xs = (0, 0, 0, 4) := by rw [HDT.out, if_pos (.inr (.inl rfl))]
           have HRES := zqd (show F = (0, 0, 0, 4) by rw [← HF.out, decF, if_neg (by rw [HL.out]; omega), HX0.out, if_neg hlong, hdt])
           go_wp2_with (refine cblk_store rfl 26 _ _ rfl w.heap.size [.int .i64 (0), .int .i64 (0), .int .i64 (0)] (HZ6.out) rfl rfl rfl (by kernel_rfl) rfl ?_; intro w9 hb9 he9; have HB9 := zqd hb9; have HGE := zqd (show Gr w w9 by rw [← he9]; exact gr_setCells (HG6.out) (Nat.le_refl _) _ _); clear hb9 he9)
           refine bodyPost_ret (results_c1 Tryd.results24 _ _ w.heap.size _ _ rfl HB9.out Tryd.underlying26 rfl (by kernel_rfl)) rfl ⟨?_, HGE.out⟩
           rw [HRES.out]
           rfl
         · have hy0 := HY6.out.at 0 rfl
           obtain ⟨S, hS⟩ : ∃ S, sumV 8 (xs.take (0 + 3)) = S := ⟨_, rfl⟩
           have HS := zqd hS
           clear hS
           go_upto_region 14 with (fail)
           go_wp2_with fail
           refine (sum_is HS.out (show sumE 8 = 0 by decide) _ (0 + 3) _ w6 (laid_gr HLA.out HG6.out) (by constructor <;> omega) (rd_takeC (HR.out.kept HG6.out) (by omega))).mono ?_
           rintro e w7 ⟨rfl, hg7⟩
           have HY7 := zqd (HY6.out.kept hg7)
           have HZ7 := zqd (HZ6.out.kept hg7)
           have HG7 := zqd (HG6.out.trans hg7)
           have c4 : w7.cell? ⟨b0, off + 3, none⟩ = some (.int .u8 x4) := by rw [← HE4.out]; exact HC.out (0 + 3) (by omega) w7 (HG6.out.trans hg7)
           clear hg7 HY6 HZ6 HG6
           by_cases h8 : S = x4
           · have HDT2 := zqd (show F = (0, x1 - 240, n, 0) by rw [← HF.out, decF, if_neg (by rw [HL.out]; omega), HX0.out, if_neg hlong, HDT.out, if_neg (by rintro (h | h | h) <;> first | omega | (cases h; done)), HS.out, if_pos h8])
             have hsb : (S != x4) = false := by simpa using h8
             go_upto_region 17 with (fail)
             go_wp2_with (first | (refine cblk_load rfl 26 _ rfl w1.heap.size rfl HY7.out Tryd.underlying26 rfl (by kernel_rfl) ?_) | (refine cblk_store rfl 26 _ _ rfl w.heap.size [.int .i64 (0), .int .i64 (x1 - 240), .int .i64 n] HZ7.out rfl rfl rfl (by kernel_rfl) rfl ?_; intro w9 hb9 he9; have HB9 := zqd hb9; have HGE := zqd (show Gr w w9 by rw [← he9]; exact gr_setCells HG7.out (Nat.le_refl _) _ _); clear hb9 he9))
             refine bodyPost_ret (results_c1 Tryd.results24 _ _ w.heap.size _ _ rfl HB9.out Tryd.underlying26 rfl (by kernel_rfl)) rfl ⟨?_, HGE.out⟩
             rw [HDT2.out]
             rfl
           · have HRES := zqd (show F = (0, 0, 0, 6) by rw [← HF.out, decF, if_neg (by rw [HL.out]; omega), HX0.out, if_neg hlong, HDT.out, if_neg (by rintro (h | h | h) <;> first | omega | (cases h; done)), HS.out, if_neg h8])
             have hsb : (S != x4) = true := by simpa using h8
             go_wp2_with (refine cblk_store rfl 26 _ _ rfl w.heap.size [.int .i64 (0), .int .i64 (0), .int .i64 (0)] (HZ7.out) rfl rfl rfl (by kernel_rfl) rfl ?_; intro w9 hb9 he9; have HB9 := zqd hb9; have HGE := zqd (show Gr w w9 by rw [← he9]; exact gr_setCells (HG7.out) (Nat.le_refl _) _ _); clear hb9 he9)
             refine bodyPost_ret (results_c1 Tryd.results24 _ _ w.heap.size _ _ rfl HB9.out Tryd.underlying26 rfl (by kernel_rfl)) rfl ⟨?_, HGE.out⟩
             rw [HRES.out]
             rfl
end Go.Proofs.YtlnkofpcidngoaaDoor
