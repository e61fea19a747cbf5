/- The law FlowSteps (layer 06): its walk. -/
import Derived.Test.YtmojlengjoicoaaFlowT
namespace Go.Proofs.Ytmojlengjoicoaa
open Go.ChangeShapes Go.WideShapes Go.ChangeAt Go.RowKit

theorem eq_self (R : Hdr) (u : World) : (binOp .eql 29 (HVal R) (HVal R)).run Try.prog u = .ok (.bool true) u := by rw [run_eqH, eqH_refl]
theorem blk_gr {w w' : World} {g : Nat} {o : Obj} (h : w.heap[g]? = some o) (hg : Gr w w') : w'.heap[g]? = some o := by
  rw [hg.block _ (heap_lt h) (by simp)]; exact h
set_option maxRecDepth 100000 in
set_option maxHeartbeats 4000000 in
theorem steps_walk (a : Option Addr) (len cap : Nat) (ts : List Int) (n0 n1 : Int) (w : World) (hr : Rd .i64 w a len ts) : Calls Try.prog 3 #[.slice a len cap, .agg #[.int .i64 n0, .int .i64 n1]] w fun e w' => e = .returned (.bool true) ∧ Gr w w' := by
  have hm : len ≤ 9223372036854775807 := by have := hr.2.2.1; simp only [maxLen] at this; omega
  have HR := Lib.hid hr
  clear hr
  go_enter Try.func3, Try.ntmps3
  go_upto_region 1 with (fail)
  obtain ⟨w1, hw1⟩ : ∃ y, y = w.alloc (.cells #[.int .i64 n0, .int .i64 n1] 23) := ⟨_, rfl⟩
  rw [← hw1]
  have HN1 := Lib.hid (show w1.heap[w.heap.size]? = some (.cells #[.int .i64 n0, .int .i64 n1] 23 (0, 0)) by rw [hw1]; exact heap_alloc_new _ _)
  have HG1 := Lib.hid (show Gr w w1 by rw [hw1]; exact Gr.alloc _ _)
  clear hw1
  by_cases hlen : len ≤ 400
  rotate_left
  · have hld : decide (len ≤ 400) = false := decide_eq_false hlen
    go_wp2_with ((go_at_call 14; refine (light_any _ _ _ _ hm).mono ?_; rintro e w' ⟨rfl, rfl⟩))
    refine (awake06 w1).mono ?_
    rintro e w2 ⟨rfl, hg2⟩
    have HG2 := Lib.hid (HG1.out.trans hg2)
    clear hg2
    go_wp2_with fail
    go_ret
    exact ⟨rfl, HG2.out⟩
  have hld : decide (len ≤ 400) = true := decide_eq_true hlen
  go_wp2_with ((go_at_call 14; refine (light_any _ _ _ _ hm).mono ?_; rintro e w' ⟨rfl, rfl⟩))
  refine (roll_any a len cap ts w1 (HR.out.kept HG1.out)).mono ?_
  rintro e w2 ⟨p, rfl, hd2, hg2, hp2⟩
  have HD2 := Lib.hid hd2
  have HG2 := Lib.hid (HG1.out.trans hg2)
  have HN2 := Lib.hid (blk_gr HN1.out hg2)
  have hpw : w.heap.size < p := by have := heap_lt HN1.out; omega
  clear hd2 hg2 hp2 hld
  go_wp2_with fail
  refine (next_any p 4 _ HD2.out (by omega) (by omega)).mono ?_
  rintro e w3 ⟨fl, rfl, fl1, fl2, hd3, hg3⟩
  have HD3 := Lib.hid hd3
  have HX3 := Lib.hid hg3
  have HN3 := Lib.hid (blk_kept HN2.out hg3 (by simp; omega))
  clear hd3 hg3
  go_wp2_with fail
  refine (header_any p fl w3 HD3.out fl1 (by omega)).mono ?_
  rintro e w4 ⟨h, rfl, hmade, hd4, hg4⟩
  have HM := Lib.hid (bare_made hmade)
  have HD4 := Lib.hid hd4
  have HX4 := Lib.hid (grown_trans' HX3.out hg4)
  have HN4 := Lib.hid (blk_kept HN3.out hg4 (by simp; omega))
  clear hd4 hg4 hmade
  obtain ⟨A, hA⟩ : ∃ A, bare h = A := ⟨_, rfl⟩
  rw [hA] at HM
  have hAc : A.check = 0 := by rw [← hA]; rfl
  have hAm : A.marker = 0 := by rw [← hA]; rfl
  have HAC := Lib.hid (And.intro hAc hAm)
  clear hAc hAm
  go_upto_region 6 with (fail)
  obtain ⟨w5, hw5⟩ : ∃ y, y = w4.alloc (.cells (HCells (bare h)).toArray 29) := ⟨_, rfl⟩
  have hr5 : HBlk w4.heap.size A w5 := by rw [hw5, ← hA]; exact heap_alloc_new _ _
  have hg5 : Gr w4 w5 := by rw [hw5]; exact Gr.alloc _ _
  simp only [HCells, bare] at hw5
  rw [← hw5]
  have HA5 := Lib.hid hr5
  have HD5 := Lib.hid (HD4.out.kept hg5 (by simp))
  have HX5 := Lib.hid (grown_trans' HX4.out (grown_weak hg5 _))
  have HN5 := Lib.hid (blk_gr HN4.out hg5)
  have hp4 : p < w4.heap.size := HD4.out.lt
  clear hw5 hr5 hg5 hA
  have k0 : w5.cell? ⟨w4.heap.size, 0, none⟩ = some (.int .i64 A.kind) := HA5.out.at 0 rfl
  go_wp2_with fail
  refine (dynamic_any p A.kind w5 HD5.out).mono ?_
  rintro e w6 ⟨s, f, rfl, hs, hf, hsf, hd6, hg6⟩
  have HDO := Lib.hid (show DynOk A.kind s f from ⟨hs, hf, hsf⟩)
  have HD6 := Lib.hid hd6
  have HX6 := Lib.hid (grown_trans' HX5.out hg6)
  have HN6 := Lib.hid (blk_kept HN5.out hg6 (by simp; omega))
  have HA6 := Lib.hid (HA5.out.dice hg6 (by omega))
  clear hd6 hg6 hs hf hsf k0
  go_upto_region 7 with (fail)
  obtain ⟨w7, hw7⟩ : ∃ y, y = w6.alloc (.cells #[.int .i64 s, .int .i64 f] 33) := ⟨_, rfl⟩
  rw [← hw7]
  have hg7 : Gr w6 w7 := by rw [hw7]; exact Gr.alloc _ _
  have HS7 := Lib.hid (show DBlk w6.heap.size s f w7 by rw [hw7]; exact heap_alloc_new _ _)
  have HG7 := Lib.hid (show Gr w w7 from grownBy_trans (HG2.out) (grown_trans' HX6.out (grown_weak hg7 _)) (.inr (.inr ⟨p, rfl, by omega⟩)))
  have HN7 := Lib.hid (blk_gr HN6.out hg7)
  have HA7 := Lib.hid (HA6.out.kept hg7)
  clear hw7 hg7
  have c0 : ∀ u, Gr w7 u → u.cell? ⟨w.heap.size, 0, none⟩ = some (.int .i64 n0) := fun u hu => hu.cell (by rw [cell_of_block HN7.out]; rfl)
  have c1 : ∀ u, Gr w7 u → u.cell? ⟨w.heap.size, 1, none⟩ = some (.int .i64 n1) := fun u hu => hu.cell (by rw [cell_of_block HN7.out]; rfl)
  obtain ⟨q0, hq0⟩ : ∃ q, modF n0 2000 = q := ⟨_, rfl⟩
  obtain ⟨q1, hq1⟩ : ∃ q, modF n1 2000 = q := ⟨_, rfl⟩
  have b0 : 0 ≤ q0 ∧ q0 < 2000 := by rw [← hq0]; exact ⟨modF_lo _ _, modF_hi _ _ (by omega)⟩
  have b1 : 0 ≤ q1 ∧ q1 < 2000 := by rw [← hq1]; exact ⟨modF_lo _ _, modF_hi _ _ (by omega)⟩
  obtain ⟨b01, b02⟩ := b0
  obtain ⟨b11, b12⟩ := b1
  have HQ0 := Lib.hid hq0
  have HQ1 := Lib.hid hq1
  clear hq0 hq1
  refine Sched.wp_region_sched 8 [7] [] (by kernel_rfl) (by kernel_rfl) ?_
  simp only [List.take_succ_cons, List.take_zero, List.drop_succ_cons, List.drop_zero]
  repeat (first | ((with_reducible refine Sched.walk1_no ?_ ?_ (fun K hK => ?_)); (focus rfl); (focus rfl); simp only [Act.put, List.setIfInBounds_toArray, List.set_cons_zero, List.set_cons_succ]; refine hK _ ?_; clear hK K) | ((with_reducible refine Sched.walk1_gr ?_ ?_ ?_ (fun K hK => ?_)); (focus rfl); (focus rfl); (focus rfl); apply Exists.intro; refine ⟨fun w1 hw1 => ?_, ?_⟩; (focus (go_simp; (try go_ints); (try (simp only [IntWalk.iteOmega]; go_simp)); first | done | (first | (go_at_call 20; (with_reducible exact gr_same (mod_is HQ0.out (by omega) _))) | (go_at_call 20; (with_reducible exact gr_same (mod_is HQ1.out (by omega) _)))) | (with_reducible rfl) | (with_reducible exact ⟨rfl, rfl⟩))); simp only [Act.put, List.setIfInBounds_toArray, List.set_cons_zero, List.set_cons_succ]; refine hK _ ?_; clear hK K) | ((with_reducible refine Sched.walk1_pure ?_ ?_ ?_ (fun K hK => ?_)); (focus rfl); (focus rfl); (focus rfl); apply Exists.intro; refine ⟨fun w1 => ?_, ?_⟩; (focus (go_simp; (try go_ints); (try (simp only [IntWalk.iteOmega]; go_simp)); first | done | (with_reducible rfl) | (with_reducible exact ⟨rfl, rfl⟩))); simp only [Act.put, List.setIfInBounds_toArray, List.set_cons_zero, List.set_cons_succ]; refine hK _ ?_; clear hK K) | (refine Sched.walk1_box rfl rfl ?_; apply Exists.intro; refine ⟨fun w1 hw1 => ?_, ?_⟩; (focus (go_simp; exact ⟨Gr.alloc _ _, rfl, by simp, heap_alloc_new _ _⟩))))
  (with_reducible refine Sched.walk1_nil ?_)
  intro wq hwq
  have HS8 := Lib.hid (HS7.out.kept hwq)
  have HA8 := Lib.hid (HA7.out.kept hwq)
  have HG8 := Lib.hid (HG7.out.trans hwq)
  clear hwq c0 c1
  dsimp only [Sched.EndN, List.nil_append, List.cons_append, Act.put]
  (try simp only [List.setIfInBounds_toArray, List.set_cons_zero, List.set_cons_succ])
  repeat (first | (refine Sched.walk2_no rfl (fun K hK => ?_); simp only [Act.put, List.setIfInBounds_toArray, List.set_cons_zero, List.set_cons_succ]; refine hK _ ?_; clear hK K) | (refine Sched.walk2_go rfl (fun K hK => ?_); go_simp; (try go_ints); (try (simp only [IntWalk.iteOmega]; go_simp)); first | (refine hK _ _ ?_; clear hK K) | fail))
  refine Sched.walk2_nil ?_
  obtain ⟨i, hi⟩ : ∃ i, q0 - 1000 = i := ⟨_, rfl⟩
  obtain ⟨k, hk⟩ : ∃ i, q1 - 1000 = i := ⟨_, rfl⟩
  rw [hi, hk]
  have i1 : -1000 ≤ i ∧ i < 1000 := by omega
  have k1 : -1000 ≤ k ∧ k < 1000 := by omega
  obtain ⟨i1, i2⟩ := i1
  obtain ⟨k1, k2⟩ := k1
  clear hi hk b01 b02 b11 b12 HQ0 HQ1
  have ha8' := HA8.out
  unfold HBlk at ha8'
  have HA8' := Lib.hid ha8'
  obtain ⟨N, hN⟩ : ∃ N, numH A = N := ⟨_, rfl⟩
  have hNr : 0 ≤ N ∧ N ≤ 65535 := by rw [← hN]; unfold numH; split <;> rw [low16] <;> omega
  obtain ⟨N1, N2⟩ := hNr
  obtain ⟨l1, l2, l3⟩ := steps_law HM.out fl1 (by omega) HDO.out HAC.out.1 HAC.out.2 i1 i2 k1 k2
  obtain ⟨hmb, -, -⟩ := pred_made (n := numH A + i) HM.out fl1 (by omega) HDO.out
  rw [hN] at l1 l2 l3 hmb
  obtain ⟨B, hB⟩ : ∃ B, predH s f A (N + i) = B := ⟨_, rfl⟩
  rw [hB] at l1 l2 l3 hmb
  obtain ⟨R, hR⟩ : ∃ R, predH s f A (N + i + k) = R := ⟨_, rfl⟩
  rw [hR] at l1
  obtain ⟨N', hN'⟩ : ∃ N', numH B = N' := ⟨_, rfl⟩
  rw [hN'] at l3
  have HN := Lib.hid hN
  have HB := Lib.hid hB
  have HR1 := Lib.hid hR
  have HR2 := Lib.hid l1
  have HR3 := Lib.hid l2
  have HN' := Lib.hid hN'
  have HSI := Lib.hid l3
  have HOA := Lib.hid (made_ok HM.out fl1 (by omega))
  have HOB := Lib.hid (made_ok hmb fl1 (by omega))
  have HVB := Lib.hid (made_valid hmb fl1 (by omega))
  clear ha8' hN hB hR l1 l2 l3 hN' hmb
  go_wp2_with (first | (refine wpList_load_w rfl 29 _ rfl w4.heap.size rfl 29 _ _ _ HA8'.out Try.underlying29 rfl (by kernel_rfl) ?_))
  refine (num_is HN.out wq).mono ?_
  rintro e w9 ⟨rfl, hg9⟩
  have HA9 := Lib.hid (HA8.out.kept hg9)
  have HS9 := Lib.hid (HS8.out.kept hg9)
  have HG9 := Lib.hid (HG8.out.trans hg9)
  have ha9' := HA9.out
  unfold HBlk at ha9'
  have HA9' := Lib.hid ha9'
  clear hg9 ha9' HA8' HA8 HS8 HG8
  have x0 := HS9.out.c0
  have x1 := HS9.out.c1
  go_wp2_with (first | (refine wpList_load_w rfl 29 _ rfl w4.heap.size rfl 29 _ _ _ HA9'.out Try.underlying29 rfl (by kernel_rfl) ?_))
  refine (predict_is HB.out w9 HOA.out).mono ?_
  rintro e w10 ⟨rfl, hg10⟩
  have HA10 := Lib.hid (HA9.out.kept hg10)
  have HS10 := Lib.hid (HS9.out.kept hg10)
  have HG10 := Lib.hid (HG9.out.trans hg10)
  clear hg10 x0 x1 HA9 HA9' HS9 HG9
  go_upto_region 10 with (fail)
  obtain ⟨w11, hw11⟩ : ∃ y, y = w10.alloc (.cells (HCells B).toArray 29) := ⟨_, rfl⟩
  have hr11 : HBlk w10.heap.size B w11 := by rw [hw11]; exact heap_alloc_new _ _
  have hg11 : Gr w10 w11 := by rw [hw11]; exact Gr.alloc _ _
  simp only [HCells] at hw11
  rw [← hw11]
  have HAK := Lib.hid (fun u (hu : Gr w11 u) => HA10.out.kept (hg11.trans hu))
  have HBK := Lib.hid (fun u (hu : Gr w11 u) => hr11.kept hu)
  have x0 : ∀ u, Gr w11 u → u.cell? ⟨w6.heap.size, 0, none⟩ = some (.int .i64 s) := fun u hu => (HS10.out.kept (hg11.trans hu)).c0
  have x1 : ∀ u, Gr w11 u → u.cell? ⟨w6.heap.size, 1, none⟩ = some (.int .i64 f) := fun u hu => (HS10.out.kept (hg11.trans hu)).c1
  have HG11 := Lib.hid (HG10.out.trans hg11)
  have he1 := eq_self R
  have he2 := eq_self A
  clear hw11 hr11 hg11
  refine Sched.wp_region_sched 40 [] [] (by kernel_rfl) (by kernel_rfl) ?_
  simp only [List.take_succ_cons, List.take_zero, List.drop_succ_cons, List.drop_zero]
  repeat (first | ((with_reducible refine Sched.walk1_no ?_ ?_ (fun K hK => ?_)); (focus rfl); (focus rfl); simp only [Act.put, List.setIfInBounds_toArray, List.set_cons_zero, List.set_cons_succ]; refine hK _ ?_; clear hK K) | ((with_reducible refine Sched.walk1_gr ?_ ?_ ?_ (fun K hK => ?_)); (focus rfl); (focus rfl); (focus rfl); apply Exists.intro; refine ⟨fun w1 hw1 => ?_, ?_⟩; (focus (go_simp; (try go_ints); (try (simp only [IntWalk.iteOmega]; go_simp)); first | done | (go_at_call 15; (with_reducible exact awake06 _)) | (with_reducible rfl) | (with_reducible exact ⟨rfl, rfl⟩))); simp only [Act.put, List.setIfInBounds_toArray, List.set_cons_zero, List.set_cons_succ]; refine hK _ ?_; clear hK K) | ((with_reducible refine Sched.walk1_pure ?_ ?_ ?_ (fun K hK => ?_)); (focus rfl); (focus rfl); (focus rfl); apply Exists.intro; refine ⟨fun w1 => ?_, ?_⟩; (focus (go_simp; (try go_ints); (try (simp only [IntWalk.iteOmega]; go_simp)); first | done | (with_reducible rfl) | (with_reducible exact ⟨rfl, rfl⟩))); simp only [Act.put, List.setIfInBounds_toArray, List.set_cons_zero, List.set_cons_succ]; refine hK _ ?_; clear hK K) | (refine Sched.walk1_box rfl rfl ?_; apply Exists.intro; refine ⟨fun w1 hw1 => ?_, ?_⟩; (focus (go_simp; exact ⟨Gr.alloc _ _, rfl, by simp, heap_alloc_new _ _⟩))))
  refine Sched.walk1_gr rfl rfl rfl (fun K hK => ?_)
  refine ⟨HVal B, fun w1 hw1 => (HBK.out w1 hw1).load _ rfl rfl, ?_⟩
  simp only [Act.put, List.setIfInBounds_toArray, List.set_cons_zero, List.set_cons_succ]
  refine hK _ ?_
  clear hK K
  repeat (first | ((with_reducible refine Sched.walk1_no ?_ ?_ (fun K hK => ?_)); (focus rfl); (focus rfl); simp only [Act.put, List.setIfInBounds_toArray, List.set_cons_zero, List.set_cons_succ]; refine hK _ ?_; clear hK K) | ((with_reducible refine Sched.walk1_gr ?_ ?_ ?_ (fun K hK => ?_)); (focus rfl); (focus rfl); (focus rfl); apply Exists.intro; refine ⟨fun w1 hw1 => ?_, ?_⟩; (focus (go_simp; (try go_ints); (try (simp only [IntWalk.iteOmega]; go_simp)); first | done | (go_at_call 23; (with_reducible exact rvalid_is HVB.out _)) | (with_reducible rfl) | (with_reducible exact ⟨rfl, rfl⟩))); simp only [Act.put, List.setIfInBounds_toArray, List.set_cons_zero, List.set_cons_succ]; refine hK _ ?_; clear hK K) | ((with_reducible refine Sched.walk1_pure ?_ ?_ ?_ (fun K hK => ?_)); (focus rfl); (focus rfl); (focus rfl); apply Exists.intro; refine ⟨fun w1 => ?_, ?_⟩; (focus (go_simp; (try go_ints); (try (simp only [IntWalk.iteOmega]; go_simp)); first | done | (with_reducible rfl) | (with_reducible exact ⟨rfl, rfl⟩))); simp only [Act.put, List.setIfInBounds_toArray, List.set_cons_zero, List.set_cons_succ]; refine hK _ ?_; clear hK K) | (refine Sched.walk1_box rfl rfl ?_; apply Exists.intro; refine ⟨fun w1 hw1 => ?_, ?_⟩; (focus (go_simp; exact ⟨Gr.alloc _ _, rfl, by simp, heap_alloc_new _ _⟩))))
  refine Sched.walk1_gr rfl rfl rfl (fun K hK => ?_)
  refine ⟨HVal B, fun w1 hw1 => (HBK.out w1 hw1).load _ rfl rfl, ?_⟩
  simp only [Act.put, List.setIfInBounds_toArray, List.set_cons_zero, List.set_cons_succ]
  refine hK _ ?_
  clear hK K
  repeat (first | ((with_reducible refine Sched.walk1_no ?_ ?_ (fun K hK => ?_)); (focus rfl); (focus rfl); simp only [Act.put, List.setIfInBounds_toArray, List.set_cons_zero, List.set_cons_succ]; refine hK _ ?_; clear hK K) | ((with_reducible refine Sched.walk1_gr ?_ ?_ ?_ (fun K hK => ?_)); (focus rfl); (focus rfl); (focus rfl); apply Exists.intro; refine ⟨fun w1 hw1 => ?_, ?_⟩; (focus (go_simp; (try go_ints); (try (simp only [IntWalk.iteOmega]; go_simp)); first | done | (go_at_call 22; (with_reducible exact predict_is HR2.out _ HOB.out)) | (with_reducible rfl) | (with_reducible exact ⟨rfl, rfl⟩))); simp only [Act.put, List.setIfInBounds_toArray, List.set_cons_zero, List.set_cons_succ]; refine hK _ ?_; clear hK K) | ((with_reducible refine Sched.walk1_pure ?_ ?_ ?_ (fun K hK => ?_)); (focus rfl); (focus rfl); (focus rfl); apply Exists.intro; refine ⟨fun w1 => ?_, ?_⟩; (focus (go_simp; (try go_ints); (try (simp only [IntWalk.iteOmega]; go_simp)); first | done | (with_reducible rfl) | (with_reducible exact ⟨rfl, rfl⟩))); simp only [Act.put, List.setIfInBounds_toArray, List.set_cons_zero, List.set_cons_succ]; refine hK _ ?_; clear hK K) | (refine Sched.walk1_box rfl rfl ?_; apply Exists.intro; refine ⟨fun w1 hw1 => ?_, ?_⟩; (focus (go_simp; exact ⟨Gr.alloc _ _, rfl, by simp, heap_alloc_new _ _⟩))))
  refine Sched.walk1_gr rfl rfl rfl (fun K hK => ?_)
  refine ⟨HVal A, fun w1 hw1 => (HAK.out w1 hw1).load _ rfl rfl, ?_⟩
  simp only [Act.put, List.setIfInBounds_toArray, List.set_cons_zero, List.set_cons_succ]
  refine hK _ ?_
  clear hK K
  repeat (first | ((with_reducible refine Sched.walk1_no ?_ ?_ (fun K hK => ?_)); (focus rfl); (focus rfl); simp only [Act.put, List.setIfInBounds_toArray, List.set_cons_zero, List.set_cons_succ]; refine hK _ ?_; clear hK K) | ((with_reducible refine Sched.walk1_gr ?_ ?_ ?_ (fun K hK => ?_)); (focus rfl); (focus rfl); (focus rfl); apply Exists.intro; refine ⟨fun w1 hw1 => ?_, ?_⟩; (focus (go_simp; (try go_ints); (try (simp only [IntWalk.iteOmega]; go_simp)); first | done | (go_at_call 22; (with_reducible exact predict_is HR1.out _ HOA.out)) | (with_reducible rfl) | (with_reducible exact ⟨rfl, rfl⟩))); simp only [Act.put, List.setIfInBounds_toArray, List.set_cons_zero, List.set_cons_succ]; refine hK _ ?_; clear hK K) | ((with_reducible refine Sched.walk1_pure ?_ ?_ ?_ (fun K hK => ?_)); (focus rfl); (focus rfl); (focus rfl); apply Exists.intro; refine ⟨fun w1 => ?_, ?_⟩; (focus (go_simp; (try go_ints); (try (simp only [IntWalk.iteOmega]; go_simp)); first | done | (with_reducible rfl) | (with_reducible exact ⟨rfl, rfl⟩))); simp only [Act.put, List.setIfInBounds_toArray, List.set_cons_zero, List.set_cons_succ]; refine hK _ ?_; clear hK K) | (refine Sched.walk1_box rfl rfl ?_; apply Exists.intro; refine ⟨fun w1 hw1 => ?_, ?_⟩; (focus (go_simp; exact ⟨Gr.alloc _ _, rfl, by simp, heap_alloc_new _ _⟩))))
  refine Sched.walk1_gr rfl rfl rfl (fun K hK => ?_)
  refine ⟨HVal B, fun w1 hw1 => (HBK.out w1 hw1).load _ rfl rfl, ?_⟩
  simp only [Act.put, List.setIfInBounds_toArray, List.set_cons_zero, List.set_cons_succ]
  refine hK _ ?_
  clear hK K
  repeat (first | ((with_reducible refine Sched.walk1_no ?_ ?_ (fun K hK => ?_)); (focus rfl); (focus rfl); simp only [Act.put, List.setIfInBounds_toArray, List.set_cons_zero, List.set_cons_succ]; refine hK _ ?_; clear hK K) | ((with_reducible refine Sched.walk1_gr ?_ ?_ ?_ (fun K hK => ?_)); (focus rfl); (focus rfl); (focus rfl); apply Exists.intro; refine ⟨fun w1 hw1 => ?_, ?_⟩; (focus (go_simp; (try go_ints); (try (simp only [IntWalk.iteOmega]; go_simp)); first | done | (go_at_call 22; (with_reducible exact predict_is HR3.out _ HOB.out)) | (with_reducible rfl) | (with_reducible exact ⟨rfl, rfl⟩))); simp only [Act.put, List.setIfInBounds_toArray, List.set_cons_zero, List.set_cons_succ]; refine hK _ ?_; clear hK K) | ((with_reducible refine Sched.walk1_pure ?_ ?_ ?_ (fun K hK => ?_)); (focus rfl); (focus rfl); (focus rfl); apply Exists.intro; refine ⟨fun w1 => ?_, ?_⟩; (focus (go_simp; (try go_ints); (try (simp only [IntWalk.iteOmega]; go_simp)); first | done | (with_reducible rfl) | (with_reducible exact ⟨rfl, rfl⟩))); simp only [Act.put, List.setIfInBounds_toArray, List.set_cons_zero, List.set_cons_succ]; refine hK _ ?_; clear hK K) | (refine Sched.walk1_box rfl rfl ?_; apply Exists.intro; refine ⟨fun w1 hw1 => ?_, ?_⟩; (focus (go_simp; exact ⟨Gr.alloc _ _, rfl, by simp, heap_alloc_new _ _⟩))))
  refine Sched.walk1_gr rfl rfl rfl (fun K hK => ?_)
  refine ⟨HVal A, fun w1 hw1 => (HAK.out w1 hw1).load _ rfl rfl, ?_⟩
  simp only [Act.put, List.setIfInBounds_toArray, List.set_cons_zero, List.set_cons_succ]
  refine hK _ ?_
  clear hK K
  repeat (first | ((with_reducible refine Sched.walk1_no ?_ ?_ (fun K hK => ?_)); (focus rfl); (focus rfl); simp only [Act.put, List.setIfInBounds_toArray, List.set_cons_zero, List.set_cons_succ]; refine hK _ ?_; clear hK K) | ((with_reducible refine Sched.walk1_gr ?_ ?_ ?_ (fun K hK => ?_)); (focus rfl); (focus rfl); (focus rfl); apply Exists.intro; refine ⟨fun w1 hw1 => ?_, ?_⟩; (focus (go_simp; (try go_ints); (try (simp only [IntWalk.iteOmega]; go_simp)); first | done | fail | (with_reducible rfl) | (with_reducible exact ⟨rfl, rfl⟩))); simp only [Act.put, List.setIfInBounds_toArray, List.set_cons_zero, List.set_cons_succ]; refine hK _ ?_; clear hK K) | ((with_reducible refine Sched.walk1_pure ?_ ?_ ?_ (fun K hK => ?_)); (focus rfl); (focus rfl); (focus rfl); apply Exists.intro; refine ⟨fun w1 => ?_, ?_⟩; (focus (go_simp; (try go_ints); (try (simp only [IntWalk.iteOmega]; go_simp)); first | done | (with_reducible rfl) | (with_reducible exact ⟨rfl, rfl⟩))); simp only [Act.put, List.setIfInBounds_toArray, List.set_cons_zero, List.set_cons_succ]; refine hK _ ?_; clear hK K) | (refine Sched.walk1_box rfl rfl ?_; apply Exists.intro; refine ⟨fun w1 hw1 => ?_, ?_⟩; (focus (go_simp; exact ⟨Gr.alloc _ _, rfl, by simp, heap_alloc_new _ _⟩))))
  refine Sched.walk1_gr rfl rfl rfl (fun K hK => ?_)
  refine ⟨HVal B, fun w1 hw1 => (HBK.out w1 hw1).load _ rfl rfl, ?_⟩
  simp only [Act.put, List.setIfInBounds_toArray, List.set_cons_zero, List.set_cons_succ]
  refine hK _ ?_
  clear hK K
  repeat (first | ((with_reducible refine Sched.walk1_no ?_ ?_ (fun K hK => ?_)); (focus rfl); (focus rfl); simp only [Act.put, List.setIfInBounds_toArray, List.set_cons_zero, List.set_cons_succ]; refine hK _ ?_; clear hK K) | ((with_reducible refine Sched.walk1_gr ?_ ?_ ?_ (fun K hK => ?_)); (focus rfl); (focus rfl); (focus rfl); apply Exists.intro; refine ⟨fun w1 hw1 => ?_, ?_⟩; (focus (go_simp; (try go_ints); (try (simp only [IntWalk.iteOmega]; go_simp)); first | done | (first | (go_at_call 21; (with_reducible exact num_is HN'.out _)) | (go_at_call 24; (with_reducible exact gr_same (rsigned_is HSI.out _)))) | (with_reducible rfl) | (with_reducible exact ⟨rfl, rfl⟩))); simp only [Act.put, List.setIfInBounds_toArray, List.set_cons_zero, List.set_cons_succ]; refine hK _ ?_; clear hK K) | ((with_reducible refine Sched.walk1_pure ?_ ?_ ?_ (fun K hK => ?_)); (focus rfl); (focus rfl); (focus rfl); apply Exists.intro; refine ⟨fun w1 => ?_, ?_⟩; (focus (go_simp; (try go_ints); (try (simp only [IntWalk.iteOmega]; go_simp)); first | done | (with_reducible rfl) | (with_reducible exact ⟨rfl, rfl⟩))); simp only [Act.put, List.setIfInBounds_toArray, List.set_cons_zero, List.set_cons_succ]; refine hK _ ?_; clear hK K) | (refine Sched.walk1_box rfl rfl ?_; apply Exists.intro; refine ⟨fun w1 hw1 => ?_, ?_⟩; (focus (go_simp; exact ⟨Gr.alloc _ _, rfl, by simp, heap_alloc_new _ _⟩))))
  refine Sched.walk1_nil ?_
  intro wq hwq
  have HGQ := Lib.hid (HG11.out.trans hwq)
  clear hwq x0 x1 he1 he2
  dsimp only [Sched.EndN, List.nil_append, List.cons_append, Act.put]
  (try simp only [List.setIfInBounds_toArray, List.set_cons_zero, List.set_cons_succ])
  repeat (first | (refine Sched.walk2_no rfl (fun K hK => ?_); simp only [Act.put, List.setIfInBounds_toArray, List.set_cons_zero, List.set_cons_succ]; refine hK _ ?_; clear hK K) | (refine Sched.walk2_go rfl (fun K hK => ?_); go_simp; (try go_ints); (try (simp only [IntWalk.iteOmega]; go_simp)); first | (refine hK _ _ ?_; clear hK K) | fail))
  refine Sched.walk2_nil ?_
  go_wp2_with fail
  go_ret
  exact ⟨rfl, HGQ.out⟩
theorem steps_fit (a : Option Addr) (len cap : Nat) (ts : List Int) (n0 n1 : Int) (w : World) (hr : Rd .i64 w a len ts) (_hc : len ≤ cap) (_hL : len * 8 ≤ 140737488351232) (_h0 : i64 n0) (_h1 : i64 n1) :
    Calls Try.prog 3 #[.slice a len cap, .agg #[.int .i64 n0, .int .i64 n1]] w fun e w' => e = .returned (.bool true) ∧ Below w.heap.size w w' :=
  (steps_walk a len cap ts n0 n1 w hr).mono fun _ _ ⟨he, hg⟩ => ⟨he, Below.of_none hg⟩
end Go.Proofs.Ytmojlengjoicoaa
