/- The law FlowLearns (layer 06): its walk. -/
import Derived.Test.YtmojlengjoicoaaFlowN
namespace Go.Proofs.Ytmojlengjoicoaa
open Go.ChangeShapes Go.WideShapes Go.ChangeAt Go.RowKit

theorem eq_selfl (R : Hdr) (u : World) : (binOp .eql 29 (HVal R) (HVal R)).run Try.prog u = .ok (.bool true) u := by rw [run_eqH, eqH_refl]
def LrnRel (p g : Nat) (A : Hdr) (N : Int) (w2 : World) (v : Value) (wr : World) : Prop :=
  ∃ (j r : Int) (B : Hdr), v = .int .i64 r ∧ r + j = N ∧ 0 ≤ j ∧ 0 ≤ r ∧ FolRel A j B ∧ HBlk g A wr ∧ HBlk (g + 1) B wr ∧ Die wr p ∧ w2.grownBy wr (some p)
theorem made_rngN {fl : Int} {h : Hdr} (hm : MadeH fl h) (h0 : 0 ≤ fl) (h1 : fl ≤ 10) : RngH h := by
  have ho := made_ok hm h0 h1
  obtain ⟨k, t, i, f, l, fr, tt, fp, tp, c, r⟩ := hm
  refine ⟨ho, i, c, ?_, ?_⟩ <;> (rcases r with ⟨r0, r1, r2, r3, r4, r5⟩ | ⟨r0, r1, r2, r3, r4, r5⟩ <;> omega)
set_option maxRecDepth 100000 in
set_option maxHeartbeats 4000000 in
theorem learns_walk (a : Option Addr) (len cap : Nat) (ts : List Int) (n : Int) (w : World) (hr : Rd .i64 w a len ts) : Calls Try.prog 6 #[.slice a len cap, .int .i64 n] w fun e w' => e = .returned (.bool true) ∧ Gr w w' := by
  have hm : len ≤ 9223372036854775807 := by have := hr.2.2.1; simp only [maxLen] at this; omega
  have HR := Lib.hid hr
  clear hr
  go_enter Try.func6, Try.ntmps6
  by_cases hlen : len ≤ 400
  rotate_left
  · have hld : decide (len ≤ 400) = false := decide_eq_false hlen
    go_wp2_with ((go_at_call 14; refine (light_any _ _ _ _ hm).mono ?_; rintro e w' ⟨rfl, rfl⟩))
    refine (awake06 w).mono ?_
    rintro e w2 ⟨rfl, hg2⟩
    have HG2 := Lib.hid hg2
    clear hg2
    go_wp2_with fail
    go_ret
    exact ⟨rfl, HG2.out⟩
  have hld : decide (len ≤ 400) = true := decide_eq_true hlen
  go_wp2_with ((go_at_call 14; refine (light_any _ _ _ _ hm).mono ?_; rintro e w' ⟨rfl, rfl⟩))
  refine (roll_any a len cap ts w HR.out).mono ?_
  rintro e w2 ⟨p, rfl, hd2, hg2, hp2⟩
  have HD2 := Lib.hid hd2
  have HG2 := Lib.hid hg2
  clear hd2 hg2 hld
  go_wp2_with fail
  refine (next_any p 4 _ HD2.out (by omega) (by omega)).mono ?_
  rintro e w3 ⟨fl, rfl, fl1, fl2, hd3, hg3⟩
  have HD3 := Lib.hid hd3
  have HX3 := Lib.hid hg3
  clear hd3 hg3
  go_wp2_with fail
  refine (header_any p fl w3 HD3.out fl1 (by omega)).mono ?_
  rintro e w4 ⟨A, rfl, hmade, hd4, hg4⟩
  have HMA := Lib.hid hmade
  have HD4 := Lib.hid hd4
  have HX4 := Lib.hid (grown_trans' HX3.out hg4)
  clear hd4 hg4 hmade
  go_upto_region 5 with (fail)
  obtain ⟨w5, hw5⟩ : ∃ y, y = w4.alloc (.cells (HCells A).toArray 29) := ⟨_, rfl⟩
  have hr5 : HBlk w4.heap.size A w5 := by rw [hw5]; exact heap_alloc_new _ _
  have hg5 : Gr w4 w5 := by rw [hw5]; exact Gr.alloc _ _
  have hz5 : w5.heap.size = w4.heap.size + 1 := by rw [hw5]; simp
  simp only [HCells] at hw5
  rw [← hw5]
  have HA5 := Lib.hid hr5
  have HZ5 := Lib.hid hz5
  have HD5 := Lib.hid (HD4.out.kept hg5 (by simp))
  have HX5 := Lib.hid (grown_trans' HX4.out (grown_weak hg5 _))
  have hp4 : p < w4.heap.size := HD4.out.lt
  have ha5' := hr5
  unfold HBlk at ha5'
  have HA5' := Lib.hid ha5'
  clear hw5 hr5 hg5 hz5 ha5'
  go_upto_region 6 with (first | (refine wpList_load_w rfl 29 _ rfl w4.heap.size rfl 29 _ _ _ HA5'.out Try.underlying29 rfl (by kernel_rfl) ?_))
  obtain ⟨w6, hw6⟩ : ∃ y, y = w5.alloc (.cells (HCells A).toArray 29) := ⟨_, rfl⟩
  have hr6 : HBlk w5.heap.size A w6 := by rw [hw6]; exact heap_alloc_new _ _
  have hg6 : Gr w5 w6 := by rw [hw6]; exact Gr.alloc _ _
  simp only [HCells] at hw6
  rw [← hw6]
  have HA6 := Lib.hid (HA5.out.kept hg6)
  have HD6 := Lib.hid (HD5.out.kept hg6 (by simp))
  have HX6 := Lib.hid (grown_trans' HX5.out (grown_weak hg6 _))
  rw [HZ5.out] at hr6 ⊢
  have HB6 := Lib.hid hr6
  clear hw6 hr6 hg6 HA5'
  obtain ⟨g, hgg⟩ : ∃ g, w4.heap.size = g := ⟨_, rfl⟩
  have HGG := Lib.hid hgg
  rw [hgg] at hp4 HA6 HB6 ⊢
  have hz2 : w2.heap.size ≤ g := by rw [← hgg]; exact HX4.out.size
  clear hgg
  obtain ⟨q, hq⟩ : ∃ q, modF n 40 = q := ⟨_, rfl⟩
  have hb : 0 ≤ q ∧ q < 40 := by rw [← hq]; exact ⟨modF_lo _ _, modF_hi _ _ (by omega)⟩
  obtain ⟨q1, q2⟩ := hb
  have HQ := Lib.hid hq
  clear hq
  go_wp2_with (go_at_call 20; ((with_reducible refine (mod_is HQ.out (by omega) _).mono ?_)); rintro e w' ⟨rfl, rfl⟩)
  obtain ⟨N, hN⟩ : ∃ N, 1 + q = N := ⟨_, rfl⟩
  try rw [hN]
  have n1 : 1 ≤ N ∧ N ≤ 40 := by omega
  obtain ⟨n1, n2⟩ := n1
  clear hN q1 q2 HQ
  go_loopw [8] (fun r wr => LrnRel p g A N w2 r wr) (fun r _ => (intOf r).toNat)
  case atStart => exact ⟨0, _, A, rfl, by omega, by omega, by omega, .inl ⟨rfl, rfl⟩, HA6.out, HB6.out, HD6.out, HX6.out⟩
  case round =>
    clear HA6 HB6 HD6 HX6
    obtain ⟨j, r, B, rfl, hj, hj0, hr0, hfol, hA, hB, hD, hX⟩ := hrel
    have HF := Lib.hid hfol
    have HA := Lib.hid hA
    have HB := Lib.hid hB
    have HD := Lib.hid hD
    have HX := Lib.hid hX
    have hb' := hB
    unfold HBlk at hb'
    have HB' := Lib.hid hb'
    clear hfol hA hB hD hX hb'
    by_cases hlt : 0 < r
    · go_wp2_with (first | (refine wpList_load_w rfl 29 _ rfl (g + 1) rfl 29 _ _ _ HB'.out Try.underlying29 rfl (by kernel_rfl) ?_))
      refine (follow_any p B true wr HD.out (made_rngN (HF.out.made HMA.out) fl1 (by omega))).mono ?_
      rintro e w7 ⟨C, rfl, -, -, hreg, hd7, hg7⟩
      obtain ⟨c, hc, rfl⟩ := hreg rfl
      have HN := Lib.hid (HF.out.next hj0 hc)
      have HA7 := Lib.hid (HA.out.dice hg7 (by omega))
      have HB7 := Lib.hid (HB.out.dice hg7 (by omega))
      have HD7 := Lib.hid hd7
      have HX7 := Lib.hid (grown_trans' HX.out hg7)
      obtain ⟨C, hC⟩ : ∃ C, folH B 1 c = C := ⟨_, rfl⟩
      rw [hC] at HN ⊢
      clear hreg hd7 hg7 hc hC HA HB HB' HD HX
      obtain ⟨w8, hw8⟩ : ∃ y, y = w7.setCells (g + 1) 0 (HCells C).toArray.toList := ⟨_, rfl⟩
      have HB8 := Lib.hid (show HBlk (g + 1) C w8 by rw [hw8]; exact HB7.out.put C)
      have HA8 := Lib.hid (show HBlk g A w8 by rw [hw8]; exact blk_kept HA7.out (grown_setCells (g + 1) _ _ _) (by simp))
      have HTH := Lib.hid HB7.out.there
      have HX8 := Lib.hid (show w2.grownBy w8 (some p) by rw [hw8]; exact grown_setCells_new HX7.out (by omega) _ _)
      have HD8 := Lib.hid (show Die w8 p by rw [hw8]; exact HD7.out.kept (grown_setCells (g + 1) _ _ _) (by simp; omega))
      have HW8 := Lib.hid hw8
      clear hw8 HA7 HB7 HD7 HX7
      go_wp2_with (first | (refine wpList_store_mid rfl 29 _ _ rfl (g + 1) 0 (HCells C).toArray rfl rfl HTH.out (by kernel_rfl) (hcells_one _) ?_; rw [← HW8.out]))
      go_roundw
      case rel => exact ⟨j + 1, _, C, rfl, by omega, by omega, by omega, HN.out, HA8.out, HB8.out, HD8.out, HX8.out⟩
      case measure => (simp [intOf] <;> omega)
    · obtain rfl : r = 0 := by omega
      obtain rfl : j = N := by omega
      rcases HF.out with ⟨e, -⟩ | ⟨-, c, hc, rfl⟩
      · omega
      obtain ⟨S, F, l1, l2, l3, l4, l5⟩ := learns_law HMA.out fl1 (by omega) n1 n2 hc
      have HOA := Lib.hid (made_ok HMA.out fl1 (by omega))
      have HOB := Lib.hid (made_ok (made_fol (n := j) HMA.out hc) fl1 (by omega))
      have hck := fol_check A j c
      obtain ⟨B, hB⟩ : ∃ B, folH A j c = B := ⟨_, rfl⟩
      rw [hB] at l1 l2 l4 l5 HOB hck HB HB'
      obtain ⟨M, hM⟩ : ∃ M, numH B = M := ⟨_, rfl⟩
      rw [hM] at l4
      obtain ⟨R, hR⟩ : ∃ R, predH S F A M = R := ⟨_, rfl⟩
      rw [hR] at l4
      have L1 := Lib.hid l1
      have L2 := Lib.hid l2
      have L3 := Lib.hid l3
      have L4 := Lib.hid l4
      have L5 := Lib.hid l5
      have HM := Lib.hid hM
      have HR1 := Lib.hid hR
      have HCK := Lib.hid hck
      have ha' := HA.out
      unfold HBlk at ha'
      have HA' := Lib.hid ha'
      clear l1 l2 l3 l4 l5 hB hM hR hck hc HF ha' hj hj0 hr0 hlt HD
      go_wp2_with (first | (refine wpList_load_w rfl 29 _ rfl g rfl 29 _ _ _ HA'.out Try.underlying29 rfl (by kernel_rfl) ?_) | (refine wpList_load_w rfl 29 _ rfl (g + 1) rfl 29 _ _ _ HB'.out Try.underlying29 rfl (by kernel_rfl) ?_))
      refine (learn_is L1.out L2.out wr HOA.out HOB.out).mono ?_
      rintro e w7 ⟨rfl, hg7⟩
      have HA7 := Lib.hid (HA.out.kept hg7)
      have HB7 := Lib.hid (HB.out.kept hg7)
      have HX7 := Lib.hid (grown_trans' HX.out (grown_weak hg7 _))
      clear hg7 HA HB HX HA' HB'
      go_upto_region 11 with (fail)
      obtain ⟨w8, hw8⟩ : ∃ y, y = w7.alloc (.cells #[.int .i64 S, .int .i64 F] 33) := ⟨_, rfl⟩
      have hd8 : DBlk w7.heap.size S F w8 := by rw [hw8]; exact heap_alloc_new _ _
      have hg8 : Gr w7 w8 := by rw [hw8]; exact Gr.alloc _ _
      rw [← hw8]
      have HAK := Lib.hid (fun u (hu : Gr w8 u) => (HA7.out.kept hg8).kept hu)
      have HBK := Lib.hid (fun u (hu : Gr w8 u) => (HB7.out.kept hg8).kept hu)
      have HS8 := Lib.hid hd8
      have HG8 := Lib.hid (show Gr w w8 from grownBy_trans HG2.out (grown_trans' HX7.out (grown_weak hg8 _)) (.inr (.inr ⟨p, rfl, hp2⟩)))
      have hgs : g + 1 < w8.heap.size := by have := heap_lt (HBK.out w8 (Gr.refl _)); omega
      clear hw8 hd8 hg8
      have x0 : ∀ u, Gr w8 u → u.cell? ⟨w7.heap.size, 0, none⟩ = some (.int .i64 S) := fun u hu => (HS8.out.kept hu).c0
      have x1 : ∀ u, Gr w8 u → u.cell? ⟨w7.heap.size, 1, none⟩ = some (.int .i64 F) := fun u hu => (HS8.out.kept hu).c1
      refine Sched.wp_region_sched 6 [] [5] (by kernel_rfl) (by kernel_rfl) ?_
      simp only [List.take_succ_cons, List.take_zero, List.drop_succ_cons, List.drop_zero]
      repeat (first | ((with_reducible refine Sched.walk1_no ?_ ?_ (fun K hK => ?_)); (focus rfl); (focus rfl); simp only [Act.put, List.setIfInBounds_toArray, List.set_cons_zero, List.set_cons_succ]; refine hK _ ?_; clear hK K) | ((with_reducible refine Sched.walk1_gr ?_ ?_ ?_ (fun K hK => ?_)); (focus rfl); (focus rfl); (focus rfl); apply Exists.intro; refine ⟨fun w1 hw1 => ?_, ?_⟩; (focus (go_simp; (try go_ints); (try (simp only [IntWalk.iteOmega]; go_simp)); first | done | fail | (with_reducible rfl) | (with_reducible exact ⟨rfl, rfl⟩))); simp only [Act.put, List.setIfInBounds_toArray, List.set_cons_zero, List.set_cons_succ]; refine hK _ ?_; clear hK K) | ((with_reducible refine Sched.walk1_pure ?_ ?_ ?_ (fun K hK => ?_)); (focus rfl); (focus rfl); (focus rfl); apply Exists.intro; refine ⟨fun w1 => ?_, ?_⟩; (focus (go_simp; (try go_ints); (try (simp only [IntWalk.iteOmega]; go_simp)); first | done | (with_reducible rfl) | (with_reducible exact ⟨rfl, rfl⟩))); simp only [Act.put, List.setIfInBounds_toArray, List.set_cons_zero, List.set_cons_succ]; refine hK _ ?_; clear hK K) | (refine Sched.walk1_box rfl rfl ?_; apply Exists.intro; refine ⟨fun w1 hw1 => ?_, ?_⟩; (focus (go_simp; exact ⟨Gr.alloc _ _, rfl, by simp, heap_alloc_new _ _⟩))))
      refine Sched.walk1_gr rfl rfl rfl (fun K hK => ?_)
      refine ⟨HVal A, fun w1 hw1 => (HAK.out w1 hw1).load _ rfl rfl, ?_⟩
      simp only [Act.put, List.setIfInBounds_toArray, List.set_cons_zero, List.set_cons_succ]
      refine hK _ ?_
      clear hK K
      refine Sched.walk1_gr rfl rfl rfl (fun K hK => ?_)
      refine ⟨HVal B, fun w1 hw1 => (HBK.out w1 hw1).load _ rfl rfl, ?_⟩
      simp only [Act.put, List.setIfInBounds_toArray, List.set_cons_zero, List.set_cons_succ]
      refine hK _ ?_
      clear hK K
      repeat (first | ((with_reducible refine Sched.walk1_no ?_ ?_ (fun K hK => ?_)); (focus rfl); (focus rfl); simp only [Act.put, List.setIfInBounds_toArray, List.set_cons_zero, List.set_cons_succ]; refine hK _ ?_; clear hK K) | ((with_reducible refine Sched.walk1_gr ?_ ?_ ?_ (fun K hK => ?_)); (focus rfl); (focus rfl); (focus rfl); apply Exists.intro; refine ⟨fun w1 hw1 => ?_, ?_⟩; (focus (go_simp; (try go_ints); (try (simp only [IntWalk.iteOmega]; go_simp)); first | done | (first | (go_at_call 21; (with_reducible exact num_is HM.out _)) | (go_at_call 22; (with_reducible exact predict_is HR1.out _ HOA.out))) | (with_reducible rfl) | (with_reducible exact ⟨rfl, rfl⟩))); simp only [Act.put, List.setIfInBounds_toArray, List.set_cons_zero, List.set_cons_succ]; refine hK _ ?_; clear hK K) | ((with_reducible refine Sched.walk1_pure ?_ ?_ ?_ (fun K hK => ?_)); (focus rfl); (focus rfl); (focus rfl); apply Exists.intro; refine ⟨fun w1 => ?_, ?_⟩; (focus (go_simp; (try go_ints); (try (simp only [IntWalk.iteOmega]; go_simp)); first | done | (with_reducible rfl) | (with_reducible exact ⟨rfl, rfl⟩))); simp only [Act.put, List.setIfInBounds_toArray, List.set_cons_zero, List.set_cons_succ]; refine hK _ ?_; clear hK K) | (refine Sched.walk1_box rfl rfl ?_; apply Exists.intro; refine ⟨fun w1 hw1 => ?_, ?_⟩; (focus (go_simp; exact ⟨Gr.alloc _ _, rfl, by simp, heap_alloc_new _ _⟩))))
      refine Sched.walk1_nil ?_
      intro wq hwq
      dsimp only [Sched.EndN, List.nil_append, List.cons_append, Act.put]
      rintro lo1 hi1 v1 ⟨rfl, hlt1, hblk1⟩ hlo1 hle1 hhi1 -
      simp only [List.setIfInBounds_toArray, List.set_cons_zero, List.set_cons_succ]
      obtain ⟨w9, hw9⟩ : ∃ y, y = wq.setCells lo1 0 (HCells R).toArray.toList := ⟨_, rfl⟩
      have hr9 : HBlk lo1 R w9 := by rw [hw9]; exact heap_setCells (HCells R) 0 wq _ hblk1
      have hg9 : Gr w8 w9 := by rw [hw9]; exact grown_setCells_new hwq hlo1 _ _
      have ht9 : wq.there lo1 0 (HCells R).toArray.size := there_block hblk1 (by simp)
      refine Sched.walk2_go rfl (fun K hK => ?_)
      refine tq_store 29 _ _ rfl lo1 0 (HCells R).toArray rfl rfl ht9 (by kernel_rfl) (hcells_one R) ?_
      rw [← hw9]
      simp only [Act.put]
      refine hK _ _ ?_
      clear hK K
      refine Sched.walk2_nil ?_
      have HR9 := Lib.hid hr9
      have HG9 := Lib.hid hg9
      have hlg : g + 1 < lo1 := by omega
      clear hw9 hr9 hg9 ht9 hblk1 hwq hlt1 hle1 hhi1
      have k9 : w9.cell? ⟨g + 1, 9, none⟩ = some (.int .i64 B.check) := (HBK.out w9 HG9.out).at 9 rfl
      have f9 := (HBK.out w9 HG9.out).fz 9
      have m9 : w9.cell? ⟨lo1, 9, none⟩ = some (.int .i64 R.check) := HR9.out.at 9 rfl
      have n9 := HR9.out.fz 9
      go_upto_region 13 with (fail)
      obtain ⟨w10, hw10⟩ : ∃ y, y = w9.setCell ⟨lo1, 9, none⟩ (.int .i64 B.check) := ⟨_, rfl⟩
      rw [← hw10]
      have hr10 : HBlk lo1 B w10 := by rw [hw10]; exact HR9.out.set 9 _ (by rw [HCK.out]; exact L4.out)
      have hg10 : Gr w8 w10 := by rw [hw10]; exact grown_new HG9.out (a := ⟨lo1, 9, none⟩) hlo1 _
      have HAJ := Lib.hid (HAK.out w10 hg10)
      have HBJ := Lib.hid (HBK.out w10 hg10)
      have HRJ := Lib.hid hr10
      have HSJ := Lib.hid (HS8.out.kept hg10)
      have HG10 := Lib.hid (HG8.out.trans hg10)
      clear hw10 hr10 hg10 k9 f9 m9 n9 x0 x1 HAK HBK
      have he := eq_selfl B
      go_wp2_with fail
      refine (awake06 w10).mono ?_
      rintro e w11 ⟨rfl, hg11⟩
      have HA1 := Lib.hid (HAJ.out.kept hg11)
      have HB1 := Lib.hid (HBJ.out.kept hg11)
      have HS1 := Lib.hid (HSJ.out.kept hg11)
      have hr1' := HRJ.out.kept hg11
      have hb1' := HB1.out
      unfold HBlk at hr1' hb1'
      have HR1' := Lib.hid hr1'
      have HB1' := Lib.hid hb1'
      have HG11 := Lib.hid (HG10.out.trans hg11)
      have x0 := HS1.out.c0
      have x1 := HS1.out.c1
      clear hg11 HAJ HBJ HRJ HSJ HG10 hr1' hb1'
      go_wp2_with (first | (refine wpList_load_w rfl 29 _ rfl lo1 rfl 29 _ _ _ HR1'.out Try.underlying29 rfl (by kernel_rfl) ?_) | (refine wpList_load_w rfl 29 _ rfl (g + 1) rfl 29 _ _ _ HB1'.out Try.underlying29 rfl (by kernel_rfl) ?_))
      refine (rdyn_is L3.out w11).mono ?_
      rintro e w12 ⟨rfl, hg12⟩
      have ha2' := HA1.out.kept hg12
      have hb2' := HB1.out.kept hg12
      unfold HBlk at ha2' hb2'
      have HA2' := Lib.hid ha2'
      have HB2' := Lib.hid hb2'
      have HG12 := Lib.hid (HG11.out.trans hg12)
      clear hg12 HA1 HB1 HR1' HB1' HS1 x0 x1 ha2' hb2' he HG11
      go_wp2_with (first | (refine wpList_load_w rfl 29 _ rfl g rfl 29 _ _ _ HA2'.out Try.underlying29 rfl (by kernel_rfl) ?_) | (refine wpList_load_w rfl 29 _ rfl (g + 1) rfl 29 _ _ _ HB2'.out Try.underlying29 rfl (by kernel_rfl) ?_))
      refine (chg_is L5.out w12).mono ?_
      rintro e w13 ⟨rfl, hg13⟩
      have HGQ := Lib.hid (HG12.out.trans hg13)
      clear hg13
      go_wp2_with fail
      go_ret
      exact ⟨rfl, HGQ.out⟩
theorem learns_fit (a : Option Addr) (len cap : Nat) (ts : List Int) (n : Int) (w : World) (hr : Rd .i64 w a len ts) (_hc : len ≤ cap) (_hL : len * 8 ≤ 140737488351232) (_h : i64 n) :
    Calls Try.prog 6 #[.slice a len cap, .int .i64 n] w fun e w' => e = .returned (.bool true) ∧ Below w.heap.size w w' :=
  (learns_walk a len cap ts n w hr).mono fun _ _ ⟨he, hg⟩ => ⟨he, Below.of_none hg⟩
end Go.Proofs.Ytmojlengjoicoaa
