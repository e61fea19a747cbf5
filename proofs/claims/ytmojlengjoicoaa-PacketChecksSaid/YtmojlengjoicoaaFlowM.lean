/- Layer 06 (flow): Learn of the reference. -/
import Derived.Test.YtmojlengjoicoaaFlowL
namespace Go.Proofs.Ytmojlengjoicoaa
open Go.ChangeShapes Go.WideShapes Go.ChangeAt Go.RowKit

theorem rsame_is {a b : Hdr} {V : Bool} (hv : sameB a b = V) (w : World) : Calls Try.prog 26 #[HVal a, HVal b] w fun e w' => e = .returned (.bool V) ∧ Gr w w' := hv ▸ rsame_any a b w
theorem rlearn_stride (st q tm : Int) : (if (st != 0 && tm.tmod st == 0 && decide (0 ≤ q) && decide (q ≤ 65535)) = true then q else 0) = if st ≠ 0 ∧ tm.tmod st = 0 ∧ 0 ≤ q ∧ q ≤ 65535 then q else 0 := by
  by_cases h1 : st = 0
  · simp [h1]
  · by_cases h2 : tm.tmod st = 0
    · by_cases h3 : 0 ≤ q <;> by_cases h4 : q ≤ 65535 <;> simp [h1, h2, h3, h4]
    · simp [h1, h2]
-- the end of a way that says: nothing learnt
set_option maxRecDepth 100000 in
set_option maxHeartbeats 4000000 in
theorem rlearn_any (a b : Hdr) (w : World) : Calls Try.prog 34 #[HVal a, HVal b] w fun e w' => e = .returned (DVal (learnS a b) (learnF a b)) ∧ Gr w w' := by
  go_enter Try.func34, Try.ntmps34
  go_upto_region 1 with (fail)
  obtain ⟨w1, hw1⟩ : ∃ y, y = ((w.alloc (.cells (HCells a).toArray 29)).alloc (.cells (HCells b).toArray 29)).alloc (.cells #[.int .i64 0, .int .i64 0] 33) := ⟨_, rfl⟩
  obtain ⟨ha1, hb1, hd1⟩ : HBlk w.heap.size a w1 ∧ HBlk (w.heap.size + 1) b w1 ∧ DBlk (w.heap.size + 1 + 1) 0 0 w1 := by rw [hw1]; exact blocks3 _ _ _ _
  have hg1 : Gr w w1 := by rw [hw1]; exact (Gr.alloc _ _).trans ((Gr.alloc _ _).trans (Gr.alloc _ _))
  simp only [HCells] at hw1
  rw [← hw1]
  have HA1 := Lib.hid ha1
  have HB1 := Lib.hid hb1
  have HD1 := Lib.hid hd1
  have HG1 := Lib.hid hg1
  have ha1' := ha1
  unfold HBlk at ha1'
  have HA1' := Lib.hid ha1'
  clear hw1 ha1 hb1 hd1 hg1 ha1'
  obtain ⟨V1, hV1⟩ : ∃ V, validH a = V := ⟨_, rfl⟩
  obtain ⟨V2, hV2⟩ : ∃ V, validH b = V := ⟨_, rfl⟩
  obtain ⟨V4, hV4⟩ : ∃ V, sameB a b = V := ⟨_, rfl⟩
  have HV1 := Lib.hid hV1
  have HV2 := Lib.hid hV2
  have HV4 := Lib.hid hV4
  clear hV1 hV2 hV4
  go_wp2_with (refine wpList_load_w rfl 29 _ rfl w.heap.size rfl 29 _ _ _ HA1'.out Try.underlying29 rfl (by kernel_rfl) ?_)
  refine (rvalid_is HV1.out w1).mono ?_
  rintro e w2 ⟨rfl, hg2⟩
  have HA2 := Lib.hid (HA1.out.kept hg2)
  have HB2 := Lib.hid (HB1.out.kept hg2)
  have HD2 := Lib.hid (HD1.out.kept hg2)
  have HG2 := Lib.hid (HG1.out.trans hg2)
  have hb2' := HB2.out
  unfold HBlk at hb2'
  have HB2' := Lib.hid hb2'
  clear hg2 hb2' HA1 HA1' HB1 HD1 HG1
  cases V1
  · have hl : lrnB a b = false := by unfold lrnB; rw [HV1.out]; rfl
    have HRES := Lib.hid (show Ending.returned (DVal 0 0) = .returned (DVal (learnS a b) (learnF a b)) by unfold learnS learnF; rw [hl]; rfl)
    clear hl
    have hd0 := (HD2.out)
    have HGE := Lib.hid (grown_set (grown_set (HG2.out) (a := ⟨w.heap.size + 1 + 1, 0, none⟩) (show w.heap.size ≤ w.heap.size + 1 + 1 by omega) (.int .i64 0)) (a := ⟨w.heap.size + 1 + 1, 1, none⟩) (show w.heap.size ≤ w.heap.size + 1 + 1 by omega) (.int .i64 0))
    have HBE := Lib.hid ((hd0.set0 0).set1 0)
    have z0 := hd0.c0
    have z1 := hd0.c1
    have g0 := hd0.fz 0
    have g1 := hd0.fz 1
    clear hd0
    go_wp2_with fail
    have hbe := HBE.out
    unfold DBlk at hbe
    exact bodyPost_ret (v := DVal 0 0) (results_cell_row Try.results34 _ _ (w.heap.size + 1 + 1) _ _ _ _ rfl hbe Try.underlying33 rfl (by kernel_rfl)) rfl ⟨HRES.out, HGE.out⟩
  go_wp2_with (refine wpList_load_w rfl 29 _ rfl (w.heap.size + 1) rfl 29 _ _ _ HB2'.out Try.underlying29 rfl (by kernel_rfl) ?_)
  refine (rvalid_is HV2.out w2).mono ?_
  rintro e w3 ⟨rfl, hg3⟩
  have HA3 := Lib.hid (HA2.out.kept hg3)
  have HB3 := Lib.hid (HB2.out.kept hg3)
  have HD3 := Lib.hid (HD2.out.kept hg3)
  have HG3 := Lib.hid (HG2.out.trans hg3)
  clear hg3 HA2 HB2' HB2 HD2 HG2
  cases V2
  · have hl : lrnB a b = false := by unfold lrnB; rw [HV1.out, HV2.out]; rfl
    have HRES := Lib.hid (show Ending.returned (DVal 0 0) = .returned (DVal (learnS a b) (learnF a b)) by unfold learnS learnF; rw [hl]; rfl)
    clear hl
    have hd0 := (HD3.out)
    have HGE := Lib.hid (grown_set (grown_set (HG3.out) (a := ⟨w.heap.size + 1 + 1, 0, none⟩) (show w.heap.size ≤ w.heap.size + 1 + 1 by omega) (.int .i64 0)) (a := ⟨w.heap.size + 1 + 1, 1, none⟩) (show w.heap.size ≤ w.heap.size + 1 + 1 by omega) (.int .i64 0))
    have HBE := Lib.hid ((hd0.set0 0).set1 0)
    have z0 := hd0.c0
    have z1 := hd0.c1
    have g0 := hd0.fz 0
    have g1 := hd0.fz 1
    clear hd0
    go_wp2_with fail
    have hbe := HBE.out
    unfold DBlk at hbe
    exact bodyPost_ret (v := DVal 0 0) (results_cell_row Try.results34 _ _ (w.heap.size + 1 + 1) _ _ _ _ rfl hbe Try.underlying33 rfl (by kernel_rfl)) rfl ⟨HRES.out, HGE.out⟩
  have k0 : w3.cell? ⟨w.heap.size, 0, none⟩ = some (.int .i64 a.kind) := HA3.out.at 0 rfl
  by_cases hk : a.kind = 2
  rotate_left
  · have hl : lrnB a b = false := by unfold lrnB; rw [HV1.out, HV2.out, show (a.kind == 2) = false by simpa using hk]; rfl
    have HRES := Lib.hid (show Ending.returned (DVal 0 0) = .returned (DVal (learnS a b) (learnF a b)) by unfold learnS learnF; rw [hl]; rfl)
    have hkb : (a.kind != 2) = true := by simpa using hk
    clear hl hk
    have hd0 := (HD3.out)
    have HGE := Lib.hid (grown_set (grown_set (HG3.out) (a := ⟨w.heap.size + 1 + 1, 0, none⟩) (show w.heap.size ≤ w.heap.size + 1 + 1 by omega) (.int .i64 0)) (a := ⟨w.heap.size + 1 + 1, 1, none⟩) (show w.heap.size ≤ w.heap.size + 1 + 1 by omega) (.int .i64 0))
    have HBE := Lib.hid ((hd0.set0 0).set1 0)
    have z0 := hd0.c0
    have z1 := hd0.c1
    have g0 := hd0.fz 0
    have g1 := hd0.fz 1
    clear hd0
    go_wp2_with fail
    have hbe := HBE.out
    unfold DBlk at hbe
    exact bodyPost_ret (v := DVal 0 0) (results_cell_row Try.results34 _ _ (w.heap.size + 1 + 1) _ _ _ _ rfl hbe Try.underlying33 rfl (by kernel_rfl)) rfl ⟨HRES.out, HGE.out⟩
  have hkb : (a.kind != 2) = false := by simpa using hk
  have HK := Lib.hid hk
  clear hk
  have ha3' := HA3.out
  unfold HBlk at ha3'
  have HA3' := Lib.hid ha3'
  have hb3' := HB3.out
  unfold HBlk at hb3'
  have HB3' := Lib.hid hb3'
  clear ha3' hb3'
  go_wp2_with (first | (refine wpList_load_w rfl 29 _ rfl w.heap.size rfl 29 _ _ _ HA3'.out Try.underlying29 rfl (by kernel_rfl) ?_) | (refine wpList_load_w rfl 29 _ rfl (w.heap.size + 1) rfl 29 _ _ _ HB3'.out Try.underlying29 rfl (by kernel_rfl) ?_))
  refine (rsame_is HV4.out w3).mono ?_
  rintro e w4 ⟨rfl, hg4⟩
  have HA4 := Lib.hid (HA3.out.kept hg4)
  have HB4 := Lib.hid (HB3.out.kept hg4)
  have HD4 := Lib.hid (HD3.out.kept hg4)
  have HG4 := Lib.hid (HG3.out.trans hg4)
  clear hg4 HA3 HB3' HA3' HB3 HD3 HG3 k0
  cases V4
  · have hl : lrnB a b = false := by unfold lrnB; rw [HV1.out, HV2.out, HV4.out, show (a.kind == 2) = true by simpa using HK.out]; rfl
    have HRES := Lib.hid (show Ending.returned (DVal 0 0) = .returned (DVal (learnS a b) (learnF a b)) by unfold learnS learnF; rw [hl]; rfl)
    clear hl
    have hd0 := (HD4.out)
    have HGE := Lib.hid (grown_set (grown_set (HG4.out) (a := ⟨w.heap.size + 1 + 1, 0, none⟩) (show w.heap.size ≤ w.heap.size + 1 + 1 by omega) (.int .i64 0)) (a := ⟨w.heap.size + 1 + 1, 1, none⟩) (show w.heap.size ≤ w.heap.size + 1 + 1 by omega) (.int .i64 0))
    have HBE := Lib.hid ((hd0.set0 0).set1 0)
    have z0 := hd0.c0
    have z1 := hd0.c1
    have g0 := hd0.fz 0
    have g1 := hd0.fz 1
    clear hd0
    go_wp2_with fail
    have hbe := HBE.out
    unfold DBlk at hbe
    exact bodyPost_ret (v := DVal 0 0) (results_cell_row Try.results34 _ _ (w.heap.size + 1 + 1) _ _ _ _ rfl hbe Try.underlying33 rfl (by kernel_rfl)) rfl ⟨HRES.out, HGE.out⟩
  have HL := Lib.hid (show lrnB a b = true by unfold lrnB; rw [HV1.out, HV2.out, HV4.out, show (a.kind == 2) = true by simpa using HK.out]; rfl)
  have HAK := Lib.hid (fun u (hu : Gr w4 u) => HA4.out.kept hu)
  have HBK := Lib.hid (fun u (hu : Gr w4 u) => HB4.out.kept hu)
  obtain ⟨N1, hN1⟩ : ∃ N, numH a = N := ⟨_, rfl⟩
  obtain ⟨N2, hN2⟩ : ∃ N, numH b = N := ⟨_, rfl⟩
  obtain ⟨st, hst⟩ : ∃ t, signedS 16 N1 N2 = t := ⟨_, rfl⟩
  obtain ⟨tm, htm⟩ : ∃ t, signedS 32 a.time b.time = t := ⟨_, rfl⟩
  have hr1 := signed_rng 16 N1 N2
  have hr2 := signed_rng 32 a.time b.time
  rw [hst] at hr1
  rw [htm] at hr2
  obtain ⟨s1, s2⟩ := hr1
  obtain ⟨t1, t2⟩ := hr2
  have HN1 := Lib.hid hN1
  have HN2 := Lib.hid hN2
  have HST := Lib.hid hst
  have HTM := Lib.hid htm
  clear hN1 hN2 hst htm
  go_wp2_with fail
  refine Sched.wp_region_sched 5 [] [] (by kernel_rfl) (by kernel_rfl) ?_
  simp only [List.take_succ_cons, List.take_zero, List.drop_succ_cons, List.drop_zero]
  refine Sched.walk1_gr rfl rfl rfl (fun K hK => ?_)
  refine ⟨HVal a, fun w1 hw1 => (HAK.out w1 hw1).load _ rfl rfl, ?_⟩
  simp only [Act.put, List.setIfInBounds_toArray, List.set_cons_zero, List.set_cons_succ]
  refine hK _ ?_
  clear hK K
  repeat (first | (refine Sched.walk1_no rfl rfl (fun K hK => ?_); simp only [Act.put, List.setIfInBounds_toArray, List.set_cons_zero, List.set_cons_succ]; refine hK _ ?_; clear hK K) | (refine Sched.walk1_gr rfl rfl rfl (fun K hK => ?_); apply Exists.intro; refine ⟨fun w1 hw1 => ?_, ?_⟩; (focus (go_simp; (try go_ints); (try (simp only [IntWalk.iteOmega]; go_simp)); first | done | (go_at_call 29; (with_reducible exact rnum_is HN1.out _)) | (with_reducible rfl) | (with_reducible exact ⟨rfl, rfl⟩))); simp only [Act.put, List.setIfInBounds_toArray, List.set_cons_zero, List.set_cons_succ]; refine hK _ ?_; clear hK K) | (refine Sched.walk1_pure rfl rfl rfl (fun K hK => ?_); apply Exists.intro; refine ⟨fun w1 => ?_, ?_⟩; (focus (go_simp; (try go_ints); (try (simp only [IntWalk.iteOmega]; go_simp)); first | done | (with_reducible rfl) | (with_reducible exact ⟨rfl, rfl⟩))); simp only [Act.put, List.setIfInBounds_toArray, List.set_cons_zero, List.set_cons_succ]; refine hK _ ?_; clear hK K) | (refine Sched.walk1_box rfl rfl ?_; apply Exists.intro; refine ⟨fun w1 hw1 => ?_, ?_⟩; (focus (go_simp; exact ⟨Gr.alloc _ _, rfl, by simp, heap_alloc_new _ _⟩))))
  refine Sched.walk1_gr rfl rfl rfl (fun K hK => ?_)
  refine ⟨HVal b, fun w1 hw1 => (HBK.out w1 hw1).load _ rfl rfl, ?_⟩
  simp only [Act.put, List.setIfInBounds_toArray, List.set_cons_zero, List.set_cons_succ]
  refine hK _ ?_
  clear hK K
  repeat (first | (refine Sched.walk1_no rfl rfl (fun K hK => ?_); simp only [Act.put, List.setIfInBounds_toArray, List.set_cons_zero, List.set_cons_succ]; refine hK _ ?_; clear hK K) | (refine Sched.walk1_gr rfl rfl rfl (fun K hK => ?_); apply Exists.intro; refine ⟨fun w1 hw1 => ?_, ?_⟩; (focus (go_simp; (try go_ints); (try (simp only [IntWalk.iteOmega]; go_simp)); first | done | (first | (go_at_call 29; (with_reducible exact rnum_is HN2.out _)) | (go_at_call 24; (with_reducible exact gr_same (rsigned_is HST.out _)))) | (with_reducible rfl) | (with_reducible exact ⟨rfl, rfl⟩))); simp only [Act.put, List.setIfInBounds_toArray, List.set_cons_zero, List.set_cons_succ]; refine hK _ ?_; clear hK K) | (refine Sched.walk1_pure rfl rfl rfl (fun K hK => ?_); apply Exists.intro; refine ⟨fun w1 => ?_, ?_⟩; (focus (go_simp; (try go_ints); (try (simp only [IntWalk.iteOmega]; go_simp)); first | done | (with_reducible rfl) | (with_reducible exact ⟨rfl, rfl⟩))); simp only [Act.put, List.setIfInBounds_toArray, List.set_cons_zero, List.set_cons_succ]; refine hK _ ?_; clear hK K) | (refine Sched.walk1_box rfl rfl ?_; apply Exists.intro; refine ⟨fun w1 hw1 => ?_, ?_⟩; (focus (go_simp; exact ⟨Gr.alloc _ _, rfl, by simp, heap_alloc_new _ _⟩))))
  refine Sched.walk1_nil ?_
  intro wq hwq
  have HA6 := Lib.hid (HA4.out.kept hwq)
  have HB6 := Lib.hid (HB4.out.kept hwq)
  have HD6 := Lib.hid (HD4.out.kept hwq)
  have HG6 := Lib.hid (HG4.out.trans hwq)
  clear hwq HAK HBK HA4 HB4 HD4 HG4
  dsimp only [Sched.EndN, List.nil_append, List.cons_append, Act.put]
  (try simp only [List.setIfInBounds_toArray, List.set_cons_zero, List.set_cons_succ])
  repeat (first | (refine Sched.walk2_no rfl (fun K hK => ?_); simp only [Act.put, List.setIfInBounds_toArray, List.set_cons_zero, List.set_cons_succ]; refine hK _ ?_; clear hK K) | (refine Sched.walk2_go rfl (fun K hK => ?_); go_simp; (try go_ints); (try (simp only [IntWalk.iteOmega]; go_simp)); first | (refine hK _ _ ?_; clear hK K) | fail))
  refine Sched.walk2_nil ?_
  have k1 : wq.cell? ⟨w.heap.size, 13, none⟩ = some (.int .i64 a.time) := HA6.out.at 13 rfl
  have k2 : wq.cell? ⟨w.heap.size + 1, 13, none⟩ = some (.int .i64 b.time) := HB6.out.at 13 rfl
  go_upto_region 6 with (go_at_call 24; ((with_reducible refine (rsigned_is HTM.out _).mono ?_)); rintro e w' ⟨rfl, rfl⟩)
  clear k1 k2
  obtain ⟨w7, hw7⟩ : ∃ y, y = wq.alloc (.cells #[.int .i64 0, .int .i64 0] 33) := ⟨_, rfl⟩
  rw [← hw7]
  have hg7 : Gr wq w7 := by rw [hw7]; exact Gr.alloc _ _
  have HE7 := Lib.hid (show DBlk wq.heap.size 0 0 w7 by rw [hw7]; exact heap_alloc_new _ _)
  have HA7 := Lib.hid (HA6.out.kept hg7)
  have HB7 := Lib.hid (HB6.out.kept hg7)
  have HD7 := Lib.hid (HD6.out.kept hg7)
  have HG7 := Lib.hid (HG6.out.trans hg7)
  clear hw7 hg7
  obtain ⟨wo, rfl⟩ : ∃ wo : World, wo = wq := ⟨_, rfl⟩
  obtain ⟨q, hq⟩ : ∃ q, tm.tdiv st = q := ⟨_, rfl⟩
  have hqr := tdiv_rng (s := st) t1 t2
  rw [hq] at hqr
  obtain ⟨q1, q2⟩ := hqr
  have HQ := Lib.hid hq
  clear hq
  obtain ⟨B, hB⟩ : ∃ x, (st != 0 && tm.tmod st == 0 && decide (0 ≤ q) && decide (q ≤ 65535)) = x := ⟨_, rfl⟩
  have HBB := Lib.hid hB
  clear hB
  go_cut [57] from 38 (fun s wc => s = .bool B ∧ w7 = wc)
  case first =>
    by_cases h0 : st = 0
    · have hb0 : (st != 0) = false := by simpa using h0
      have hE : B = false := by rw [← HBB.out, hb0]; rfl
      subst hE
      clear h0
      go_wp2_with fail
      go_meet
      exact ⟨rfl, rfl⟩
    · have hb0 : (st != 0) = true := by simpa using h0
      cases hm : (tm.tmod st == 0)
      · have hE : B = false := by rw [← HBB.out, hm, Bool.and_false]; rfl
        subst hE
        go_wp2_with fail
        go_meet
        exact ⟨rfl, rfl⟩
      · have hq := HQ.out
        by_cases h3 : 0 ≤ q
        · by_cases h4 : q ≤ 65535
          · have hE : B = true := by rw [← HBB.out, hm, hb0, decide_eq_true h3, decide_eq_true h4]; rfl
            subst hE
            go_wp2_with fail
            go_meet
            exact ⟨rfl, rfl⟩
          · have hE : B = false := by rw [← HBB.out, decide_eq_false h4, Bool.and_false]
            subst hE
            have h4' : 65535 < q := by omega
            go_wp2_with fail
            go_meet
            exact ⟨rfl, rfl⟩
        · have hE : B = false := by rw [← HBB.out, decide_eq_false h3, Bool.and_false]; rfl
          subst hE
          have h3' : q < 0 := by omega
          go_wp2_with fail
          go_meet
          exact ⟨rfl, rfl⟩
  case rest =>
    obtain ⟨rfl, rfl⟩ := hcut
    go_upto_if 57 with (fail)
    go_cut [] from 38 (fun wc => DBlk wo.heap.size (if B then q else 0) 0 wc ∧ HBlk w.heap.size a wc ∧ HBlk (w.heap.size + 1) b wc ∧ DBlk (w.heap.size + 1 + 1) 0 0 wc ∧ Gr w wc)
    case first =>
      cases B
      · go_wp2_with fail
        go_meet
        exact ⟨HE7.out, HA7.out, HB7.out, HD7.out, HG7.out⟩
      · have hb1 : ¬ st = 0 := by
          have := HBB.out
          simp only [Bool.and_eq_true, bne_iff_ne] at this
          exact this.1.1.1
        have hq := HQ.out
        have z0 := HE7.out.c0
        have g0 := HE7.out.fz 0
        go_wp2_with fail
        go_meet
        exact ⟨HE7.out.set0 _, HA7.out.other _ _ (by have := heap_lt HA6.out; omega), HB7.out.other _ _ (by have := heap_lt HB6.out; omega), HD7.out.other _ _ (by have := heap_lt HD6.out; omega), grown_set HG7.out (a := ⟨wo.heap.size, 0, none⟩) HG6.out.size _⟩
    case rest =>
      obtain ⟨he9, ha9, hb9, hd9, hg9⟩ := hcut
      have HA9 := Lib.hid ha9
      have HB9 := Lib.hid hb9
      have HD9 := Lib.hid hd9
      have HG9 := Lib.hid hg9
      obtain ⟨S2, hS2⟩ : ∃ x, (if B then q else 0) = x := ⟨_, rfl⟩
      rw [hS2] at he9
      have HE9 := Lib.hid he9
      have HS2 := Lib.hid (show S2 = learnS a b by
        unfold learnS stpH strS
        rw [HL.out, if_pos rfl, HN1.out, HN2.out, HST.out, HTM.out, HQ.out, ← hS2, ← HBB.out]
        exact rlearn_stride st q tm)
      clear he9 ha9 hb9 hd9 hg9 hS2
      obtain ⟨Lw, hLw⟩ : ∃ t, lowS 16 (a.id + st) = t := ⟨_, rfl⟩
      have HLW := Lib.hid hLw
      obtain ⟨v1, v2, _, _⟩ := valid_rng HV1.out
      obtain ⟨F, hF⟩ : ∃ t, (b.id == Lw) = t := ⟨_, rfl⟩
      have HF := Lib.hid hF
      have HFF := Lib.hid (show (if F then (1 : Int) else 0) = learnF a b by
        unfold learnF stpH
        rw [HL.out, HN1.out, HN2.out, HST.out, HLW.out, HF.out, Bool.true_and])
      clear hLw hF
      have x2 : ∀ u, Gr wc u → u.cell? ⟨w.heap.size, 2, none⟩ = some (.int .i64 a.id) := fun u hu => (HA9.out.kept hu).at 2 rfl
      have y2 : ∀ u, Gr wc u → u.cell? ⟨w.heap.size + 1, 2, none⟩ = some (.int .i64 b.id) := fun u hu => (HB9.out.kept hu).at 2 rfl
      have hFF := HF.out
      go_wp2_with fail
      refine Sched.wp_region_sched 7 [] [] (by kernel_rfl) (by kernel_rfl) ?_
      simp only [List.take_succ_cons, List.take_zero, List.drop_succ_cons, List.drop_zero]
      repeat (first | ((with_reducible refine Sched.walk1_no ?_ ?_ (fun K hK => ?_)); (focus rfl); (focus rfl); simp only [Act.put, List.setIfInBounds_toArray, List.set_cons_zero, List.set_cons_succ]; refine hK _ ?_; clear hK K) | ((with_reducible refine Sched.walk1_gr ?_ ?_ ?_ (fun K hK => ?_)); (focus rfl); (focus rfl); (focus rfl); apply Exists.intro; refine ⟨fun w1 hw1 => ?_, ?_⟩; (focus (go_simp; (try go_ints); (try (simp only [IntWalk.iteOmega]; go_simp)); first | done | (go_at_call 61; (with_reducible exact gr_same (rlow_is rfl HLW.out _))) | (with_reducible rfl) | (with_reducible exact ⟨rfl, rfl⟩))); simp only [Act.put, List.setIfInBounds_toArray, List.set_cons_zero, List.set_cons_succ]; refine hK _ ?_; clear hK K) | ((with_reducible refine Sched.walk1_pure ?_ ?_ ?_ (fun K hK => ?_)); (focus rfl); (focus rfl); (focus rfl); apply Exists.intro; refine ⟨fun w1 => ?_, ?_⟩; (focus (go_simp; (try go_ints); (try (simp only [IntWalk.iteOmega]; go_simp)); first | done | (with_reducible rfl) | (with_reducible exact ⟨rfl, rfl⟩))); simp only [Act.put, List.setIfInBounds_toArray, List.set_cons_zero, List.set_cons_succ]; refine hK _ ?_; clear hK K) | (refine Sched.walk1_box rfl rfl ?_; apply Exists.intro; refine ⟨fun w1 hw1 => ?_, ?_⟩; (focus (go_simp; exact ⟨Gr.alloc _ _, rfl, by simp, heap_alloc_new _ _⟩))))
      (with_reducible refine Sched.walk1_nil ?_)
      intro wq hwq
      have HA10 := Lib.hid (HA9.out.kept hwq)
      have HB10 := Lib.hid (HB9.out.kept hwq)
      have HD10 := Lib.hid (HD9.out.kept hwq)
      have HE10 := Lib.hid (HE9.out.kept hwq)
      have HG10 := Lib.hid (HG9.out.trans hwq)
      clear hwq x2 y2
      dsimp only [Sched.EndN, List.nil_append, List.cons_append, Act.put]
      (try simp only [List.setIfInBounds_toArray, List.set_cons_zero, List.set_cons_succ])
      repeat (first | (refine Sched.walk2_no rfl (fun K hK => ?_); simp only [Act.put, List.setIfInBounds_toArray, List.set_cons_zero, List.set_cons_succ]; refine hK _ ?_; clear hK K) | (refine Sched.walk2_go rfl (fun K hK => ?_); go_simp; (try go_ints); (try (simp only [IntWalk.iteOmega]; go_simp)); first | (refine hK _ _ ?_; clear hK K) | fail))
      refine Sched.walk2_nil ?_
      clear hFF
      have HRES := Lib.hid (show Ending.returned (DVal S2 (if F then 1 else 0)) = .returned (DVal (learnS a b) (learnF a b)) by rw [HS2.out, HFF.out])
      have z0 := HD10.out.c0
      have z1 := HD10.out.c1
      have g0 := HD10.out.fz 0
      have g1 := HD10.out.fz 1
      have e0 := HE10.out.c0
      have e1 := HE10.out.c1
      have f1 := HE10.out.fz 1
      have hne := heap_lt HD6.out
      cases F
      · have HGE := Lib.hid (grown_set (grown_set HG10.out (a := ⟨w.heap.size + 1 + 1, 0, none⟩) (show w.heap.size ≤ w.heap.size + 1 + 1 by omega) (.int .i64 S2)) (a := ⟨w.heap.size + 1 + 1, 1, none⟩) (show w.heap.size ≤ w.heap.size + 1 + 1 by omega) (.int .i64 0))
        have HBE := Lib.hid ((HD10.out.set0 S2).set1 0)
        go_wp2_with fail
        have hbe := HBE.out
        unfold DBlk at hbe
        exact bodyPost_ret (v := DVal S2 0) (results_cell_row Try.results34 _ _ (w.heap.size + 1 + 1) _ _ _ _ rfl hbe Try.underlying33 rfl (by kernel_rfl)) rfl ⟨HRES.out, HGE.out⟩
      · have HGE := Lib.hid (grown_set (grown_set (grown_set HG10.out (a := ⟨wo.heap.size, 1, none⟩) HG6.out.size (.int .i64 1)) (a := ⟨w.heap.size + 1 + 1, 0, none⟩) (show w.heap.size ≤ w.heap.size + 1 + 1 by omega) (.int .i64 S2)) (a := ⟨w.heap.size + 1 + 1, 1, none⟩) (show w.heap.size ≤ w.heap.size + 1 + 1 by omega) (.int .i64 1))
        have HBE := Lib.hid (((HD10.out.other (p := wo.heap.size) 1 (.int .i64 1) (by omega)).set0 S2).set1 1)
        go_wp2_with fail
        have hbe := HBE.out
        unfold DBlk at hbe
        exact bodyPost_ret (v := DVal S2 1) (results_cell_row Try.results34 _ _ (w.heap.size + 1 + 1) _ _ _ _ rfl hbe Try.underlying33 rfl (by kernel_rfl)) rfl ⟨HRES.out, HGE.out⟩
end Go.Proofs.Ytmojlengjoicoaa
