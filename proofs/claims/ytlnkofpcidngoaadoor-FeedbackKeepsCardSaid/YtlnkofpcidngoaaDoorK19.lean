import Derived.Test.YtlnkofpcidngoaaDoorK0
import Derived.Test.YtlnkofpcidngoaaDoorK15
import Derived.Test.YtlnkofpcidngoaaDoorK12
namespace Go.Proofs.YtlnkofpcidngoaaDoor
open Go.ChangeShapes Go.WideShapes Go.ChangeAt Go.RowKit
theorem empty_yes {s : Snd} (h : emptyB s = true) : s.full = 0 ∧ s.refr = 0 ∧ s.ser = 0 ∧ s.since = 0 ∧ s.long = 0 ∧ s.str = 0 ∧ s.fol = 0 ∧ s.refs.length = 0 := by
 simp only [emptyB, Bool.and_eq_true, decide_eq_true_eq] at h
 omega
theorem act_yes {mode width : Int} {s : Snd} (h : actB mode width s = true) : (1 ≤ s.refs.length ∧ (s.refs.length : Int) ≤ most mode width) ∧ (0 ≤ s.ser ∧ s.ser ≤ s.refs.length) ∧ (0 ≤ s.full ∧ s.full ≤ width) ∧ (0 ≤ s.refr ∧ s.refr ≤ width) ∧ (s.full ≤ 0 ∨ s.refr ≤ 0) ∧ (0 ≤ s.since ∧ s.since ≤ 32) ∧ (0 ≤ s.long ∧ s.long ≤ 3) ∧ dynB s.str s.fol = true ∧ plainB s = true ∧ ∀ x ∈ s.refs, validH x = true ∧ sameB x (headS s) = true := by
 simp only [actB, rngB, inB, okRef, Bool.and_eq_true, decide_eq_true_eq, Bool.not_eq_true', Bool.and_eq_false_iff, decide_eq_false_iff_not, List.all_eq_true] at h
 obtain ⟨⟨h1, h2, h3, h4, h5, h6⟩, h7, h8, h9, h10, h11⟩ := h
 exact ⟨⟨h1, h2⟩, h3, h4, h5, by omega, h7, h8, h9, h10, h11⟩
set_option maxHeartbeats 8000000 in
set_option maxRecDepth 100000 in
theorem rcontext_yes (mode width : Int) (a : Option Addr) (n c : Nat) (s : Snd) (w : World) (hr : RdH w s.a s.n s.c s.refs) (hw1 : 1 ≤ width) (hw8 : width ≤ 8) (hok : ctxB mode width s = true) : Calls Tryd.prog 49 #[CVal mode width a n c, SVal s] w fun e w' => e = .returned (.bool true) ∧ Gr w w' := by
 have HR := zqd hr
 have HN := zqd hr.1
 have hnm : s.n ≤ 9223372036854775807 := by have := hr.2.2.1; have := hr.2.1; simp only [maxLen] at *; omega
 obtain ⟨A, hA⟩ : ∃ A, s.act = A := ⟨_, rfl⟩
 have HA := zqd hA
 have HOK := zqd hok
 clear hr hA hok
 go_enter Tryd.func49, Tryd.ntmps49
 go_upto_region 1 with (fail)
 obtain ⟨w1, hw1⟩ : ∃ y, y = (w.alloc (.cells #[.int .i64 mode, .int .i64 width, .slice a n c] 24)).alloc (.cells (SCells s).toArray 46) := ⟨_, rfl⟩
 have hc1 : CBlk w.heap.size 24 [.int .i64 mode, .int .i64 width, .slice a n c] w1 := by rw [hw1]; exact (CBlk.new _ _ _).kept (Gr.alloc _ _)
 have hb1 : CBlk (w.heap.size + 1) 46 (SCells s) w1 := by rw [hw1]; exact heap_two _ _ _
 have HG1 := zqd (show Gr w w1 by rw [hw1]; exact (Gr.alloc _ _).trans (Gr.alloc _ _))
 simp only [SCells] at hw1
 first | rw [← hw1] | (go_show; fail)
 have HB1 := zqd hb1
 have HC1 := zqd hc1
 clear hw1 hb1 hc1
 have HD1 := zqd (snd_dyn HB1.out)
 have x0 : w1.cell? ⟨w.heap.size + 1, 0, none⟩ = some (.bool A) := by rw [← HA.out]; exact HB1.out.at 0 rfl
 have x8 : w1.cell? ⟨w.heap.size + 1, 8, none⟩ = some (.slice s.a s.n s.c) := HB1.out.at 8 rfl
 cases A
 · have hok := HOK.out
   rw [ctxB, HA.out, if_neg (by decide)] at hok
   obtain ⟨h1, h2, h3, h4, h5, h6, h7, h8⟩ := empty_yes hok
   rw [HN.out] at h8
   have x1 : w1.cell? ⟨w.heap.size + 1, 1, none⟩ = some (.int .i64 0) := by rw [← h1]; exact HB1.out.at 1 rfl
   have x2 : w1.cell? ⟨w.heap.size + 1, 2, none⟩ = some (.int .i64 0) := by rw [← h2]; exact HB1.out.at 2 rfl
   have x3 : w1.cell? ⟨w.heap.size + 1, 3, none⟩ = some (.int .i64 0) := by rw [← h3]; exact HB1.out.at 3 rfl
   have x4 : w1.cell? ⟨w.heap.size + 1, 4, none⟩ = some (.int .i64 0) := by rw [← h4]; exact HB1.out.at 4 rfl
   have x5 : w1.cell? ⟨w.heap.size + 1, 5, none⟩ = some (.int .i64 0) := by rw [← h5]; exact HB1.out.at 5 rfl
   have hd := HD1.out
   rw [h6, h7] at hd
   have HDZ := zqd hd
   have heq : ∀ u, (binOp .eql 43 (DVal 0 0) (DVal 0 0)).run Tryd.prog u = .ok (.bool true) u := fun u => by rw [run_eqD]; rfl
   have HN0 := zqd h8
   rw [h8] at x8
   clear h1 h2 h3 h4 h5 h6 h7 h8 hd hok
   go_wp2_with (refine rng_load rfl 43 _ rfl (w.heap.size + 1) 6 rfl [.int .i64 0, .int .i64 0] HDZ.out Tryd.underlying43 rfl (by kernel_rfl) ?_)
   go_ret
   exact ⟨rfl, HG1.out⟩
 · have hok := HOK.out
   rw [ctxB, HA.out, if_pos rfl] at hok
   obtain ⟨⟨n1, n2⟩, ⟨s1, s2⟩, ⟨f1, f2⟩, ⟨r1, r2⟩, fr, ⟨t1, t2⟩, ⟨l1, l2⟩, hdyn, hpl, hrefs⟩ := act_yes hok
   rw [HN.out] at n1 n2 s2
   have hn32 : (s.n : Int) ≤ 32 := by unfold most at n2; split at n2 <;> omega
   have hn8 : mode ≠ 3 → (s.n : Int) ≤ width := fun h => by unfold most at n2; rw [if_neg h] at n2; exact n2
   have x1 : w1.cell? ⟨w.heap.size + 1, 1, none⟩ = some (.int .i64 s.full) := HB1.out.at 1 rfl
   have x2 : w1.cell? ⟨w.heap.size + 1, 2, none⟩ = some (.int .i64 s.refr) := HB1.out.at 2 rfl
   have x3 : w1.cell? ⟨w.heap.size + 1, 3, none⟩ = some (.int .i64 s.ser) := HB1.out.at 3 rfl
   have x4 : w1.cell? ⟨w.heap.size + 1, 4, none⟩ = some (.int .i64 s.since) := HB1.out.at 4 rfl
   have x5 : w1.cell? ⟨w.heap.size + 1, 5, none⟩ = some (.int .i64 s.long) := HB1.out.at 5 rfl
   have z0 : w1.cell? ⟨w.heap.size, 0, none⟩ = some (.int .i64 mode) := HC1.out.at 0 rfl
   have z1 : w1.cell? ⟨w.heap.size, 1, none⟩ = some (.int .i64 width) := HC1.out.at 1 rfl
   have d1 : decide (s.full < 0) = false := decide_eq_false (by omega)
   have d2 : decide (width < s.full) = false := decide_eq_false (by omega)
   have d3 : decide (s.refr < 0) = false := decide_eq_false (by omega)
   have d4 : decide (width < s.refr) = false := decide_eq_false (by omega)
   have d7 : decide (s.since < 0) = false := decide_eq_false (by omega)
   have d8 : decide (32 < s.since) = false := decide_eq_false (by omega)
   have d9 : decide (s.long < 0) = false := decide_eq_false (by omega)
   have d10 : decide (3 < s.long) = false := decide_eq_false (by omega)
   have d11 : decide ((s.n : Int) < 1) = false := decide_eq_false (by omega)
   have d12 : decide (32 < (s.n : Int)) = false := decide_eq_false (by omega)
   have d15 : decide (s.ser < 0) = false := decide_eq_false (by omega)
   have d16 : decide ((s.n : Int) < s.ser) = false := decide_eq_false (by omega)
   have HDY := zqd hdyn
   have HPL := zqd hpl
   have HREF := zqd hrefs
   have HFR := zqd fr
   have HN8 := zqd hn8
   have HN1 := zqd n1
   clear n2 s1 s2 f1 f2 r1 r2 fr t1 t2 l1 l2 hok hn8 hdyn hpl hrefs hw1 hw8 hn32 n1
   go_upto_region 4 with (fail)
   go_cut [135] from 48 to 135 (fun v wc => v = .bool false ∧ Gr w1 wc)
   case first =>
     obtain ⟨F, hF⟩ : ∃ F, decide (0 < s.full) = F := ⟨_, rfl⟩
     obtain ⟨M, hM⟩ : ∃ M, (mode != 3) = M := ⟨_, rfl⟩
     have d6 : F = true → decide (0 < s.refr) = false := fun h => by subst h; have := of_decide_eq_true hF; exact decide_eq_false (by have := HFR.out; omega)
     have d14 : M = true → decide (width < (s.n : Int)) = false := fun h => by subst h; have := HN8.out (by simpa using hM); exact decide_eq_false (by omega)
     have D6 := zqd d6
     have D14 := zqd d14
     clear d6 d14
     cases F
     · cases M
       · go_wp2_with (refine rng_load rfl 43 _ rfl (w.heap.size + 1) 6 rfl [.int .i64 s.str, .int .i64 s.fol] HD1.out Tryd.underlying43 rfl (by kernel_rfl) ?_)
         refine (rdyn_is HDY.out w1).mono ?_
         rintro e w2 ⟨rfl, hg2⟩
         have y3 := hg2.cell x3
         have y0 := hg2.cell z0
         have y1 := hg2.cell z1
         have HG2 := zqd hg2
         clear x0 x1 x2 x3 x4 x5 x8 z0 z1 hg2
         go_wp2_with fail
         go_meet
         exact ⟨rfl, HG2.out⟩
       · have d14 := D14.out rfl
         go_wp2_with (refine rng_load rfl 43 _ rfl (w.heap.size + 1) 6 rfl [.int .i64 s.str, .int .i64 s.fol] HD1.out Tryd.underlying43 rfl (by kernel_rfl) ?_)
         refine (rdyn_is HDY.out w1).mono ?_
         rintro e w2 ⟨rfl, hg2⟩
         have y3 := hg2.cell x3
         have y0 := hg2.cell z0
         have y1 := hg2.cell z1
         have HG2 := zqd hg2
         clear x0 x1 x2 x3 x4 x5 x8 z0 z1 hg2
         go_wp2_with fail
         go_meet
         exact ⟨rfl, HG2.out⟩
     · have d6 := D6.out rfl
       cases M
       · go_wp2_with (refine rng_load rfl 43 _ rfl (w.heap.size + 1) 6 rfl [.int .i64 s.str, .int .i64 s.fol] HD1.out Tryd.underlying43 rfl (by kernel_rfl) ?_)
         refine (rdyn_is HDY.out w1).mono ?_
         rintro e w2 ⟨rfl, hg2⟩
         have y3 := hg2.cell x3
         have y0 := hg2.cell z0
         have y1 := hg2.cell z1
         have HG2 := zqd hg2
         clear x0 x1 x2 x3 x4 x5 x8 z0 z1 hg2
         go_wp2_with fail
         go_meet
         exact ⟨rfl, HG2.out⟩
       · have d14 := D14.out rfl
         go_wp2_with (refine rng_load rfl 43 _ rfl (w.heap.size + 1) 6 rfl [.int .i64 s.str, .int .i64 s.fol] HD1.out Tryd.underlying43 rfl (by kernel_rfl) ?_)
         refine (rdyn_is HDY.out w1).mono ?_
         rintro e w2 ⟨rfl, hg2⟩
         have y3 := hg2.cell x3
         have y0 := hg2.cell z0
         have y1 := hg2.cell z1
         have HG2 := zqd hg2
         clear x0 x1 x2 x3 x4 x5 x8 z0 z1 hg2
         go_wp2_with fail
         go_meet
         exact ⟨rfl, HG2.out⟩
   case rest =>
     obtain ⟨rfl, hg2⟩ := hcut
     have HG2 := zqd (HG1.out.trans hg2)
     have HB2 := zqd (HB1.out.kept hg2)
     have HR2 := zqd (HR.out.kept (HG1.out.trans hg2))
     clear x0 x1 x2 x3 x4 x5 x8 z0 z1 hg2 d1 d2 d3 d4 d7 d8 d9 d10 d11 d12 d15 d16
     obtain ⟨f, hf, hfo⟩ := HR2.out.get (i := 0) (by have := HN1.out; omega)
     obtain ⟨b, off, ea, -, hrow⟩ := HR2.out.row (by have := HN1.out; omega)
     have HROW := zqd hrow
     have HFH := zqd (head_at hf)
     have HF0 := zqd hf
     have HEA := zqd ea
     have hn1 := HN1.out
     clear hrow hf hfo ea
     go_wp2_with fail
     go_loopw [6] (fun i wr => ∃ j : Nat, j ≤ s.n ∧ i = .int .i64 j ∧ Gr wc wr) (fun i _ => s.n - (intOf i).toNat)
     case atStart => exact ⟨0, by omega, rfl, Gr.refl _⟩
     case round =>
       obtain ⟨j, hj, rfl, hg⟩ := hrel
       have HG := zqd hg
       clear hg
       by_cases hlt : j < s.n
       · obtain ⟨x, hx, -⟩ := HR2.out.get hlt
         have HV := zqd (HREF.out x (List.mem_of_getElem? hx)).1
         have HS := zqd (show sameB x f = true by rw [← HFH.out]; exact (HREF.out x (List.mem_of_getElem? hx)).2)
         have HX := zqd (fun u (hu : Gr wr u) => range_gr (HROW.out j x hx) (HG.out.trans hu))
         have hz := HROW.out 0 f HF0.out
         rw [Nat.zero_mul, Nat.add_zero] at hz
         have HZ := zqd (fun u (hu : Gr wr u) => range_gr hz (HG.out.trans hu))
         have x8 : ∀ u, Gr wr u → u.cell? ⟨w.heap.size + 1, 8, none⟩ = some (.slice (some ⟨b, off, none⟩) s.n s.c) := fun u hu => by rw [← HEA.out]; exact (HB2.out.kept (HG.out.trans hu)).at 8 rfl
         clear hx hz
         go_upto_region 9 with (fail)
         refine Sched.wp_region_sched 19 [] [] (by kernel_rfl) (by kernel_rfl) ?_
         simp only [List.take_succ_cons, List.take_zero, List.drop_succ_cons, List.drop_zero]
         repeat (first | (refine Sched.walk1_no rfl rfl (fun K hK => ?_); simp only [Act.put, zqa, zqb, zqc]; refine hK _ ?_; clear hK K) | (refine Sched.walk1_gr rfl rfl rfl (fun K hK => ?_); apply Exists.intro; refine ⟨fun w1 hw1 => ?_, ?_⟩; (focus (go_simp; (try go_ints); (try (simp only [IntWalk.iteOmega]; go_simp)); first | done | fail | (with_reducible rfl) | (with_reducible exact ⟨rfl, rfl⟩))); simp only [Act.put, zqa, zqb, zqc]; refine hK _ ?_; clear hK K) | (refine Sched.walk1_pure rfl rfl rfl (fun K hK => ?_); apply Exists.intro; refine ⟨fun w1 => ?_, ?_⟩; (focus (go_simp; (try go_ints); (try (simp only [IntWalk.iteOmega]; go_simp)); first | done | (with_reducible rfl) | (with_reducible exact ⟨rfl, rfl⟩))); simp only [Act.put, zqa, zqb, zqc]; refine hK _ ?_; clear hK K) | (refine Sched.walk1_box rfl rfl ?_; apply Exists.intro; refine ⟨fun w1 hw1 => ?_, ?_⟩; (focus (go_simp; exact ⟨Gr.alloc _ _, rfl, by simp, heap_alloc_new _ _⟩))))
         refine Sched.walk1_gr rfl rfl rfl (fun K hK => ?_)
         refine ⟨HVal x, fun w1 hw1 => rng_gq (HX.out w1 hw1) 49 _ rfl rfl Tryd.underlying49 rfl (by kernel_rfl), ?_⟩
         simp only [Act.put, zqa, zqb, zqc]
         refine hK _ ?_
         clear hK K
         repeat (first | (refine Sched.walk1_no rfl rfl (fun K hK => ?_); simp only [Act.put, zqa, zqb, zqc]; refine hK _ ?_; clear hK K) | (refine Sched.walk1_gr rfl rfl rfl (fun K hK => ?_); apply Exists.intro; refine ⟨fun w1 hw1 => ?_, ?_⟩; (focus (go_simp; (try go_ints); (try (simp only [IntWalk.iteOmega]; go_simp)); first | done | (go_at_call 60; (with_reducible exact rvalid_is HV.out w1)) | (with_reducible rfl) | (with_reducible exact ⟨rfl, rfl⟩))); simp only [Act.put, zqa, zqb, zqc]; refine hK _ ?_; clear hK K) | (refine Sched.walk1_pure rfl rfl rfl (fun K hK => ?_); apply Exists.intro; refine ⟨fun w1 => ?_, ?_⟩; (focus (go_simp; (try go_ints); (try (simp only [IntWalk.iteOmega]; go_simp)); first | done | (with_reducible rfl) | (with_reducible exact ⟨rfl, rfl⟩))); simp only [Act.put, zqa, zqb, zqc]; refine hK _ ?_; clear hK K) | (refine Sched.walk1_box rfl rfl ?_; apply Exists.intro; refine ⟨fun w1 hw1 => ?_, ?_⟩; (focus (go_simp; exact ⟨Gr.alloc _ _, rfl, by simp, heap_alloc_new _ _⟩))))
         refine Sched.walk1_gr rfl rfl rfl (fun K hK => ?_)
         refine ⟨HVal x, fun w1 hw1 => rng_gq (HX.out w1 hw1) 49 _ rfl rfl Tryd.underlying49 rfl (by kernel_rfl), ?_⟩
         simp only [Act.put, zqa, zqb, zqc]
         refine hK _ ?_
         clear hK K
         repeat (first | (refine Sched.walk1_no rfl rfl (fun K hK => ?_); simp only [Act.put, zqa, zqb, zqc]; refine hK _ ?_; clear hK K) | (refine Sched.walk1_gr rfl rfl rfl (fun K hK => ?_); apply Exists.intro; refine ⟨fun w1 hw1 => ?_, ?_⟩; (focus (go_simp; (try go_ints); (try (simp only [IntWalk.iteOmega]; go_simp)); first | done | fail | (with_reducible rfl) | (with_reducible exact ⟨rfl, rfl⟩))); simp only [Act.put, zqa, zqb, zqc]; refine hK _ ?_; clear hK K) | (refine Sched.walk1_pure rfl rfl rfl (fun K hK => ?_); apply Exists.intro; refine ⟨fun w1 => ?_, ?_⟩; (focus (go_simp; (try go_ints); (try (simp only [IntWalk.iteOmega]; go_simp)); first | done | (with_reducible rfl) | (with_reducible exact ⟨rfl, rfl⟩))); simp only [Act.put, zqa, zqb, zqc]; refine hK _ ?_; clear hK K) | (refine Sched.walk1_box rfl rfl ?_; apply Exists.intro; refine ⟨fun w1 hw1 => ?_, ?_⟩; (focus (go_simp; exact ⟨Gr.alloc _ _, rfl, by simp, heap_alloc_new _ _⟩))))
         refine Sched.walk1_gr rfl rfl rfl (fun K hK => ?_)
         refine ⟨HVal f, fun w1 hw1 => rng_gq (HZ.out w1 hw1) 49 _ rfl rfl Tryd.underlying49 rfl (by kernel_rfl), ?_⟩
         simp only [Act.put, zqa, zqb, zqc]
         refine hK _ ?_
         clear hK K
         repeat (first | (refine Sched.walk1_no rfl rfl (fun K hK => ?_); simp only [Act.put, zqa, zqb, zqc]; refine hK _ ?_; clear hK K) | (refine Sched.walk1_gr rfl rfl rfl (fun K hK => ?_); apply Exists.intro; refine ⟨fun w1 hw1 => ?_, ?_⟩; (focus (go_simp; (try go_ints); (try (simp only [IntWalk.iteOmega]; go_simp)); first | done | (go_at_call 50; (with_reducible exact rsame_is HS.out w1)) | (with_reducible rfl) | (with_reducible exact ⟨rfl, rfl⟩))); simp only [Act.put, zqa, zqb, zqc]; refine hK _ ?_; clear hK K) | (refine Sched.walk1_pure rfl rfl rfl (fun K hK => ?_); apply Exists.intro; refine ⟨fun w1 => ?_, ?_⟩; (focus (go_simp; (try go_ints); (try (simp only [IntWalk.iteOmega]; go_simp)); first | done | (with_reducible rfl) | (with_reducible exact ⟨rfl, rfl⟩))); simp only [Act.put, zqa, zqb, zqc]; refine hK _ ?_; clear hK K) | (refine Sched.walk1_box rfl rfl ?_; apply Exists.intro; refine ⟨fun w1 hw1 => ?_, ?_⟩; (focus (go_simp; exact ⟨Gr.alloc _ _, rfl, by simp, heap_alloc_new _ _⟩))))
         refine Sched.walk1_nil ?_
         intro wq hwq
         repeat (first | (refine Sched.walk2_no rfl (fun K hK => ?_); simp only [Act.put, zqa, zqb, zqc]; refine hK _ ?_; clear hK K) | (refine Sched.walk2_go rfl (fun K hK => ?_); go_simp; (try go_ints); (try (simp only [IntWalk.iteOmega]; go_simp)); first | (refine hK _ _ ?_; clear hK K) | fail))
         refine Sched.walk2_nil ?_
         have HGQ := zqd (HG.out.trans hwq)
         clear x8 hwq
         go_wp2_with fail
         go_roundw
         case rel => exact ⟨j + 1, by omega, by go_num, HGQ.out⟩
         case measure => (simp [intOf] <;> omega)
       · obtain rfl : j = s.n := by omega
         have hz := HROW.out 0 f HF0.out
         rw [Nat.zero_mul, Nat.add_zero] at hz
         have k0 : wr.cell? ⟨b, off, none⟩ = some (.int .i64 f.kind) := (range_gr hz HG.out) 0 _ rfl
         have x8 : wr.cell? ⟨w.heap.size + 1, 8, none⟩ = some (.slice (some ⟨b, off, none⟩) s.n s.c) := by rw [← HEA.out]; exact (HB2.out.kept HG.out).at 8 rfl
         have HD2 := zqd (snd_dyn (HB2.out.kept HG.out))
         clear hz
         have hpl := HPL.out
         unfold plainB at hpl
         rw [HFH.out] at hpl
         obtain ⟨K, hK⟩ : ∃ K, (f.kind == 2) = K := ⟨_, rfl⟩
         have HPK := zqd (show K = true ∨ (decide (s.str = 0) && decide (s.fol = 0)) = true by rw [← hK]; simpa using hpl)
         clear hpl
         cases K
         · have hdz := HPK.out.resolve_left (by decide)
           have HDZ := zqd hdz
           have heq : ∀ u, (binOp .eql 43 (DVal s.str s.fol) (DVal 0 0)).run Tryd.prog u = .ok (.bool true) u := fun u => by rw [run_eqD, HDZ.out]
           clear hdz
           go_wp2_with (refine rng_load rfl 43 _ rfl (w.heap.size + 1) 6 rfl [.int .i64 s.str, .int .i64 s.fol] HD2.out Tryd.underlying43 rfl (by kernel_rfl) ?_)
           go_ret
           exact ⟨rfl, HG2.out.trans HG.out⟩
         · go_wp2_with fail
           go_ret
           exact ⟨rfl, HG2.out.trans HG.out⟩
end Go.Proofs.YtlnkofpcidngoaaDoor
