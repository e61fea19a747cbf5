import Derived.Test.YtlnkofpcidngoaaDoorB0
import Derived.Test.YtlnkofpcidngoaaDoorB23
namespace Go.Proofs.YtlnkofpcidngoaaDoor
open Go.ChangeShapes Go.WideShapes Go.ChangeAt Go.RowKit
theorem like_no {s : Snd} {L : List Snd} {j k : Nat} {t : Snd} (h : (L.take j).any (likeB s) = false) (hk : k < j) (ht : L[k]? = some t) : likeB s t = false := by
 rw [List.any_eq_false] at h
 have := h t (List.mem_of_getElem? (show (L.take j)[k]? = some t by rw [List.getElem?_take_of_lt hk]; exact ht))
 simpa using this
theorem okAt_parts {mode width : Int} {L : List Snd} {i : Nat} {s : Snd} (hs : L[i]? = some s) (h : okAt mode width L i = true) : ctxB mode width s = true ∧ (L.take i).any (likeB s) = false := by
 rw [okAt_at hs, Bool.and_eq_true, Bool.not_eq_true'] at h
 exact h
theorem rcontext_is {mode width : Int} {a : Option Addr} {n c : Nat} {s : Snd} (hok : ctxB mode width s = true) (w : World) (hr : RdH w s.a s.n s.c s.refs) (hw1 : 1 ≤ width) (hw8 : width ≤ 8) : Calls Tryd.prog 49 #[CVal mode width a n c, SVal s] w fun e w' => e = .returned (.bool true) ∧ Gr w w' := rcontext_yes mode width a n c s w hr hw1 hw8 hok
set_option maxHeartbeats 8000000 in
set_option maxRecDepth 100000 in
theorem rvalid_yes (mode width : Int) (a : Option Addr) (n c : Nat) (L : List Snd) (w : World) (hr : RdC w a n c L) (hok : validC mode width L = true) : Calls Tryd.prog 20 #[CVal mode width a n c] w fun e w' => e = .returned (.bool true) ∧ Gr w w' := by
 have HR := zqd hr
 obtain ⟨hsh, h16, hat⟩ := valid_parts hok
 obtain rfl : n = 16 := by rw [← hr.1]; exact h16
 rw [h16] at hat
 have HAT := zqd hat
 obtain ⟨m1, m2, q1, q2⟩ := shaped_yes hsh
 obtain ⟨b, off, ea, -, hrow⟩ := hr.row (by omega)
 subst ea
 have HROW := zqd hrow
 have hc16 : 16 ≤ c := hr.2.1
 clear hr hok hsh h16 hat hrow
 go_enter Tryd.func20, Tryd.ntmps20
 go_upto_region 1 with (fail)
 obtain ⟨w1, hw1⟩ : ∃ y, y = w.alloc (.cells #[.int .i64 mode, .int .i64 width, .slice (some ⟨b, off, none⟩) 16 c] 24) := ⟨_, rfl⟩
 have HB1 := zqd (show CBlk w.heap.size 24 [.int .i64 mode, .int .i64 width, .slice (some ⟨b, off, none⟩) 16 c] w1 by rw [hw1]; exact CBlk.new _ _ _)
 have HG1 := zqd (show Gr w w1 by rw [hw1]; exact Gr.alloc _ _)
 first | rw [← hw1] | (go_show; fail)
 clear hw1
 have x0 := HB1.out.at 0 rfl
 have x1 := HB1.out.at 1 rfl
 have x2 := HB1.out.at 2 rfl
 have d1 : decide (mode < 1) = false := decide_eq_false (by omega)
 have d2 : decide (3 < mode) = false := decide_eq_false (by omega)
 have d3 : decide (width < 1) = false := decide_eq_false (by omega)
 have d4 : decide (8 < width) = false := decide_eq_false (by omega)
 go_wp2_with fail
 clear d1 d2 d3 d4 x0 x1 x2
 go_loopw [3] (fun i wr => ∃ j : Nat, j ≤ 16 ∧ i = .int .i64 j ∧ Gr w1 wr) (fun i _ => 16 - (intOf i).toNat)
 case atStart => exact ⟨0, by omega, rfl, Gr.refl _⟩
 case round =>
   obtain ⟨j, hj, rfl, hg⟩ := hrel
   have HG := zqd hg
   clear hg
   have x2 := (HB1.out.kept HG.out).at 2 rfl
   by_cases hlt : j < 16
   · obtain ⟨s, hs, hrs⟩ := HR.out.get hlt
     obtain ⟨hcx, hlk⟩ := okAt_parts hs (HAT.out j hlt)
     have HCX := zqd hcx
     have HLK := zqd hlk
     have HXS := zqd hrs
     have HXJ := zqd hs
     have hrg := HROW.out j s hs
     have HRG := zqd (fun u (hu : Gr wr u) => range_gr hrg (HG1.out.trans (HG.out.trans hu)))
     have HCB := zqd (fun u (hu : Gr wr u) => HB1.out.kept (HG.out.trans hu))
     clear hs hrs hcx hlk hrg
     go_upto_region 6 with (fail)
     clear x2
     have x2 : ∀ u, Gr wr u → u.cell? ⟨w.heap.size, 2, none⟩ = some (.slice (some ⟨b, off, none⟩) 16 c) := fun u hu => (HCB.out u hu).at 2 rfl
     refine Sched.wp_region_sched 7 [] [] (by kernel_rfl) (by kernel_rfl) ?_
     simp only [List.take_succ_cons, List.take_zero, List.drop_succ_cons, List.drop_zero]
     refine Sched.walk1_gr rfl rfl rfl (fun K hK => ?_)
     refine ⟨CVal mode width (some ⟨b, off, none⟩) 16 c, fun w1 hw1 => (HCB.out w1 hw1).load _ rfl rfl Tryd.underlying24 rfl (by kernel_rfl), ?_⟩
     simp only [Act.put, zqa, zqb, zqc]
     refine hK _ ?_
     clear hK K
     repeat (first | (refine Sched.walk1_no rfl rfl (fun K hK => ?_); simp only [Act.put, zqa, zqb, zqc]; refine hK _ ?_; clear hK K) | (refine Sched.walk1_gr rfl rfl rfl (fun K hK => ?_); apply Exists.intro; refine ⟨fun w1 hw1 => ?_, ?_⟩; (focus (go_simp; (try go_ints); (try (simp only [IntWalk.iteOmega]; go_simp)); first | done | fail | (with_reducible rfl) | (with_reducible exact ⟨rfl, rfl⟩))); simp only [Act.put, zqa, zqb, zqc]; refine hK _ ?_; clear hK K) | (refine Sched.walk1_pure rfl rfl rfl (fun K hK => ?_); apply Exists.intro; refine ⟨fun w1 => ?_, ?_⟩; (focus (go_simp; (try go_ints); (try (simp only [IntWalk.iteOmega]; go_simp)); first | done | (with_reducible rfl) | (with_reducible exact ⟨rfl, rfl⟩))); simp only [Act.put, zqa, zqb, zqc]; refine hK _ ?_; clear hK K) | (refine Sched.walk1_box rfl rfl ?_; apply Exists.intro; refine ⟨fun w1 hw1 => ?_, ?_⟩; (focus (go_simp; exact ⟨Gr.alloc _ _, rfl, by simp, heap_alloc_new _ _⟩))))
     refine Sched.walk1_gr rfl rfl rfl (fun K hK => ?_)
     refine ⟨SVal s, fun w1 hw1 => rng_gq (HRG.out w1 hw1) 46 _ rfl rfl Tryd.underlying46 rfl (by kernel_rfl), ?_⟩
     simp only [Act.put, zqa, zqb, zqc]
     refine hK _ ?_
     clear hK K
     repeat (first | (refine Sched.walk1_no rfl rfl (fun K hK => ?_); simp only [Act.put, zqa, zqb, zqc]; refine hK _ ?_; clear hK K) | (refine Sched.walk1_gr rfl rfl rfl (fun K hK => ?_); apply Exists.intro; refine ⟨fun w1 hw1 => ?_, ?_⟩; (focus (go_simp; (try go_ints); (try (simp only [IntWalk.iteOmega]; go_simp)); first | done | (go_at_call 49; (with_reducible exact rcontext_is HCX.out w1 (HXS.out.kept (HG1.out.trans (HG.out.trans hw1))) q1 q2)) | (with_reducible rfl) | (with_reducible exact ⟨rfl, rfl⟩))); simp only [Act.put, zqa, zqb, zqc]; refine hK _ ?_; clear hK K) | (refine Sched.walk1_pure rfl rfl rfl (fun K hK => ?_); apply Exists.intro; refine ⟨fun w1 => ?_, ?_⟩; (focus (go_simp; (try go_ints); (try (simp only [IntWalk.iteOmega]; go_simp)); first | done | (with_reducible rfl) | (with_reducible exact ⟨rfl, rfl⟩))); simp only [Act.put, zqa, zqb, zqc]; refine hK _ ?_; clear hK K) | (refine Sched.walk1_box rfl rfl ?_; apply Exists.intro; refine ⟨fun w1 hw1 => ?_, ?_⟩; (focus (go_simp; exact ⟨Gr.alloc _ _, rfl, by simp, heap_alloc_new _ _⟩))))
     refine Sched.walk1_nil ?_
     intro wq hwq
     repeat (first | (refine Sched.walk2_no rfl (fun K hK => ?_); simp only [Act.put, zqa, zqb, zqc]; refine hK _ ?_; clear hK K) | (refine Sched.walk2_go rfl (fun K hK => ?_); go_simp; (try go_ints); (try (simp only [IntWalk.iteOmega]; go_simp)); first | (refine hK _ _ ?_; clear hK K) | fail))
     refine Sched.walk2_nil ?_
     have HGQ := zqd (HG.out.trans hwq)
     clear x2 hwq HCB HRG
     go_wp2_with fail
     go_loopw [4] (fun i wr => ∃ k : Nat, k ≤ j ∧ i = .int .i64 k ∧ Gr wq wr) (fun i _ => j - (intOf i).toNat)
     case atStart => exact ⟨0, by omega, rfl, Gr.refl _⟩
     case round =>
       obtain ⟨k, hk, rfl, hg⟩ := hrel
       have HG := zqd (HGQ.out.trans hg)
       have HGI := zqd hg
       clear hg
       by_cases hltk : k < j
       · obtain ⟨t, ht, hrt⟩ := HR.out.get (show k < 16 by omega)
         have hno := like_no HLK.out hltk ht
         have hrg1 := HROW.out j s (by have := HXJ.out; exact this)
         have hrg2 := HROW.out k t ht
         have hct := (okAt_parts ht (HAT.out k (by omega))).1
         obtain ⟨A, hA⟩ : ∃ A, s.act = A := ⟨_, rfl⟩
         obtain ⟨B, hB⟩ : ∃ B, t.act = B := ⟨_, rfl⟩
         have x2 : ∀ u, Gr wr u → u.cell? ⟨w.heap.size, 2, none⟩ = some (.slice (some ⟨b, off, none⟩) 16 c) := fun u hu => (HB1.out.kept (HG.out.trans hu)).at 2 rfl
         have sa : ∀ u, Gr wr u → u.cell? ⟨b, off + j * 9, none⟩ = some (.bool A) := fun u hu => by rw [← hA]; exact (range_gr hrg1 (HG1.out.trans (HG.out.trans hu))) 0 _ rfl
         have tb : ∀ u, Gr wr u → u.cell? ⟨b, off + k * 9, none⟩ = some (.bool B) := fun u hu => by rw [← hB]; exact (range_gr hrg2 (HG1.out.trans (HG.out.trans hu))) 0 _ rfl
         cases A
         · clear hA hB hno hct ht hrt hrg1 hrg2
           go_upto_region 11 with (fail)
           refine Sched.wp_region_sched 32 [] [] (by kernel_rfl) (by kernel_rfl) ?_
           simp only [List.take_succ_cons, List.take_zero, List.drop_succ_cons, List.drop_zero]
           repeat (first | ((with_reducible refine Sched.walk1_no ?_ ?_ (fun K hK => ?_)); (focus rfl); (focus rfl); simp only [Act.put, zqa, zqb, zqc]; refine hK _ ?_; clear hK K) | ((with_reducible refine Sched.walk1_gr ?_ ?_ ?_ (fun K hK => ?_)); (focus rfl); (focus rfl); (focus rfl); apply Exists.intro; refine ⟨fun w1 hw1 => ?_, ?_⟩; (focus (go_simp; (try go_ints); (try (simp only [IntWalk.iteOmega]; go_simp)); first | done | fail | (with_reducible rfl) | (with_reducible exact ⟨rfl, rfl⟩))); simp only [Act.put, zqa, zqb, zqc]; refine hK _ ?_; clear hK K) | ((with_reducible refine Sched.walk1_pure ?_ ?_ ?_ (fun K hK => ?_)); (focus rfl); (focus rfl); (focus rfl); apply Exists.intro; refine ⟨fun w1 => ?_, ?_⟩; (focus (go_simp; (try go_ints); (try (simp only [IntWalk.iteOmega]; go_simp)); first | done | (with_reducible rfl) | (with_reducible exact ⟨rfl, rfl⟩))); simp only [Act.put, zqa, zqb, zqc]; refine hK _ ?_; clear hK K) | (refine Sched.walk1_box rfl rfl ?_; apply Exists.intro; refine ⟨fun w1 hw1 => ?_, ?_⟩; (focus (go_simp; exact ⟨Gr.alloc _ _, rfl, by simp, heap_alloc_new _ _⟩))))
           (with_reducible refine Sched.walk1_nil ?_)
           intro wq hwq
           repeat (first | (refine Sched.walk2_no rfl (fun K hK => ?_); simp only [Act.put, zqa, zqb, zqc]; refine hK _ ?_; clear hK K) | (refine Sched.walk2_go rfl (fun K hK => ?_); go_simp; (try go_ints); (try (simp only [IntWalk.iteOmega]; go_simp)); first | (refine hK _ _ ?_; clear hK K) | fail))
           refine Sched.walk2_nil ?_
           have HGQ2 := zqd (HGI.out.trans hwq)
           clear x2 sa tb hwq
           go_wp2_with fail
           go_roundw
           case rel => exact ⟨k + 1, by omega, by go_num, HGQ2.out⟩
           case measure => (simp [intOf] <;> omega)
         cases B
         · clear hA hB hno hct ht hrt hrg1 hrg2
           go_upto_region 11 with (fail)
           refine Sched.wp_region_sched 32 [] [] (by kernel_rfl) (by kernel_rfl) ?_
           simp only [List.take_succ_cons, List.take_zero, List.drop_succ_cons, List.drop_zero]
           repeat (first | ((with_reducible refine Sched.walk1_no ?_ ?_ (fun K hK => ?_)); (focus rfl); (focus rfl); simp only [Act.put, zqa, zqb, zqc]; refine hK _ ?_; clear hK K) | ((with_reducible refine Sched.walk1_gr ?_ ?_ ?_ (fun K hK => ?_)); (focus rfl); (focus rfl); (focus rfl); apply Exists.intro; refine ⟨fun w1 hw1 => ?_, ?_⟩; (focus (go_simp; (try go_ints); (try (simp only [IntWalk.iteOmega]; go_simp)); first | done | fail | (with_reducible rfl) | (with_reducible exact ⟨rfl, rfl⟩))); simp only [Act.put, zqa, zqb, zqc]; refine hK _ ?_; clear hK K) | ((with_reducible refine Sched.walk1_pure ?_ ?_ ?_ (fun K hK => ?_)); (focus rfl); (focus rfl); (focus rfl); apply Exists.intro; refine ⟨fun w1 => ?_, ?_⟩; (focus (go_simp; (try go_ints); (try (simp only [IntWalk.iteOmega]; go_simp)); first | done | (with_reducible rfl) | (with_reducible exact ⟨rfl, rfl⟩))); simp only [Act.put, zqa, zqb, zqc]; refine hK _ ?_; clear hK K) | (refine Sched.walk1_box rfl rfl ?_; apply Exists.intro; refine ⟨fun w1 hw1 => ?_, ?_⟩; (focus (go_simp; exact ⟨Gr.alloc _ _, rfl, by simp, heap_alloc_new _ _⟩))))
           (with_reducible refine Sched.walk1_nil ?_)
           intro wq hwq
           repeat (first | (refine Sched.walk2_no rfl (fun K hK => ?_); simp only [Act.put, zqa, zqb, zqc]; refine hK _ ?_; clear hK K) | (refine Sched.walk2_go rfl (fun K hK => ?_); go_simp; (try go_ints); (try (simp only [IntWalk.iteOmega]; go_simp)); first | (refine hK _ _ ?_; clear hK K) | fail))
           refine Sched.walk2_nil ?_
           have HGQ2 := zqd (HGI.out.trans hwq)
           clear x2 sa tb hwq
           go_wp2_with fail
           go_roundw
           case rel => exact ⟨k + 1, by omega, by go_num, HGQ2.out⟩
           case measure => (simp [intOf] <;> omega)
         have hrs := HXS.out
         have hn1 : 0 < s.n := by rw [← hrs.1]; exact ctx_has HCX.out hA
         have hn2 : 0 < t.n := by rw [← hrt.1]; exact ctx_has hct hB
         obtain ⟨f, hf, -⟩ := hrs.get hn1
         obtain ⟨q, hq, -⟩ := hrt.get hn2
         obtain ⟨b1, o1, e1, -, r1⟩ := hrs.row hn1
         obtain ⟨b2, o2, e2, -, r2⟩ := hrt.row hn2
         have k1 := r1 0 f hf
         have k2 := r2 0 q hq
         rw [Nat.zero_mul, Nat.add_zero] at k1 k2
         have HK1 := zqd (fun u (hu : Gr wr u) => range_gr k1 (HG1.out.trans (HG.out.trans hu)))
         have HK2 := zqd (fun u (hu : Gr wr u) => range_gr k2 (HG1.out.trans (HG.out.trans hu)))
         have HU := zqd (show sameB f q = false by rw [likeB, hA, hB, head_at hf, head_at hq] at hno; simpa using hno)
         have s8 : ∀ u, Gr wr u → u.cell? ⟨b, off + j * 9 + 8, none⟩ = some (.slice (some ⟨b1, o1, none⟩) s.n s.c) := fun u hu => by rw [← e1]; exact (range_gr hrg1 (HG1.out.trans (HG.out.trans hu))) 8 _ rfl
         have t8 : ∀ u, Gr wr u → u.cell? ⟨b, off + k * 9 + 8, none⟩ = some (.slice (some ⟨b2, o2, none⟩) t.n t.c) := fun u hu => by rw [← e2]; exact (range_gr hrg2 (HG1.out.trans (HG.out.trans hu))) 8 _ rfl
         clear hf hq r1 r2 k1 k2 e1 e2 hA hB hno hct ht hrt hrg1 hrg2 hrs
         go_upto_region 11 with (fail)
         refine Sched.wp_region_sched 32 [] [] (by kernel_rfl) (by kernel_rfl) ?_
         simp only [List.take_succ_cons, List.take_zero, List.drop_succ_cons, List.drop_zero]
         repeat (first | (refine Sched.walk1_no rfl rfl (fun K hK => ?_); simp only [Act.put, zqa, zqb, zqc]; refine hK _ ?_; clear hK K) | (refine Sched.walk1_gr rfl rfl rfl (fun K hK => ?_); apply Exists.intro; refine ⟨fun w1 hw1 => ?_, ?_⟩; (focus (go_simp; (try go_ints); (try (simp only [IntWalk.iteOmega]; go_simp)); first | done | fail | (with_reducible rfl) | (with_reducible exact ⟨rfl, rfl⟩))); simp only [Act.put, zqa, zqb, zqc]; refine hK _ ?_; clear hK K) | (refine Sched.walk1_pure rfl rfl rfl (fun K hK => ?_); apply Exists.intro; refine ⟨fun w1 => ?_, ?_⟩; (focus (go_simp; (try go_ints); (try (simp only [IntWalk.iteOmega]; go_simp)); first | done | (with_reducible rfl) | (with_reducible exact ⟨rfl, rfl⟩))); simp only [Act.put, zqa, zqb, zqc]; refine hK _ ?_; clear hK K) | (refine Sched.walk1_box rfl rfl ?_; apply Exists.intro; refine ⟨fun w1 hw1 => ?_, ?_⟩; (focus (go_simp; exact ⟨Gr.alloc _ _, rfl, by simp, heap_alloc_new _ _⟩))))
         refine Sched.walk1_gr rfl rfl rfl (fun K hK => ?_)
         refine ⟨HVal f, fun w1 hw1 => rng_gq (HK1.out w1 hw1) 49 _ rfl rfl Tryd.underlying49 rfl (by kernel_rfl), ?_⟩
         simp only [Act.put, zqa, zqb, zqc]
         refine hK _ ?_
         clear hK K
         repeat (first | (refine Sched.walk1_no rfl rfl (fun K hK => ?_); simp only [Act.put, zqa, zqb, zqc]; refine hK _ ?_; clear hK K) | (refine Sched.walk1_gr rfl rfl rfl (fun K hK => ?_); apply Exists.intro; refine ⟨fun w1 hw1 => ?_, ?_⟩; (focus (go_simp; (try go_ints); (try (simp only [IntWalk.iteOmega]; go_simp)); first | done | fail | (with_reducible rfl) | (with_reducible exact ⟨rfl, rfl⟩))); simp only [Act.put, zqa, zqb, zqc]; refine hK _ ?_; clear hK K) | (refine Sched.walk1_pure rfl rfl rfl (fun K hK => ?_); apply Exists.intro; refine ⟨fun w1 => ?_, ?_⟩; (focus (go_simp; (try go_ints); (try (simp only [IntWalk.iteOmega]; go_simp)); first | done | (with_reducible rfl) | (with_reducible exact ⟨rfl, rfl⟩))); simp only [Act.put, zqa, zqb, zqc]; refine hK _ ?_; clear hK K) | (refine Sched.walk1_box rfl rfl ?_; apply Exists.intro; refine ⟨fun w1 hw1 => ?_, ?_⟩; (focus (go_simp; exact ⟨Gr.alloc _ _, rfl, by simp, heap_alloc_new _ _⟩))))
         refine Sched.walk1_gr rfl rfl rfl (fun K hK => ?_)
         refine ⟨HVal q, fun w1 hw1 => rng_gq (HK2.out w1 hw1) 49 _ rfl rfl Tryd.underlying49 rfl (by kernel_rfl), ?_⟩
         simp only [Act.put, zqa, zqb, zqc]
         refine hK _ ?_
         clear hK K
         repeat (first | (refine Sched.walk1_no rfl rfl (fun K hK => ?_); simp only [Act.put, zqa, zqb, zqc]; refine hK _ ?_; clear hK K) | (refine Sched.walk1_gr rfl rfl rfl (fun K hK => ?_); apply Exists.intro; refine ⟨fun w1 hw1 => ?_, ?_⟩; (focus (go_simp; (try go_ints); (try (simp only [IntWalk.iteOmega]; go_simp)); first | done | (go_at_call 50; (with_reducible exact rsame_is HU.out w1)) | (with_reducible rfl) | (with_reducible exact ⟨rfl, rfl⟩))); simp only [Act.put, zqa, zqb, zqc]; refine hK _ ?_; clear hK K) | (refine Sched.walk1_pure rfl rfl rfl (fun K hK => ?_); apply Exists.intro; refine ⟨fun w1 => ?_, ?_⟩; (focus (go_simp; (try go_ints); (try (simp only [IntWalk.iteOmega]; go_simp)); first | done | (with_reducible rfl) | (with_reducible exact ⟨rfl, rfl⟩))); simp only [Act.put, zqa, zqb, zqc]; refine hK _ ?_; clear hK K) | (refine Sched.walk1_box rfl rfl ?_; apply Exists.intro; refine ⟨fun w1 hw1 => ?_, ?_⟩; (focus (go_simp; exact ⟨Gr.alloc _ _, rfl, by simp, heap_alloc_new _ _⟩))))
         (with_reducible refine Sched.walk1_nil ?_)
         intro wq2 hwq2
         repeat (first | (refine Sched.walk2_no rfl (fun K hK => ?_); simp only [Act.put, zqa, zqb, zqc]; refine hK _ ?_; clear hK K) | (refine Sched.walk2_go rfl (fun K hK => ?_); go_simp; (try go_ints); (try (simp only [IntWalk.iteOmega]; go_simp)); first | (refine hK _ _ ?_; clear hK K) | fail))
         refine Sched.walk2_nil ?_
         have HGQ2 := zqd (HGI.out.trans hwq2)
         clear x2 sa tb s8 t8 hwq2
         go_wp2_with fail
         go_roundw
         case rel => exact ⟨k + 1, by omega, by go_num, HGQ2.out⟩
         case measure => (simp [intOf] <;> omega)
       · obtain rfl : k = j := by omega
         go_wp2_with fail
         go_roundw
         case rel => exact ⟨k + 1, by omega, by go_num, HG.out⟩
         case measure => (simp [intOf] <;> omega)
   · obtain rfl : j = 16 := by omega
     go_wp2_with fail
     go_ret
     exact ⟨rfl, HG1.out.trans HG.out⟩
end Go.Proofs.YtlnkofpcidngoaaDoor
