/- Layer 06 (flow): the sanity check of the laws. -/
import Derived.Test.YtmojlengjoicoaaFlowM
namespace Go.Proofs.Ytmojlengjoicoaa
open Go.ChangeShapes Go.WideShapes Go.ChangeAt Go.RowKit

theorem learn_is {a b : Hdr} {S F : Int} (h1 : learnS a b = S) (h2 : learnF a b = F) (w : World) (ha : HOk a) (hb : HOk b) : Calls Try.prog 33 #[HVal a, HVal b] w fun e w' => e = .returned (DVal S F) ∧ Gr w w' := by
  subst h1; subst h2; exact learn_any a b w ha hb
theorem rlearn_is {a b : Hdr} {S F : Int} (h1 : learnS a b = S) (h2 : learnF a b = F) (w : World) : Calls Try.prog 34 #[HVal a, HVal b] w fun e w' => e = .returned (DVal S F) ∧ Gr w w' := by
  subst h1; subst h2; exact rlearn_any a b w
theorem predict_is {s f n : Int} {a R : Hdr} (h : predH s f a n = R) (w : World) (ho : HOk a) : Calls Try.prog 22 #[DVal s f, HVal a, .int .i64 n] w fun e w' => e = .returned (HVal R) ∧ Gr w w' := h ▸ predict_any s f a n w ho
theorem rpredict_is {s f n : Int} {a R : Hdr} (h : predH s f a n = R) (w : World) : Calls Try.prog 32 #[DVal s f, HVal a, .int .i64 n] w fun e w' => e = .returned (HVal R) ∧ Gr w w' := h ▸ rpredict_any s f a n w
def awA : Hdr := ⟨2, 0, 7, 0, 0, 0, 0, 0, 0, 0, 0, 0, 65535, 1000, 0⟩
def awB : Hdr := ⟨2, 0, 9, 0, 0, 0, 0, 0, 0, 0, 0, 0, 1, 1320, 0⟩
theorem eqH_refl (a : Hdr) : eqH a a = true := by simp [eqH]
set_option maxRecDepth 100000 in
set_option maxHeartbeats 2000000 in
theorem awake06 (w : World) : Calls Try.prog 15 #[] w fun e w' => e = .returned (.bool true) ∧ Gr w w' := by
  obtain ⟨A, hA⟩ : ∃ A, A = awA := ⟨_, rfl⟩
  obtain ⟨B, hB⟩ : ∃ B, B = awB := ⟨_, rfl⟩
  have HLS := Lib.hid (show learnS A B = 160 by rw [hA, hB]; decide +kernel)
  have HLF := Lib.hid (show learnF A B = 1 by rw [hA, hB]; decide +kernel)
  have HPR := Lib.hid (show predH 160 1 A 1 = B by rw [hA, hB]; unfold predH; rw [if_pos (by decide +kernel), if_neg (by decide)]; rfl)
  have HSA := Lib.hid (show sameB A B = true by rw [hA, hB]; decide +kernel)
  have HNU := Lib.hid (show numH B = 1 by rw [hB]; decide +kernel)
  have HOA := Lib.hid (show HOk A by rw [hA]; simp only [HOk, awA, i64]; omega)
  have HOB := Lib.hid (show HOk B by rw [hB]; simp only [HOk, awB, i64]; omega)
  go_enter Try.func15, Try.ntmps15
  go_upto_region 3 with (fail)
  obtain ⟨w2, hw2⟩ : ∃ y, y = (w.alloc (.cells (HCells awA).toArray 29)).alloc (.cells (HCells awB).toArray 29) := ⟨_, rfl⟩
  have ha2 : HBlk w.heap.size A w2 := by rw [hw2, hA]; exact heap_alloc2_old _ _ _
  have hb2 : HBlk (w.heap.size + 1) B w2 := by rw [hw2, hB]; exact heap_alloc2_new _ _ _
  have hg2 : Gr w w2 := by rw [hw2]; exact (Gr.alloc _ _).trans (Gr.alloc _ _)
  simp only [HCells, awA, awB] at hw2
  rw [← hw2]
  have HA2 := Lib.hid ha2
  have HB2 := Lib.hid hb2
  have HG2 := Lib.hid hg2
  unfold HBlk at ha2 hb2
  have HA2' := Lib.hid ha2
  have HB2' := Lib.hid hb2
  clear hw2 ha2 hb2 hg2 hA hB
  go_wp2_with (first | (refine wpList_load_w rfl 29 _ rfl w.heap.size rfl 29 _ _ _ HA2'.out Try.underlying29 rfl (by kernel_rfl) ?_) | (refine wpList_load_w rfl 29 _ rfl (w.heap.size + 1) rfl 29 _ _ _ HB2'.out Try.underlying29 rfl (by kernel_rfl) ?_))
  refine (learn_is HLS.out HLF.out w2 HOA.out HOB.out).mono ?_
  rintro e w3 ⟨rfl, hg3⟩
  have HA3 := Lib.hid (HA2.out.kept hg3)
  have HB3 := Lib.hid (HB2.out.kept hg3)
  have HG3 := Lib.hid (HG2.out.trans hg3)
  clear hg3 HA2 HB2 HG2 HA2' HB2'
  go_upto_region 4 with (fail)
  obtain ⟨w4, hw4⟩ : ∃ y, y = w3.alloc (.cells #[.int .i64 160, .int .i64 1] 33) := ⟨_, rfl⟩
  rw [← hw4]
  have hd4 : DBlk w3.heap.size 160 1 w4 := by rw [hw4]; exact heap_alloc_new _ _
  have hg4 : Gr w3 w4 := by rw [hw4]; exact Gr.alloc _ _
  have x0 : ∀ u, Gr w4 u → u.cell? ⟨w3.heap.size, 0, none⟩ = some (.int .i64 160) := fun u hu => (hd4.kept hu).c0
  have x1 : ∀ u, Gr w4 u → u.cell? ⟨w3.heap.size, 1, none⟩ = some (.int .i64 1) := fun u hu => (hd4.kept hu).c1
  have HAK := Lib.hid (fun u (hu : Gr w4 u) => HA3.out.kept (hg4.trans hu))
  have HBK := Lib.hid (fun u (hu : Gr w4 u) => HB3.out.kept (hg4.trans hu))
  have HG4 := Lib.hid (HG3.out.trans hg4)
  have he : ∀ u : World, (binOp .eql 29 (HVal B) (HVal B)).run Try.prog u = .ok (.bool true) u := fun u => by rw [run_eqH, eqH_refl]
  clear hw4 hd4 hg4
  refine Sched.wp_region_sched 25 [] [] (by kernel_rfl) (by kernel_rfl) ?_
  simp only [List.take_succ_cons, List.take_zero, List.drop_succ_cons, List.drop_zero]
  repeat (first | ((with_reducible refine Sched.walk1_no ?_ ?_ (fun K hK => ?_)); (focus rfl); (focus rfl); simp only [Act.put, List.setIfInBounds_toArray, List.set_cons_zero, List.set_cons_succ]; refine hK _ ?_; clear hK K) | ((with_reducible refine Sched.walk1_gr ?_ ?_ ?_ (fun K hK => ?_)); (focus rfl); (focus rfl); (focus rfl); apply Exists.intro; refine ⟨fun w1 hw1 => ?_, ?_⟩; (focus (go_simp; (try go_ints); (try (simp only [IntWalk.iteOmega]; go_simp)); first | done | fail | (with_reducible rfl) | (with_reducible exact ⟨rfl, rfl⟩))); simp only [Act.put, List.setIfInBounds_toArray, List.set_cons_zero, List.set_cons_succ]; refine hK _ ?_; clear hK K) | ((with_reducible refine Sched.walk1_pure ?_ ?_ ?_ (fun K hK => ?_)); (focus rfl); (focus rfl); (focus rfl); apply Exists.intro; refine ⟨fun w1 => ?_, ?_⟩; (focus (go_simp; (try go_ints); (try (simp only [IntWalk.iteOmega]; go_simp)); first | done | (with_reducible rfl) | (with_reducible exact ⟨rfl, rfl⟩))); simp only [Act.put, List.setIfInBounds_toArray, List.set_cons_zero, List.set_cons_succ]; refine hK _ ?_; clear hK K) | (refine Sched.walk1_box rfl rfl ?_; apply Exists.intro; refine ⟨fun w1 hw1 => ?_, ?_⟩; (focus (go_simp; exact ⟨Gr.alloc _ _, rfl, by simp, heap_alloc_new _ _⟩))))
  refine Sched.walk1_gr rfl rfl rfl (fun K hK => ?_)
  refine ⟨HVal A, fun w1 hw1 => (HAK.out w1 hw1).load _ rfl rfl, ?_⟩
  simp only [Act.put, List.setIfInBounds_toArray, List.set_cons_zero, List.set_cons_succ]
  refine hK _ ?_
  clear hK K
  repeat (first | ((with_reducible refine Sched.walk1_no ?_ ?_ (fun K hK => ?_)); (focus rfl); (focus rfl); simp only [Act.put, List.setIfInBounds_toArray, List.set_cons_zero, List.set_cons_succ]; refine hK _ ?_; clear hK K) | ((with_reducible refine Sched.walk1_gr ?_ ?_ ?_ (fun K hK => ?_)); (focus rfl); (focus rfl); (focus rfl); apply Exists.intro; refine ⟨fun w1 hw1 => ?_, ?_⟩; (focus (go_simp; (try go_ints); (try (simp only [IntWalk.iteOmega]; go_simp)); first | done | (go_at_call 22; (with_reducible exact predict_is HPR.out _ HOA.out)) | (with_reducible rfl) | (with_reducible exact ⟨rfl, rfl⟩))); simp only [Act.put, List.setIfInBounds_toArray, List.set_cons_zero, List.set_cons_succ]; refine hK _ ?_; clear hK K) | ((with_reducible refine Sched.walk1_pure ?_ ?_ ?_ (fun K hK => ?_)); (focus rfl); (focus rfl); (focus rfl); apply Exists.intro; refine ⟨fun w1 => ?_, ?_⟩; (focus (go_simp; (try go_ints); (try (simp only [IntWalk.iteOmega]; go_simp)); first | done | (with_reducible rfl) | (with_reducible exact ⟨rfl, rfl⟩))); simp only [Act.put, List.setIfInBounds_toArray, List.set_cons_zero, List.set_cons_succ]; refine hK _ ?_; clear hK K) | (refine Sched.walk1_box rfl rfl ?_; apply Exists.intro; refine ⟨fun w1 hw1 => ?_, ?_⟩; (focus (go_simp; exact ⟨Gr.alloc _ _, rfl, by simp, heap_alloc_new _ _⟩))))
  refine Sched.walk1_gr rfl rfl rfl (fun K hK => ?_)
  refine ⟨HVal B, fun w1 hw1 => (HBK.out w1 hw1).load _ rfl rfl, ?_⟩
  simp only [Act.put, List.setIfInBounds_toArray, List.set_cons_zero, List.set_cons_succ]
  refine hK _ ?_
  clear hK K
  repeat (first | ((with_reducible refine Sched.walk1_no ?_ ?_ (fun K hK => ?_)); (focus rfl); (focus rfl); simp only [Act.put, List.setIfInBounds_toArray, List.set_cons_zero, List.set_cons_succ]; refine hK _ ?_; clear hK K) | ((with_reducible refine Sched.walk1_gr ?_ ?_ ?_ (fun K hK => ?_)); (focus rfl); (focus rfl); (focus rfl); apply Exists.intro; refine ⟨fun w1 hw1 => ?_, ?_⟩; (focus (go_simp; (try go_ints); (try (simp only [IntWalk.iteOmega]; go_simp)); first | done | fail | (with_reducible rfl) | (with_reducible exact ⟨rfl, rfl⟩))); simp only [Act.put, List.setIfInBounds_toArray, List.set_cons_zero, List.set_cons_succ]; refine hK _ ?_; clear hK K) | ((with_reducible refine Sched.walk1_pure ?_ ?_ ?_ (fun K hK => ?_)); (focus rfl); (focus rfl); (focus rfl); apply Exists.intro; refine ⟨fun w1 => ?_, ?_⟩; (focus (go_simp; (try go_ints); (try (simp only [IntWalk.iteOmega]; go_simp)); first | done | (with_reducible rfl) | (with_reducible exact ⟨rfl, rfl⟩))); simp only [Act.put, List.setIfInBounds_toArray, List.set_cons_zero, List.set_cons_succ]; refine hK _ ?_; clear hK K) | (refine Sched.walk1_box rfl rfl ?_; apply Exists.intro; refine ⟨fun w1 hw1 => ?_, ?_⟩; (focus (go_simp; exact ⟨Gr.alloc _ _, rfl, by simp, heap_alloc_new _ _⟩))))
  refine Sched.walk1_gr rfl rfl rfl (fun K hK => ?_)
  refine ⟨HVal A, fun w1 hw1 => (HAK.out w1 hw1).load _ rfl rfl, ?_⟩
  simp only [Act.put, List.setIfInBounds_toArray, List.set_cons_zero, List.set_cons_succ]
  refine hK _ ?_
  clear hK K
  refine Sched.walk1_gr rfl rfl rfl (fun K hK => ?_)
  refine ⟨HVal B, fun w1 hw1 => (HBK.out w1 hw1).load _ rfl rfl, ?_⟩
  simp only [Act.put, List.setIfInBounds_toArray, List.set_cons_zero, List.set_cons_succ]
  refine hK _ ?_
  clear hK K
  repeat (first | ((with_reducible refine Sched.walk1_no ?_ ?_ (fun K hK => ?_)); (focus rfl); (focus rfl); simp only [Act.put, List.setIfInBounds_toArray, List.set_cons_zero, List.set_cons_succ]; refine hK _ ?_; clear hK K) | ((with_reducible refine Sched.walk1_gr ?_ ?_ ?_ (fun K hK => ?_)); (focus rfl); (focus rfl); (focus rfl); apply Exists.intro; refine ⟨fun w1 hw1 => ?_, ?_⟩; (focus (go_simp; (try go_ints); (try (simp only [IntWalk.iteOmega]; go_simp)); first | done | (go_at_call 25; (with_reducible exact same_is HSA.out _)) | (with_reducible rfl) | (with_reducible exact ⟨rfl, rfl⟩))); simp only [Act.put, List.setIfInBounds_toArray, List.set_cons_zero, List.set_cons_succ]; refine hK _ ?_; clear hK K) | ((with_reducible refine Sched.walk1_pure ?_ ?_ ?_ (fun K hK => ?_)); (focus rfl); (focus rfl); (focus rfl); apply Exists.intro; refine ⟨fun w1 => ?_, ?_⟩; (focus (go_simp; (try go_ints); (try (simp only [IntWalk.iteOmega]; go_simp)); first | done | (with_reducible rfl) | (with_reducible exact ⟨rfl, rfl⟩))); simp only [Act.put, List.setIfInBounds_toArray, List.set_cons_zero, List.set_cons_succ]; refine hK _ ?_; clear hK K) | (refine Sched.walk1_box rfl rfl ?_; apply Exists.intro; refine ⟨fun w1 hw1 => ?_, ?_⟩; (focus (go_simp; exact ⟨Gr.alloc _ _, rfl, by simp, heap_alloc_new _ _⟩))))
  refine Sched.walk1_gr rfl rfl rfl (fun K hK => ?_)
  refine ⟨HVal B, fun w1 hw1 => (HBK.out w1 hw1).load _ rfl rfl, ?_⟩
  simp only [Act.put, List.setIfInBounds_toArray, List.set_cons_zero, List.set_cons_succ]
  refine hK _ ?_
  clear hK K
  repeat (first | ((with_reducible refine Sched.walk1_no ?_ ?_ (fun K hK => ?_)); (focus rfl); (focus rfl); simp only [Act.put, List.setIfInBounds_toArray, List.set_cons_zero, List.set_cons_succ]; refine hK _ ?_; clear hK K) | ((with_reducible refine Sched.walk1_gr ?_ ?_ ?_ (fun K hK => ?_)); (focus rfl); (focus rfl); (focus rfl); apply Exists.intro; refine ⟨fun w1 hw1 => ?_, ?_⟩; (focus (go_simp; (try go_ints); (try (simp only [IntWalk.iteOmega]; go_simp)); first | done | (go_at_call 21; (with_reducible exact num_is HNU.out _)) | (with_reducible rfl) | (with_reducible exact ⟨rfl, rfl⟩))); simp only [Act.put, List.setIfInBounds_toArray, List.set_cons_zero, List.set_cons_succ]; refine hK _ ?_; clear hK K) | ((with_reducible refine Sched.walk1_pure ?_ ?_ ?_ (fun K hK => ?_)); (focus rfl); (focus rfl); (focus rfl); apply Exists.intro; refine ⟨fun w1 => ?_, ?_⟩; (focus (go_simp; (try go_ints); (try (simp only [IntWalk.iteOmega]; go_simp)); first | done | (with_reducible rfl) | (with_reducible exact ⟨rfl, rfl⟩))); simp only [Act.put, List.setIfInBounds_toArray, List.set_cons_zero, List.set_cons_succ]; refine hK _ ?_; clear hK K) | (refine Sched.walk1_box rfl rfl ?_; apply Exists.intro; refine ⟨fun w1 hw1 => ?_, ?_⟩; (focus (go_simp; exact ⟨Gr.alloc _ _, rfl, by simp, heap_alloc_new _ _⟩))))
  refine Sched.walk1_nil ?_
  intro wq hwq
  have HGQ := Lib.hid (HG4.out.trans hwq)
  clear hwq x0 x1 he
  dsimp only [Sched.EndN, List.nil_append, List.cons_append, Act.put]
  (try simp only [List.setIfInBounds_toArray, List.set_cons_zero, List.set_cons_succ])
  repeat (first | (refine Sched.walk2_no rfl (fun K hK => ?_); simp only [Act.put, List.setIfInBounds_toArray, List.set_cons_zero, List.set_cons_succ]; refine hK _ ?_; clear hK K) | (refine Sched.walk2_go rfl (fun K hK => ?_); go_simp; (try go_ints); (try (simp only [IntWalk.iteOmega]; go_simp)); first | (refine hK _ _ ?_; clear hK K) | fail))
  refine Sched.walk2_nil ?_
  go_wp2_with fail
  go_ret
  exact ⟨rfl, HGQ.out⟩
end Go.Proofs.Ytmojlengjoicoaa
