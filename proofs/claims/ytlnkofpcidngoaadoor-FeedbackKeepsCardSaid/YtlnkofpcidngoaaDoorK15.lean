/- Several texts in one. -/
import Derived.Test.YtlnkofpcidngoaaDoorK0
import Derived.Test.YtlnkofpcidngoaaDoorK14
import Derived.Test.YtlnkofpcidngoaaDoorK12
namespace Go.Proofs.YtlnkofpcidngoaaDoor
open Go.ChangeShapes Go.WideShapes Go.ChangeAt Go.RowKit
def HasRef (s : Snd) : Prop := s.act = true → 1 ≤ s.refs.length
set_option maxHeartbeats 2000000 in
set_option maxRecDepth 100000 in
theorem alike_any (s t : Snd) (g : Nat) (w : World) (hb : CBlk g 46 (SCells s) w) (hs : RdH w s.a s.n s.c s.refs) (ht : RdH w t.a t.n t.c t.refs) (h1 : HasRef s) (h2 : HasRef t) :
   Calls Tryd.prog 70 #[SVal t, .pointer (some ⟨g, 0, none⟩)] w fun e w' => e = .returned (.bool (likeB s t)) ∧ Gr w w' := by
 have HB := zqd hb
 have HS := zqd hs
 have HT := zqd ht
 obtain ⟨A, hA⟩ : ∃ A, s.act = A := ⟨_, rfl⟩
 obtain ⟨B, hB⟩ : ∃ B, t.act = B := ⟨_, rfl⟩
 have HA := zqd hA
 have HBB := zqd hB
 have H1 := zqd h1
 have H2 := zqd h2
 obtain ⟨R, hR⟩ : ∃ R, likeB s t = R := ⟨_, rfl⟩
 rw [hR]
 have HR := zqd hR
 clear hb hs ht hA hB hR h1 h2
 go_enter Tryd.func70, Tryd.ntmps70
 go_upto_region 1 with (fail)
 obtain ⟨w1, hw1⟩ : ∃ y, y = w.alloc (.cells (SCells t).toArray 46) := ⟨_, rfl⟩
 have HT1 := zqd (show CBlk w.heap.size 46 (SCells t) w1 by rw [hw1]; exact CBlk.new _ _ _)
 have hg1 : Gr w w1 := by rw [hw1]; exact Gr.alloc _ _
 simp only [SCells] at hw1
 first | rw [← hw1] | (go_show; fail)
 have HS1 := zqd (HB.out.kept hg1)
 have HG1 := zqd hg1
 clear hw1 hg1
 have s0 : ∀ u, Gr w1 u → u.cell? ⟨g, 0, none⟩ = some (.bool A) := fun u hu => by rw [← HA.out]; exact (HS1.out.kept hu).at 0 rfl
 have t0 : ∀ u, Gr w1 u → u.cell? ⟨w.heap.size, 0, none⟩ = some (.bool B) := fun u hu => by rw [← HBB.out]; exact (HT1.out.kept hu).at 0 rfl
 cases A
 · have HF := zqd (show false = R by rw [← HR.out, likeB, HA.out]; rfl)
   refine Sched.wp_region_sched 17 [] [] (by kernel_rfl) (by kernel_rfl) ?_
   simp only [List.take_succ_cons, List.take_zero, List.drop_succ_cons, List.drop_zero]
   repeat (first | ((with_reducible refine Sched.walk1_no ?_ ?_ (fun K hK => ?_)); (focus rfl); (focus rfl); simp only [Act.put, zqa, zqb, zqc]; refine hK _ ?_; clear hK K) | ((with_reducible refine Sched.walk1_gr ?_ ?_ ?_ (fun K hK => ?_)); (focus rfl); (focus rfl); (focus rfl); apply Exists.intro; refine ⟨fun w1 hw1 => ?_, ?_⟩; (focus (go_simp; (try go_ints); (try (simp only [IntWalk.iteOmega]; go_simp)); first | done | fail | (with_reducible rfl) | (with_reducible exact ⟨rfl, rfl⟩))); simp only [Act.put, zqa, zqb, zqc]; refine hK _ ?_; clear hK K) | ((with_reducible refine Sched.walk1_pure ?_ ?_ ?_ (fun K hK => ?_)); (focus rfl); (focus rfl); (focus rfl); apply Exists.intro; refine ⟨fun w1 => ?_, ?_⟩; (focus (go_simp; (try go_ints); (try (simp only [IntWalk.iteOmega]; go_simp)); first | done | (with_reducible rfl) | (with_reducible exact ⟨rfl, rfl⟩))); simp only [Act.put, zqa, zqb, zqc]; refine hK _ ?_; clear hK K) | (refine Sched.walk1_box rfl rfl ?_; apply Exists.intro; refine ⟨fun w1 hw1 => ?_, ?_⟩; (focus (go_simp; exact ⟨Gr.alloc _ _, rfl, by simp, heap_alloc_new _ _⟩))))
   (with_reducible refine Sched.walk1_nil ?_)
   intro wq hwq
   repeat (first | (refine Sched.walk2_no rfl (fun K hK => ?_); simp only [Act.put, zqa, zqb, zqc]; refine hK _ ?_; clear hK K) | (refine Sched.walk2_go rfl (fun K hK => ?_); go_simp; (try go_ints); (try (simp only [IntWalk.iteOmega]; go_simp)); first | (refine hK _ _ ?_; clear hK K) | fail))
   refine Sched.walk2_nil ?_
   have HGQ := zqd (HG1.out.trans hwq)
   clear s0 t0 hwq
   go_wp2_with fail
   go_ret
   exact ⟨ret_bool HF.out, HGQ.out⟩
 cases B
 · have HF := zqd (show false = R by rw [← HR.out, likeB, HBB.out]; simp)
   refine Sched.wp_region_sched 17 [] [] (by kernel_rfl) (by kernel_rfl) ?_
   simp only [List.take_succ_cons, List.take_zero, List.drop_succ_cons, List.drop_zero]
   repeat (first | ((with_reducible refine Sched.walk1_no ?_ ?_ (fun K hK => ?_)); (focus rfl); (focus rfl); simp only [Act.put, zqa, zqb, zqc]; refine hK _ ?_; clear hK K) | ((with_reducible refine Sched.walk1_gr ?_ ?_ ?_ (fun K hK => ?_)); (focus rfl); (focus rfl); (focus rfl); apply Exists.intro; refine ⟨fun w1 hw1 => ?_, ?_⟩; (focus (go_simp; (try go_ints); (try (simp only [IntWalk.iteOmega]; go_simp)); first | done | fail | (with_reducible rfl) | (with_reducible exact ⟨rfl, rfl⟩))); simp only [Act.put, zqa, zqb, zqc]; refine hK _ ?_; clear hK K) | ((with_reducible refine Sched.walk1_pure ?_ ?_ ?_ (fun K hK => ?_)); (focus rfl); (focus rfl); (focus rfl); apply Exists.intro; refine ⟨fun w1 => ?_, ?_⟩; (focus (go_simp; (try go_ints); (try (simp only [IntWalk.iteOmega]; go_simp)); first | done | (with_reducible rfl) | (with_reducible exact ⟨rfl, rfl⟩))); simp only [Act.put, zqa, zqb, zqc]; refine hK _ ?_; clear hK K) | (refine Sched.walk1_box rfl rfl ?_; apply Exists.intro; refine ⟨fun w1 hw1 => ?_, ?_⟩; (focus (go_simp; exact ⟨Gr.alloc _ _, rfl, by simp, heap_alloc_new _ _⟩))))
   (with_reducible refine Sched.walk1_nil ?_)
   intro wq hwq
   repeat (first | (refine Sched.walk2_no rfl (fun K hK => ?_); simp only [Act.put, zqa, zqb, zqc]; refine hK _ ?_; clear hK K) | (refine Sched.walk2_go rfl (fun K hK => ?_); go_simp; (try go_ints); (try (simp only [IntWalk.iteOmega]; go_simp)); first | (refine hK _ _ ?_; clear hK K) | fail))
   refine Sched.walk2_nil ?_
   have HGQ := zqd (HG1.out.trans hwq)
   clear s0 t0 hwq
   go_wp2_with fail
   go_ret
   exact ⟨ret_bool HF.out, HGQ.out⟩
 have hn1 : 0 < s.n := by rw [← HS.out.1]; exact H1.out HA.out
 have hn2 : 0 < t.n := by rw [← HT.out.1]; exact H2.out HBB.out
 obtain ⟨f, hf, -⟩ := HS.out.get hn1
 obtain ⟨q, hq, -⟩ := HT.out.get hn2
 obtain ⟨b1, o1, e1, -, r1⟩ := HS.out.row hn1
 obtain ⟨b2, o2, e2, -, r2⟩ := HT.out.row hn2
 have k1 := r1 0 f hf
 have k2 := r2 0 q hq
 rw [Nat.zero_mul, Nat.add_zero] at k1 k2
 have HK1 := zqd (fun u (hu : Gr w1 u) => range_gr k1 (HG1.out.trans hu))
 have HK2 := zqd (fun u (hu : Gr w1 u) => range_gr k2 (HG1.out.trans hu))
 obtain ⟨U, hU⟩ : ∃ U, sameB f q = U := ⟨_, rfl⟩
 have HU := zqd hU
 have HF := zqd (show U = R by rw [← HR.out, likeB, HA.out, HBB.out, head_at hf, head_at hq, hU]; rfl)
 have s8 : ∀ u, Gr w1 u → u.cell? ⟨g, 8, none⟩ = some (.slice (some ⟨b1, o1, none⟩) s.n s.c) := fun u hu => by rw [← e1]; exact (HS1.out.kept hu).at 8 rfl
 have t8 : ∀ u, Gr w1 u → u.cell? ⟨w.heap.size, 8, none⟩ = some (.slice (some ⟨b2, o2, none⟩) t.n t.c) := fun u hu => by rw [← e2]; exact (HT1.out.kept hu).at 8 rfl
 clear hf hq r1 r2 k1 k2 hU e1 e2
 refine Sched.wp_region_sched 17 [] [] (by kernel_rfl) (by kernel_rfl) ?_
 simp only [List.take_succ_cons, List.take_zero, List.drop_succ_cons, List.drop_zero]
 repeat (first | (refine Sched.walk1_no rfl rfl (fun K hK => ?_); simp only [Act.put, zqa, zqb, zqc]; refine hK _ ?_; clear hK K) | (refine Sched.walk1_gr rfl rfl rfl (fun K hK => ?_); apply Exists.intro; refine ⟨fun w1 hw1 => ?_, ?_⟩; (focus (go_simp; (try go_ints); (try (simp only [IntWalk.iteOmega]; go_simp)); first | done | fail | (with_reducible rfl) | (with_reducible exact ⟨rfl, rfl⟩))); simp only [Act.put, zqa, zqb, zqc]; refine hK _ ?_; clear hK K) | (refine Sched.walk1_pure rfl rfl rfl (fun K hK => ?_); apply Exists.intro; refine ⟨fun w1 => ?_, ?_⟩; (focus (go_simp; (try go_ints); (try (simp only [IntWalk.iteOmega]; go_simp)); first | done | (with_reducible rfl) | (with_reducible exact ⟨rfl, rfl⟩))); simp only [Act.put, zqa, zqb, zqc]; refine hK _ ?_; clear hK K) | (refine Sched.walk1_box rfl rfl ?_; apply Exists.intro; refine ⟨fun w1 hw1 => ?_, ?_⟩; (focus (go_simp; exact ⟨Gr.alloc _ _, rfl, by simp, heap_alloc_new _ _⟩))))
 refine Sched.walk1_gr rfl rfl rfl (fun K hK => ?_)
 refine ⟨HVal f, fun w1 hw1 => rng_gq (HK1.out w1 hw1) 49 _ rfl rfl Tryd.underlying49 rfl (by kernel_rfl), ?_⟩
 simp only [Act.put, zqa, zqb, zqc]
 refine hK _ ?_
 clear hK K
 repeat (first | (refine Sched.walk1_no rfl rfl (fun K hK => ?_); simp only [Act.put, zqa, zqb, zqc]; refine hK _ ?_; clear hK K) | (refine Sched.walk1_gr rfl rfl rfl (fun K hK => ?_); apply Exists.intro; refine ⟨fun w1 hw1 => ?_, ?_⟩; (focus (go_simp; (try go_ints); (try (simp only [IntWalk.iteOmega]; go_simp)); first | done | fail | (with_reducible rfl) | (with_reducible exact ⟨rfl, rfl⟩))); simp only [Act.put, zqa, zqb, zqc]; refine hK _ ?_; clear hK K) | (refine Sched.walk1_pure rfl rfl rfl (fun K hK => ?_); apply Exists.intro; refine ⟨fun w1 => ?_, ?_⟩; (focus (go_simp; (try go_ints); (try (simp only [IntWalk.iteOmega]; go_simp)); first | done | (with_reducible rfl) | (with_reducible exact ⟨rfl, rfl⟩))); simp only [Act.put, zqa, zqb, zqc]; refine hK _ ?_; clear hK K) | (refine Sched.walk1_box rfl rfl ?_; apply Exists.intro; refine ⟨fun w1 hw1 => ?_, ?_⟩; (focus (go_simp; exact ⟨Gr.alloc _ _, rfl, by simp, heap_alloc_new _ _⟩))))
 refine Sched.walk1_gr rfl rfl rfl (fun K hK => ?_)
 refine ⟨HVal q, fun w1 hw1 => rng_gq (HK2.out w1 hw1) 49 _ rfl rfl Tryd.underlying49 rfl (by kernel_rfl), ?_⟩
 simp only [Act.put, zqa, zqb, zqc]
 refine hK _ ?_
 clear hK K
 repeat (first | (refine Sched.walk1_no rfl rfl (fun K hK => ?_); simp only [Act.put, zqa, zqb, zqc]; refine hK _ ?_; clear hK K) | (refine Sched.walk1_gr rfl rfl rfl (fun K hK => ?_); apply Exists.intro; refine ⟨fun w1 hw1 => ?_, ?_⟩; (focus (go_simp; (try go_ints); (try (simp only [IntWalk.iteOmega]; go_simp)); first | done | (go_at_call 71; (with_reducible exact same_is HU.out w1)) | (with_reducible rfl) | (with_reducible exact ⟨rfl, rfl⟩))); simp only [Act.put, zqa, zqb, zqc]; refine hK _ ?_; clear hK K) | (refine Sched.walk1_pure rfl rfl rfl (fun K hK => ?_); apply Exists.intro; refine ⟨fun w1 => ?_, ?_⟩; (focus (go_simp; (try go_ints); (try (simp only [IntWalk.iteOmega]; go_simp)); first | done | (with_reducible rfl) | (with_reducible exact ⟨rfl, rfl⟩))); simp only [Act.put, zqa, zqb, zqc]; refine hK _ ?_; clear hK K) | (refine Sched.walk1_box rfl rfl ?_; apply Exists.intro; refine ⟨fun w1 hw1 => ?_, ?_⟩; (focus (go_simp; exact ⟨Gr.alloc _ _, rfl, by simp, heap_alloc_new _ _⟩))))
 refine Sched.walk1_nil ?_
 intro wq hwq
 repeat (first | (refine Sched.walk2_no rfl (fun K hK => ?_); simp only [Act.put, zqa, zqb, zqc]; refine hK _ ?_; clear hK K) | (refine Sched.walk2_go rfl (fun K hK => ?_); go_simp; (try go_ints); (try (simp only [IntWalk.iteOmega]; go_simp)); first | (refine hK _ _ ?_; clear hK K) | fail))
 refine Sched.walk2_nil ?_
 have HGQ := zqd (HG1.out.trans hwq)
 clear s0 t0 s8 t8 hwq
 cases U
 · go_wp2_with fail
   go_ret
   exact ⟨ret_bool HF.out, HGQ.out⟩
 · go_wp2_with fail
   go_ret
   exact ⟨ret_bool HF.out, HGQ.out⟩
set_option maxRecDepth 20000 in
set_option maxHeartbeats 2000000 in
theorem indexS_any (a : Option Addr) (n c : Nat) (L : List Snd) (s : Snd) (g : Nat) (w : World) (hr : RdC w a n c L) (hL : ∀ t ∈ L, HasRef t) (hb : CBlk g 46 (SCells s) w) (hs : RdH w s.a s.n s.c s.refs) (h1 : HasRef s) (hm : n ≤ 1000000) :
   Calls Tryd.prog 98 #[.slice a n c, .func (Fn.func 70) #[] #[.pointer (some ⟨g, 0, none⟩)]] w fun e w' => (∃ i : Int, e = .returned (.int .i64 i) ∧ (decide (0 ≤ i) = L.any (likeB s))) ∧ Gr w w' := by
 have HC := zqd (fun (t : Snd) (u : World) (hu : Gr w u) (ht : RdH u t.a t.n t.c t.refs) (h2 : HasRef t) => alike_any s t g u (hb.kept hu) (hs.kept hu) ht h1 h2)
 obtain ⟨p, hp⟩ : ∃ p, likeB s = p := ⟨_, rfl⟩
 rw [hp] at HC ⊢
 have HR := zqd hr
 have HL := zqd hL
 clear hr hb hp hs h1 hL
 go_enter Tryd.func98, Tryd.ntmps98
 go_wp2_with fail
 go_loopw [8] (fun i wr => ∃ j : Nat, j ≤ n ∧ i = .int .i64 j ∧ (L.take j).any p = false ∧ Gr w wr) (fun i _ => n - (intOf i).toNat)
 case atStart => exact ⟨0, by omega, rfl, rfl, Gr.refl _⟩
 case round =>
   obtain ⟨j, hj, rfl, hno, hg⟩ := hrel
   have HG := zqd hg
   have HNO := zqd hno
   clear hg hno
   by_cases hlt : j < n
   · obtain ⟨x, hx, hrx⟩ := (HR.out.kept HG.out).get hlt
     obtain ⟨b, off, ea, -, hrow⟩ := (HR.out.kept HG.out).row (by omega)
     subst ea
     have HRG := zqd (hrow j x hx)
     have HX := zqd hx
     have HO := zqd hrx
     clear hrow hx hrx
     go_wp2_with (refine rng_load rfl 46 _ rfl b (off + j * 9) rfl (SCells x) HRG.out Tryd.underlying46 rfl (by kernel_rfl) ?_)
     refine (HC.out x wr HG.out HO.out (HL.out x (List.mem_of_getElem? HX.out))).mono ?_
     rintro e w2 ⟨rfl, hg2⟩
     have HG2 := zqd (HG.out.trans hg2)
     obtain ⟨V, hV⟩ : ∃ V, p x = V := ⟨_, rfl⟩
     have HV := zqd hV
     rw [hV]
     clear hV hg2
     cases V
     · go_wp2_with fail
       go_roundw
       case rel => exact ⟨j + 1, by omega, by go_num, by rw [any_step HX.out, HNO.out, HV.out]; rfl, HG2.out⟩
       case measure => (simp [intOf] <;> omega)
     · go_wp2_with fail
       go_ret
       exact ⟨⟨_, rfl, by rw [any_all HX.out HV.out]; simp⟩, HG2.out⟩
   · obtain rfl : j = n := by omega
     have hno := HNO.out
     rw [List.take_of_length_le (by rw [HR.out.1]; omega)] at hno
     have HNO2 := zqd hno
     clear hno
     go_wp2_with fail
     go_ret
     exact ⟨⟨_, rfl, by rw [HNO2.out]; rfl⟩, HG.out⟩
set_option maxRecDepth 20000 in
set_option maxHeartbeats 2000000 in
theorem containsS_any (a : Option Addr) (n c : Nat) (L : List Snd) (s : Snd) (g : Nat) (w : World) (hr : RdC w a n c L) (hL : ∀ t ∈ L, HasRef t) (hb : CBlk g 46 (SCells s) w) (hs : RdH w s.a s.n s.c s.refs) (h1 : HasRef s) (hm : n ≤ 1000000) :
   Calls Tryd.prog 72 #[.slice a n c, .func (Fn.func 70) #[] #[.pointer (some ⟨g, 0, none⟩)]] w fun e w' => e = .returned (.bool (L.any (likeB s))) ∧ Gr w w' := by
 obtain ⟨V, hV⟩ : ∃ V, L.any (likeB s) = V := ⟨_, rfl⟩
 have H := zqd (indexS_any a n c L s g w hr hL hb hs h1 hm)
 rw [hV] at H ⊢
 clear hr hb hV hL hs h1
 go_enter Tryd.func72, Tryd.ntmps72
 go_wp2_with fail
 refine H.out.mono ?_
 rintro e w1 ⟨⟨i, rfl, hi⟩, hg1⟩
 have HI := zqd hi
 have HG1 := zqd hg1
 clear hi hg1
 go_wp2_with fail
 go_ret
 exact ⟨ret_bool HI.out, HG1.out⟩
theorem ctx_has {mode width : Int} {s : Snd} (h : ctxB mode width s = true) : HasRef s := by
 intro ha
 unfold ctxB at h
 rw [if_pos ha, actB, Bool.and_eq_true, rngB, Bool.and_eq_true, decide_eq_true_eq] at h
 exact h.1.1
theorem okAt_at {mode width : Int} {L : List Snd} {i : Nat} {s : Snd} (h : L[i]? = some s) : okAt mode width L i = (ctxB mode width s && !((L.take i).any (likeB s))) := by
 unfold okAt; rw [h]
theorem ok_take {mode width : Int} {L : List Snd} {j : Nat} (h : ∀ i, i < j → okAt mode width L i = true) (hj : j ≤ L.length) : ∀ t ∈ L.take j, HasRef t := by
 intro t ht
 obtain ⟨i, hi⟩ := List.getElem?_of_mem ht
 have hl := lt_someG hi
 rw [List.length_take] at hl
 rw [List.getElem?_take_of_lt (by omega)] at hi
 have := h i (by omega)
 rw [okAt_at hi, Bool.and_eq_true] at this
 exact ctx_has this.1
theorem valid_no {mode width : Int} {L : List Snd} {i : Nat} (hi : i < L.length) (h : okAt mode width L i = false) : validC mode width L = false := by
 unfold validC
 rw [show (List.range L.length).all (okAt mode width L) = false from ?_]
 · simp
 · rw [List.all_eq_false]; exact ⟨i, by simp [hi], by rw [h]; simp⟩
theorem valid_yes {mode width : Int} {L : List Snd} (h1 : shapedB mode width = true) (h2 : L.length = 16) (h : ∀ i, i < L.length → okAt mode width L i = true) : validC mode width L = true := by
 unfold validC
 rw [h1, decide_eq_true h2, Bool.true_and, Bool.true_and, List.all_eq_true]
 intro i hi
 exact h i (by simpa using hi)
theorem shaped_yes {mode width : Int} (h : shapedB mode width = true) : 1 ≤ mode ∧ mode ≤ 3 ∧ 1 ≤ width ∧ width ≤ 8 := by simpa [shapedB] using h
theorem valid_parts {mode width : Int} {L : List Snd} (h : validC mode width L = true) : shapedB mode width = true ∧ L.length = 16 ∧ ∀ i, i < L.length → okAt mode width L i = true := by
 unfold validC at h
 simp only [Bool.and_eq_true, decide_eq_true_eq, List.all_eq_true, List.mem_range] at h
 exact h
def VRel (mode width : Int) (L : List Snd) (w : World) (i : Value) (wr : World) : Prop := ∃ j : Nat, j ≤ 16 ∧ i = .int .i64 j ∧ (∀ k, k < j → okAt mode width L k = true) ∧ Gr w wr
set_option maxHeartbeats 2000000 in
set_option maxRecDepth 100000 in
theorem cvalid_any (mode width : Int) (a : Option Addr) (n c : Nat) (L : List Snd) (w : World) (hr : RdC w a n c L) (hnm : n ≤ 9223372036854775807) : Calls Tryd.prog 44 #[CVal mode width a n c] w fun e w' => e = .returned (.bool (validC mode width L)) ∧ Gr w w' := by
 have HR := zqd hr
 have HN := zqd hr.1
 obtain ⟨R, hR⟩ : ∃ R, validC mode width L = R := ⟨_, rfl⟩
 rw [hR]
 have HRR := zqd hR
 clear hr hR
 obtain ⟨S, hS⟩ : ∃ S, shapedB mode width = S := ⟨_, rfl⟩
 have HS := zqd hS
 clear hS
 go_enter Tryd.func44, Tryd.ntmps44
 go_upto_region 1 with (fail)
 obtain ⟨w1, hw1⟩ : ∃ y, y = w.alloc (.cells #[.int .i64 mode, .int .i64 width, .slice a n c] 24) := ⟨_, rfl⟩
 have HB1 := zqd (show CBlk w.heap.size 24 [.int .i64 mode, .int .i64 width, .slice a n c] w1 by rw [hw1]; exact CBlk.new _ _ _)
 have HG1 := zqd (show Gr w w1 by rw [hw1]; exact Gr.alloc _ _)
 first | rw [← hw1] | (go_show; fail)
 clear hw1
 have x0 := HB1.out.at 0 rfl
 have x1 := HB1.out.at 1 rfl
 have x2 := HB1.out.at 2 rfl
 cases S
 · have HF := zqd (show false = R by rw [← HRR.out, validC, HS.out]; rfl)
   go_wp2_with (first | (go_at_call 68; ((with_reducible refine (shaped_is HS.out w1).mono ?_)); rintro e w' ⟨rfl, rfl⟩))
   go_ret
   exact ⟨ret_bool HF.out, HG1.out⟩
 by_cases h16 : n = 16
 rotate_left
 · have HF := zqd (show false = R by rw [← HRR.out, validC, HN.out, decide_eq_false h16]; simp)
   go_wp2_with (first | (go_at_call 68; ((with_reducible refine (shaped_is HS.out w1).mono ?_)); rintro e w' ⟨rfl, rfl⟩))
   go_ret
   exact ⟨ret_bool HF.out, HG1.out⟩
 subst h16
 obtain ⟨m1, m2, q1, q2⟩ := shaped_yes HS.out
 obtain ⟨b, off, ea, -, hrow⟩ := HR.out.row (by omega)
 have HROW := zqd hrow
 have hc16 : 16 ≤ c := HR.out.2.1
 have HR' := zqd (show RdC w (some ⟨b, off, none⟩) 16 c L by rw [← ea]; exact HR.out)
 subst ea
 clear hrow
 go_wp2_with (first | (go_at_call 68; ((with_reducible refine (shaped_is HS.out w1).mono ?_)); rintro e w' ⟨rfl, rfl⟩))
 go_loopw [21] (fun i wr => VRel mode width L w1 i wr) (fun i _ => 16 - (intOf i).toNat)
 case atStart => exact ⟨0, by omega, rfl, (fun k hk => by omega), Gr.refl _⟩
 case round =>
   obtain ⟨j, hj, rfl, hok, hg⟩ := hrel
   have HG := zqd hg
   have HOK := zqd hok
   clear hg hok
   by_cases hlt : j < 16
   · obtain ⟨s, hs, hrs⟩ := (HR'.out.kept (HG1.out.trans HG.out)).get hlt
     have HRG := zqd (range_gr (HROW.out j s hs) (HG1.out.trans HG.out))
     have HX := zqd hs
     have HXS := zqd hrs
     obtain ⟨V, hV⟩ : ∃ V, ctxB mode width s = V := ⟨_, rfl⟩
     have HV := zqd hV
     clear hs hrs hV x0 x1 x2
     go_upto_region 6 with (refine rng_load rfl 46 _ rfl b (off + j * 9) rfl (SCells s) HRG.out Tryd.underlying46 rfl (by kernel_rfl) ?_)
     obtain ⟨w2, hw2⟩ : ∃ y, y = wr.alloc (.cells (SCells s).toArray 46) := ⟨_, rfl⟩
     have HS2 := zqd (show CBlk wr.heap.size 46 (SCells s) w2 by rw [hw2]; exact CBlk.new _ _ _)
     have hg2 : Gr wr w2 := by rw [hw2]; exact Gr.alloc _ _
     simp only [SCells] at hw2
     first | rw [← hw2] | (go_show; fail)
     have HG2 := zqd (HG.out.trans hg2)
     have HB2 := zqd (HB1.out.kept (HG.out.trans hg2))
     have HXS2 := zqd (HXS.out.kept hg2)
     clear hw2 hg2 HRG
     have x0 := HB2.out.at 0 rfl
     have x1 := HB2.out.at 1 rfl
     have x2 := HB2.out.at 2 rfl
     go_wp2_with (refine cblk_load rfl 46 _ rfl wr.heap.size rfl HS2.out Tryd.underlying46 rfl (by kernel_rfl) ?_)
     refine (context_is HV.out w2 HXS2.out q1 q2).mono ?_
     rintro e w3 ⟨rfl, hg3⟩
     have HG3 := zqd (HG2.out.trans hg3)
     have HS3 := zqd (HS2.out.kept hg3)
     have HXS3 := zqd (HXS2.out.kept hg3)
     have HB3 := zqd (HB2.out.kept hg3)
     clear hg3 x0 x1 x2 HG2 HS2 HXS2 HB2
     cases V
     · have HF := zqd (show false = R by rw [← HRR.out, valid_no (i := j) (by rw [HN.out]; exact hlt) (by rw [okAt_at HX.out, HV.out]; rfl)])
       go_wp2_with fail
       go_ret
       exact ⟨ret_bool HF.out, HG1.out.trans HG3.out⟩
     · have x2 := HB3.out.at 2 rfl
       go_wp2_with fail
       refine (containsS_any _ j c (L.take j) s wr.heap.size w3 ((HR'.out.kept (HG1.out.trans HG3.out)).take j (by omega)) (ok_take HOK.out (by rw [HN.out]; omega)) HS3.out HXS3.out (ctx_has HV.out) (by omega)).mono ?_
       obtain ⟨Z, hZ⟩ : ∃ Z, (L.take j).any (likeB s) = Z := ⟨_, rfl⟩
       have HZ := zqd hZ
       rw [hZ]
       rintro e w4 ⟨rfl, hg4⟩
       have HG4 := zqd (HG3.out.trans hg4)
       clear hg4 x2 hZ
       cases Z
       · go_wp2_with fail
         go_roundw
         case rel =>
           refine ⟨j + 1, by omega, by go_num, fun k hk => ?_, HG4.out⟩
           by_cases hkj : k < j
           · exact HOK.out k hkj
           · obtain rfl : k = j := by omega
             rw [okAt_at HX.out, HV.out, HZ.out]; rfl
         case measure => (simp [intOf] <;> omega)
       · have HF := zqd (show false = R by rw [← HRR.out, valid_no (i := j) (by rw [HN.out]; exact hlt) (by rw [okAt_at HX.out, HV.out, HZ.out]; rfl)])
         go_wp2_with fail
         go_ret
         exact ⟨ret_bool HF.out, HG1.out.trans HG4.out⟩
   · obtain rfl : j = 16 := by omega
     have HF := zqd (show true = R by rw [← HRR.out, valid_yes HS.out HN.out (by rw [HN.out]; exact HOK.out)])
     go_wp2_with fail
     go_ret
     exact ⟨ret_bool HF.out, HG1.out.trans HG.out⟩
def FrRel (L : List Snd) (h : Hdr) (j : Nat) (f : Value) : Prop :=
 (∀ k t, k < j → L[k]? = some t → t.act = true → sameB (headS t) h = false) ∧
 ((f = .int .i64 (-1) ∧ ∀ k t, k < j → L[k]? = some t → t.act = true) ∨ ∃ (q : Nat) (s : Snd), q < j ∧ f = .int .i64 q ∧ L[q]? = some s ∧ s.act = false ∧ ∀ k t, k < q → L[k]? = some t → t.act = true)
def Found (L : List Snd) (h : Hdr) (j : Nat) : Prop := ∃ s, L[j]? = some s ∧ ((s.act = true ∧ sameB (headS s) h = true) ∨ (s.act = false ∧ (∀ k t, k < L.length → L[k]? = some t → t.act = true → sameB (headS t) h = false) ∧ ∀ k t, k < j → L[k]? = some t → t.act = true))
def FindPost (L : List Snd) (h : Hdr) (w : World) (e : Ending) (w' : World) : Prop := Gr w w' ∧ ((∃ j : Nat, e = .returned (.tuple #[.int .i64 j, .bool true]) ∧ Found L h j) ∨ (e = .returned (.tuple #[.int .i64 (-1), .bool false]) ∧ ∀ k t, k < L.length → L[k]? = some t → t.act = true))
set_option maxHeartbeats 2000000 in
set_option maxRecDepth 100000 in
theorem find_any (mode width : Int) (a : Option Addr) (n c : Nat) (L : List Snd) (h : Hdr) (w : World) (hr : RdC w a n c L) (hL : ∀ t ∈ L, HasRef t) (hn : n ≤ 1000) : Calls Tryd.prog 35 #[CVal mode width a n c, HVal h] w (FindPost L h w) := by
 have HR := zqd hr
 have HN := zqd hr.1
 have HL := zqd hL
 clear hr hL
 go_enter Tryd.func35, Tryd.ntmps35
 go_upto_region 1 with (fail)
 obtain ⟨w1, hw1⟩ : ∃ y, y = (w.alloc (.cells #[.int .i64 mode, .int .i64 width, .slice a n c] 24)).alloc (.cells (HCells h).toArray 49) := ⟨_, rfl⟩
 have hb1 : CBlk w.heap.size 24 [.int .i64 mode, .int .i64 width, .slice a n c] w1 := by rw [hw1]; exact (CBlk.new _ _ _).kept (Gr.alloc _ _)
 have hh1 : CBlk (w.heap.size + 1) 49 (HCells h) w1 := by rw [hw1]; exact heap_two _ _ _
 have hg1 : Gr w w1 := by rw [hw1]; exact (Gr.alloc _ _).trans (Gr.alloc _ _)
 simp only [HCells] at hw1
 first | rw [← hw1] | (go_show; fail)
 have HB1 := zqd hb1
 have HH1 := zqd hh1
 have HG1 := zqd hg1
 clear hw1 hb1 hh1 hg1
 go_wp2_with fail
 go_loopw [6, 7] (fun f i wr => ∃ j : Nat, j ≤ n ∧ i = .int .i64 j ∧ FrRel L h j f ∧ Gr w1 wr) (fun _ i _ => n - (intOf i).toNat)
 case atStart => exact ⟨0, by omega, rfl, ⟨fun k t hk => by omega, .inl ⟨rfl, fun k t hk => by omega⟩⟩, Gr.refl _⟩
 case round =>
   obtain ⟨j, hj, rfl, hfr, hg⟩ := hrel
   have HG := zqd hg
   obtain ⟨hf1, hf2⟩ := hfr
   have HF1 := zqd hf1
   have HF2 := zqd hf2
   have x2 := (HB1.out.kept hg).at 2 rfl
   clear hg hf1 hf2
   by_cases hlt : j < n
   · obtain ⟨s, hs, hrs⟩ := HR.out.get hlt
     obtain ⟨b, off, ea, -, hrow⟩ := HR.out.row (by omega)
     subst ea
     have hrg := hrow j s hs
     have HS := zqd hs
     obtain ⟨A, hA⟩ : ∃ A, s.act = A := ⟨_, rfl⟩
     have HA := zqd hA
     have s0 : wr.cell? ⟨b, off + j * 9, none⟩ = some (.bool A) := by rw [← hA]; exact (range_gr hrg (HG1.out.trans HG.out)) 0 _ rfl
     have HRG := zqd hrg
     have HRS := zqd hrs
     clear hs hrs hrow hrg hA
     cases A
     · rcases HF2.out with ⟨rfl, hall⟩ | ⟨q, s', hq, rfl, hq1, hq2, hq3⟩
       · have HALL := zqd hall
         clear hall
         go_wp2_with fail
         go_roundw
         case rel =>
           refine ⟨j + 1, by omega, by go_num, ⟨fun k t hk ht ha => ?_, .inr ⟨j, s, by omega, rfl, HS.out, HA.out, HALL.out⟩⟩, HG.out⟩
           by_cases hkj : k < j
           · exact HF1.out k t hkj ht ha
           · obtain rfl : k = j := by omega
             rw [HS.out] at ht; injection ht with ht; subst ht
             rw [HA.out] at ha; cases ha
         case measure => (simp [intOf] <;> omega)
       · have HQ1 := zqd hq1
         have HQ2 := zqd hq2
         have HQ3 := zqd hq3
         have hqb : decide ((q : Int) < 0) = false := decide_eq_false (by omega)
         clear hq1 hq2 hq3
         go_wp2_with fail
         go_roundw
         case rel =>
           refine ⟨j + 1, by omega, by go_num, ⟨fun k t hk ht ha => ?_, .inr ⟨q, s', by omega, rfl, HQ1.out, HQ2.out, HQ3.out⟩⟩, HG.out⟩
           by_cases hkj : k < j
           · exact HF1.out k t hkj ht ha
           · obtain rfl : k = j := by omega
             rw [HS.out] at ht; injection ht with ht; subst ht
             rw [HA.out] at ha; cases ha
         case measure => (simp [intOf] <;> omega)
     · have hrs := HRS.out
       have hn1 : 0 < s.n := by rw [← hrs.1]; exact HL.out s (List.mem_of_getElem? HS.out) HA.out
       obtain ⟨f, hf, -⟩ := hrs.get hn1
       obtain ⟨b1, o1, e1, -, r1⟩ := hrs.row hn1
       have k1 := r1 0 f hf
       rw [Nat.zero_mul, Nat.add_zero] at k1
       have HK1 := zqd (fun u (hu : Gr wr u) => range_gr k1 (HG1.out.trans (HG.out.trans hu)))
       have HHB := zqd (fun u (hu : Gr wr u) => (HH1.out.kept (HG.out.trans hu)).rng 0 (HCells h) (fun j v hv => by rw [Nat.zero_add]; exact hv))
       obtain ⟨U, hU⟩ : ∃ U, sameB f h = U := ⟨_, rfl⟩
       have HU := zqd hU
       have HUS := zqd (show sameB (headS s) h = U by rw [head_at hf, hU])
       have s8 : ∀ u, Gr wr u → u.cell? ⟨b, off + j * 9 + 8, none⟩ = some (.slice (some ⟨b1, o1, none⟩) s.n s.c) := fun u hu => by rw [← e1]; exact (range_gr HRG.out (HG1.out.trans (HG.out.trans hu))) 8 _ rfl
       have X2 := zqd (show ∀ u, Gr wr u → u.cell? ⟨w.heap.size, 2, none⟩ = some (.slice (some ⟨b, off, none⟩) n c) from fun u hu => (HB1.out.kept (HG.out.trans hu)).at 2 rfl)
       have hcap := HR.out.2.1
       clear hf r1 k1 hU e1 hrs
       go_upto_region 6 with (fail)
       clear x2 s0
       have x2 := X2.out
       refine Sched.wp_region_sched 9 [] [] (by kernel_rfl) (by kernel_rfl) ?_
       simp only [List.take_succ_cons, List.take_zero, List.drop_succ_cons, List.drop_zero]
       repeat (first | (refine Sched.walk1_no rfl rfl (fun K hK => ?_); simp only [Act.put, zqa, zqb, zqc]; refine hK _ ?_; clear hK K) | (refine Sched.walk1_gr rfl rfl rfl (fun K hK => ?_); apply Exists.intro; refine ⟨fun w1 hw1 => ?_, ?_⟩; (focus (go_simp; (try go_ints); (try (simp only [IntWalk.iteOmega]; go_simp)); first | done | fail | (with_reducible rfl) | (with_reducible exact ⟨rfl, rfl⟩))); simp only [Act.put, zqa, zqb, zqc]; refine hK _ ?_; clear hK K) | (refine Sched.walk1_pure rfl rfl rfl (fun K hK => ?_); apply Exists.intro; refine ⟨fun w1 => ?_, ?_⟩; (focus (go_simp; (try go_ints); (try (simp only [IntWalk.iteOmega]; go_simp)); first | done | (with_reducible rfl) | (with_reducible exact ⟨rfl, rfl⟩))); simp only [Act.put, zqa, zqb, zqc]; refine hK _ ?_; clear hK K) | (refine Sched.walk1_box rfl rfl ?_; apply Exists.intro; refine ⟨fun w1 hw1 => ?_, ?_⟩; (focus (go_simp; exact ⟨Gr.alloc _ _, rfl, by simp, heap_alloc_new _ _⟩))))
       refine Sched.walk1_gr rfl rfl rfl (fun K hK => ?_)
       refine ⟨HVal f, fun w1 hw1 => rng_gq (HK1.out w1 hw1) 49 _ rfl rfl Tryd.underlying49 rfl (by kernel_rfl), ?_⟩
       simp only [Act.put, zqa, zqb, zqc]
       refine hK _ ?_
       clear hK K
       refine Sched.walk1_gr rfl rfl rfl (fun K hK => ?_)
       refine ⟨HVal h, fun w1 hw1 => rng_gq (HHB.out w1 hw1) 49 _ rfl rfl Tryd.underlying49 rfl (by kernel_rfl), ?_⟩
       simp only [Act.put, zqa, zqb, zqc]
       refine hK _ ?_
       clear hK K
       (with_reducible refine Sched.walk1_nil ?_)
       intro wq hwq
       dsimp only [Sched.EndN, List.nil_append, List.cons_append, Act.put]
       (try simp only [zqa, zqb, zqc])
       repeat (first | (refine Sched.walk2_no rfl (fun K hK => ?_); simp only [Act.put, zqa, zqb, zqc]; refine hK _ ?_; clear hK K) | (refine Sched.walk2_go rfl (fun K hK => ?_); go_simp; (try go_ints); (try (simp only [IntWalk.iteOmega]; go_simp)); first | (refine hK _ _ ?_; clear hK K) | (go_at_call 50; (refine (rsame_is HU.out wq).mono ?_); rintro e w7 ⟨rfl, hg7⟩; have HG7 := zqd (HG.out.trans (hwq.trans hg7)); clear hg7; refine ⟨_, rfl, ?_⟩; refine hK _ _ ?_; clear hK K)))
       refine Sched.walk2_nil ?_
       clear x2 s8 hwq
       cases U
       · go_wp2_with fail
         go_roundw
         case rel =>
           refine ⟨j + 1, by omega, by go_num, ⟨fun k t hk ht ha => ?_, ?_⟩, HG7.out⟩
           · by_cases hkj : k < j
             · exact HF1.out k t hkj ht ha
             · obtain rfl : k = j := by omega
               rw [HS.out] at ht; injection ht with ht; subst ht
               exact HUS.out
           · rcases HF2.out with ⟨e, hall⟩ | ⟨q, s', hq, e, hq1, hq2, hq3⟩
             · refine .inl ⟨e, fun k t hk ht => ?_⟩
               by_cases hkj : k < j
               · exact hall k t hkj ht
               · obtain rfl : k = j := by omega
                 rw [HS.out] at ht; injection ht with ht; subst ht
                 exact HA.out
             · exact .inr ⟨q, s', by omega, e, hq1, hq2, hq3⟩
         case measure => (simp [intOf] <;> omega)
       · go_wp2_with fail
         go_ret2
         exact ⟨HG1.out.trans HG7.out, .inl ⟨j, rfl, s, HS.out, .inl ⟨HA.out, HUS.out⟩⟩⟩
   · obtain rfl : j = n := by omega
     rcases HF2.out with ⟨rfl, hall⟩ | ⟨q, s', hq, rfl, hq1, hq2, hq3⟩
     · have HALL := zqd hall
       clear hall
       go_wp2_with fail
       go_ret2
       exact ⟨HG1.out.trans HG.out, .inr ⟨rfl, by rw [HN.out]; exact HALL.out⟩⟩
     · have HQ1 := zqd hq1
       have HQ2 := zqd hq2
       have HQ3 := zqd hq3
       clear hq1 hq2 hq3
       go_wp2_with fail
       go_ret2
       exact ⟨HG1.out.trans HG.out, .inl ⟨q, rfl, s', HQ1.out, .inr ⟨HQ2.out, by rw [HN.out]; exact HF1.out, HQ3.out⟩⟩⟩
theorem rlearn_is {a b : Hdr} {S F : Int} (h1 : learnS a b = S) (h2 : learnF a b = F) (w : World) : Calls Tryd.prog 38 #[HVal a, HVal b] w fun e w' => e = .returned (DVal S F) ∧ Gr w w' := by
 subst h1; subst h2; exact rlearn_any a b w
theorem rpredict_is {s f n : Int} {a R : Hdr} (h : predH s f a n = R) (w : World) : Calls Tryd.prog 62 #[DVal s f, HVal a, .int .i64 n] w fun e w' => e = .returned (HVal R) ∧ Gr w w' := h ▸ rpredict_any s f a n w
theorem eqH_refl (a : Hdr) : eqH a a = true := by simp [eqH]
theorem cblk_smid {P : Program} {ops : Array Oper} {rest : List Oper} {o : Oper} {a : Act} {w : World} {Q : Exit → Act → World → Prop} (hgd : o.guard = none) (ty : TypeId) (x y : Operand) (ho : o.op = .store ty x y) (g off : Nat) (ds : List Value) {t : TypeId} {cs cs' : List Value} (hb : CBlk g t cs w) (hl : off + ds.length ≤ cs.length) (hs : setM cs off ds = cs')
   (hx : a.eval x = .pointer (some ⟨g, off, none⟩)) (hy : a.eval y = .agg ds.toArray) (hi : (P.info? ty).map (·.size) = some ds.toArray.size) (h1 : ds.all (·.oneCell') = true)
   (h : ∀ w9, CBlk g t cs' w9 → w.setCells g off ds = w9 → wpList P ops Q rest (a.put o.dst undef) w9) : wpList P ops Q (o :: rest) a w :=
 wpList_store_mid hgd ty x y ho g off ds.toArray hx hy (hb.there (by simpa using hl)) hi (all_oneCell_toArray (List.all_eq_true.1 h1)) (h _ (by
   have := heap_setCells ds off w cs hb
   unfold CBlk
   rw [this, hs]) rfl)
def begD (had : Bool) (last h : Hdr) : Int × Int := if had then (learnS last h, learnF last h) else (0, 0)
def begS (s : Snd) (last : Hdr) (had : Bool) (h : Hdr) : Snd := ⟨s.act, s.full, s.refr, s.n, s.since, s.long, (begD had last h).1, (begD had last h).2, s.a, s.n, s.c, s.refs⟩
def zeroS' : Snd := ⟨false, 0, 0, 0, 0, 0, 0, 0, none, 0, 0, []⟩
set_option maxHeartbeats 2000000 in
set_option maxRecDepth 100000 in
theorem begin_any (s : Snd) (last : Hdr) (had : Bool) (h : Hdr) (w : World) (_hn : s.n ≤ 1000) : Calls Tryd.prog 39 #[SVal s, HVal last, .bool had, HVal h] w fun e w' => e = .returned (SVal (begS s last had h)) ∧ Gr w w' := by
 go_enter Tryd.func39, Tryd.ntmps39
 go_upto_region 1 with (fail)
 obtain ⟨w0, hw0⟩ : ∃ y, y = ((w.alloc (.cells (SCells s).toArray 46)).alloc (.cells (HCells last).toArray 49)).alloc (.cells (HCells h).toArray 49) := ⟨_, rfl⟩
 obtain ⟨w1, hw1⟩ : ∃ y, y = w0.alloc (.cells (SCells zeroS').toArray 46) := ⟨_, rfl⟩
 have h3 := blocks3 w (.cells (SCells s).toArray 46) (.cells (HCells last).toArray 49) (.cells (HCells h).toArray 49)
 rw [← hw0] at h3
 have hg01 : Gr w0 w1 := by rw [hw1]; exact Gr.alloc _ _
 have hsz : w0.heap.size = w.heap.size + 1 + 1 + 1 := by rw [hw0]; simp
 have hs1 : CBlk w.heap.size 46 (SCells s) w1 := CBlk.kept h3.1 hg01
 have hl1 : CBlk (w.heap.size + 1) 49 (HCells last) w1 := CBlk.kept h3.2.1 hg01
 have hh1 : CBlk (w.heap.size + 1 + 1) 49 (HCells h) w1 := CBlk.kept h3.2.2 hg01
 have hz1 : CBlk (w.heap.size + 1 + 1 + 1) 46 (SCells zeroS') w1 := by rw [← hsz, hw1]; exact CBlk.new _ _ _
 have hg1 : Gr w w1 := by rw [hw0] at hg01; exact ((Gr.alloc _ _).trans ((Gr.alloc _ _).trans (Gr.alloc _ _))).trans hg01
 rw [hw0] at hw1
 simp only [SCells, HCells, zeroS'] at hw1
 first | rw [← hw1] | (go_show; fail)
 have HS1 := zqd hs1
 have HL1 := zqd hl1
 have HH1 := zqd hh1
 have HZ1 := zqd hz1
 have HG1 := zqd hg1
 have x8 : w1.cell? ⟨w.heap.size, 8, none⟩ = some (.slice s.a s.n s.c) := hs1.at 8 rfl
 have x3 : w1.cell? ⟨w.heap.size, 3, none⟩ = some (.int .i64 s.ser) := hs1.at 3 rfl
 have f3 := hs1.fz 3
 clear hw0 hw1 h3 hg01 hsz hs1 hl1 hh1 hz1 hg1
 have HS1' := zqd (show CBlk w.heap.size 46 (SCells ⟨s.act, s.full, s.refr, s.n, s.since, s.long, s.str, s.fol, s.a, s.n, s.c, s.refs⟩) (w1.setCell ⟨w.heap.size, 3, none⟩ (.int .i64 s.n)) from HS1.out.set 3 _ rfl)
 have hlt := HZ1.out.lt
 go_upto_region 2 with (refine cblk_smid (cs' := SCells ⟨s.act, s.full, s.refr, s.n, s.since, s.long, 0, 0, s.a, s.n, s.c, s.refs⟩) rfl 43 _ _ rfl w.heap.size 6 [.int .i64 0, .int .i64 0] HS1'.out (by simp) rfl rfl rfl (by kernel_rfl) rfl ?_; intro w2 hb2 he2; have HS2 := zqd hb2; have HE2 := zqd he2; clear hb2 he2)
 have hgr : w1.grownBy w2 (some w.heap.size) := by rw [← HE2.out]; exact grown_trans' (grown_setAt w1 _ _ _) (grown_setCells _ _ _ _)
 have HL2 := zqd (HL1.out.but hgr (by simp))
 have HH2 := zqd (HH1.out.but hgr (by simp; omega))
 have HZ2 := zqd (HZ1.out.but hgr (by simp; omega))
 have HG2 := zqd (show Gr w w2 by rw [← HE2.out]; exact gr_setCells (gr_setCell HG1.out (Nat.le_refl _) _ _) (Nat.le_refl _) _ _)
 clear x8 x3 f3 hgr HS1' HL1 HH1 HZ1 HE2
 cases had
 · have HRES := zqd (show begS s last false h = ⟨s.act, s.full, s.refr, s.n, s.since, s.long, 0, 0, s.a, s.n, s.c, s.refs⟩ from rfl)
   go_wp2_with (first | (refine cblk_load rfl 46 _ rfl w.heap.size rfl HS2.out Tryd.underlying46 rfl (by kernel_rfl) ?_) | (refine cblk_store rfl 46 _ _ rfl (w.heap.size + 1 + 1 + 1) (SCells ⟨s.act, s.full, s.refr, s.n, s.since, s.long, 0, 0, s.a, s.n, s.c, s.refs⟩) HZ2.out rfl rfl rfl (by kernel_rfl) rfl ?_; intro w9 hb9 he9; have HB9 := zqd hb9; have HGE := zqd (show Gr w w9 by rw [← he9]; exact gr_setCells HG2.out (by omega) _ _); clear hb9 he9))
   exact bodyPost_ret (results_c0 Tryd.results39 _ _ (w.heap.size + 1 + 1 + 1) _ _ rfl HB9.out Tryd.underlying46 rfl (by kernel_rfl)) rfl ⟨by rw [HRES.out], HGE.out⟩
 · obtain ⟨S, hS⟩ : ∃ S, learnS last h = S := ⟨_, rfl⟩
   obtain ⟨F, hF⟩ : ∃ F, learnF last h = F := ⟨_, rfl⟩
   have HSS := zqd hS
   have HFF := zqd hF
   have HRES := zqd (show begS s last true h = ⟨s.act, s.full, s.refr, s.n, s.since, s.long, S, F, s.a, s.n, s.c, s.refs⟩ by rw [begS, begD, if_pos rfl, hS, hF])
   clear hS hF
   go_wp2_with (first | (refine cblk_load rfl 49 _ rfl (w.heap.size + 1) rfl HL2.out Tryd.underlying49 rfl (by kernel_rfl) ?_) | (refine cblk_load rfl 49 _ rfl (w.heap.size + 1 + 1) rfl HH2.out Tryd.underlying49 rfl (by kernel_rfl) ?_))
   refine (rlearn_is HSS.out HFF.out w2).mono ?_
   rintro e w3 ⟨rfl, hg3⟩
   have HS3 := zqd (HS2.out.kept hg3)
   have HZ3 := zqd (HZ2.out.kept hg3)
   have HG3 := zqd (HG2.out.trans hg3)
   clear hg3
   go_upto_region 4 with (refine cblk_smid (cs' := SCells ⟨s.act, s.full, s.refr, s.n, s.since, s.long, S, F, s.a, s.n, s.c, s.refs⟩) rfl 43 _ _ rfl w.heap.size 6 [.int .i64 S, .int .i64 F] HS3.out (by simp) rfl rfl rfl (by kernel_rfl) rfl ?_; intro w4 hb4 he4; have HS4 := zqd hb4; have HE4 := zqd he4; clear hb4 he4)
   have HZ4 := zqd (show CBlk (w.heap.size + 1 + 1 + 1) 46 (SCells zeroS') w4 by rw [← HE4.out]; exact HZ3.out.puts _ _ (by omega))
   have HG4 := zqd (show Gr w w4 by rw [← HE4.out]; exact gr_setCells HG3.out (Nat.le_refl _) _ _)
   go_wp2_with (first | (refine cblk_load rfl 46 _ rfl w.heap.size rfl HS4.out Tryd.underlying46 rfl (by kernel_rfl) ?_) | (refine cblk_store rfl 46 _ _ rfl (w.heap.size + 1 + 1 + 1) (SCells ⟨s.act, s.full, s.refr, s.n, s.since, s.long, S, F, s.a, s.n, s.c, s.refs⟩) HZ4.out rfl rfl rfl (by kernel_rfl) rfl ?_; intro w9 hb9 he9; have HB9 := zqd hb9; have HGE := zqd (show Gr w w9 by rw [← he9]; exact gr_setCells HG4.out (by omega) _ _); clear hb9 he9))
   exact bodyPost_ret (results_c0 Tryd.results39 _ _ (w.heap.size + 1 + 1 + 1) _ _ rfl HB9.out Tryd.underlying46 rfl (by kernel_rfl)) rfl ⟨by rw [HRES.out], HGE.out⟩
end Go.Proofs.YtlnkofpcidngoaaDoor
