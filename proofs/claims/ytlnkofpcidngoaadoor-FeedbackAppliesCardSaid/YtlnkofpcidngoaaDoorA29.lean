/- Layer 9 (compressor): the reference's Valid, for every compressor. -/
import Derived.Test.YtlnkofpcidngoaaDoorA0
import Derived.Test.YtlnkofpcidngoaaDoorA16
namespace Go.Proofs.YtlnkofpcidngoaaDoor
open Go.ChangeShapes Go.WideShapes Go.ChangeAt Go.RowKit
theorem rcontext_at {mode width : Int} {a : Option Addr} {n c : Nat} {s : Snd} {V : Bool} (hV : ctxB mode width s = V) (w : World) (hr : RdH w s.a s.n s.c s.refs) (hw1 : 1 ≤ width) (hw8 : width ≤ 8) : Calls Tryd.prog 49 #[CVal mode width a n c, SVal s] w fun e w' => e = .returned (.bool V) ∧ Gr w w' := hV ▸ rcontext_any mode width a n c s w hr hw1 hw8
theorem likes_no {s : Snd} {L : List Snd} {j : Nat} (h : ∀ k t, k < j → L[k]? = some t → likeB s t = false) : (L.take j).any (likeB s) = false := by
 rw [List.any_eq_false]
 intro t ht
 obtain ⟨k, hk⟩ := List.getElem?_of_mem ht
 have hl := (List.getElem?_eq_some_iff.1 hk).1
 rw [List.length_take] at hl
 rw [List.getElem?_take_of_lt (by omega)] at hk
 simp [h k t (by omega) hk]
theorem likes_yes {s t : Snd} {L : List Snd} {j k : Nat} (hk : k < j) (ht : L[k]? = some t) (h : likeB s t = true) : (L.take j).any (likeB s) = true := by
 rw [List.any_eq_true]
 exact ⟨t, List.mem_of_getElem? (by rw [List.getElem?_take_of_lt hk]; exact ht), h⟩
def LRel (s : Snd) (L : List Snd) (j : Nat) (w : World) (i : Value) (wr : World) : Prop := ∃ k : Nat, k ≤ j ∧ i = .int .i64 k ∧ (∀ m t, m < k → L[m]? = some t → likeB s t = false) ∧ Gr w wr
theorem likes_step {s t : Snd} {L : List Snd} {k : Nat} (h : ∀ m u, m < k → L[m]? = some u → likeB s u = false) (ht : L[k]? = some t) (hl : likeB s t = false) : ∀ m u, m < k + 1 → L[m]? = some u → likeB s u = false := by
 intro m u hm hu
 by_cases he : m = k
 ·subst he; exact (Option.some.inj (ht.symm.trans hu)) ▸ hl
 ·exact h m u (by omega) hu
set_option maxHeartbeats 8000000 in
set_option maxRecDepth 100000 in
theorem rcvalid_any (mode width : Int) (a : Option Addr) (n c : Nat) (L : List Snd) (w : World) (hr : RdC w a n c L) (hnm : n ≤ 9223372036854775807) : Calls Tryd.prog 20 #[CVal mode width a n c] w fun e w' => e = .returned (.bool (validC mode width L)) ∧ Gr w w' := by
 have HR := zqd hr
 have HN := zqd hr.1
 obtain ⟨R, hR⟩ : ∃ R, validC mode width L = R := ⟨_, rfl⟩
 rw [hR]
 have HRR := zqd hR
 clear hr hR
 go_enter Tryd.func20, Tryd.ntmps20
 go_upto_region 1 with (fail)
 obtain ⟨w1, hw1⟩ : ∃ y, y = w.alloc (.cells #[.int .i64 mode, .int .i64 width, .slice a n c] 24) := ⟨_, rfl⟩
 have HB1 := zqd (show CBlk w.heap.size 24 [.int .i64 mode, .int .i64 width, .slice a n c] w1 by rw [hw1]; exact CBlk.new _ _ _)
 have HG1 := zqd (show Gr w w1 by rw [hw1]; exact Gr.alloc _ _)
 first | rw [← hw1] | (go_show; fail)
 clear hw1
 have x0 := HB1.out.at 0 rfl
 have x1 := HB1.out.at 1 rfl
 have x2 := HB1.out.at 2 rfl
 generalize CVal mode width a n c = V0
 by_cases hsh : (1 ≤ mode ∧ mode ≤ 3 ∧ 1 ≤ width ∧ width ≤ 8) ∧ n = 16
 rotate_left
 ·have HF := zqd (show false = R by
   rw [← HRR.out]
   refine (Bool.eq_false_iff.2 (fun h => hsh ?_)).symm
   obtain ⟨h1, h2, -⟩ := valid_parts h
   exact ⟨shaped_yes h1, by rw [← HN.out]; exact h2⟩)
  have hnot : mode < 1 ∨ 3 < mode ∨ width < 1 ∨ 8 < width ∨ (n : Int) ≠ 16 := by omega
  clear hsh
  go_wp2_with (first | go_values | go_skip | go_big_skip | go_big_want | go_big_guard)
  all_goals
   go_ret
   exact ⟨ret_bool HF.out, HG1.out⟩
 obtain ⟨⟨m1, m2, q1, q2⟩, rfl⟩ := hsh
 have HS := zqd (show shapedB mode width = true by simp [shapedB, m1, m2, q1, q2])
 obtain ⟨b, off, ea, -, hrow⟩ := HR.out.row (by omega)
 subst ea
 have HROW := zqd hrow
 have hc16 : 16 ≤ c := HR.out.2.1
 clear hrow
 have d1 : decide (mode < 1) = false := decide_eq_false (by omega)
 have d2 : decide (3 < mode) = false := decide_eq_false (by omega)
 have d3 : decide (width < 1) = false := decide_eq_false (by omega)
 have d4 : decide (8 < width) = false := decide_eq_false (by omega)
 go_wp2_with fail
 clear d1 d2 d3 d4 x0 x1 x2
 go_loopw [3] (fun i wr => VRel mode width L w1 i wr) (fun i _ => 16 - (intOf i).toNat)
 case atStart => exact ⟨0, by omega, rfl, (fun k hk => by omega), Gr.refl _⟩
 case round =>
  obtain ⟨j, hj, rfl, hok, hg⟩ := hrel
  have HG := zqd hg
  have HOK := zqd hok
  clear hg hok
  have x2 := (HB1.out.kept HG.out).at 2 rfl
  by_cases hlt : j < 16
  ·obtain ⟨s, hs, hrs⟩ := HR.out.get hlt
   obtain ⟨V, hV⟩ : ∃ V, ctxB mode width s = V := ⟨_, rfl⟩
   have HCX := zqd hV
   have HXS := zqd hrs
   have HXJ := zqd hs
   have hrg := HROW.out j s hs
   have HRG := zqd (fun u (hu : Gr wr u) => range_gr hrg (HG1.out.trans (HG.out.trans hu)))
   have HCB := zqd (fun u (hu : Gr wr u) => HB1.out.kept (HG.out.trans hu))
   clear hs hrs hV hrg
   go_upto_region 6 with (fail)
   clear x2
   have x2 : ∀ u, Gr wr u → u.cell? ⟨w.heap.size, 2, none⟩ = some (.slice (some ⟨b, off, none⟩) 16 c) := fun u hu => (HCB.out u hu).at 2 rfl
   refine Sched.wp_region_sched 7 [] [] (by kernel_rfl) (by kernel_rfl) ?_
   simp only [List.take_succ_cons, List.take_zero, List.drop_succ_cons, List.drop_zero]
   refine Sched.walk1_gr rfl rfl rfl (fun K hK => ?_)
   refine ⟨CVal mode width (some ⟨b, off, none⟩) 16 c, fun w1 hw1 => (HCB.out w1 hw1).load _ rfl rfl Tryd.underlying24 rfl (by kernel_rfl), ?_⟩
   simp only [Act.put, zqa, zqb, zqc]
   refine hK _ ?_
   clear hK K
   repeat (first | ((first | (refine Sched.walk1_no rfl rfl (fun K hK => ?_)) | (refine Sched.walk1_gr rfl rfl rfl (fun K hK => ?_); apply Exists.intro; refine ⟨fun w1 hw1 => ?_, ?_⟩; (focus (go_simp; (try go_ints); (try (simp only [IntWalk.iteOmega]; go_simp)); first | done | (with_reducible rfl) | (with_reducible exact ⟨rfl, rfl⟩))))); simp only [Act.put, zqa, zqb, zqc]; refine hK _ ?_; clear hK K))
   refine Sched.walk1_gr rfl rfl rfl (fun K hK => ?_)
   refine ⟨SVal s, fun w1 hw1 => rng_gq (HRG.out w1 hw1) 46 _ rfl rfl Tryd.underlying46 rfl (by kernel_rfl), ?_⟩
   simp only [Act.put, zqa, zqb, zqc]
   refine hK _ ?_
   clear hK K
   repeat (first | ((first | (refine Sched.walk1_no rfl rfl (fun K hK => ?_)) | (refine Sched.walk1_gr rfl rfl rfl (fun K hK => ?_); apply Exists.intro; refine ⟨fun w1 hw1 => ?_, ?_⟩; (focus (go_simp; (try go_ints); (try (simp only [IntWalk.iteOmega]; go_simp)); first | done | (go_at_call 49; (with_reducible exact rcontext_at HCX.out w1 (HXS.out.kept (HG1.out.trans (HG.out.trans hw1))) q1 q2)) | (with_reducible rfl) | (with_reducible exact ⟨rfl, rfl⟩))))); simp only [Act.put, zqa, zqb, zqc]; refine hK _ ?_; clear hK K))
   refine Sched.walk1_nil ?_
   intro wq hwq
   repeat (first | (refine Sched.walk2_no rfl (fun K hK => ?_); simp only [Act.put, zqa, zqb, zqc]; refine hK _ ?_; clear hK K) | (refine Sched.walk2_go rfl (fun K hK => ?_); go_simp; (try go_ints); (try (simp only [IntWalk.iteOmega]; go_simp)); (refine hK _ _ ?_; clear hK K)))
   refine Sched.walk2_nil ?_
   have HGQ := zqd (HG.out.trans hwq)
   clear x2 hwq HCB HRG
   cases V
   ·have HF := zqd (show false = R by rw [← HRR.out, valid_no (i := j) (by rw [HN.out]; exact hlt) (by rw [okAt_at HXJ.out, HCX.out]; rfl)])
    go_wp2_with fail
    go_ret
    exact ⟨ret_bool HF.out, HG1.out.trans HGQ.out⟩
   simp only [Bool.not_true]
   go_wp2_with fail
   go_loopw [4] (fun i wr => LRel s L j wq i wr) (fun i _ => j - (intOf i).toNat)
   case atStart => exact ⟨0, by omega, rfl, (fun m t hm => by omega), Gr.refl _⟩
   case round =>
    obtain ⟨k, hk, rfl, hlk, hg⟩ := hrel
    have HLK := zqd hlk
    have HG := zqd (HGQ.out.trans hg)
    have HGI := zqd hg
    clear hg hlk
    by_cases hltk : k < j
    ·obtain ⟨t, ht, hrt⟩ := HR.out.get (show k < 16 by omega)
     have hrg1 := HROW.out j s (by have := HXJ.out; exact this)
     have hrg2 := HROW.out k t ht
     have hct : ctxB mode width t = true := by
      have := HOK.out k hltk
      rw [okAt_at ht, Bool.and_eq_true] at this
      exact this.1
     obtain ⟨A, hA⟩ : ∃ A, s.act = A := ⟨_, rfl⟩
     obtain ⟨B, hB⟩ : ∃ B, t.act = B := ⟨_, rfl⟩
     have x2 : ∀ u, Gr wr u → u.cell? ⟨w.heap.size, 2, none⟩ = some (.slice (some ⟨b, off, none⟩) 16 c) := fun u hu => (HB1.out.kept (HG.out.trans hu)).at 2 rfl
     have sa : ∀ u, Gr wr u → u.cell? ⟨b, off + j * 9, none⟩ = some (.bool A) := fun u hu => by rw [← hA]; exact (range_gr hrg1 (HG1.out.trans (HG.out.trans hu))) 0 _ rfl
     have tb : ∀ u, Gr wr u → u.cell? ⟨b, off + k * 9, none⟩ = some (.bool B) := fun u hu => by rw [← hB]; exact (range_gr hrg2 (HG1.out.trans (HG.out.trans hu))) 0 _ rfl
     have HTK := zqd ht
     cases A
     ·have HNO := zqd (show likeB s t = false by rw [likeB, hA]; rfl)
      clear hA hB hct ht hrt hrg1 hrg2
      go_upto_region 11 with (fail)
      refine Sched.wp_region_sched 32 [] [] (by kernel_rfl) (by kernel_rfl) ?_
      simp only [List.take_succ_cons, List.take_zero, List.drop_succ_cons, List.drop_zero]
      repeat (first | ((first | ((with_reducible refine Sched.walk1_no ?_ ?_ (fun K hK => ?_)); (focus rfl); (focus rfl)) | ((with_reducible refine Sched.walk1_gr ?_ ?_ ?_ (fun K hK => ?_)); (focus rfl); (focus rfl); (focus rfl); apply Exists.intro; refine ⟨fun w1 hw1 => ?_, ?_⟩; (focus (go_simp; (try go_ints); (try (simp only [IntWalk.iteOmega]; go_simp)); first | done | (with_reducible rfl) | (with_reducible exact ⟨rfl, rfl⟩))))); simp only [Act.put, zqa, zqb, zqc]; refine hK _ ?_; clear hK K))
      (with_reducible refine Sched.walk1_nil ?_)
      intro wq hwq
      repeat (first | (refine Sched.walk2_no rfl (fun K hK => ?_); simp only [Act.put, zqa, zqb, zqc]; refine hK _ ?_; clear hK K) | (refine Sched.walk2_go rfl (fun K hK => ?_); go_simp; (try go_ints); (try (simp only [IntWalk.iteOmega]; go_simp)); (refine hK _ _ ?_; clear hK K)))
      refine Sched.walk2_nil ?_
      have HGQ2 := zqd (HGI.out.trans hwq)
      clear x2 sa tb hwq
      go_wp2_with fail
      go_roundw
      case rel => exact ⟨k + 1, by omega, by go_num, likes_step HLK.out HTK.out HNO.out, HGQ2.out⟩
      case measure => (simp [intOf] <;> omega)
     cases B
     ·have HNO := zqd (show likeB s t = false by rw [likeB, hB]; simp)
      clear hA hB hct ht hrt hrg1 hrg2
      go_upto_region 11 with (fail)
      refine Sched.wp_region_sched 32 [] [] (by kernel_rfl) (by kernel_rfl) ?_
      simp only [List.take_succ_cons, List.take_zero, List.drop_succ_cons, List.drop_zero]
      repeat (first | ((first | ((with_reducible refine Sched.walk1_no ?_ ?_ (fun K hK => ?_)); (focus rfl); (focus rfl)) | ((with_reducible refine Sched.walk1_gr ?_ ?_ ?_ (fun K hK => ?_)); (focus rfl); (focus rfl); (focus rfl); apply Exists.intro; refine ⟨fun w1 hw1 => ?_, ?_⟩; (focus (go_simp; (try go_ints); (try (simp only [IntWalk.iteOmega]; go_simp)); first | done | (with_reducible rfl) | (with_reducible exact ⟨rfl, rfl⟩))))); simp only [Act.put, zqa, zqb, zqc]; refine hK _ ?_; clear hK K))
      (with_reducible refine Sched.walk1_nil ?_)
      intro wq hwq
      repeat (first | (refine Sched.walk2_no rfl (fun K hK => ?_); simp only [Act.put, zqa, zqb, zqc]; refine hK _ ?_; clear hK K) | (refine Sched.walk2_go rfl (fun K hK => ?_); go_simp; (try go_ints); (try (simp only [IntWalk.iteOmega]; go_simp)); (refine hK _ _ ?_; clear hK K)))
      refine Sched.walk2_nil ?_
      have HGQ2 := zqd (HGI.out.trans hwq)
      clear x2 sa tb hwq
      go_wp2_with fail
      go_roundw
      case rel => exact ⟨k + 1, by omega, by go_num, likes_step HLK.out HTK.out HNO.out, HGQ2.out⟩
      case measure => (simp [intOf] <;> omega)
     have hrs := HXS.out
     have hn1 : 0 < s.n := by rw [← hrs.1]; exact ctx_has HCX.out hA
     have hn2 : 0 < t.n := by rw [← hrt.1]; exact ctx_has hct hB
     obtain ⟨f, hf, -⟩ := hrs.get hn1
     obtain ⟨q, hq, -⟩ := hrt.get hn2
     obtain ⟨b1, o1, e1, -, r1⟩ := hrs.row hn1
     obtain ⟨b2, o2, e2, -, r2⟩ := hrt.row hn2
     have k1 := r1 0 f hf
     have k2 := r2 0 q hq
     rw [Nat.zero_mul, Nat.add_zero] at k1 k2
     have HK1 := zqd (fun u (hu : Gr wr u) => range_gr k1 (HG1.out.trans (HG.out.trans hu)))
     have HK2 := zqd (fun u (hu : Gr wr u) => range_gr k2 (HG1.out.trans (HG.out.trans hu)))
     obtain ⟨U, hU⟩ : ∃ U, sameB f q = U := ⟨_, rfl⟩
     have HU := zqd hU
     have HLI := zqd (show likeB s t = U by rw [likeB, hA, hB, head_at hf, head_at hq, hU]; simp)
     have s8 : ∀ u, Gr wr u → u.cell? ⟨b, off + j * 9 + 8, none⟩ = some (.slice (some ⟨b1, o1, none⟩) s.n s.c) := fun u hu => by rw [← e1]; exact (range_gr hrg1 (HG1.out.trans (HG.out.trans hu))) 8 _ rfl
     have t8 : ∀ u, Gr wr u → u.cell? ⟨b, off + k * 9 + 8, none⟩ = some (.slice (some ⟨b2, o2, none⟩) t.n t.c) := fun u hu => by rw [← e2]; exact (range_gr hrg2 (HG1.out.trans (HG.out.trans hu))) 8 _ rfl
     clear hf hq r1 r2 k1 k2 e1 e2 hA hB hct ht hrt hrg1 hrg2 hrs hU
     go_upto_region 11 with (fail)
     refine Sched.wp_region_sched 32 [] [] (by kernel_rfl) (by kernel_rfl) ?_
     simp only [List.take_succ_cons, List.take_zero, List.drop_succ_cons, List.drop_zero]
     repeat (first | ((first | (refine Sched.walk1_no rfl rfl (fun K hK => ?_)) | (refine Sched.walk1_gr rfl rfl rfl (fun K hK => ?_); apply Exists.intro; refine ⟨fun w1 hw1 => ?_, ?_⟩; (focus (go_simp; (try go_ints); (try (simp only [IntWalk.iteOmega]; go_simp)); first | done | (with_reducible rfl) | (with_reducible exact ⟨rfl, rfl⟩))))); simp only [Act.put, zqa, zqb, zqc]; refine hK _ ?_; clear hK K))
     refine Sched.walk1_gr rfl rfl rfl (fun K hK => ?_)
     refine ⟨HVal f, fun w1 hw1 => rng_gq (HK1.out w1 hw1) 49 _ rfl rfl Tryd.underlying49 rfl (by kernel_rfl), ?_⟩
     simp only [Act.put, zqa, zqb, zqc]
     refine hK _ ?_
     clear hK K
     repeat (first | ((first | (refine Sched.walk1_no rfl rfl (fun K hK => ?_)) | (refine Sched.walk1_gr rfl rfl rfl (fun K hK => ?_); apply Exists.intro; refine ⟨fun w1 hw1 => ?_, ?_⟩; (focus (go_simp; (try go_ints); (try (simp only [IntWalk.iteOmega]; go_simp)); first | done | (with_reducible rfl) | (with_reducible exact ⟨rfl, rfl⟩))))); simp only [Act.put, zqa, zqb, zqc]; refine hK _ ?_; clear hK K))
     refine Sched.walk1_gr rfl rfl rfl (fun K hK => ?_)
     refine ⟨HVal q, fun w1 hw1 => rng_gq (HK2.out w1 hw1) 49 _ rfl rfl Tryd.underlying49 rfl (by kernel_rfl), ?_⟩
     simp only [Act.put, zqa, zqb, zqc]
     refine hK _ ?_
     clear hK K
     repeat (first | ((first | (refine Sched.walk1_no rfl rfl (fun K hK => ?_)) | (refine Sched.walk1_gr rfl rfl rfl (fun K hK => ?_); apply Exists.intro; refine ⟨fun w1 hw1 => ?_, ?_⟩; (focus (go_simp; (try go_ints); (try (simp only [IntWalk.iteOmega]; go_simp)); first | done | (go_at_call 50; (with_reducible exact rsame_is HU.out w1)) | (with_reducible rfl) | (with_reducible exact ⟨rfl, rfl⟩))))); simp only [Act.put, zqa, zqb, zqc]; refine hK _ ?_; clear hK K))
     (with_reducible refine Sched.walk1_nil ?_)
     intro wq2 hwq2
     repeat (first | (refine Sched.walk2_no rfl (fun K hK => ?_); simp only [Act.put, zqa, zqb, zqc]; refine hK _ ?_; clear hK K) | (refine Sched.walk2_go rfl (fun K hK => ?_); go_simp; (try go_ints); (try (simp only [IntWalk.iteOmega]; go_simp)); (refine hK _ _ ?_; clear hK K)))
     refine Sched.walk2_nil ?_
     have HGQ2 := zqd (HGI.out.trans hwq2)
     clear x2 sa tb s8 t8 hwq2
     cases U
     ·go_wp2_with fail
      go_roundw
      case rel => exact ⟨k + 1, by omega, by go_num, likes_step HLK.out HTK.out HLI.out, HGQ2.out⟩
      case measure => (simp [intOf] <;> omega)
     ·have HF := zqd (show false = R by rw [← HRR.out, valid_no (i := j) (by rw [HN.out]; exact hlt) (by rw [okAt_at HXJ.out, HCX.out, likes_yes hltk HTK.out HLI.out]; rfl)])
      go_wp2_with fail
      go_ret
      exact ⟨ret_bool HF.out, HG1.out.trans (HGQ.out.trans HGQ2.out)⟩
    ·obtain rfl : k = j := by omega
     go_wp2_with fail
     go_roundw
     case rel =>
      refine ⟨k + 1, by omega, by go_num, fun m hm => ?_, HG.out⟩
      by_cases hmj : m < k
      ·exact HOK.out m hmj
      ·obtain rfl : m = k := by omega
       rw [okAt_at HXJ.out, HCX.out, likes_no HLK.out]; rfl
     case measure => (simp [intOf] <;> omega)
  ·obtain rfl : j = 16 := by omega
   have HF := zqd (show true = R by rw [← HRR.out, valid_yes HS.out HN.out (by rw [HN.out]; exact HOK.out)])
   go_wp2_with fail
   go_ret
   exact ⟨ret_bool HF.out, HG1.out.trans HG.out⟩
end Go.Proofs.YtlnkofpcidngoaaDoor