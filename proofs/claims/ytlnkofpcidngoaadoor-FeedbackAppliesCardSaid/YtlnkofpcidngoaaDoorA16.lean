/- Layer 9 (compressor): the reference's context, for every context. -/
import Derived.Test.YtlnkofpcidngoaaDoorA0
import Derived.Test.YtlnkofpcidngoaaDoorA10
import Derived.Test.YtlnkofpcidngoaaDoorA7
import Derived.Test.YtlnkofpcidngoaaDoorA15
namespace Go.Proofs.YtlnkofpcidngoaaDoor
open Go.ChangeShapes Go.WideShapes Go.ChangeAt Go.RowKit
def OkN (mode width : Int) (s : Snd) : Prop := (0 ≤ s.full ∧ s.full ≤ width) ∧ (0 ≤ s.refr ∧ s.refr ≤ width) ∧ (s.full ≤ 0 ∨ s.refr ≤ 0) ∧ (0 ≤ s.since ∧ s.since ≤ 32) ∧ (0 ≤ s.long ∧ s.long ≤ 3) ∧ dynB s.str s.fol = true ∧ (1 ≤ s.n ∧ (s.n : Int) ≤ 32) ∧ (mode = 3 ∨ (s.n : Int) ≤ width) ∧ (0 ≤ s.ser ∧ s.ser ≤ s.n)
theorem act_iff {mode width : Int} {s : Snd} (hn : s.refs.length = s.n) (hw1 : 1 ≤ width) (hw8 : width ≤ 8) : actB mode width s = true ↔ OkN mode width s ∧ plainB s = true ∧ ∀ x ∈ s.refs, validH x = true ∧ sameB x (headS s) = true := by
 simp only [actB, rngB, inB, okRef, OkN, Bool.and_eq_true, decide_eq_true_eq, Bool.not_eq_true', Bool.and_eq_false_iff, decide_eq_false_iff_not, List.all_eq_true, hn]
 have hm : ((s.n : Int) ≤ most mode width) ↔ ((s.n : Int) ≤ 32 ∧ (mode = 3 ∨ (s.n : Int) ≤ width)) := by
  unfold most
  by_cases h : mode = 3
  ·rw [if_pos h]; simp [h]
  ·rw [if_neg h]
   constructor
   ·intro h2; exact ⟨by omega, .inr h2⟩
   ·rintro ⟨h1, h2⟩; exact h2.resolve_left h
 rw [hm]
 constructor
 ·rintro ⟨⟨h1, ⟨h2, h2'⟩, h3, h4, h5, h6⟩, h7, h8, h9, h10, h11⟩
  exact ⟨⟨h4, h5, by omega, h7, h8, h9, ⟨h1, h2⟩, h2', h3⟩, h10, h11⟩
 ·rintro ⟨⟨h4, h5, h6, h7, h8, h9, ⟨h1, h2⟩, h2', h3⟩, h10, h11⟩
  exact ⟨⟨h1, ⟨h2, h2'⟩, h3, h4, h5, by omega⟩, h7, h8, h9, h10, h11⟩
set_option maxHeartbeats 8000000 in
set_option maxRecDepth 100000 in
theorem rcontext_any (mode width : Int) (a : Option Addr) (n c : Nat) (s : Snd) (w : World) (hr : RdH w s.a s.n s.c s.refs) (hw1 : 1 ≤ width) (hw8 : width ≤ 8) : Calls Tryd.prog 49 #[CVal mode width a n c, SVal s] w fun e w' => e = .returned (.bool (ctxB mode width s)) ∧ Gr w w' := by
 have HR := zqd hr
 have HN := zqd hr.1
 have hnm : s.n ≤ 9223372036854775807 := by have := hr.2.2.1; have := hr.2.1; simp only [maxLen] at *; omega
 obtain ⟨A, hA⟩ : ∃ A, s.act = A := ⟨_, rfl⟩
 have HA := zqd hA
 have HW := zqd (And.intro hw1 hw8)
 clear hr hA hw1 hw8
 go_enter Tryd.func49, Tryd.ntmps49
 go_upto_region 1 with (fail)
 obtain ⟨w1, hw1⟩ : ∃ y, y = (w.alloc (.cells #[.int .i64 mode, .int .i64 width, .slice a n c] 24)).alloc (.cells (SCells s).toArray 46) := ⟨_, rfl⟩
 have hc1 : CBlk w.heap.size 24 [.int .i64 mode, .int .i64 width, .slice a n c] w1 := by rw [hw1]; exact (CBlk.new _ _ _).kept (Gr.alloc _ _)
 have hb1 : CBlk (w.heap.size + 1) 46 (SCells s) w1 := by rw [hw1]; exact heap_two _ _ _
 have HG1 := zqd (show Gr w w1 by rw [hw1]; exact (Gr.alloc _ _).trans (Gr.alloc _ _))
 simp only [SCells] at hw1
 first | rw [← hw1] | (go_show; fail)
 have HB1 := zqd hb1
 have HC1 := zqd hc1
 clear hw1 hb1 hc1
 have HD1 := zqd (snd_dyn HB1.out)
 have x0 : w1.cell? ⟨w.heap.size + 1, 0, none⟩ = some (.bool A) := by rw [← HA.out]; exact HB1.out.at 0 rfl
 have x1 : w1.cell? ⟨w.heap.size + 1, 1, none⟩ = some (.int .i64 s.full) := HB1.out.at 1 rfl
 have x2 : w1.cell? ⟨w.heap.size + 1, 2, none⟩ = some (.int .i64 s.refr) := HB1.out.at 2 rfl
 have x3 : w1.cell? ⟨w.heap.size + 1, 3, none⟩ = some (.int .i64 s.ser) := HB1.out.at 3 rfl
 have x4 : w1.cell? ⟨w.heap.size + 1, 4, none⟩ = some (.int .i64 s.since) := HB1.out.at 4 rfl
 have x5 : w1.cell? ⟨w.heap.size + 1, 5, none⟩ = some (.int .i64 s.long) := HB1.out.at 5 rfl
 have x8 : w1.cell? ⟨w.heap.size + 1, 8, none⟩ = some (.slice s.a s.n s.c) := HB1.out.at 8 rfl
 cases A
 ·have HE := zqd (show ctxB mode width s = emptyB s by rw [ctxB, HA.out, if_neg (by decide)])
  have heq : ∀ u, (binOp .eql 43 (DVal s.str s.fol) (DVal 0 0)).run Tryd.prog u = .ok (.bool (decide (s.str = 0) && decide (s.fol = 0))) u := fun u => by rw [run_eqD]
  go_wp2_with (first | (with_reducible refine at_load 43 ?_; refine rng_load rfl 43 _ rfl (w.heap.size + 1) 6 rfl [.int .i64 s.str, .int .i64 s.fol] HD1.out Tryd.underlying43 rfl (by kernel_rfl) ?_) | go_values | go_skip | go_big_skip | go_big_want | go_big_guard)
  all_goals
   clear heq x0 x1 x2 x3 x4 x5 x8
   go_ret
   refine ⟨ret_bool ?_, HG1.out⟩
   rw [HE.out, emptyB, HN.out]
   first | (rw [Bool.eq_iff_iff]; simp_all; done) | (simp_all; omega)
 ·obtain ⟨D, hD⟩ : ∃ D, dynB s.str s.fol = D := ⟨_, rfl⟩
  have HDY := zqd hD
  have z0 : w1.cell? ⟨w.heap.size, 0, none⟩ = some (.int .i64 mode) := HC1.out.at 0 rfl
  have z1 : w1.cell? ⟨w.heap.size, 1, none⟩ = some (.int .i64 width) := HC1.out.at 1 rfl
  clear hD
  generalize CVal mode width a n c = V0
  go_upto_region 4 with (fail)
  simp only [List.append_eq, List.cons_append, List.nil_append]
  go_cut [135] from 48 to 135 (fun v wc => ∃ B : Bool, v = .bool B ∧ Gr w1 wc ∧ (B = true → ¬ OkN mode width s) ∧ (B = false → OkN mode width s))
  case first =>
   go_wp2_with (first | (with_reducible refine at_load 43 ?_; refine rng_load rfl 43 _ rfl (w.heap.size + 1) 6 rfl [.int .i64 s.str, .int .i64 s.fol] HD1.out Tryd.underlying43 rfl (by kernel_rfl) ?_) | go_values | go_skip | go_big_skip | go_big_want | go_big_guard)
   any_goals
    with_reducible refine at_calls ?_
    refine (rdyn_is HDY.out w1).mono ?_
    rintro e w2 ⟨rfl, hg2⟩
    have y3 := hg2.cell x3
    have y0 := hg2.cell z0
    have y1 := hg2.cell z1
    have HG2 := zqd hg2
    clear x0 x1 x2 x3 x4 x5 x8 z0 z1 hg2
    go_wp2_with (first | go_values | go_skip | go_big_skip | go_big_want | go_big_guard)
   try any_goals (exfalso; omega)
   all_goals
    go_meet
    have hd := HDY.out
    refine ⟨_, rfl, by first | exact Gr.refl w1 | exact HG2.out, ?_, ?_⟩
    ·intro hb hk
     simp only [OkN, hd] at hk
     first | omega | (simp only [decide_eq_true_eq] at hb; omega) | (exfalso; simp_all; done)
    ·intro hb
     simp only [OkN, hd]
     first | (exfalso; simp only [Bool.true_eq_false] at hb; done) | (simp only [decide_eq_false_iff_not] at hb; simp_all; omega)
  case rest =>
   obtain ⟨B, rfl, hg2, hT, hF⟩ := hcut
   have HG2 := zqd (HG1.out.trans hg2)
   have HB2 := zqd (HB1.out.kept hg2)
   have HR2 := zqd (HR.out.kept (HG1.out.trans hg2))
   have HCT := zqd (show ctxB mode width s = actB mode width s by rw [ctxB, HA.out, if_pos rfl])
   have HIF := zqd (act_iff (mode := mode) HN.out HW.out.1 HW.out.2)
   clear x0 x1 x2 x3 x4 x5 x8 z0 z1 hg2
   cases B
   rotate_left
   ·have HF0 := zqd (show false = ctxB mode width s by rw [HCT.out]; exact (Bool.eq_false_iff.2 (fun h => hT rfl (HIF.out.1 h).1)).symm)
    clear hT hF
    go_wp2_with fail
    go_ret
    exact ⟨ret_bool HF0.out, HG2.out⟩
   have HOKN := zqd (hF rfl)
   have hn1 : 1 ≤ s.n := HOKN.out.2.2.2.2.2.2.1.1
   clear hT hF
   obtain ⟨f, hf, hfo⟩ := HR2.out.get (i := 0) (by omega)
   obtain ⟨b, off, ea, -, hrow⟩ := HR2.out.row (by omega)
   have HROW := zqd hrow
   have HFH := zqd (head_at hf)
   have HF0 := zqd hf
   have HEA := zqd ea
   clear hrow hf hfo ea
   go_wp2_with fail
   go_loopw [6] (fun i wr => ∃ j : Nat, j ≤ s.n ∧ i = .int .i64 j ∧ (∀ k x, k < j → s.refs[k]? = some x → validH x = true ∧ sameB x f = true) ∧ Gr wc wr) (fun i _ => s.n - (intOf i).toNat)
   case atStart => exact ⟨0, by omega, rfl, (fun k x hk => by omega), Gr.refl _⟩
   case round =>
    obtain ⟨j, hj, rfl, hall, hg⟩ := hrel
    have HG := zqd hg
    have HALL := zqd hall
    clear hg hall
    by_cases hlt : j < s.n
    ·obtain ⟨x, hx, -⟩ := HR2.out.get hlt
     obtain ⟨V, hV⟩ : ∃ V, validH x = V := ⟨_, rfl⟩
     obtain ⟨Sa, hS⟩ : ∃ Sa, sameB x f = Sa := ⟨_, rfl⟩
     have HV := zqd hV
     have HS := zqd hS
     have HXX := zqd hx
     have HX := zqd (fun u (hu : Gr wr u) => range_gr (HROW.out j x hx) (HG.out.trans hu))
     have hz := HROW.out 0 f HF0.out
     rw [Nat.zero_mul, Nat.add_zero] at hz
     have HZ := zqd (fun u (hu : Gr wr u) => range_gr hz (HG.out.trans hu))
     have x8 : ∀ u, Gr wr u → u.cell? ⟨w.heap.size + 1, 8, none⟩ = some (.slice (some ⟨b, off, none⟩) s.n s.c) := fun u hu => by rw [← HEA.out]; exact (HB2.out.kept (HG.out.trans hu)).at 8 rfl
     have HBAD := zqd (show (V && Sa) = false → false = ctxB mode width s from fun hbad => by
      rw [HCT.out]
      refine (Bool.eq_false_iff.2 (fun h => ?_)).symm
      have := (HIF.out.1 h).2.2 x (List.mem_of_getElem? HXX.out)
      rw [HFH.out, HV.out, HS.out] at this
      rw [this.1, this.2] at hbad
      cases hbad)
     clear hx hz hV hS
     go_upto_region 9 with (fail)
     cases V
     ·refine Sched.wp_region_sched 19 [] [] (by kernel_rfl) (by kernel_rfl) ?_
      simp only [List.take_succ_cons, List.take_zero, List.drop_succ_cons, List.drop_zero]
      repeat (first | ((first | ((with_reducible refine Sched.walk1_no ?_ ?_ (fun K hK => ?_)); (focus rfl); (focus rfl)) | ((with_reducible refine Sched.walk1_gr ?_ ?_ ?_ (fun K hK => ?_)); (focus rfl); (focus rfl); (focus rfl); apply Exists.intro; refine ⟨fun w1 hw1 => ?_, ?_⟩; (focus (go_simp; (try go_ints); (try (simp only [IntWalk.iteOmega]; go_simp)); first | done | (with_reducible rfl) | (with_reducible exact ⟨rfl, rfl⟩))))); simp only [Act.put, zqa, zqb, zqc]; refine hK _ ?_; clear hK K))
      refine Sched.walk1_gr rfl rfl rfl (fun K hK => ?_)
      refine ⟨HVal x, fun w1 hw1 => rng_gq (HX.out w1 hw1) 49 _ rfl rfl Tryd.underlying49 rfl (by kernel_rfl), ?_⟩
      simp only [Act.put, zqa, zqb, zqc]
      refine hK _ ?_
      clear hK K
      repeat (first | ((first | ((with_reducible refine Sched.walk1_no ?_ ?_ (fun K hK => ?_)); (focus rfl); (focus rfl)) | ((with_reducible refine Sched.walk1_gr ?_ ?_ ?_ (fun K hK => ?_)); (focus rfl); (focus rfl); (focus rfl); apply Exists.intro; refine ⟨fun w1 hw1 => ?_, ?_⟩; (focus (go_simp; (try go_ints); (try (simp only [IntWalk.iteOmega]; go_simp)); first | done | (go_at_call 60; (with_reducible exact rvalid_is HV.out w1)) | (with_reducible rfl) | (with_reducible exact ⟨rfl, rfl⟩))))); simp only [Act.put, zqa, zqb, zqc]; refine hK _ ?_; clear hK K))
      refine Sched.walk1_nil ?_
      intro wq hwq
      repeat (first | (refine Sched.walk2_no rfl (fun K hK => ?_); simp only [Act.put, zqa, zqb, zqc]; refine hK _ ?_; clear hK K) | (refine Sched.walk2_go rfl (fun K hK => ?_); go_simp; (try go_ints); (try (simp only [IntWalk.iteOmega]; go_simp)); (refine hK _ _ ?_; clear hK K)))
      refine Sched.walk2_nil ?_
      have HGQ := zqd (HG.out.trans hwq)
      clear x8 hwq
      go_wp2_with fail
      go_ret
      exact ⟨ret_bool (HBAD.out rfl), HG2.out.trans HGQ.out⟩
     ·refine Sched.wp_region_sched 19 [] [] (by kernel_rfl) (by kernel_rfl) ?_
      simp only [List.take_succ_cons, List.take_zero, List.drop_succ_cons, List.drop_zero]
      repeat (first | ((first | (refine Sched.walk1_no rfl rfl (fun K hK => ?_)) | (refine Sched.walk1_gr rfl rfl rfl (fun K hK => ?_); apply Exists.intro; refine ⟨fun w1 hw1 => ?_, ?_⟩; (focus (go_simp; (try go_ints); (try (simp only [IntWalk.iteOmega]; go_simp)); first | done | (with_reducible rfl) | (with_reducible exact ⟨rfl, rfl⟩))))); simp only [Act.put, zqa, zqb, zqc]; refine hK _ ?_; clear hK K))
      refine Sched.walk1_gr rfl rfl rfl (fun K hK => ?_)
      refine ⟨HVal x, fun w1 hw1 => rng_gq (HX.out w1 hw1) 49 _ rfl rfl Tryd.underlying49 rfl (by kernel_rfl), ?_⟩
      simp only [Act.put, zqa, zqb, zqc]
      refine hK _ ?_
      clear hK K
      repeat (first | ((first | (refine Sched.walk1_no rfl rfl (fun K hK => ?_)) | (refine Sched.walk1_gr rfl rfl rfl (fun K hK => ?_); apply Exists.intro; refine ⟨fun w1 hw1 => ?_, ?_⟩; (focus (go_simp; (try go_ints); (try (simp only [IntWalk.iteOmega]; go_simp)); first | done | (go_at_call 60; (with_reducible exact rvalid_is HV.out w1)) | (with_reducible rfl) | (with_reducible exact ⟨rfl, rfl⟩))))); simp only [Act.put, zqa, zqb, zqc]; refine hK _ ?_; clear hK K))
      refine Sched.walk1_gr rfl rfl rfl (fun K hK => ?_)
      refine ⟨HVal x, fun w1 hw1 => rng_gq (HX.out w1 hw1) 49 _ rfl rfl Tryd.underlying49 rfl (by kernel_rfl), ?_⟩
      simp only [Act.put, zqa, zqb, zqc]
      refine hK _ ?_
      clear hK K
      repeat (first | ((first | (refine Sched.walk1_no rfl rfl (fun K hK => ?_)) | (refine Sched.walk1_gr rfl rfl rfl (fun K hK => ?_); apply Exists.intro; refine ⟨fun w1 hw1 => ?_, ?_⟩; (focus (go_simp; (try go_ints); (try (simp only [IntWalk.iteOmega]; go_simp)); first | done | (with_reducible rfl) | (with_reducible exact ⟨rfl, rfl⟩))))); simp only [Act.put, zqa, zqb, zqc]; refine hK _ ?_; clear hK K))
      refine Sched.walk1_gr rfl rfl rfl (fun K hK => ?_)
      refine ⟨HVal f, fun w1 hw1 => rng_gq (HZ.out w1 hw1) 49 _ rfl rfl Tryd.underlying49 rfl (by kernel_rfl), ?_⟩
      simp only [Act.put, zqa, zqb, zqc]
      refine hK _ ?_
      clear hK K
      repeat (first | ((first | (refine Sched.walk1_no rfl rfl (fun K hK => ?_)) | (refine Sched.walk1_gr rfl rfl rfl (fun K hK => ?_); apply Exists.intro; refine ⟨fun w1 hw1 => ?_, ?_⟩; (focus (go_simp; (try go_ints); (try (simp only [IntWalk.iteOmega]; go_simp)); first | done | (go_at_call 50; (with_reducible exact rsame_is HS.out w1)) | (with_reducible rfl) | (with_reducible exact ⟨rfl, rfl⟩))))); simp only [Act.put, zqa, zqb, zqc]; refine hK _ ?_; clear hK K))
      refine Sched.walk1_nil ?_
      intro wq hwq
      repeat (first | (refine Sched.walk2_no rfl (fun K hK => ?_); simp only [Act.put, zqa, zqb, zqc]; refine hK _ ?_; clear hK K) | (refine Sched.walk2_go rfl (fun K hK => ?_); go_simp; (try go_ints); (try (simp only [IntWalk.iteOmega]; go_simp)); (refine hK _ _ ?_; clear hK K)))
      refine Sched.walk2_nil ?_
      have HGQ := zqd (HG.out.trans hwq)
      clear x8 hwq
      cases Sa
      ·go_wp2_with fail
       go_ret
       exact ⟨ret_bool (HBAD.out rfl), HG2.out.trans HGQ.out⟩
      ·go_wp2_with fail
       go_roundw
       case rel => exact ⟨j + 1, by omega, by go_num, (fun k y hk hy => by
        by_cases he : k = j
        ·subst he
         have : x = y := Option.some.inj (HXX.out.symm.trans hy)
         exact this ▸ ⟨HV.out, HS.out⟩
        ·exact HALL.out k y (by omega) hy), HGQ.out⟩
       case measure => (simp [intOf] <;> omega)
    ·obtain rfl : j = s.n := by omega
     have hz := HROW.out 0 f HF0.out
     rw [Nat.zero_mul, Nat.add_zero] at hz
     have k0 : wr.cell? ⟨b, off, none⟩ = some (.int .i64 f.kind) := (range_gr hz HG.out) 0 _ rfl
     have x8 : wr.cell? ⟨w.heap.size + 1, 8, none⟩ = some (.slice (some ⟨b, off, none⟩) s.n s.c) := by rw [← HEA.out]; exact (HB2.out.kept HG.out).at 8 rfl
     have HD2 := zqd (snd_dyn (HB2.out.kept HG.out))
     clear hz
     obtain ⟨K, hK⟩ : ∃ K, (f.kind == 2) = K := ⟨_, rfl⟩
     have HPL := zqd (show plainB s = (K || (decide (s.str = 0) && decide (s.fol = 0))) by
      rw [plainB, HFH.out, ← hK]; congr 1)
     have HEND := zqd (show plainB s = ctxB mode width s by
      rw [HCT.out, Bool.eq_iff_iff, HIF.out]
      refine ⟨fun h => ⟨HOKN.out, h, fun x hx => ?_⟩, fun h => h.2.1⟩
      obtain ⟨k, hk⟩ := List.getElem?_of_mem hx
      have hlt2 : k < s.n := by
       have := (List.getElem?_eq_some_iff.1 hk).1
       rw [← HN.out]; exact this
      rw [HFH.out]
      exact HALL.out k x hlt2 hk)
     have heq : ∀ u, (binOp .eql 43 (DVal s.str s.fol) (DVal 0 0)).run Tryd.prog u = .ok (.bool (decide (s.str = 0) && decide (s.fol = 0))) u := fun u => by rw [run_eqD]
     cases K
     ·go_wp2_with (with_reducible refine at_load 43 ?_; refine rng_load rfl 43 _ rfl (w.heap.size + 1) 6 rfl [.int .i64 s.str, .int .i64 s.fol] HD2.out Tryd.underlying43 rfl (by kernel_rfl) ?_)
      go_ret
      exact ⟨ret_bool (by rw [← HEND.out, HPL.out]; rfl), HG2.out.trans HG.out⟩
     ·go_wp2_with fail
      go_ret
      exact ⟨ret_bool (by rw [← HEND.out, HPL.out]; rfl), HG2.out.trans HG.out⟩
end Go.Proofs.YtlnkofpcidngoaaDoor