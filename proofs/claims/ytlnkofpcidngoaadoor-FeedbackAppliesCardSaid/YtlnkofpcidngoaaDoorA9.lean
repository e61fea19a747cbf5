/- Layer 9 (compressor): the program's context. -/
import Derived.Test.YtlnkofpcidngoaaDoorA0
import Derived.Test.YtlnkofpcidngoaaDoorA8
import Derived.Deep.CutRange
namespace Go.Proofs.YtlnkofpcidngoaaDoor
open Go.ChangeShapes Go.WideShapes Go.ChangeAt Go.RowKit
theorem not_any {s : Snd} : (s.refs.any fun h => !(validH h && sameB h (headS s))) = !(s.refs.all (okRef s)) := by
 rw [List.not_all_eq_any_not]; rfl
theorem head_at {s : Snd} {f : Hdr} (h : s.refs[0]? = some f) : headS s = f := by
 unfold headS
 cases hr : s.refs with
 | nil => rw [hr] at h; cases h
 | cons x l => rw [hr] at h; simpa using h
set_option maxHeartbeats 2000000 in
set_option maxRecDepth 100000 in
theorem context_any (mode width : Int) (s : Snd) (w : World) (hr : RdH w s.a s.n s.c s.refs) (hw1 : 1 ≤ width) (hw8 : width ≤ 8) : Calls Tryd.prog 69 #[SVal s, .int .i64 mode, .int .i64 width] w fun e w' => e = .returned (.bool (ctxB mode width s)) ∧ Gr w w' := by
 have HR := zqd hr
 have HN := zqd hr.1
 have hnm : s.n ≤ 9223372036854775807 := by have := hr.2.2.1; have := hr.2.1; simp only [maxLen] at *; omega
 obtain ⟨A, hA⟩ : ∃ A, s.act = A := ⟨_, rfl⟩
 have HA := zqd hA
 obtain ⟨R, hR⟩ : ∃ R, ctxB mode width s = R := ⟨_, rfl⟩
 rw [hR]
 have HRR := zqd hR
 clear hr hA hR
 go_enter Tryd.func69, Tryd.ntmps69
 go_upto_region 1 with (fail)
 obtain ⟨w1, hw1⟩ : ∃ y, y = w.alloc (.cells (SCells s).toArray 46) := ⟨_, rfl⟩
 have HB1 := zqd (show CBlk w.heap.size 46 (SCells s) w1 by rw [hw1]; exact CBlk.new _ _ _)
 have HG1 := zqd (show Gr w w1 by rw [hw1]; exact Gr.alloc _ _)
 simp only [SCells] at hw1
 first | rw [← hw1] | (go_show; fail)
 clear hw1
 have x0 : w1.cell? ⟨w.heap.size, 0, none⟩ = some (.bool A) := by rw [← HA.out]; exact HB1.out.at 0 rfl
 cases A
 ·obtain ⟨E, hE⟩ : ∃ E, emptyB s = E := ⟨_, rfl⟩
  have HE := zqd hE
  have HRE := zqd (show E = R by rw [← HRR.out, ctxB, HA.out, if_neg (by decide), hE])
  clear hE
  go_wp2_with (refine cblk_load rfl 46 _ rfl w.heap.size rfl HB1.out Tryd.underlying46 rfl (by kernel_rfl) ?_)
  refine (empty_is HE.out w1 ⟨HN.out.symm, by rw [HN.out]; exact hnm⟩).mono ?_
  rintro e w2 ⟨rfl, hg2⟩
  have HG2 := zqd (HG1.out.trans hg2)
  clear hg2
  go_wp2_with fail
  go_ret
  exact ⟨ret_bool HRE.out, HG2.out⟩
 ·have HRA := zqd (show actB mode width s = R by rw [← HRR.out, ctxB, HA.out, if_pos rfl])
  obtain ⟨M, hM⟩ : ∃ M, most mode width = M := ⟨_, rfl⟩
  have HM := zqd hM
  have hM32 : M ≤ 32 := by rw [← hM]; unfold most; split <;> omega
  clear hM
  obtain ⟨D, hD⟩ : ∃ D, (mode == 3) = D := ⟨_, rfl⟩
  have HD := zqd hD
  go_upto_if 19 with (fail)
  clear hD
  go_cut [7] from 20 (fun v wc => v = .int .i64 M ∧ w1 = wc)
  case first =>
   cases D
   ·have hm3 : M = width := by rw [← HM.out, most, if_neg (by simpa using HD.out)]
    subst hm3
    go_wp2_with fail
    go_meet
    exact ⟨rfl, rfl⟩
   ·have hm3 : M = 32 := by rw [← HM.out, most, if_pos (by simpa using HD.out)]
    subst hm3
    go_wp2_with fail
    go_meet
    exact ⟨rfl, rfl⟩
  case rest =>
   obtain ⟨rfl, rfl⟩ := hcut
   have x8 : w1.cell? ⟨w.heap.size, 8, none⟩ = some (.slice s.a s.n s.c) := HB1.out.at 8 rfl
   have x1 : w1.cell? ⟨w.heap.size, 1, none⟩ = some (.int .i64 s.full) := HB1.out.at 1 rfl
   have x2 : w1.cell? ⟨w.heap.size, 2, none⟩ = some (.int .i64 s.refr) := HB1.out.at 2 rfl
   have x3 : w1.cell? ⟨w.heap.size, 3, none⟩ = some (.int .i64 s.ser) := HB1.out.at 3 rfl
   go_upto_region 7 with (fail)
   obtain ⟨Q, hQ⟩ : ∃ Q, rngB mode width s = Q := ⟨_, rfl⟩
   have HQ := zqd hQ
   clear hQ
   obtain ⟨B1, e1⟩ : ∃ z, inB s.ser s.n = z := ⟨_, rfl⟩
   obtain ⟨B2, e2⟩ : ∃ z, inB s.full width = z := ⟨_, rfl⟩
   obtain ⟨B3, e3⟩ : ∃ z, inB s.refr width = z := ⟨_, rfl⟩
   have E1 := zqd e1
   have E2 := zqd e2
   have E3 := zqd e3
   have HQE := zqd (show Q = (decide (1 ≤ s.n) && (decide ((s.n : Int) ≤ M) && (B1 && (B2 && (B3 && !(decide (0 < s.full) && decide (0 < s.refr))))))) by
    rw [← HQ.out, rngB, HN.out, HM.out, e1, e2, e3])
   clear e1 e2 e3
   go_cut [60] from 23 to 60 (fun v wc => v = .bool (!Q) ∧ w1 = wc)
   case first =>
    by_cases h1 : 1 ≤ s.n
    rotate_left
    ·have hq : Q = false := (by rw [HQE.out, decide_eq_false (by omega)]; rfl)
     subst hq
     go_wp2_with (first | (go_at_call 92; ((with_reducible refine (bounded_is E1.out w1).mono ?_)); rintro e w' ⟨rfl, rfl⟩) | (go_at_call 92; ((with_reducible refine (bounded_is E2.out w1).mono ?_)); rintro e w' ⟨rfl, rfl⟩) | (go_at_call 92; ((with_reducible refine (bounded_is E3.out w1).mono ?_)); rintro e w' ⟨rfl, rfl⟩))
     go_meet
     exact ⟨rfl, rfl⟩
    by_cases h2 : (s.n : Int) ≤ M
    rotate_left
    ·have hq : Q = false := (by rw [HQE.out, decide_eq_false (show ¬ (s.n : Int) ≤ M by omega)]; simp)
     subst hq
     go_wp2_with (first | (go_at_call 92; ((with_reducible refine (bounded_is E1.out w1).mono ?_)); rintro e w' ⟨rfl, rfl⟩) | (go_at_call 92; ((with_reducible refine (bounded_is E2.out w1).mono ?_)); rintro e w' ⟨rfl, rfl⟩) | (go_at_call 92; ((with_reducible refine (bounded_is E3.out w1).mono ?_)); rintro e w' ⟨rfl, rfl⟩))
     go_meet
     exact ⟨rfl, rfl⟩
    cases B1
    ·have hq : Q = false := (by rw [HQE.out]; simp)
     subst hq
     go_wp2_with (first | (go_at_call 92; ((with_reducible refine (bounded_is E1.out w1).mono ?_)); rintro e w' ⟨rfl, rfl⟩) | (go_at_call 92; ((with_reducible refine (bounded_is E2.out w1).mono ?_)); rintro e w' ⟨rfl, rfl⟩) | (go_at_call 92; ((with_reducible refine (bounded_is E3.out w1).mono ?_)); rintro e w' ⟨rfl, rfl⟩))
     go_meet
     exact ⟨rfl, rfl⟩
    cases B2
    ·have hq : Q = false := (by rw [HQE.out]; simp)
     subst hq
     go_wp2_with (first | (go_at_call 92; ((with_reducible refine (bounded_is E1.out w1).mono ?_)); rintro e w' ⟨rfl, rfl⟩) | (go_at_call 92; ((with_reducible refine (bounded_is E2.out w1).mono ?_)); rintro e w' ⟨rfl, rfl⟩) | (go_at_call 92; ((with_reducible refine (bounded_is E3.out w1).mono ?_)); rintro e w' ⟨rfl, rfl⟩))
     go_meet
     exact ⟨rfl, rfl⟩
    cases B3
    ·have hq : Q = false := (by rw [HQE.out]; simp)
     subst hq
     go_wp2_with (first | (go_at_call 92; ((with_reducible refine (bounded_is E1.out w1).mono ?_)); rintro e w' ⟨rfl, rfl⟩) | (go_at_call 92; ((with_reducible refine (bounded_is E2.out w1).mono ?_)); rintro e w' ⟨rfl, rfl⟩) | (go_at_call 92; ((with_reducible refine (bounded_is E3.out w1).mono ?_)); rintro e w' ⟨rfl, rfl⟩))
     go_meet
     exact ⟨rfl, rfl⟩
    by_cases h6 : 0 < s.full
    ·by_cases h7 : 0 < s.refr
     ·have hq : Q = false := (by rw [HQE.out, decide_eq_true h6, decide_eq_true h7]; simp)
      subst hq
      go_wp2_with (first | (go_at_call 92; ((with_reducible refine (bounded_is E1.out w1).mono ?_)); rintro e w' ⟨rfl, rfl⟩) | (go_at_call 92; ((with_reducible refine (bounded_is E2.out w1).mono ?_)); rintro e w' ⟨rfl, rfl⟩) | (go_at_call 92; ((with_reducible refine (bounded_is E3.out w1).mono ?_)); rintro e w' ⟨rfl, rfl⟩))
      go_meet
      exact ⟨rfl, rfl⟩
     ·have hq : Q = true := (by rw [HQE.out, decide_eq_true h1, decide_eq_true h2, decide_eq_false (show ¬ 0 < s.refr by omega)]; simp)
      subst hq
      go_wp2_with (first | (go_at_call 92; ((with_reducible refine (bounded_is E1.out w1).mono ?_)); rintro e w' ⟨rfl, rfl⟩) | (go_at_call 92; ((with_reducible refine (bounded_is E2.out w1).mono ?_)); rintro e w' ⟨rfl, rfl⟩) | (go_at_call 92; ((with_reducible refine (bounded_is E3.out w1).mono ?_)); rintro e w' ⟨rfl, rfl⟩))
      go_meet
      exact ⟨congrArg Value.bool (by simp; omega), rfl⟩
    ·have hq : Q = true := (by rw [HQE.out, decide_eq_true h1, decide_eq_true h2, decide_eq_false (show ¬ 0 < s.full by omega)]; simp)
     subst hq
     go_wp2_with (first | (go_at_call 92; ((with_reducible refine (bounded_is E1.out w1).mono ?_)); rintro e w' ⟨rfl, rfl⟩) | (go_at_call 92; ((with_reducible refine (bounded_is E2.out w1).mono ?_)); rintro e w' ⟨rfl, rfl⟩) | (go_at_call 92; ((with_reducible refine (bounded_is E3.out w1).mono ?_)); rintro e w' ⟨rfl, rfl⟩))
     go_meet
     exact ⟨congrArg Value.bool (by simp; omega), rfl⟩
   case rest =>
    obtain ⟨rfl, rfl⟩ := hcut
    clear x0 x1 x2 x3
    cases Q
    ·have HF := zqd (show false = R by rw [← HRA.out, actB, HQ.out]; rfl)
     go_wp2_with fail
     go_ret
     exact ⟨ret_bool HF.out, HG1.out⟩
    ·have hn1 : 1 ≤ s.n := by
      have h := HQE.out
      simp only [Bool.true_eq, Bool.and_eq_true, decide_eq_true_eq] at h
      exact h.1
     have hn32 : (s.n : Int) ≤ M := by
      have h := HQE.out
      simp only [Bool.true_eq, Bool.and_eq_true, decide_eq_true_eq] at h
      exact h.2.1
     obtain ⟨f, hf, hfo⟩ := HR.out.get (i := 0) (by omega)
     obtain ⟨b, off, ea, -, hrow⟩ := (HR.out.kept HG1.out).row (by omega)
     have hrg := hrow 0 f hf
     rw [Nat.zero_mul, Nat.add_zero] at hrg
     have HRG := zqd hrg
     have HFH := zqd (head_at hf)
     have HEA := zqd ea
     rw [ea] at x8
     clear hrow hrg hf hfo ea
     go_upto_region 10 with (refine rng_load rfl 49 _ rfl b off rfl (HCells f) HRG.out Tryd.underlying49 rfl (by kernel_rfl) ?_)
     obtain ⟨w2, hw2⟩ : ∃ y, y = w1.alloc (.cells (HCells f).toArray 49) := ⟨_, rfl⟩
     have hf2 : HBlk w1.heap.size f w2 := by rw [hw2]; exact CBlk.new _ _ _
     have hg2 : Gr w1 w2 := by rw [hw2]; exact Gr.alloc _ _
     simp only [HCells] at hw2
     first | rw [← hw2] | (go_show; fail)
     have HF2 := zqd hf2
     have HB2 := zqd (HB1.out.kept hg2)
     have HG2 := zqd (HG1.out.trans hg2)
     have HR2 := zqd (HR.out.kept (HG1.out.trans hg2))
     clear hw2 hf2 hg2 HB1 HG1 HRG x8
     obtain ⟨P, hP⟩ : ∃ P, plainB s = P := ⟨_, rfl⟩
     have HP := zqd hP
     clear hP
     have HD2 := zqd (snd_dyn HB2.out)
     go_upto_region 11 with (fail)
     have k0 : w2.cell? ⟨w1.heap.size, 0, none⟩ = some (.int .i64 f.kind) := HF2.out.at 0 rfl
     go_cut [11] from 66 to 74 (fun v wc => v = .bool P ∧ w2 = wc)
     case first =>
      by_cases hk : f.kind = 2
      ·have hp : P = true := by rw [← HP.out, plainB, HFH.out, decide_eq_true hk]; rfl
       subst hp
       have hkb : (f.kind == 2) = true := by simpa using hk
       go_wp2_with fail
       go_meet
       exact ⟨rfl, rfl⟩
      ·have hp : P = (decide (s.str = 0) && decide (s.fol = 0)) := by rw [← HP.out, plainB, HFH.out, decide_eq_false hk]; rfl
       have HPE := zqd hp
       have heq : ∀ u, (binOp .eql 43 (DVal s.str s.fol) (DVal 0 0)).run Tryd.prog u = .ok (.bool P) u := fun u => by rw [run_eqD, HPE.out]
       have hkb : (f.kind == 2) = false := by simpa using hk
       clear hp
       go_wp2_with (refine rng_load rfl 43 _ rfl w.heap.size 6 rfl [.int .i64 s.str, .int .i64 s.fol] HD2.out Tryd.underlying43 rfl (by kernel_rfl) ?_)
       go_meet
       exact ⟨rfl, rfl⟩
     case rest =>
      obtain ⟨rfl, rfl⟩ := hcut
      clear k0
      have x4 : w2.cell? ⟨w.heap.size, 4, none⟩ = some (.int .i64 s.since) := HB2.out.at 4 rfl
      have x5 : w2.cell? ⟨w.heap.size, 5, none⟩ = some (.int .i64 s.long) := HB2.out.at 5 rfl
      obtain ⟨B1, e1⟩ : ∃ z, inB s.since 32 = z := ⟨_, rfl⟩
      obtain ⟨B2, e2⟩ : ∃ z, inB s.long 3 = z := ⟨_, rfl⟩
      obtain ⟨B3, e3⟩ : ∃ z, dynB s.str s.fol = z := ⟨_, rfl⟩
      have E1 := zqd e1
      have E2 := zqd e2
      have E3 := zqd e3
      have HRE := zqd (show (B1 && (B2 && (B3 && (P && s.refs.all (okRef s))))) = R by rw [← HRA.out, actB, HQ.out, e1, e2, e3, HP.out]; rfl)
      clear e1 e2 e3
      cases B1
      ·go_wp2_with (first | (go_at_call 92; ((with_reducible refine (bounded_is E1.out w2).mono ?_)); rintro e w' ⟨rfl, rfl⟩) | (go_at_call 92; ((with_reducible refine (bounded_is E2.out w2).mono ?_)); rintro e w' ⟨rfl, rfl⟩))
       go_ret
       exact ⟨ret_bool HRE.out, HG2.out⟩
      cases B2
      ·go_wp2_with (first | (go_at_call 92; ((with_reducible refine (bounded_is E1.out w2).mono ?_)); rintro e w' ⟨rfl, rfl⟩) | (go_at_call 92; ((with_reducible refine (bounded_is E2.out w2).mono ?_)); rintro e w' ⟨rfl, rfl⟩))
       go_ret
       exact ⟨ret_bool HRE.out, HG2.out⟩
      go_wp2_with (first | (go_at_call 92; ((with_reducible refine (bounded_is E1.out w2).mono ?_)); rintro e w' ⟨rfl, rfl⟩) | (go_at_call 92; ((with_reducible refine (bounded_is E2.out w2).mono ?_)); rintro e w' ⟨rfl, rfl⟩) | (refine rng_load rfl 43 _ rfl w.heap.size 6 rfl [.int .i64 s.str, .int .i64 s.fol] HD2.out Tryd.underlying43 rfl (by kernel_rfl) ?_))
      refine (dyn_is E3.out w2).mono ?_
      rintro e w3 ⟨rfl, hg3⟩
      have HG3 := zqd (HG2.out.trans hg3)
      have HR3 := zqd (HR2.out.kept hg3)
      have HF3 := zqd (HF2.out.kept hg3)
      have HB3 := zqd (HB2.out.kept hg3)
      clear hg3 x4 x5
      cases B3
      ·go_wp2_with fail
       go_ret
       exact ⟨ret_bool HRE.out, HG3.out⟩
      cases P
      ·go_wp2_with fail
       go_ret
       exact ⟨ret_bool HRE.out, HG3.out⟩
      have x8 : w3.cell? ⟨w.heap.size, 8, none⟩ = some (.slice s.a s.n s.c) := HB3.out.at 8 rfl
      go_wp2_with fail
      refine (containsH_any s.a s.n s.c s.refs f w1.heap.size w3 HR3.out HF3.out (by omega)).mono ?_
      have hna : (s.refs.any fun h => !(validH h && sameB h f)) = !(s.refs.all (okRef s)) := by rw [← HFH.out]; exact not_any
      obtain ⟨Z, hZ⟩ : ∃ Z, s.refs.all (okRef s) = Z := ⟨_, rfl⟩
      have HZ := zqd (show Z = R by rw [← HRE.out, hZ]; rfl)
      rw [hna, hZ]
      clear hna hZ
      rintro e w4 ⟨rfl, hg4⟩
      have HG4 := zqd (HG3.out.trans hg4)
      clear hg4
      go_wp2_with fail
      go_ret
      exact ⟨ret_bool (by rw [← HZ.out]), HG4.out⟩
theorem context_is {mode width : Int} {s : Snd} {V : Bool} (h : ctxB mode width s = V) (w : World) (hr : RdH w s.a s.n s.c s.refs) (hw1 : 1 ≤ width) (hw8 : width ≤ 8) : Calls Tryd.prog 69 #[SVal s, .int .i64 mode, .int .i64 width] w fun e w' => e = .returned (.bool V) ∧ Gr w w' := h ▸ context_any mode width s w hr hw1 hw8
end Go.Proofs.YtlnkofpcidngoaaDoor