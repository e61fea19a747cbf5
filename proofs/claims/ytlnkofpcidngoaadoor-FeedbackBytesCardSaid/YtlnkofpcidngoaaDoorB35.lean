import Derived.Test.YtlnkofpcidngoaaDoorB0
import Derived.Test.YtlnkofpcidngoaaDoorB13
import Derived.Test.YtlnkofpcidngoaaDoorB14
import Derived.Test.YtlnkofpcidngoaaDoorB12
namespace Go.Proofs.YtlnkofpcidngoaaDoor
open Go.ChangeShapes Go.WideShapes Go.ChangeAt Go.RowKit
open Crc
def sizeF (f : Int) : Int := if f = 1 then 3 else if f = 2 then 7 else 8
set_option maxRecDepth 20000 in
set_option maxHeartbeats 2000000 in
theorem size_any (f : Int) (w : World) : Calls Tryd.prog 90 #[.int .i64 f] w fun e w' => e = .returned (.int .i64 (sizeF f)) ∧ w = w' := by
 by_cases h1 : f = 1
 · subst h1
   go_enter Tryd.func90, Tryd.ntmps90
   go_wp2
   all_goals (go_ret; exact ⟨rfl, rfl⟩)
 · by_cases h2 : f = 2
   · subst h2
     go_enter Tryd.func90, Tryd.ntmps90
     go_wp2
     all_goals (go_ret; exact ⟨rfl, rfl⟩)
   · have e : sizeF f = 8 := by rw [sizeF, if_neg h1, if_neg h2]
     rw [e]
     have hb1 : (f == 1) = false := by simpa using h1
     have hb2 : (f == 2) = false := by simpa using h2
     clear h1 h2
     go_enter Tryd.func90, Tryd.ntmps90
     go_wp2
     all_goals (go_ret; exact ⟨rfl, rfl⟩)
theorem size_is {f z : Int} (h : sizeF f = z) (w : World) : Calls Tryd.prog 90 #[.int .i64 f] w fun e w' => e = .returned (.int .i64 z) ∧ w = w' := h ▸ size_any f w
theorem size_kind (f : Int) : isKind (sizeF f) ∧ sumE (sizeF f) = 0 ∧ i64 (sizeF f) := by
 unfold sizeF
 split
 · exact ⟨by decide, by decide, by constructor <;> omega⟩
 · split
   · exact ⟨by decide, by decide, by constructor <;> omega⟩
   · exact ⟨by decide, by decide, by constructor <;> omega⟩
theorem value_rng (f : Int) (xs : List Int) : inB (sumV (sizeF f) xs) (if f = 1 then 7 else if f = 2 then 127 else 255) = true := by
 have h := crc_rng (size_kind f).1 xs
 obtain ⟨h0, h1⟩ := h
 generalize sumV (sizeF f) xs = v at *
 unfold sizeF at h1
 unfold inB
 rw [Bool.and_eq_true, decide_eq_true_eq, decide_eq_true_eq]
 refine ⟨h0, ?_⟩
 split at h1
 · rw [if_pos ‹_›]
   have e : (2 : Int) ^ (3 : Int).toNat = 8 := by decide
   omega
 · rw [if_neg ‹_›]
   split at h1
   · rw [if_pos ‹_›]
     have e : (2 : Int) ^ (7 : Int).toNat = 128 := by decide
     omega
   · rw [if_neg ‹_›]
     have e : (2 : Int) ^ (8 : Int).toNat = 256 := by decide
     omega
set_option maxHeartbeats 2000000 in
set_option maxRecDepth 100000 in
theorem value_yes (h : Hdr) (f : Int) (w : World) (hv : validH h = true) : Calls Tryd.prog 67 #[HVal h, .int .i64 f] w fun e w' => e = .returned (.int .i64 (sumV (sizeF f) (headL h))) ∧ Gr w w' := by
 obtain ⟨Z, hZ⟩ : ∃ Z, sizeF f = Z := ⟨_, rfl⟩
 obtain ⟨V, hV⟩ : ∃ V, sumV Z (headL h) = V := ⟨_, rfl⟩
 obtain ⟨-, hse, hsi⟩ := size_kind f
 rw [hZ] at hse hsi ⊢
 rw [hV]
 have HV := zqd hv
 have HZZ := zqd hZ
 have HVV := zqd hV
 have HSE := zqd hse
 have HSI := zqd hsi
 clear hv hZ hV hse hsi
 go_enter Tryd.func67, Tryd.ntmps67
 go_upto_region 1 with (fail)
 obtain ⟨w1, hw1⟩ : ∃ y, y = w.alloc (.cells (HCells h).toArray 49) := ⟨_, rfl⟩
 have hb1 : HBlk w.heap.size h w1 := by rw [hw1]; exact heap_alloc_new _ _
 have HG1 := zqd (show Gr w w1 by rw [hw1]; exact Gr.alloc _ _)
 simp only [HCells] at hw1
 rw [← hw1]
 clear hw1
 have HAK := zqd (fun u (hu : Gr w1 u) => hb1.kept hu)
 clear hb1
 refine SchedD.wp_region_schedd 8 [7] [3] (SchedD.nsel [(3, NBy (headL h))]) [(4, [(3, 11)])] (by kernel_rfl) (by kernel_rfl) ?_
 simp only [List.take_succ_cons, List.take_zero, List.drop_succ_cons, List.drop_zero]
 repeat (first | ((with_reducible refine SchedD.walk1_no ?_ ?_ ?_ (fun K hK => ?_)); (focus rfl); (focus rfl); (focus rfl); simp only [Act.put, zqa, zqb, zqc]; refine hK _ ?_; clear hK K) | ((with_reducible refine SchedD.walk1_gr ?_ ?_ ?_ ?_ (fun K hK => ?_)); (focus rfl); (focus rfl); (focus rfl); (focus rfl); apply Exists.intro; refine ⟨fun w1 hw1 => ?_, ?_⟩; (focus (go_simp; (try go_ints); (try (simp only [IntWalk.iteOmega]; go_simp)); first | done | (go_at_call 90; (with_reducible exact gr_same (size_is HZZ.out _))) | (with_reducible rfl) | (with_reducible exact ⟨rfl, rfl⟩))); simp only [Act.put, zqa, zqb, zqc]; refine hK _ ?_; clear hK K) | ((with_reducible refine SchedD.walk1_pure ?_ ?_ ?_ ?_ (fun K hK => ?_)); (focus rfl); (focus rfl); (focus rfl); (focus rfl); apply Exists.intro; refine ⟨fun w1 => ?_, ?_⟩; (focus (go_simp; (try go_ints); (try (simp only [IntWalk.iteOmega]; go_simp)); first | done | (with_reducible rfl) | (with_reducible exact ⟨rfl, rfl⟩))); simp only [Act.put, zqa, zqb, zqc]; refine hK _ ?_; clear hK K))
 (with_reducible refine SchedD.walk1_gr ?_ ?_ ?_ ?_ (fun K hK => ?_)); (focus rfl); (focus rfl); (focus rfl); (focus rfl)
 refine ⟨HVal h, fun w1 hw1 => (HAK.out w1 hw1).load _ rfl rfl, ?_⟩
 simp only [Act.put, zqa, zqb, zqc]
 refine hK _ ?_
 clear hK K
 refine SchedD.walk1_new0 (NBy (headL h)) rfl rfl rfl rfl (NBy.stable _) (fun u hu => ?_) ?_
 · go_simp
   go_at_call 82
   refine (rhead_yes h u HV.out).mono ?_
   rintro e w8 ⟨a8, n8, c8, rfl, -, hr8, hgr⟩
   exact ⟨_, rfl, hgr, a8, n8, c8, rfl, hr8.rd⟩
 refine SchedD.walk1_dep1 (.tuple #[.int .i64 V, .int .i64 0]) (NBy (headL h)) 3 11 rfl rfl rfl rfl (fun u hu lo1 hi1 u1 q1 => ?_) ?_
 · obtain ⟨a8, n8, c8, rfl, hr1⟩ := q1
   refine ⟨rfl, ?_⟩
   go_simp
   go_at_call 52
   exact rsum_is HVV.out HSE.out _ _ _ u hr1
 repeat (first | ((with_reducible refine SchedD.walk1_no ?_ ?_ ?_ (fun K hK => ?_)); (focus rfl); (focus rfl); (focus rfl); simp only [Act.put, zqa, zqb, zqc]; refine hK _ ?_; clear hK K) | ((with_reducible refine SchedD.walk1_gr ?_ ?_ ?_ ?_ (fun K hK => ?_)); (focus rfl); (focus rfl); (focus rfl); (focus rfl); apply Exists.intro; refine ⟨fun w1 hw1 => ?_, ?_⟩; (focus (go_simp; (try go_ints); (try (simp only [IntWalk.iteOmega]; go_simp)); first | done | fail | (with_reducible rfl) | (with_reducible exact ⟨rfl, rfl⟩))); simp only [Act.put, zqa, zqb, zqc]; refine hK _ ?_; clear hK K) | ((with_reducible refine SchedD.walk1_pure ?_ ?_ ?_ ?_ (fun K hK => ?_)); (focus rfl); (focus rfl); (focus rfl); (focus rfl); apply Exists.intro; refine ⟨fun w1 => ?_, ?_⟩; (focus (go_simp; (try go_ints); (try (simp only [IntWalk.iteOmega]; go_simp)); first | done | (with_reducible rfl) | (with_reducible exact ⟨rfl, rfl⟩))); simp only [Act.put, zqa, zqb, zqc]; refine hK _ ?_; clear hK K))
 (with_reducible refine SchedD.walk1_nil ?_)
 intro wq hwq
 dsimp only [Sched.EndN, List.nil_append, List.cons_append, Act.put]
 rintro - - v1 ⟨a8, n8, c8, rfl, -⟩ - - - -
 (try simp only [zqa, zqb, zqc])
 repeat (first | (refine Sched.walk2_no rfl (fun K hK => ?_); simp only [Act.put, zqa, zqb, zqc]; refine hK _ ?_; clear hK K) | (refine Sched.walk2_go rfl (fun K hK => ?_); go_simp; (try go_ints); (try (simp only [IntWalk.iteOmega]; go_simp)); first | (refine hK _ _ ?_; clear hK K) | fail))
 refine Sched.walk2_nil ?_
 have HQ := zqd (HG1.out.trans hwq)
 clear hwq HAK
 go_wp2_with fail
 go_ret
 exact ⟨rfl, HQ.out⟩
end Go.Proofs.YtlnkofpcidngoaaDoor
