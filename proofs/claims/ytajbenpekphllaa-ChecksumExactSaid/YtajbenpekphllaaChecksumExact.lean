/- The law ChecksumExact: its walk. -/
import Derived.Test.YtajbenpekphllaaChecksumLaws
import Derived.Test.YtajbenpekphllaaUpdate
import Derived.Test.YtajbenpekphllaaSched
namespace Go.Proofs.Ytajbenpekphllaa
open Go.ChangeShapes Go.WideShapes Go.ChangeAt Go.RowKit

set_option maxRecDepth 100000 in
set_option maxHeartbeats 2000000 in
theorem exact4_walk (a : Option Addr) (len cap : Nat) (bs : List Int) (n0 n1 n2 : Int) (w : World) (hr : Rd .u8 w a len bs) (hL : len ≤ 140737488351232) (h0 : i64 n0) (h1 : i64 n1) (h2 : i64 n2) :
    Calls Try.prog 10 #[.slice a len cap, .agg #[.int .i64 n0, .int .i64 n1, .int .i64 n2]] w fun e w' => e = .returned (.bool true) ∧ w.grownBy w' none := by
  obtain ⟨h0a, h0b⟩ := h0
  obtain ⟨h1a, h1b⟩ := h1
  obtain ⟨h2a, h2b⟩ := h2
  have c0 : ∀ w1, Gr (w.alloc (.cells #[.int .i64 n0, .int .i64 n1, .int .i64 n2] 38)) w1 → w1.cell? ⟨w.heap.size, 0, none⟩ = some (.int .i64 n0) := fun w1 h => h.cell (by rw [cell_new]; rfl)
  have c1 : ∀ w1, Gr (w.alloc (.cells #[.int .i64 n0, .int .i64 n1, .int .i64 n2] 38)) w1 → w1.cell? ⟨w.heap.size, 1, none⟩ = some (.int .i64 n1) := fun w1 h => h.cell (by rw [cell_new]; rfl)
  have c2 : ∀ w1, Gr (w.alloc (.cells #[.int .i64 n0, .int .i64 n1, .int .i64 n2] 38)) w1 → w1.cell? ⟨w.heap.size, 2, none⟩ = some (.int .i64 n2) := fun w1 h => h.cell (by rw [cell_new]; rfl)
  go_enter Try.func10, Try.ntmps10
  go_wp2_with (first | ((go_at_call 29; refine (update_any _ _ _ _).mono ?_; rintro e w' ⟨rfl, rfl⟩)) | ((go_at_call 30; refine (rupdate_any _ _ _ _).mono ?_; rintro e w' ⟨rfl, rfl⟩)))
  refine Sched.wp_region_sched 11 [] [10] (by kernel_rfl) (by kernel_rfl) ?_
  simp only [List.take_succ_cons, List.take_zero, List.drop_succ_cons, List.drop_zero]
  repeat (first | (refine Sched.walk1_no rfl rfl (fun K hK => ?_); simp only [Act.put, List.setIfInBounds_toArray, List.set_cons_zero, List.set_cons_succ]; refine hK _ ?_; clear hK K) | (refine Sched.walk1_gr rfl rfl rfl (fun K hK => ?_); apply Exists.intro; refine ⟨fun w1 hw1 => ?_, ?_⟩; (focus (go_simp; (try go_ints); (try (simp only [IntWalk.iteOmega]; go_simp)); first | done | ((go_at_call 15; exact gr_same (mod_any _ _ _ (by omega)))) | (with_reducible rfl) | (with_reducible exact ⟨rfl, rfl⟩))); simp only [Act.put, List.setIfInBounds_toArray, List.set_cons_zero, List.set_cons_succ]; refine hK _ ?_; clear hK K) | (refine Sched.walk1_pure rfl rfl rfl (fun K hK => ?_); apply Exists.intro; refine ⟨fun w1 => ?_, ?_⟩; (focus (go_simp; (try go_ints); (try (simp only [IntWalk.iteOmega]; go_simp)); first | done | (with_reducible rfl) | (with_reducible exact ⟨rfl, rfl⟩))); simp only [Act.put, List.setIfInBounds_toArray, List.set_cons_zero, List.set_cons_succ]; refine hK _ ?_; clear hK K) | (refine Sched.walk1_box rfl rfl ?_; apply Exists.intro; refine ⟨fun w1 hw1 => ?_, ?_⟩; (focus (go_simp; exact ⟨Gr.alloc _ _, rfl, by simp, heap_alloc_new _ _⟩))))
  refine Sched.walk1_nil ?_
  intro wq hwq
  rintro lo hi v ⟨rfl, hlt, hblk⟩ hlo hle hhi -
  have d0 := cell_of_block hblk 0
  have d1 := cell_of_block hblk 1
  have d2 := cell_of_block hblk 2
  have f0 := frozen_of_block hblk
  simp at d0 d1 d2
  dsimp only [Sched.EndN, List.nil_append, List.cons_append, Act.put]
  (try simp only [List.setIfInBounds_toArray, List.set_cons_zero, List.set_cons_succ])
  repeat (first | (refine Sched.walk2_no rfl (fun K hK => ?_); simp only [Act.put, List.setIfInBounds_toArray, List.set_cons_zero, List.set_cons_succ]; refine hK _ ?_; clear hK K) | (refine Sched.walk2_go rfl (fun K hK => ?_); go_simp; (try go_ints); (try (simp only [IntWalk.iteOmega]; go_simp)); first | (refine hK _ _ ?_; clear hK K) | fail))
  refine Sched.walk2_nil ?_
  go_wp2_with (first | ((go_at_call 29; refine (update_any _ _ _ _).mono ?_; rintro e w' ⟨rfl, rfl⟩)) | ((go_at_call 30; refine (rupdate_any _ _ _ _).mono ?_; rintro e w' ⟨rfl, rfl⟩)))
  obtain ⟨w6, hw6⟩ : ∃ x, x = ((wq.setCell ⟨lo, 0, none⟩ (.int .i64 (modF n0 65536))).setCell ⟨lo, 1, none⟩ (.int .i64 (modF n1 65536))).setCell ⟨lo, 2, none⟩ (.int .i64 (modF n2 65536)) := ⟨_, rfl⟩
  rw [← hw6]
  have hG6 : Gr (w.alloc (.cells #[.int .i64 n0, .int .i64 n1, .int .i64 n2] 38)) w6 := by
    rw [hw6]; exact grown_set (grown_set (grown_set hwq hlo _) hlo _) hlo _
  have hGw : Gr w w6 := (Gr.alloc w _).trans hG6
  have HGW := Lib.hid hGw
  have HR6 : ∀ w1, Gr w6 w1 → Rd .u8 w1 a len bs := fun w1 h => hr.kept (hGw.trans h)
  have b0 : ∀ w1, Gr w6 w1 → w1.cell? ⟨w.heap.size, 0, none⟩ = some (.int .i64 n0) := fun w1 h => c0 w1 (hG6.trans h)
  have b1 : ∀ w1, Gr w6 w1 → w1.cell? ⟨w.heap.size, 1, none⟩ = some (.int .i64 n1) := fun w1 h => c1 w1 (hG6.trans h)
  clear hw6 hG6 hGw c0 c1 c2 d0 d1 d2 f0 hblk hwq hlt hlo hle hhi
  refine Sched.wp_region_sched 49 [] [] (by kernel_rfl) (by kernel_rfl) ?_
  simp only [List.take_succ_cons, List.take_zero, List.drop_succ_cons, List.drop_zero]
  repeat (first | (refine Sched.walk1_no rfl rfl (fun K hK => ?_); simp only [Act.put, List.setIfInBounds_toArray, List.set_cons_zero, List.set_cons_succ]; refine hK _ ?_; clear hK K) | (refine Sched.walk1_gr rfl rfl rfl (fun K hK => ?_); apply Exists.intro; refine ⟨fun w1 hw1 => ?_, ?_⟩; (focus (go_simp; (try go_ints); (try (simp only [IntWalk.iteOmega]; go_simp)); first | done | ((go_at_call 13; exact gr_grow (awake4 _))) | ((go_at_call 17; exact gr_same (fold_any _ _ (by omega)))) | ((go_at_call 31; exact gr_same (rfold_any _ _ (by omega)))) | ((go_at_call 16; exact gr_same (add_any _ _ _ _ bs _ (HR6 _ hw1) (by omega) (by omega)))) | ((go_at_call 32; exact gr_same (radd_any _ _ _ _ bs _ (HR6 _ hw1) (by omega) (by omega)))) | ((go_at_call 12; exact gr_same (sum_any _ _ _ bs _ (HR6 _ hw1) (by omega)))) | ((go_at_call 33; exact gr_same (rsum_any _ _ _ bs _ (HR6 _ hw1) (by omega)))) | (with_reducible rfl) | (with_reducible exact ⟨rfl, rfl⟩))); simp only [Act.put, List.setIfInBounds_toArray, List.set_cons_zero, List.set_cons_succ]; refine hK _ ?_; clear hK K) | (refine Sched.walk1_pure rfl rfl rfl (fun K hK => ?_); apply Exists.intro; refine ⟨fun w1 => ?_, ?_⟩; (focus (go_simp; (try go_ints); (try (simp only [IntWalk.iteOmega]; go_simp)); first | done | (with_reducible rfl) | (with_reducible exact ⟨rfl, rfl⟩))); simp only [Act.put, List.setIfInBounds_toArray, List.set_cons_zero, List.set_cons_succ]; refine hK _ ?_; clear hK K) | (refine Sched.walk1_box rfl rfl ?_; apply Exists.intro; refine ⟨fun w1 hw1 => ?_, ?_⟩; (focus (go_simp; exact ⟨Gr.alloc _ _, rfl, by simp, heap_alloc_new _ _⟩))))
  refine Sched.walk1_nil ?_
  intro wq hwq
  dsimp only [Sched.EndN, List.nil_append, List.cons_append, Act.put]
  (try simp only [List.setIfInBounds_toArray, List.set_cons_zero, List.set_cons_succ])
  repeat (first | (refine Sched.walk2_no rfl (fun K hK => ?_); simp only [Act.put, List.setIfInBounds_toArray, List.set_cons_zero, List.set_cons_succ]; refine hK _ ?_; clear hK K) | (refine Sched.walk2_go rfl (fun K hK => ?_); go_simp; (try go_ints); (try (simp only [IntWalk.iteOmega]; go_simp)); first | (refine hK _ _ ?_; clear hK K) | fail))
  refine Sched.walk2_nil ?_
  go_wp2_with fail
  go_ret
  exact ⟨by simp, HGW.out.trans hwq⟩
end Go.Proofs.Ytajbenpekphllaa
namespace Go.Proofs.Ytajbenpekphllaa
open Go.ChangeShapes Go.WideShapes Go.ChangeAt Go.RowKit
theorem exact4_fit (a : Option Addr) (len cap : Nat) (bs : List Int) (n0 n1 n2 : Int) (w : World) (hr : Rd .u8 w a len bs) (_hc : len ≤ cap) (hL : len ≤ 140737488351232) (h0 : i64 n0) (h1 : i64 n1) (h2 : i64 n2) :
    Calls Try.prog 10 #[.slice a len cap, .agg #[.int .i64 n0, .int .i64 n1, .int .i64 n2]] w fun e w' => e = .returned (.bool true) ∧ Below w.heap.size w w' :=
  (exact4_walk a len cap bs n0 n1 n2 w hr hL h0 h1 h2).mono fun _ _ ⟨he, hg⟩ => ⟨he, Below.of_none hg⟩
end Go.Proofs.Ytajbenpekphllaa
