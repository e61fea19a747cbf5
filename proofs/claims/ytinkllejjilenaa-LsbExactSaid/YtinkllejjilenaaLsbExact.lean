/- The law LsbExact: its walk. -/
import Derived.Test.YtinkllejjilenaaLsbLaws
import Derived.Test.YtinkllejjilenaaDice
import Derived.Test.YtinkllejjilenaaSched2
namespace Go.Proofs.Ytinkllejjilenaa
open Go.ChangeShapes Go.WideShapes Go.ChangeAt Go.RowKit

theorem rd_gr {k : IntKind} {w w' : World} {a : Option Addr} {len : Nat} {xs : List Int} (h : Rd k w a len xs) (hg : Gr w w') : Rd k w' a len xs := h.kept hg
theorem grown_set8 (w : World) (g : Nat) (a b c d e f h k : Value) : w.grownBy ((((((((w.setCell ⟨g, 0, none⟩ a).setCell ⟨g, 1, none⟩ b).setCell ⟨g, 2, none⟩ c).setCell ⟨g, 3, none⟩ d).setCell ⟨g, 4, none⟩ e).setCell ⟨g, 5, none⟩ f).setCell ⟨g, 6, none⟩ h).setCell ⟨g, 7, none⟩ k) (some g) :=
  grown_trans' (grown_trans' (grown_trans' (grown_trans' (grown_trans' (grown_trans' (grown_trans' (grown_setAt _ _ _ _) (grown_setAt _ _ _ _)) (grown_setAt _ _ _ _)) (grown_setAt _ _ _ _)) (grown_setAt _ _ _ _)) (grown_setAt _ _ _ _)) (grown_setAt _ _ _ _)) (grown_setAt _ _ _ _)
set_option maxRecDepth 100000 in
set_option maxHeartbeats 1000000 in
theorem exact7 (n0 n1 n2 n3 : Int) (a : Option Addr) (len cap : Nat) (rs : List Int) (w : World) (hr : Rd .i64 w a len rs) (hlen : len ≤ 300) (_h0 : i64 n0) (_h1 : i64 n1) (_h2 : i64 n2) (_h3 : i64 n3) (W : Int) (i : Nat) (hm0 : modF n0 3 = i)
    (hpick : ∀ w : World, (Instr.index 25 (.agg #[.int .i64 8, .int .i64 16, .int .i64 32]) (.int .i64 i)).run Try.prog w = .ok (.int .i64 W) w) (hW : knownB W = true) :
    Calls Try.prog 3 #[.agg #[.int .i64 n0, .int .i64 n1, .int .i64 n2, .int .i64 n3], .slice a len cap] w fun e w' => e = .returned (.bool true) ∧ Gr w w' := by
  have hwr := known_rng hW
  have p1 := two_pow_pos W.toNat
  have p2 : (2 : Int) ^ W.toNat ≤ 2 ^ 32 := two_pow_le (by omega)
  have p3 : (2 : Int) ^ 32 = 4294967296 := rfl
  rw [p3] at p2
  clear p3
  have q1 := modF_lo n2 30
  have q2 := modF_hi n2 30 (by omega)
  obtain ⟨q, hq⟩ : ∃ q, modF n2 30 = q := ⟨_, rfl⟩
  rw [hq] at q1 q2
  have HM0 := Lib.hid hm0
  have HQ := Lib.hid hq
  have hb0 : ∀ w1, Gr (w.alloc (.cells #[.int .i64 n0, .int .i64 n1, .int .i64 n2, .int .i64 n3] 22)) w1 → w1.heap[w.heap.size]? = some (.cells #[.int .i64 n0, .int .i64 n1, .int .i64 n2, .int .i64 n3] 22 (0, 0)) := fun w1 h => by
    rw [h.block w.heap.size (by simp) (by simp)]; exact heap_alloc_new w _
  have hld : ∀ w1, Gr (w.alloc (.cells #[.int .i64 n0, .int .i64 n1, .int .i64 n2, .int .i64 n3] 22)) w1 → (loadVar 22 ⟨w.heap.size, 0, none⟩).run Try.prog w1 = .ok (.agg #[.int .i64 n0, .int .i64 n1, .int .i64 n2, .int .i64 n3]) w1 := fun w1 h =>
    run_loadVar_row w1 _ _ _ _ _ _ (hb0 w1 h) Try.underlying22 rfl (by kernel_rfl)
  have c0 : ∀ w1, Gr (w.alloc (.cells #[.int .i64 n0, .int .i64 n1, .int .i64 n2, .int .i64 n3] 22)) w1 → w1.cell? ⟨w.heap.size, 0, none⟩ = some (.int .i64 n0) := fun w1 h => h.cell (by rw [cell_new]; rfl)
  have c1 : ∀ w1, Gr (w.alloc (.cells #[.int .i64 n0, .int .i64 n1, .int .i64 n2, .int .i64 n3] 22)) w1 → w1.cell? ⟨w.heap.size, 1, none⟩ = some (.int .i64 n1) := fun w1 h => h.cell (by rw [cell_new]; rfl)
  have c2 : ∀ w1, Gr (w.alloc (.cells #[.int .i64 n0, .int .i64 n1, .int .i64 n2, .int .i64 n3] 22)) w1 → w1.cell? ⟨w.heap.size, 2, none⟩ = some (.int .i64 n2) := fun w1 h => h.cell (by rw [cell_new]; rfl)
  have c3 : ∀ w1, Gr (w.alloc (.cells #[.int .i64 n0, .int .i64 n1, .int .i64 n2, .int .i64 n3] 22)) w1 → w1.cell? ⟨w.heap.size, 3, none⟩ = some (.int .i64 n3) := fun w1 h => h.cell (by rw [cell_new]; rfl)
  clear hm0 hq hb0
  go_enter Try.func3, Try.ntmps3
  go_wp2_with fail
  refine Sched.wp_region_sched 17 [] [16] (by kernel_rfl) (by kernel_rfl) ?_
  simp only [List.take_succ_cons, List.take_zero, List.drop_succ_cons, List.drop_zero]
  repeat (first | (refine Sched.walk1_no rfl rfl (fun K hK => ?_); simp only [Act.put, List.setIfInBounds_toArray, List.set_cons_zero, List.set_cons_succ]; refine hK _ ?_; clear hK K) | (refine Sched.walk1_gr rfl rfl rfl (fun K hK => ?_); apply Exists.intro; refine ⟨fun w1 hw1 => ?_, ?_⟩; (focus (go_simp; (try go_ints); (try (simp only [IntWalk.iteOmega]; go_simp)); first | done | ((go_at_call 12; (with_reducible exact gr_same (mod_is HM0.out _ (by omega))))) | ((go_at_call 12; (with_reducible exact gr_same (mod_is HQ.out _ (by omega))))) | (with_reducible rfl) | (with_reducible exact ⟨rfl, rfl⟩))); simp only [Act.put, List.setIfInBounds_toArray, List.set_cons_zero, List.set_cons_succ]; refine hK _ ?_; clear hK K) | (refine Sched.walk1_pure rfl rfl rfl (fun K hK => ?_); apply Exists.intro; refine ⟨fun w1 => ?_, ?_⟩; (focus (go_simp; (try go_ints); (try (simp only [IntWalk.iteOmega]; go_simp)); first | done | (with_reducible rfl) | (with_reducible exact ⟨rfl, rfl⟩))); simp only [Act.put, List.setIfInBounds_toArray, List.set_cons_zero, List.set_cons_succ]; refine hK _ ?_; clear hK K) | (refine Sched.walk1_box rfl rfl ?_; apply Exists.intro; refine ⟨fun w1 hw1 => ?_, ?_⟩; (focus (go_simp; exact ⟨Gr.alloc _ _, rfl, by simp, heap_alloc_new _ _⟩))))
  refine Sched.walk1_nil ?_
  intro wq hwq
  dsimp only [Sched.EndN]
  rintro lo hi v ⟨rfl, hlt, hblk⟩ hlo hle hhi -
  have f_ : ∀ i, wq.frozen? ⟨lo, i, none⟩ = false := frozen_of_block hblk
  have g_ := cell_of_block hblk
  have f0 := f_ 0
  have f1 := f_ 1
  have f2 := f_ 2
  have f3 := f_ 3
  have f4 := f_ 4
  have f5 := f_ 5
  have f6 := f_ 6
  have f7 := f_ 7
  have g0 := g_ 0
  have g1 := g_ 1
  have g2 := g_ 2
  have g3 := g_ 3
  have g4 := g_ 4
  have g5 := g_ 5
  have g6 := g_ 6
  have g7 := g_ 7
  simp only [List.getElem?_toArray, List.getElem?_cons_zero, List.getElem?_cons_succ] at g0 g1 g2 g3 g4 g5 g6 g7
  have HBLK := Lib.hid hblk
  clear f_ g_ hblk
  dsimp only [Sched.EndN, List.nil_append, List.cons_append, Act.put]
  (try simp only [List.setIfInBounds_toArray, List.set_cons_zero, List.set_cons_succ])
  repeat (first | (refine Sched.walk2_no rfl (fun K hK => ?_); simp only [Act.put, List.setIfInBounds_toArray, List.set_cons_zero, List.set_cons_succ]; refine hK _ ?_; clear hK K) | (refine Sched.walk2_go rfl (fun K hK => ?_); go_simp; (try go_ints); (try (simp only [IntWalk.iteOmega]; go_simp)); first | (refine hK _ _ ?_; clear hK K) | fail))
  refine Sched.walk2_nil ?_
  clear f0 f1 f2 f3 f4 f5 f6 f7 g0 g1 g2 g3 g4 g5 g6 g7
  have hb2 := heap_setCell_eq (heap_setCell_eq (heap_setCell_eq (heap_setCell_eq (heap_setCell_eq (heap_setCell_eq (heap_setCell_eq (heap_setCell_eq HBLK.out 0 (.int .i64 n0)) 1 (.int .i64 n1)) 2 (.int .i64 n2)) 3 (.int .i64 n3)) 4 (.int .i64 W)) 5 (.int .i64 n1)) 6 (.int .i64 (3 + q))) 7 (.int .i64 n3)
  have hg2 := grown_set8 wq lo (.int .i64 n0) (.int .i64 n1) (.int .i64 n2) (.int .i64 n3) (.int .i64 W) (.int .i64 n1) (.int .i64 (3 + q)) (.int .i64 n3)
  obtain ⟨w2, hw2⟩ : ∃ x, x = ((((((((wq.setCell ⟨lo, 0, none⟩ (.int .i64 n0)).setCell ⟨lo, 1, none⟩ (.int .i64 n1)).setCell ⟨lo, 2, none⟩ (.int .i64 n2)).setCell ⟨lo, 3, none⟩ (.int .i64 n3)).setCell ⟨lo, 4, none⟩ (.int .i64 W)).setCell ⟨lo, 5, none⟩ (.int .i64 n1)).setCell ⟨lo, 6, none⟩ (.int .i64 (3 + q))).setCell ⟨lo, 7, none⟩ (.int .i64 n3)) := ⟨_, rfl⟩
  rw [← hw2] at hb2 hg2
  rw [← hw2]
  have hgq := hwq
  simp only [List.setIfInBounds_toArray, List.set_cons_zero, List.set_cons_succ] at hb2
  have hA2 := (hg2.block w.heap.size (Nat.lt_of_lt_of_le (by simp) hgq.size) (by simp at hlo; simp; omega)).trans ((hgq.block w.heap.size (by simp) (by simp)).trans (heap_alloc_new w _))
  have hgw : Gr w w2 := grownBy_trans ((Gr.alloc w _).trans hgq) hg2 (.inr (.inr ⟨lo, rfl, by simp at hlo; omega⟩))
  clear hw2 c0 c1 c2 c3 hld
  have HG2 := Lib.hid hgw
  have HB2 := Lib.hid hb2
  obtain ⟨R, hR⟩ : ∃ R, modF n1 (2 ^ W.toNat) = R := ⟨_, rfl⟩
  obtain ⟨L, hL⟩ : ∃ L, modF n3 (2 ^ W.toNat) = L := ⟨_, rfl⟩
  have R1 := modF_lo n1 (2 ^ W.toNat)
  have R2 := modF_hi n1 (2 ^ W.toNat) (by omega)
  have L1 := modF_lo n3 (2 ^ W.toNat)
  have L2 := modF_hi n3 (2 ^ W.toNat) (by omega)
  rw [hR] at R1 R2
  rw [hL] at L1 L2
  have HRR := Lib.hid hR
  have HLL := Lib.hid hL
  have c1 : ∀ u, Gr w2 u → u.cell? ⟨w.heap.size, 1, none⟩ = some (.int .i64 n1) := fun u h => h.cell (by rw [cell_of_block hA2]; rfl)
  have c3 : ∀ u, Gr w2 u → u.cell? ⟨w.heap.size, 3, none⟩ = some (.int .i64 n3) := fun u h => h.cell (by rw [cell_of_block hA2]; rfl)
  have c4 : ∀ u, Gr w2 u → u.cell? ⟨lo, 4, none⟩ = some (.int .i64 W) := fun u h => h.cell (by rw [cell_of_block hb2]; rfl)
  clear hR hL hA2 hb2 hgw hg2 hgq hwq
  go_wp2_with fail
  refine Sched2.wp_region_sched (fun _ => True) [19, 20] [] [18, 21] (fun _ _ => trivial) (by kernel_rfl) (by kernel_rfl) ?_
  repeat (first | (refine Sched2.walk1_ord rfl ?_) | (refine Sched2.walk1_no rfl rfl rfl (fun K hK => ?_); simp only [Act.put, List.setIfInBounds_toArray, List.set_cons_zero, List.set_cons_succ]; refine hK _ ?_; clear hK K) | (refine Sched2.walk1_gr rfl rfl rfl rfl (fun K hK => ?_); apply Exists.intro; refine ⟨fun w1 hw1 => ?_, ?_⟩; (focus (go_simp; (try go_ints); (try (simp only [IntWalk.iteOmega]; go_simp)); first | done | ((go_at_call 12; (with_reducible exact gr_same (mod_is HRR.out _ (by omega))))) | ((go_at_call 12; (with_reducible exact gr_same (mod_is HLL.out _ (by omega))))) | (with_reducible rfl) | (with_reducible exact ⟨rfl, rfl⟩))); simp only [Act.put, List.setIfInBounds_toArray, List.set_cons_zero, List.set_cons_succ]; refine hK _ ?_; clear hK K) | (refine Sched2.walk1_late rfl rfl rfl rfl (fun K hK => ?_); apply Exists.intro; refine ⟨fun w1 hw1 => ?_, ?_⟩; (focus (go_simp; (try go_ints); (try (simp only [IntWalk.iteOmega]; go_simp)); first | done | ((go_at_call 12; (with_reducible exact gr_same (mod_is HRR.out _ (by omega))))) | ((go_at_call 12; (with_reducible exact gr_same (mod_is HLL.out _ (by omega))))) | (with_reducible rfl) | (with_reducible exact ⟨rfl, rfl⟩))); simp only [Act.put, List.setIfInBounds_toArray, List.set_cons_zero, List.set_cons_succ]; refine hK _ ?_; clear hK K) | (refine Sched2.walk1_box rfl rfl rfl ?_; apply Exists.intro; refine ⟨fun w1 hw1 => ?_, ?_⟩; (focus (go_simp; exact ⟨Gr.alloc _ _, rfl, by simp, heap_alloc_new _ _⟩))))
  refine Sched2.walk1_nil ?_
  intro wq hwq
  have hb3 := (hwq.block _ (heap_lt HB2.out) (by simp)).trans HB2.out
  have g5 : wq.cell? ⟨lo, 5, none⟩ = some (.int .i64 n1) := by rw [cell_of_block hb3]; rfl
  have g7 : wq.cell? ⟨lo, 7, none⟩ = some (.int .i64 n3) := by rw [cell_of_block hb3]; rfl
  have f5 : wq.frozen? ⟨lo, 5, none⟩ = false := frozen_of_block hb3 5
  have f7 : wq.frozen? ⟨lo, 7, none⟩ = false := frozen_of_block hb3 7
  have HB3 := Lib.hid hb3
  clear hb3 c1 c3 c4
  dsimp only [Sched.EndN, List.nil_append, List.cons_append, Act.put]
  (try simp only [List.setIfInBounds_toArray, List.set_cons_zero, List.set_cons_succ])
  simp only [Sched2.lasts, List.filterMap_cons, List.filterMap_nil, List.getElem?_toArray, List.getElem?_cons_succ, List.getElem?_cons_zero]
  repeat (first | (refine Sched2.walk2_no rfl (fun K hK => ?_); simp only [Act.put, List.setIfInBounds_toArray, List.set_cons_zero, List.set_cons_succ]; refine hK _ ?_; clear hK K) | (refine Sched2.walk2_go rfl (fun K hK => ?_); go_simp; (try go_ints); (try (simp only [IntWalk.iteOmega]; go_simp)); first | (refine hK _ _ (trivial) ?_; clear hK K) | fail))
  refine Sched2.walk2_nil ?_
  go_wp2_with fail
  have hb4 := heap_setCell_eq (heap_setCell_eq HB3.out 5 (.int .i64 R)) 7 (.int .i64 L)
  simp only [List.setIfInBounds_toArray, List.set_cons_zero, List.set_cons_succ] at hb4
  have hgs : wq.grownBy ((wq.setCell ⟨lo, 5, none⟩ (.int .i64 R)).setCell ⟨lo, 7, none⟩ (.int .i64 L)) (some lo) := grown_trans' (grown_setAt _ _ _ _) (grown_setAt _ _ _ _)
  obtain ⟨w3, hw3⟩ : ∃ x, x = (wq.setCell ⟨lo, 5, none⟩ (.int .i64 R)).setCell ⟨lo, 7, none⟩ (.int .i64 L) := ⟨_, rfl⟩
  rw [← hw3] at hb4 hgs
  rw [← hw3]
  have HG3 := Lib.hid (show Gr w w3 from grownBy_trans (HG2.out.trans hwq) hgs (.inr (.inr ⟨lo, rfl, by simp at hlo; omega⟩)))
  have HB4 := Lib.hid hb4
  clear hw3 hb4 hgs hwq g5 g7 f5 f7
  go_loopw [6] (fun i wr => ∃ k : Nat, k ≤ 2 ∧ i = .int .i64 k ∧ Gr w3 wr) (fun i _ => 2 - (intOf i).toNat)
  case atStart => exact ⟨0, by omega, rfl, Gr.refl _⟩
  case round =>
    obtain ⟨k, hk, rfl, hg⟩ := hrel
    have HGR := Lib.hid (HG3.out.trans hg)
    have hbr := (hg.block _ (heap_lt HB4.out) (by simp)).trans HB4.out
    have HBR := Lib.hid hbr
    have HRD := Lib.hid (hr.kept HGR.out)
    have HG := Lib.hid hg
    clear hg hbr
    by_cases k0 : k = 0
    · subst k0
      have x_0 : wr.cell? ⟨lo, 0, none⟩ = some (.int .i64 n0) := by rw [cell_of_block HBR.out]; rfl
      have x_1 : wr.cell? ⟨lo, 1, none⟩ = some (.int .i64 n1) := by rw [cell_of_block HBR.out]; rfl
      have x_2 : wr.cell? ⟨lo, 2, none⟩ = some (.int .i64 n2) := by rw [cell_of_block HBR.out]; rfl
      have x_3 : wr.cell? ⟨lo, 3, none⟩ = some (.int .i64 n3) := by rw [cell_of_block HBR.out]; rfl
      go_wp2_with ((go_at_call 13; refine (rlow _ _ _).mono ?_; rintro e w' ⟨rfl, rfl⟩))
      obtain ⟨w4, hw4⟩ : ∃ x, x = wr.alloc (.cells #[.int .i64 n0, .int .i64 n1, .int .i64 n2, .int .i64 n3] 22) := ⟨_, rfl⟩
      rw [← hw4]
      have hg4 : Gr wr w4 := by rw [hw4]; exact Gr.alloc _ _
      have hb4 : w4.heap[wr.heap.size]? = some (.cells #[.int .i64 n0, .int .i64 n1, .int .i64 n2, .int .i64 n3] 22 (0, 0)) := by rw [hw4]; exact heap_alloc_new _ _
      have y_0 : ∀ u, Gr w4 u → u.cell? ⟨wr.heap.size, 0, none⟩ = some (.int .i64 n0) := fun u h => h.cell (by rw [cell_of_block hb4]; rfl)
      have y_1 : ∀ u, Gr w4 u → u.cell? ⟨wr.heap.size, 1, none⟩ = some (.int .i64 n1) := fun u h => h.cell (by rw [cell_of_block hb4]; rfl)
      have y_2 : ∀ u, Gr w4 u → u.cell? ⟨wr.heap.size, 2, none⟩ = some (.int .i64 n2) := fun u h => h.cell (by rw [cell_of_block hb4]; rfl)
      have y_3 : ∀ u, Gr w4 u → u.cell? ⟨wr.heap.size, 3, none⟩ = some (.int .i64 n3) := fun u h => h.cell (by rw [cell_of_block hb4]; rfl)
      have z_0 := y_0 w4 (Gr.refl _)
      have z_1 := y_1 w4 (Gr.refl _)
      have z_2 := y_2 w4 (Gr.refl _)
      have z_3 := y_3 w4 (Gr.refl _)
      have HRD4 := Lib.hid (HRD.out.kept hg4)
      have HG4 := Lib.hid hg4
      clear hw4 hb4 hg4 x_0 x_1 x_2 x_3
      refine (decode_any _ _ _ _ _).mono ?_
      rintro e w' ⟨rfl, rfl⟩
      go_wp2_with fail
      refine (rdecode_any _ _ _ _ _).mono ?_
      rintro e w' ⟨rfl, rfl⟩
      clear z_0 z_1 z_2 z_3
      go_wp2_with fail
      refine Sched.wp_region_sched 51 [] [] (by kernel_rfl) (by kernel_rfl) ?_
      simp only [List.take_succ_cons, List.take_zero, List.drop_succ_cons, List.drop_zero]
      repeat (first | (refine Sched.walk1_no rfl rfl (fun K hK => ?_); simp only [Act.put, List.setIfInBounds_toArray, List.set_cons_zero, List.set_cons_succ]; refine hK _ ?_; clear hK K) | (refine Sched.walk1_gr rfl rfl rfl (fun K hK => ?_); apply Exists.intro; refine ⟨fun w1 hw1 => ?_, ?_⟩; (focus (go_simp; (try go_ints); (try (simp only [IntWalk.iteOmega]; go_simp)); first | done | ((go_at_call 16; (with_reducible exact gr_same (offset_any _ _)))) | ((go_at_call 17; (with_reducible exact gr_same (roffset_any _ _)))) | ((go_at_call 18; (with_reducible exact gr_same (fits_any _ _ _ _ rs _ _ _ (rd_gr HRD4.out hw1))))) | (go_at_call 19; (with_reducible exact rfits_any _ _ _ _ rs _ _ _ (rd_gr HRD4.out hw1))) | ((go_at_call 20; (with_reducible exact gr_same (least_any _ _ _ _ rs _ _ (rd_gr HRD4.out hw1))))) | (go_at_call 21; (with_reducible exact rleast_any _ _ _ _ rs _ _ (rd_gr HRD4.out hw1))) | (with_reducible rfl) | (with_reducible exact ⟨rfl, rfl⟩))); simp only [Act.put, List.setIfInBounds_toArray, List.set_cons_zero, List.set_cons_succ]; refine hK _ ?_; clear hK K) | (refine Sched.walk1_pure rfl rfl rfl (fun K hK => ?_); apply Exists.intro; refine ⟨fun w1 => ?_, ?_⟩; (focus (go_simp; (try go_ints); (try (simp only [IntWalk.iteOmega]; go_simp)); first | done | (with_reducible rfl) | (with_reducible exact ⟨rfl, rfl⟩))); simp only [Act.put, List.setIfInBounds_toArray, List.set_cons_zero, List.set_cons_succ]; refine hK _ ?_; clear hK K) | (refine Sched.walk1_box rfl rfl ?_; apply Exists.intro; refine ⟨fun w1 hw1 => ?_, ?_⟩; (focus (go_simp; exact ⟨Gr.alloc _ _, rfl, by simp, heap_alloc_new _ _⟩))))
      refine Sched.walk1_nil ?_
      intro wq hwq
      dsimp only [Sched.EndN, List.nil_append, List.cons_append, Act.put]
      (try simp only [List.setIfInBounds_toArray, List.set_cons_zero, List.set_cons_succ])
      repeat (first | (refine Sched.walk2_no rfl (fun K hK => ?_); simp only [Act.put, List.setIfInBounds_toArray, List.set_cons_zero, List.set_cons_succ]; refine hK _ ?_; clear hK K) | (refine Sched.walk2_go rfl (fun K hK => ?_); go_simp; (try go_ints); (try (simp only [IntWalk.iteOmega]; go_simp)); first | (refine hK _ _ ?_; clear hK K) | fail))
      refine Sched.walk2_nil ?_
      go_wp2_with fail
      go_roundw
      case rel => exact ⟨0 + 1, by omega, rfl, HG.out.trans (HG4.out.trans hwq)⟩
      case measure => simp [intOf]
    · by_cases k1 : k = 1
      · subst k1
        have x_0 : wr.cell? ⟨lo, 4, none⟩ = some (.int .i64 W) := by rw [cell_of_block HBR.out]; rfl
        have x_1 : wr.cell? ⟨lo, 5, none⟩ = some (.int .i64 R) := by rw [cell_of_block HBR.out]; rfl
        have x_2 : wr.cell? ⟨lo, 6, none⟩ = some (.int .i64 (3 + q)) := by rw [cell_of_block HBR.out]; rfl
        have x_3 : wr.cell? ⟨lo, 7, none⟩ = some (.int .i64 L) := by rw [cell_of_block HBR.out]; rfl
        go_wp2_with ((go_at_call 13; refine (rlow _ _ _).mono ?_; rintro e w' ⟨rfl, rfl⟩))
        obtain ⟨w4, hw4⟩ : ∃ x, x = wr.alloc (.cells #[.int .i64 W, .int .i64 R, .int .i64 (3 + q), .int .i64 L] 22) := ⟨_, rfl⟩
        rw [← hw4]
        have hg4 : Gr wr w4 := by rw [hw4]; exact Gr.alloc _ _
        have hb4 : w4.heap[wr.heap.size]? = some (.cells #[.int .i64 W, .int .i64 R, .int .i64 (3 + q), .int .i64 L] 22 (0, 0)) := by rw [hw4]; exact heap_alloc_new _ _
        have y_0 : ∀ u, Gr w4 u → u.cell? ⟨wr.heap.size, 0, none⟩ = some (.int .i64 W) := fun u h => h.cell (by rw [cell_of_block hb4]; rfl)
        have y_1 : ∀ u, Gr w4 u → u.cell? ⟨wr.heap.size, 1, none⟩ = some (.int .i64 R) := fun u h => h.cell (by rw [cell_of_block hb4]; rfl)
        have y_2 : ∀ u, Gr w4 u → u.cell? ⟨wr.heap.size, 2, none⟩ = some (.int .i64 (3 + q)) := fun u h => h.cell (by rw [cell_of_block hb4]; rfl)
        have y_3 : ∀ u, Gr w4 u → u.cell? ⟨wr.heap.size, 3, none⟩ = some (.int .i64 L) := fun u h => h.cell (by rw [cell_of_block hb4]; rfl)
        have z_0 := y_0 w4 (Gr.refl _)
        have z_1 := y_1 w4 (Gr.refl _)
        have z_2 := y_2 w4 (Gr.refl _)
        have z_3 := y_3 w4 (Gr.refl _)
        have HRD4 := Lib.hid (HRD.out.kept hg4)
        have HG4 := Lib.hid hg4
        clear hw4 hb4 hg4 x_0 x_1 x_2 x_3
        refine (decode_any _ _ _ _ _).mono ?_
        rintro e w' ⟨rfl, rfl⟩
        go_wp2_with fail
        refine (rdecode_any _ _ _ _ _).mono ?_
        rintro e w' ⟨rfl, rfl⟩
        clear z_0 z_1 z_2 z_3
        go_wp2_with fail
        refine Sched.wp_region_sched 51 [] [] (by kernel_rfl) (by kernel_rfl) ?_
        simp only [List.take_succ_cons, List.take_zero, List.drop_succ_cons, List.drop_zero]
        repeat (first | (refine Sched.walk1_no rfl rfl (fun K hK => ?_); simp only [Act.put, List.setIfInBounds_toArray, List.set_cons_zero, List.set_cons_succ]; refine hK _ ?_; clear hK K) | (refine Sched.walk1_gr rfl rfl rfl (fun K hK => ?_); apply Exists.intro; refine ⟨fun w1 hw1 => ?_, ?_⟩; (focus (go_simp; (try go_ints); (try (simp only [IntWalk.iteOmega]; go_simp)); first | done | ((go_at_call 16; (with_reducible exact gr_same (offset_any _ _)))) | ((go_at_call 17; (with_reducible exact gr_same (roffset_any _ _)))) | ((go_at_call 18; (with_reducible exact gr_same (fits_any _ _ _ _ rs _ _ _ (rd_gr HRD4.out hw1))))) | (go_at_call 19; (with_reducible exact rfits_any _ _ _ _ rs _ _ _ (rd_gr HRD4.out hw1))) | ((go_at_call 20; (with_reducible exact gr_same (least_any _ _ _ _ rs _ _ (rd_gr HRD4.out hw1))))) | (go_at_call 21; (with_reducible exact rleast_any _ _ _ _ rs _ _ (rd_gr HRD4.out hw1))) | (with_reducible rfl) | (with_reducible exact ⟨rfl, rfl⟩))); simp only [Act.put, List.setIfInBounds_toArray, List.set_cons_zero, List.set_cons_succ]; refine hK _ ?_; clear hK K) | (refine Sched.walk1_pure rfl rfl rfl (fun K hK => ?_); apply Exists.intro; refine ⟨fun w1 => ?_, ?_⟩; (focus (go_simp; (try go_ints); (try (simp only [IntWalk.iteOmega]; go_simp)); first | done | (with_reducible rfl) | (with_reducible exact ⟨rfl, rfl⟩))); simp only [Act.put, List.setIfInBounds_toArray, List.set_cons_zero, List.set_cons_succ]; refine hK _ ?_; clear hK K) | (refine Sched.walk1_box rfl rfl ?_; apply Exists.intro; refine ⟨fun w1 hw1 => ?_, ?_⟩; (focus (go_simp; exact ⟨Gr.alloc _ _, rfl, by simp, heap_alloc_new _ _⟩))))
        refine Sched.walk1_nil ?_
        intro wq hwq
        dsimp only [Sched.EndN, List.nil_append, List.cons_append, Act.put]
        (try simp only [List.setIfInBounds_toArray, List.set_cons_zero, List.set_cons_succ])
        repeat (first | (refine Sched.walk2_no rfl (fun K hK => ?_); simp only [Act.put, List.setIfInBounds_toArray, List.set_cons_zero, List.set_cons_succ]; refine hK _ ?_; clear hK K) | (refine Sched.walk2_go rfl (fun K hK => ?_); go_simp; (try go_ints); (try (simp only [IntWalk.iteOmega]; go_simp)); first | (refine hK _ _ ?_; clear hK K) | fail))
        refine Sched.walk2_nil ?_
        go_wp2_with fail
        go_roundw
        case rel => exact ⟨1 + 1, by omega, rfl, HG.out.trans (HG4.out.trans hwq)⟩
        case measure => simp [intOf]
      · obtain rfl : k = 2 := by omega
        go_wp2_with fail
        refine (awake7 _).mono ?_
        rintro e w9 ⟨rfl, hg9⟩
        have HG9 := Lib.hid hg9
        clear hg9
        go_wp2_with fail
        go_ret
        exact ⟨rfl, HGR.out.trans HG9.out⟩
theorem exact7_far (n0 n1 n2 n3 : Int) (a : Option Addr) (len cap : Nat) (w : World) (hlen : 300 < len) (hm : len ≤ 9223372036854775807) :
    Calls Try.prog 3 #[.agg #[.int .i64 n0, .int .i64 n1, .int .i64 n2, .int .i64 n3], .slice a len cap] w fun e w' => e = .returned (.bool true) ∧ Gr w w' := by
  go_enter Try.func3, Try.ntmps3
  go_wp2_with fail
  refine (awake7 _).mono ?_
  rintro e w9 ⟨rfl, hg9⟩
  have HG9 := Lib.hid ((Gr.alloc w _).trans hg9)
  clear hg9
  go_wp2_with fail
  go_ret
  exact ⟨rfl, HG9.out⟩
theorem exact7_fit (n0 n1 n2 n3 : Int) (a : Option Addr) (len cap : Nat) (rs : List Int) (w : World) (h0 : i64 n0) (h1 : i64 n1) (h2 : i64 n2) (h3 : i64 n3) (hr : Rd .i64 w a len rs) (_hc : len ≤ cap) (_hL : len ≤ 17592186043904) :
    Calls Try.prog 3 #[.agg #[.int .i64 n0, .int .i64 n1, .int .i64 n2, .int .i64 n3], .slice a len cap] w fun e w' => e = .returned (.bool true) ∧ Below w.heap.size w w' := by
  have k1 := modF_lo n0 3
  have k2 := modF_hi n0 3 (by omega)
  have key : Calls Try.prog 3 #[.agg #[.int .i64 n0, .int .i64 n1, .int .i64 n2, .int .i64 n3], .slice a len cap] w fun e w' => e = .returned (.bool true) ∧ Gr w w' := by
    by_cases hl : len ≤ 300
    · by_cases c0 : modF n0 3 = 0
      · exact exact7 n0 n1 n2 n3 a len cap rs w hr hl h0 h1 h2 h3 8 0 c0 (fun w => run_index_cell (j := 0) w Try.underlying25 (by kernel_rfl) Try.underlying3 (by kernel_rfl) (by decide) rfl) rfl
      · by_cases c1 : modF n0 3 = 1
        · exact exact7 n0 n1 n2 n3 a len cap rs w hr hl h0 h1 h2 h3 16 1 c1 (fun w => run_index_cell (j := 1) w Try.underlying25 (by kernel_rfl) Try.underlying3 (by kernel_rfl) (by decide) rfl) rfl
        · exact exact7 n0 n1 n2 n3 a len cap rs w hr hl h0 h1 h2 h3 32 2 (by omega) (fun w => run_index_cell (j := 2) w Try.underlying25 (by kernel_rfl) Try.underlying3 (by kernel_rfl) (by decide) rfl) rfl
    · exact exact7_far n0 n1 n2 n3 a len cap w (by omega) (by have := hr.2.2.1; simp only [maxLen] at this; omega)
  exact key.mono fun _ _ ⟨he, hg⟩ => ⟨he, Below.of_none hg⟩
end Go.Proofs.Ytinkllejjilenaa
