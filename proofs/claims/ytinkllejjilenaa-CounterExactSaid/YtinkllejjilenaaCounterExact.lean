/- The law CounterExact: its walk. -/
import Derived.Test.YtinkllejjilenaaCounterR
import Derived.Test.YtinkllejjilenaaCounterNonces
import Derived.Test.YtinkllejjilenaaOddKey
namespace Go.Proofs.Ytinkllejjilenaa
open Go.ChangeShapes Go.WideShapes Go.ChangeAt Go.RowKit

theorem block_set9 {w : World} {g : Nat} {x0 x1 x2 x3 x4 x5 x6 x7 x8 : Value} {t : TypeId} (h0 : w.heap[g]? = some (.cells #[x0, x1, x2, x3, x4, x5, x6, x7, x8] t (0, 0))) (a b c d e f h k l : Value) :
    (((((((((w.setCell ⟨g, 0, none⟩ a).setCell ⟨g, 1, none⟩ b).setCell ⟨g, 2, none⟩ c).setCell ⟨g, 3, none⟩ d).setCell ⟨g, 4, none⟩ e).setCell ⟨g, 5, none⟩ f).setCell ⟨g, 6, none⟩ h).setCell ⟨g, 7, none⟩ k).setCell ⟨g, 8, none⟩ l).heap[g]? = some (.cells #[a, b, c, d, e, f, h, k, l] t (0, 0)) := by
  have := (heap_setCell_eq (heap_setCell_eq (heap_setCell_eq (heap_setCell_eq (heap_setCell_eq (heap_setCell_eq (heap_setCell_eq (heap_setCell_eq (heap_setCell_eq h0 0 a) 1 b) 2 c) 3 d) 4 e) 5 f) 6 h) 7 k) 8 l)
  simpa using this
theorem grown_set9 (w : World) (g : Nat) (a b c d e f h k l : Value) : w.grownBy (((((((((w.setCell ⟨g, 0, none⟩ a).setCell ⟨g, 1, none⟩ b).setCell ⟨g, 2, none⟩ c).setCell ⟨g, 3, none⟩ d).setCell ⟨g, 4, none⟩ e).setCell ⟨g, 5, none⟩ f).setCell ⟨g, 6, none⟩ h).setCell ⟨g, 7, none⟩ k).setCell ⟨g, 8, none⟩ l) (some g) :=
  (grown_trans' (grown_trans' (grown_trans' (grown_trans' (grown_trans' (grown_trans' (grown_trans' (grown_trans' (grown_setAt _ _ _ _) (grown_setAt _ _ _ _)) (grown_setAt _ _ _ _)) (grown_setAt _ _ _ _)) (grown_setAt _ _ _ _)) (grown_setAt _ _ _ _)) (grown_setAt _ _ _ _)) (grown_setAt _ _ _ _)) (grown_setAt _ _ _ _))
theorem same_eq (a b : Option Addr) (l c l' c' : Nat) (xs : List Int) (w : World) (hx : Rd .u8 w a l xs) (hy : Rd .u8 w b l' xs) :
    Calls Try.prog 31 #[.slice a l c, .slice b l' c'] w fun e w' => e = .returned (.bool true) ∧ w = w' :=
  (same_any a b l c l' c' xs xs w hx hy).mono fun _ _ ⟨he, hw⟩ => ⟨by rw [he]; simp, hw⟩
set_option maxRecDepth 100000 in
set_option maxHeartbeats 4000000 in
theorem exact15 (ka : Option Addr) (kl kc : Nat) (ka' : Option Addr) (kl' kc' : Nat) (kn kb kd n0 n1 n2 : Int) (a : Option Addr) (len cap : Nat) (ts : List Int) (w : World) (hr : Rd .i64 w a len ts) (hl : len ≤ 400) :
    Calls Try.prog 10 #[KeyVal ka kl kc ka' kl' kc' kn kb kd, .agg #[.int .i64 n0, .int .i64 n1, .int .i64 n2], .slice a len cap] w fun e w' => e = .returned (.bool true) ∧ Gr w w' := by
  have hl2 : decide (len ≤ 400) = true := by simpa using hl
  have hm : len ≤ 9223372036854775807 := by omega
  have HR := Lib.hid hr
  clear hr
  go_enter Try.func10, Try.ntmps10
  go_wp2_with ((go_at_call 26; refine (light_any _ _ _ _ hm).mono ?_; rintro e w' ⟨rfl, rfl⟩))
  obtain ⟨w1, hw1⟩ : ∃ x, x = (w.alloc (.cells #[.slice ka kl kc, .slice ka' kl' kc', .int .i64 kn, .int .i64 kb, .int .i64 kd] 50)).alloc (.cells #[.int .i64 n0, .int .i64 n1, .int .i64 n2] 25) := ⟨_, rfl⟩
  rw [← hw1]
  have hg1 : Gr w w1 := by rw [hw1]; exact (Gr.alloc _ _).trans (Gr.alloc _ _)
  have hk1 : w1.heap[w.heap.size]? = some (.cells #[.slice ka kl kc, .slice ka' kl' kc', .int .i64 kn, .int .i64 kb, .int .i64 kd] 50 (0, 0)) := by rw [hw1]; exact heap_alloc2_old _ _ _
  have hn1 : w1.heap[w.heap.size + 1]? = some (.cells #[.int .i64 n0, .int .i64 n1, .int .i64 n2] 25 (0, 0)) := by rw [hw1]; exact heap_alloc2_new _ _ _
  clear hw1
  refine (roll_any a len cap ts w1 (HR.out.kept hg1)).mono ?_
  rintro e w2 ⟨p, rfl, hd2, hg2, hp⟩
  have hz1 := heap_lt hn1
  have hp2 : w.heap.size + 1 < p := by omega
  have HG2 := Lib.hid (hg1.trans hg2)
  have HK2 := Lib.hid ((hg2.block _ (heap_lt hk1) (by simp)).trans hk1)
  have HN2 := Lib.hid ((hg2.block _ hz1 (by simp)).trans hn1)
  clear hg1 hg2 hk1 hn1
  go_wp2_with fail
  refine (key_any p w2 hd2).mono ?_
  rintro e w3 ⟨xa, xc, xs, xb, xd, xs', xn, xB, xD, rfl, hxa, hxc, hxb, x1, x2, x3, hd3, hg3, xq1, xq2⟩
  have hk3 := (hg3.block _ (heap_lt HK2.out) (by simp; omega)).trans HK2.out
  have hn3 := (hg3.block _ (heap_lt HN2.out) (by simp; omega)).trans HN2.out
  have hp3 : p < w3.heap.size := hd3.lt
  have HG3 := Lib.hid hg3
  clear hg3
  go_wp2_with fail
  obtain ⟨w4, hw4⟩ : ∃ x, x = w3.alloc (.cells #[.slice xa 32 xc, .slice xb 16 xd, .int .i64 xn, .int .i64 xB, .int .i64 xD] 50) := ⟨_, rfl⟩
  rw [← hw4]
  have hg4 : Gr w3 w4 := by rw [hw4]; exact Gr.alloc _ _
  have hx4 : w4.heap[w3.heap.size]? = some (.cells #[.slice xa 32 xc, .slice xb 16 xd, .int .i64 xn, .int .i64 xB, .int .i64 xD] 50 (0, 0)) := by rw [hw4]; exact heap_alloc_new _ _
  clear hw4
  refine (one_any p 3 w4 (hd3.kept hg4 (by simp)) (by omega) (by omega)).mono ?_
  rintro e w5 ⟨o, rfl, hd5, hg5⟩
  have hg35 := grown_trans' (grown_weak hg4 (some p)) hg5
  have HX5 := Lib.hid ((hg5.block _ (heap_lt hx4) (by simp; omega)).trans hx4)
  have HK5 := Lib.hid ((hg35.block _ (heap_lt hk3) (by simp; omega)).trans hk3)
  have HN5 := Lib.hid ((hg35.block _ (heap_lt hn3) (by simp; omega)).trans hn3)
  have HG5 := Lib.hid (grown_trans' HG3.out hg35)
  have HXA := Lib.hid (rd_keptBut hxa hg35 (fun b off _ h e => by have := xq1 b off h; injection e; omega))
  have HXB := Lib.hid (rd_keptBut hxb hg35 (fun b off _ h e => by have := xq2 b off h; injection e; omega))
  clear hg4 hx4 hg5 hg35 hk3 hn3 hxa hxb
  cases o
  · obtain ⟨ya, rfl⟩ : ∃ y, y = xa := ⟨_, rfl⟩
    obtain ⟨yc, rfl⟩ : ∃ y, y = xc := ⟨_, rfl⟩
    obtain ⟨yb, rfl⟩ : ∃ y, y = xb := ⟨_, rfl⟩
    obtain ⟨yd, rfl⟩ : ∃ y, y = xd := ⟨_, rfl⟩
    obtain ⟨yn, rfl⟩ : ∃ y, y = xn := ⟨_, rfl⟩
    obtain ⟨yB, rfl⟩ : ∃ y, y = xB := ⟨_, rfl⟩
    obtain ⟨yD, rfl⟩ : ∃ y, y = xD := ⟨_, rfl⟩
    go_wp2_with fail
    refine (dbits_any p w5 hd5).mono ?_
    rintro e w7 ⟨b, rfl, b1, b2, hd7, hg7⟩
    obtain ⟨p1, p2⟩ := bits_pow ⟨b1, b2⟩
    have hX7 := (hg7.block _ (heap_lt HX5.out) (by simp; omega)).trans HX5.out
    have hK7 := (hg7.block _ (heap_lt HK5.out) (by simp; omega)).trans HK5.out
    have hN7 := (hg7.block _ (heap_lt HN5.out) (by simp; omega)).trans HN5.out
    have hgp7 := grown_trans' HG5.out hg7
    have hg7w : Gr w w7 := grownBy_trans HG2.out hgp7 (.inr (.inr ⟨p, rfl, by omega⟩))
    have HG7 := Lib.hid hg7w
    have HX7 := Lib.hid hX7
    have HK7 := Lib.hid hK7
    have c0 : ∀ u, Gr w7 u → u.cell? ⟨w.heap.size + 1, 0, none⟩ = some (.int .i64 n0) := fun u h => h.cell (by rw [cell_of_block hN7]; rfl)
    have c1 : ∀ u, Gr w7 u → u.cell? ⟨w.heap.size + 1, 1, none⟩ = some (.int .i64 n1) := fun u h => h.cell (by rw [cell_of_block hN7]; rfl)
    have c2 : ∀ u, Gr w7 u → u.cell? ⟨w.heap.size + 1, 2, none⟩ = some (.int .i64 n2) := fun u h => h.cell (by rw [cell_of_block hN7]; rfl)
    obtain ⟨M1, hM1⟩ : ∃ M, modF n1 1048579 = M := ⟨_, rfl⟩
    obtain ⟨M2, hM2⟩ : ∃ M, modF n2 (2 ^ b.toNat + 2) = M := ⟨_, rfl⟩
    obtain ⟨M3, hM3⟩ : ∃ M, modF n1 300 = M := ⟨_, rfl⟩
    obtain ⟨M4, hM4⟩ : ∃ M, modF n2 (2 ^ b.toNat) = M := ⟨_, rfl⟩
    have m1 := modF_lo n1 1048579
    have m2 := modF_hi n1 1048579 (by omega)
    have m3 := modF_lo n2 (2 ^ b.toNat + 2)
    have m4 := modF_hi n2 (2 ^ b.toNat + 2) (by omega)
    have m5 := modF_lo n1 300
    have m6 := modF_hi n1 300 (by omega)
    have m7 := modF_lo n2 (2 ^ b.toNat)
    have m8 := modF_hi n2 (2 ^ b.toNat) (by omega)
    rw [hM1] at m1 m2
    rw [hM2] at m3 m4
    rw [hM3] at m5 m6
    rw [hM4] at m7 m8
    have HM1 := Lib.hid hM1
    have HM2 := Lib.hid hM2
    have HM3 := Lib.hid hM3
    have HM4 := Lib.hid hM4
    clear hM1 hM2 hM3 hM4 hX7 hK7 hN7 hg7 hgp7 hg7w
    go_wp2_with fail
    refine Sched.wp_region_sched 29 [] [28] (by kernel_rfl) (by kernel_rfl) ?_
    simp only [List.take_succ_cons, List.take_zero, List.drop_succ_cons, List.drop_zero]
    repeat (first | (refine Sched.walk1_no rfl rfl (fun K hK => ?_); simp only [Act.put, List.setIfInBounds_toArray, List.set_cons_zero, List.set_cons_succ]; refine hK _ ?_; clear hK K) | (refine Sched.walk1_gr rfl rfl rfl (fun K hK => ?_); apply Exists.intro; refine ⟨fun w1 hw1 => ?_, ?_⟩; (focus (go_simp; (try go_ints); (try (simp only [IntWalk.iteOmega]; go_simp)); first | done | ((go_at_call 12; (with_reducible exact gr_same (mod_is HM1.out _ (by omega))))) | ((go_at_call 12; (with_reducible exact gr_same (mod_is HM2.out _ (by omega))))) | ((go_at_call 12; (with_reducible exact gr_same (mod_is HM3.out _ (by omega))))) | ((go_at_call 12; (with_reducible exact gr_same (mod_is HM4.out _ (by omega))))) | (with_reducible rfl) | (with_reducible exact ⟨rfl, rfl⟩))); simp only [Act.put, List.setIfInBounds_toArray, List.set_cons_zero, List.set_cons_succ]; refine hK _ ?_; clear hK K) | (refine Sched.walk1_pure rfl rfl rfl (fun K hK => ?_); apply Exists.intro; refine ⟨fun w1 => ?_, ?_⟩; (focus (go_simp; (try go_ints); (try (simp only [IntWalk.iteOmega]; go_simp)); first | done | (with_reducible rfl) | (with_reducible exact ⟨rfl, rfl⟩))); simp only [Act.put, List.setIfInBounds_toArray, List.set_cons_zero, List.set_cons_succ]; refine hK _ ?_; clear hK K) | (refine Sched.walk1_box rfl rfl ?_; apply Exists.intro; refine ⟨fun w1 hw1 => ?_, ?_⟩; (focus (go_simp; exact ⟨Gr.alloc _ _, rfl, by simp, heap_alloc_new _ _⟩))))
    refine Sched.walk1_nil ?_
    intro wq hwq
    dsimp only [Sched.EndN]
    rintro lo hi v ⟨rfl, hlt, hblk⟩ hlo hle hhi -
    have f_ : ∀ i, wq.frozen? ⟨lo, i, none⟩ = false := frozen_of_block hblk
    have g_ := cell_of_block hblk
    have f0 := f_ 0
    have f1 := f_ 1
    have f2 := f_ 2
    have f3 := f_ 3
    have f4 := f_ 4
    have f5 := f_ 5
    have f6 := f_ 6
    have f7 := f_ 7
    have f8 := f_ 8
    have g0 := g_ 0
    have g1 := g_ 1
    have g2 := g_ 2
    have g3 := g_ 3
    have g4 := g_ 4
    have g5 := g_ 5
    have g6 := g_ 6
    have g7 := g_ 7
    have g8 := g_ 8
    simp only [List.getElem?_toArray, List.getElem?_cons_zero, List.getElem?_cons_succ] at g0 g1 g2 g3 g4 g5 g6 g7 g8
    have hb8 := block_set9 hblk (.int .i64 n0) (.int .i64 n1) (.int .i64 n2) (.int .i64 b) (.int .i64 (M1 - 1)) (.int .i64 (M2 - 1)) (.int .i64 b) (.int .i64 (1048576 - M3)) (.int .i64 M4)
    have hg8 := grown_set9 wq lo (.int .i64 n0) (.int .i64 n1) (.int .i64 n2) (.int .i64 b) (.int .i64 (M1 - 1)) (.int .i64 (M2 - 1)) (.int .i64 b) (.int .i64 (1048576 - M3)) (.int .i64 M4)
    have HB8 := Lib.hid hb8
    have HGS8 := Lib.hid hg8
    have HGQ := Lib.hid hwq
    clear f_ g_ hblk hb8 hg8 hwq c0 c1 c2
    dsimp only [Sched.EndN, List.nil_append, List.cons_append, Act.put]
    (try simp only [List.setIfInBounds_toArray, List.set_cons_zero, List.set_cons_succ])
    repeat (first | (refine Sched.walk2_no rfl (fun K hK => ?_); simp only [Act.put, List.setIfInBounds_toArray, List.set_cons_zero, List.set_cons_succ]; refine hK _ ?_; clear hK K) | (refine Sched.walk2_go rfl (fun K hK => ?_); go_simp; (try go_ints); (try (simp only [IntWalk.iteOmega]; go_simp)); first | (refine hK _ _ ?_; clear hK K) | fail))
    refine Sched.walk2_nil ?_
    clear f0 f1 f2 f3 f4 f5 f6 f7 f8 g0 g1 g2 g3 g4 g5 g6 g7 g8
    have hb8 := HB8.out
    have hg8 := HGS8.out
    clear HB8 HGS8
    obtain ⟨w8, hw8⟩ : ∃ x, x = (((((((((wq.setCell ⟨lo, 0, none⟩ (.int .i64 n0)).setCell ⟨lo, 1, none⟩ (.int .i64 n1)).setCell ⟨lo, 2, none⟩ (.int .i64 n2)).setCell ⟨lo, 3, none⟩ (.int .i64 b)).setCell ⟨lo, 4, none⟩ (.int .i64 (M1 - 1))).setCell ⟨lo, 5, none⟩ (.int .i64 (M2 - 1))).setCell ⟨lo, 6, none⟩ (.int .i64 b)).setCell ⟨lo, 7, none⟩ (.int .i64 (1048576 - M3))).setCell ⟨lo, 8, none⟩ (.int .i64 M4)) := ⟨_, rfl⟩
    rw [← hw8] at hb8 hg8
    rw [← hw8]
    clear hw8
    have hg78 : Gr w7 w8 := grownBy_trans HGQ.out hg8 (.inr (.inr ⟨lo, rfl, by omega⟩))
    have HX8 := Lib.hid ((hg78.block _ (heap_lt HX7.out) (by simp)).trans HX7.out)
    have HK8 := Lib.hid ((hg78.block _ (heap_lt HK7.out) (by simp)).trans HK7.out)
    have HB8 := Lib.hid hb8
    have HG8 := Lib.hid (HG7.out.trans hg78)
    clear hg78 hb8 hg8
    go_wp2_with fail
    go_loopw [11] (fun i wr => ∃ k : Nat, k ≤ 3 ∧ i = .int .i64 k ∧ Gr w8 wr) (fun i _ => 3 - (intOf i).toNat)
    case atStart => exact ⟨0, by omega, rfl, Gr.refl _⟩
    case round =>
      obtain ⟨k, hk, rfl, hg⟩ := hrel
      have HGR := Lib.hid (HG8.out.trans hg)
      have HBR := Lib.hid ((hg.block _ (heap_lt HB8.out) (by simp)).trans HB8.out)
      have HXR := Lib.hid ((hg.block _ (heap_lt HX8.out) (by simp)).trans HX8.out)
      have HKR := Lib.hid ((hg.block _ (heap_lt HK8.out) (by simp)).trans HK8.out)
      have HG := Lib.hid hg
      clear hg
      by_cases k0 : k = 0
      · subst k0
        have q_0 : wr.cell? ⟨lo, 0, none⟩ = some (.int .i64 n0) := by rw [cell_of_block HBR.out]; rfl
        have q_1 : wr.cell? ⟨lo, 1, none⟩ = some (.int .i64 n1) := by rw [cell_of_block HBR.out]; rfl
        have q_2 : wr.cell? ⟨lo, 2, none⟩ = some (.int .i64 n2) := by rw [cell_of_block HBR.out]; rfl
        go_wp2_with fail
        obtain ⟨w10, hw10⟩ : ∃ x, x = wr.alloc (.cells #[.int .i64 n0, .int .i64 n1, .int .i64 n2] 25) := ⟨_, rfl⟩
        rw [← hw10]
        have hg10 : Gr wr w10 := by rw [hw10]; exact Gr.alloc _ _
        have hb10 : w10.heap[wr.heap.size]? = some (.cells #[.int .i64 n0, .int .i64 n1, .int .i64 n2] 25 (0, 0)) := by rw [hw10]; exact heap_alloc_new _ _
        have y_0 : ∀ u, Gr w10 u → u.cell? ⟨wr.heap.size, 0, none⟩ = some (.int .i64 n0) := fun u h => h.cell (by rw [cell_of_block hb10]; rfl)
        have y_1 : ∀ u, Gr w10 u → u.cell? ⟨wr.heap.size, 1, none⟩ = some (.int .i64 n1) := fun u h => h.cell (by rw [cell_of_block hb10]; rfl)
        have y_2 : ∀ u, Gr w10 u → u.cell? ⟨wr.heap.size, 2, none⟩ = some (.int .i64 n2) := fun u h => h.cell (by rw [cell_of_block hb10]; rfl)
        have HY0 := Lib.hid y_0
        have HY1 := Lib.hid y_1
        have HY2 := Lib.hid y_2
        have HX10 := Lib.hid ((hg10.block _ (heap_lt HXR.out) (by simp)).trans HXR.out)
        have HG10 := Lib.hid hg10
        clear hw10 hb10 hg10 q_0 q_1 q_2 y_0 y_1 y_2
        refine (split_any _ _ _).mono ?_
        rintro e w11 ⟨rfl, hg11⟩
        have z_0 := HY0.out w11 hg11
        have z_1 := HY1.out w11 hg11
        have z_2 := HY2.out w11 hg11
        have HG11 := Lib.hid hg11
        have HX11 := Lib.hid ((hg11.block _ (heap_lt HX10.out) (by simp)).trans HX10.out)
        clear hg11
        go_wp2_with fail
        refine (rsplit_any _ _ _).mono ?_
        rintro e w' ⟨rfl, rfl⟩
        go_wp2_with fail
        refine (join_any _ _ _ _).mono ?_
        rintro e w' ⟨rfl, rfl⟩
        go_wp2_with fail
        refine (rjoin_any _ _ _ _).mono ?_
        rintro e w' ⟨rfl, rfl⟩
        go_wp2_with fail
        refine (infer_any _ _ _ _).mono ?_
        rintro e w' ⟨rfl, rfl⟩
        go_wp2_with fail
        refine (rinfer_any _ _ _ _).mono ?_
        rintro e w' ⟨rfl, rfl⟩
        have x_0 : w11.cell? ⟨w3.heap.size, 0, none⟩ = some (.slice ya 32 yc) := by rw [cell_of_block HX11.out]; rfl
        have x_1 : w11.cell? ⟨w3.heap.size, 1, none⟩ = some (.slice yb 16 yd) := by rw [cell_of_block HX11.out]; rfl
        have x_2 : w11.cell? ⟨w3.heap.size, 2, none⟩ = some (.int .i64 yn) := by rw [cell_of_block HX11.out]; rfl
        have x_3 : w11.cell? ⟨w3.heap.size, 3, none⟩ = some (.int .i64 yB) := by rw [cell_of_block HX11.out]; rfl
        have x_4 : w11.cell? ⟨w3.heap.size, 4, none⟩ = some (.int .i64 yD) := by rw [cell_of_block HX11.out]; rfl
        go_wp2_with fail
        refine (nonce_any _ _ _ _ _ _ _ _ _ _ _).mono ?_
        clear z_0 z_1 z_2 x_0 x_1 x_2 x_3 x_4
        rintro e w12 ⟨na, nm, nc, rfl, hn12, hg12⟩
        have hg1012 := HG11.out.trans hg12
        have z_1 := HY1.out w12 hg1012
        have HX12 := Lib.hid ((hg12.block _ (heap_lt HX11.out) (by simp)).trans HX11.out)
        have HG12 := Lib.hid hg1012
        have HN12 := Lib.hid hn12
        have x_0 : w12.cell? ⟨w3.heap.size, 0, none⟩ = some (.slice ya 32 yc) := by rw [cell_of_block HX12.out]; rfl
        have x_1 : w12.cell? ⟨w3.heap.size, 1, none⟩ = some (.slice yb 16 yd) := by rw [cell_of_block HX12.out]; rfl
        have x_2 : w12.cell? ⟨w3.heap.size, 2, none⟩ = some (.int .i64 yn) := by rw [cell_of_block HX12.out]; rfl
        have x_3 : w12.cell? ⟨w3.heap.size, 3, none⟩ = some (.int .i64 yB) := by rw [cell_of_block HX12.out]; rfl
        have x_4 : w12.cell? ⟨w3.heap.size, 4, none⟩ = some (.int .i64 yD) := by rw [cell_of_block HX12.out]; rfl
        clear hg12 hg1012 hn12
        go_wp2_with fail
        refine (rnonce_any _ _ _ _ _ _ _ _ _ _ _).mono ?_
        clear z_1 x_0 x_1 x_2 x_3 x_4
        rintro e w13 ⟨ma, mm, mc, rfl, hn13, hg13⟩
        have HN13 := Lib.hid hn13
        have HM13 := Lib.hid (HN12.out.kept hg13)
        have HG13 := Lib.hid (HG10.out.trans (HG12.out.trans hg13))
        clear hn13 hg13
        go_wp2_with fail
        refine (same_eq _ _ _ _ _ _ _ _ HM13.out HN13.out).mono ?_
        rintro e w' ⟨rfl, rfl⟩
        go_wp2_with fail
        go_roundw
        case rel => exact ⟨0 + 1, by omega, rfl, HG.out.trans HG13.out⟩
        case measure => simp [intOf]
      · by_cases k1 : k = 1
        · subst k1
          have q_0 : wr.cell? ⟨lo, 3, none⟩ = some (.int .i64 b) := by rw [cell_of_block HBR.out]; rfl
          have q_1 : wr.cell? ⟨lo, 4, none⟩ = some (.int .i64 (M1 - 1)) := by rw [cell_of_block HBR.out]; rfl
          have q_2 : wr.cell? ⟨lo, 5, none⟩ = some (.int .i64 (M2 - 1)) := by rw [cell_of_block HBR.out]; rfl
          go_wp2_with fail
          obtain ⟨w10, hw10⟩ : ∃ x, x = wr.alloc (.cells #[.int .i64 b, .int .i64 (M1 - 1), .int .i64 (M2 - 1)] 25) := ⟨_, rfl⟩
          rw [← hw10]
          have hg10 : Gr wr w10 := by rw [hw10]; exact Gr.alloc _ _
          have hb10 : w10.heap[wr.heap.size]? = some (.cells #[.int .i64 b, .int .i64 (M1 - 1), .int .i64 (M2 - 1)] 25 (0, 0)) := by rw [hw10]; exact heap_alloc_new _ _
          have y_0 : ∀ u, Gr w10 u → u.cell? ⟨wr.heap.size, 0, none⟩ = some (.int .i64 b) := fun u h => h.cell (by rw [cell_of_block hb10]; rfl)
          have y_1 : ∀ u, Gr w10 u → u.cell? ⟨wr.heap.size, 1, none⟩ = some (.int .i64 (M1 - 1)) := fun u h => h.cell (by rw [cell_of_block hb10]; rfl)
          have y_2 : ∀ u, Gr w10 u → u.cell? ⟨wr.heap.size, 2, none⟩ = some (.int .i64 (M2 - 1)) := fun u h => h.cell (by rw [cell_of_block hb10]; rfl)
          have HY0 := Lib.hid y_0
          have HY1 := Lib.hid y_1
          have HY2 := Lib.hid y_2
          have HX10 := Lib.hid ((hg10.block _ (heap_lt HXR.out) (by simp)).trans HXR.out)
          have HG10 := Lib.hid hg10
          clear hw10 hb10 hg10 q_0 q_1 q_2 y_0 y_1 y_2
          refine (split_any _ _ _).mono ?_
          rintro e w11 ⟨rfl, hg11⟩
          have z_0 := HY0.out w11 hg11
          have z_1 := HY1.out w11 hg11
          have z_2 := HY2.out w11 hg11
          have HG11 := Lib.hid hg11
          have HX11 := Lib.hid ((hg11.block _ (heap_lt HX10.out) (by simp)).trans HX10.out)
          clear hg11
          go_wp2_with fail
          refine (rsplit_any _ _ _).mono ?_
          rintro e w' ⟨rfl, rfl⟩
          go_wp2_with fail
          refine (join_any _ _ _ _).mono ?_
          rintro e w' ⟨rfl, rfl⟩
          go_wp2_with fail
          refine (rjoin_any _ _ _ _).mono ?_
          rintro e w' ⟨rfl, rfl⟩
          go_wp2_with fail
          refine (infer_any _ _ _ _).mono ?_
          rintro e w' ⟨rfl, rfl⟩
          go_wp2_with fail
          refine (rinfer_any _ _ _ _).mono ?_
          rintro e w' ⟨rfl, rfl⟩
          have x_0 : w11.cell? ⟨w3.heap.size, 0, none⟩ = some (.slice ya 32 yc) := by rw [cell_of_block HX11.out]; rfl
          have x_1 : w11.cell? ⟨w3.heap.size, 1, none⟩ = some (.slice yb 16 yd) := by rw [cell_of_block HX11.out]; rfl
          have x_2 : w11.cell? ⟨w3.heap.size, 2, none⟩ = some (.int .i64 yn) := by rw [cell_of_block HX11.out]; rfl
          have x_3 : w11.cell? ⟨w3.heap.size, 3, none⟩ = some (.int .i64 yB) := by rw [cell_of_block HX11.out]; rfl
          have x_4 : w11.cell? ⟨w3.heap.size, 4, none⟩ = some (.int .i64 yD) := by rw [cell_of_block HX11.out]; rfl
          go_wp2_with fail
          refine (nonce_any _ _ _ _ _ _ _ _ _ _ _).mono ?_
          clear z_0 z_1 z_2 x_0 x_1 x_2 x_3 x_4
          rintro e w12 ⟨na, nm, nc, rfl, hn12, hg12⟩
          have hg1012 := HG11.out.trans hg12
          have z_1 := HY1.out w12 hg1012
          have HX12 := Lib.hid ((hg12.block _ (heap_lt HX11.out) (by simp)).trans HX11.out)
          have HG12 := Lib.hid hg1012
          have HN12 := Lib.hid hn12
          have x_0 : w12.cell? ⟨w3.heap.size, 0, none⟩ = some (.slice ya 32 yc) := by rw [cell_of_block HX12.out]; rfl
          have x_1 : w12.cell? ⟨w3.heap.size, 1, none⟩ = some (.slice yb 16 yd) := by rw [cell_of_block HX12.out]; rfl
          have x_2 : w12.cell? ⟨w3.heap.size, 2, none⟩ = some (.int .i64 yn) := by rw [cell_of_block HX12.out]; rfl
          have x_3 : w12.cell? ⟨w3.heap.size, 3, none⟩ = some (.int .i64 yB) := by rw [cell_of_block HX12.out]; rfl
          have x_4 : w12.cell? ⟨w3.heap.size, 4, none⟩ = some (.int .i64 yD) := by rw [cell_of_block HX12.out]; rfl
          clear hg12 hg1012 hn12
          go_wp2_with fail
          refine (rnonce_any _ _ _ _ _ _ _ _ _ _ _).mono ?_
          clear z_1 x_0 x_1 x_2 x_3 x_4
          rintro e w13 ⟨ma, mm, mc, rfl, hn13, hg13⟩
          have HN13 := Lib.hid hn13
          have HM13 := Lib.hid (HN12.out.kept hg13)
          have HG13 := Lib.hid (HG10.out.trans (HG12.out.trans hg13))
          clear hn13 hg13
          go_wp2_with fail
          refine (same_eq _ _ _ _ _ _ _ _ HM13.out HN13.out).mono ?_
          rintro e w' ⟨rfl, rfl⟩
          go_wp2_with fail
          go_roundw
          case rel => exact ⟨1 + 1, by omega, rfl, HG.out.trans HG13.out⟩
          case measure => simp [intOf]
        · by_cases k2 : k = 2
          · subst k2
            have q_0 : wr.cell? ⟨lo, 6, none⟩ = some (.int .i64 b) := by rw [cell_of_block HBR.out]; rfl
            have q_1 : wr.cell? ⟨lo, 7, none⟩ = some (.int .i64 (1048576 - M3)) := by rw [cell_of_block HBR.out]; rfl
            have q_2 : wr.cell? ⟨lo, 8, none⟩ = some (.int .i64 M4) := by rw [cell_of_block HBR.out]; rfl
            go_wp2_with fail
            obtain ⟨w10, hw10⟩ : ∃ x, x = wr.alloc (.cells #[.int .i64 b, .int .i64 (1048576 - M3), .int .i64 M4] 25) := ⟨_, rfl⟩
            rw [← hw10]
            have hg10 : Gr wr w10 := by rw [hw10]; exact Gr.alloc _ _
            have hb10 : w10.heap[wr.heap.size]? = some (.cells #[.int .i64 b, .int .i64 (1048576 - M3), .int .i64 M4] 25 (0, 0)) := by rw [hw10]; exact heap_alloc_new _ _
            have y_0 : ∀ u, Gr w10 u → u.cell? ⟨wr.heap.size, 0, none⟩ = some (.int .i64 b) := fun u h => h.cell (by rw [cell_of_block hb10]; rfl)
            have y_1 : ∀ u, Gr w10 u → u.cell? ⟨wr.heap.size, 1, none⟩ = some (.int .i64 (1048576 - M3)) := fun u h => h.cell (by rw [cell_of_block hb10]; rfl)
            have y_2 : ∀ u, Gr w10 u → u.cell? ⟨wr.heap.size, 2, none⟩ = some (.int .i64 M4) := fun u h => h.cell (by rw [cell_of_block hb10]; rfl)
            have HY0 := Lib.hid y_0
            have HY1 := Lib.hid y_1
            have HY2 := Lib.hid y_2
            have HX10 := Lib.hid ((hg10.block _ (heap_lt HXR.out) (by simp)).trans HXR.out)
            have HG10 := Lib.hid hg10
            clear hw10 hb10 hg10 q_0 q_1 q_2 y_0 y_1 y_2
            refine (split_any _ _ _).mono ?_
            rintro e w11 ⟨rfl, hg11⟩
            have z_0 := HY0.out w11 hg11
            have z_1 := HY1.out w11 hg11
            have z_2 := HY2.out w11 hg11
            have HG11 := Lib.hid hg11
            have HX11 := Lib.hid ((hg11.block _ (heap_lt HX10.out) (by simp)).trans HX10.out)
            clear hg11
            go_wp2_with fail
            refine (rsplit_any _ _ _).mono ?_
            rintro e w' ⟨rfl, rfl⟩
            go_wp2_with fail
            refine (join_any _ _ _ _).mono ?_
            rintro e w' ⟨rfl, rfl⟩
            go_wp2_with fail
            refine (rjoin_any _ _ _ _).mono ?_
            rintro e w' ⟨rfl, rfl⟩
            go_wp2_with fail
            refine (infer_any _ _ _ _).mono ?_
            rintro e w' ⟨rfl, rfl⟩
            go_wp2_with fail
            refine (rinfer_any _ _ _ _).mono ?_
            rintro e w' ⟨rfl, rfl⟩
            have x_0 : w11.cell? ⟨w3.heap.size, 0, none⟩ = some (.slice ya 32 yc) := by rw [cell_of_block HX11.out]; rfl
            have x_1 : w11.cell? ⟨w3.heap.size, 1, none⟩ = some (.slice yb 16 yd) := by rw [cell_of_block HX11.out]; rfl
            have x_2 : w11.cell? ⟨w3.heap.size, 2, none⟩ = some (.int .i64 yn) := by rw [cell_of_block HX11.out]; rfl
            have x_3 : w11.cell? ⟨w3.heap.size, 3, none⟩ = some (.int .i64 yB) := by rw [cell_of_block HX11.out]; rfl
            have x_4 : w11.cell? ⟨w3.heap.size, 4, none⟩ = some (.int .i64 yD) := by rw [cell_of_block HX11.out]; rfl
            go_wp2_with fail
            refine (nonce_any _ _ _ _ _ _ _ _ _ _ _).mono ?_
            clear z_0 z_1 z_2 x_0 x_1 x_2 x_3 x_4
            rintro e w12 ⟨na, nm, nc, rfl, hn12, hg12⟩
            have hg1012 := HG11.out.trans hg12
            have z_1 := HY1.out w12 hg1012
            have HX12 := Lib.hid ((hg12.block _ (heap_lt HX11.out) (by simp)).trans HX11.out)
            have HG12 := Lib.hid hg1012
            have HN12 := Lib.hid hn12
            have x_0 : w12.cell? ⟨w3.heap.size, 0, none⟩ = some (.slice ya 32 yc) := by rw [cell_of_block HX12.out]; rfl
            have x_1 : w12.cell? ⟨w3.heap.size, 1, none⟩ = some (.slice yb 16 yd) := by rw [cell_of_block HX12.out]; rfl
            have x_2 : w12.cell? ⟨w3.heap.size, 2, none⟩ = some (.int .i64 yn) := by rw [cell_of_block HX12.out]; rfl
            have x_3 : w12.cell? ⟨w3.heap.size, 3, none⟩ = some (.int .i64 yB) := by rw [cell_of_block HX12.out]; rfl
            have x_4 : w12.cell? ⟨w3.heap.size, 4, none⟩ = some (.int .i64 yD) := by rw [cell_of_block HX12.out]; rfl
            clear hg12 hg1012 hn12
            go_wp2_with fail
            refine (rnonce_any _ _ _ _ _ _ _ _ _ _ _).mono ?_
            clear z_1 x_0 x_1 x_2 x_3 x_4
            rintro e w13 ⟨ma, mm, mc, rfl, hn13, hg13⟩
            have HN13 := Lib.hid hn13
            have HM13 := Lib.hid (HN12.out.kept hg13)
            have HG13 := Lib.hid (HG10.out.trans (HG12.out.trans hg13))
            clear hn13 hg13
            go_wp2_with fail
            refine (same_eq _ _ _ _ _ _ _ _ HM13.out HN13.out).mono ?_
            rintro e w' ⟨rfl, rfl⟩
            go_wp2_with fail
            go_roundw
            case rel => exact ⟨2 + 1, by omega, rfl, HG.out.trans HG13.out⟩
            case measure => simp [intOf]
          · obtain rfl : k = 3 := by omega
            have k_0 : ∀ u, Gr wr u → u.cell? ⟨w.heap.size, 0, none⟩ = some (.slice ka kl kc) := fun u h => h.cell (by rw [cell_of_block HKR.out]; rfl)
            have k_1 : ∀ u, Gr wr u → u.cell? ⟨w.heap.size, 1, none⟩ = some (.slice ka' kl' kc') := fun u h => h.cell (by rw [cell_of_block HKR.out]; rfl)
            have k_2 : ∀ u, Gr wr u → u.cell? ⟨w.heap.size, 2, none⟩ = some (.int .i64 kn) := fun u h => h.cell (by rw [cell_of_block HKR.out]; rfl)
            have k_3 : ∀ u, Gr wr u → u.cell? ⟨w.heap.size, 3, none⟩ = some (.int .i64 kb) := fun u h => h.cell (by rw [cell_of_block HKR.out]; rfl)
            have k_4 : ∀ u, Gr wr u → u.cell? ⟨w.heap.size, 4, none⟩ = some (.int .i64 kd) := fun u h => h.cell (by rw [cell_of_block HKR.out]; rfl)
            have x_0 : ∀ u, Gr wr u → u.cell? ⟨w3.heap.size, 0, none⟩ = some (.slice ya 32 yc) := fun u h => h.cell (by rw [cell_of_block HXR.out]; rfl)
            have x_1 : ∀ u, Gr wr u → u.cell? ⟨w3.heap.size, 1, none⟩ = some (.slice yb 16 yd) := fun u h => h.cell (by rw [cell_of_block HXR.out]; rfl)
            have x_2 : ∀ u, Gr wr u → u.cell? ⟨w3.heap.size, 2, none⟩ = some (.int .i64 yn) := fun u h => h.cell (by rw [cell_of_block HXR.out]; rfl)
            have x_3 : ∀ u, Gr wr u → u.cell? ⟨w3.heap.size, 3, none⟩ = some (.int .i64 yB) := fun u h => h.cell (by rw [cell_of_block HXR.out]; rfl)
            have x_4 : ∀ u, Gr wr u → u.cell? ⟨w3.heap.size, 4, none⟩ = some (.int .i64 yD) := fun u h => h.cell (by rw [cell_of_block HXR.out]; rfl)
            go_wp2_with fail
            refine Sched.wp_region_sched 16 [] [] (by kernel_rfl) (by kernel_rfl) ?_
            simp only [List.take_succ_cons, List.take_zero, List.drop_succ_cons, List.drop_zero]
            repeat (first | (refine Sched.walk1_no rfl rfl (fun K hK => ?_); simp only [Act.put, List.setIfInBounds_toArray, List.set_cons_zero, List.set_cons_succ]; refine hK _ ?_; clear hK K) | (refine Sched.walk1_gr rfl rfl rfl (fun K hK => ?_); apply Exists.intro; refine ⟨fun w1 hw1 => ?_, ?_⟩; (focus (go_simp; (try go_ints); (try (simp only [IntWalk.iteOmega]; go_simp)); first | done | (go_at_call 23; (with_reducible exact awake15 _)) | (go_at_call 38; (with_reducible exact valid_any _ _ _ _ _ _ _ _ _ _)) | (go_at_call 39; (with_reducible exact rvalid15_any _ _ _ _ _ _ _ _ _ _)) | (with_reducible rfl) | (with_reducible exact ⟨rfl, rfl⟩))); simp only [Act.put, List.setIfInBounds_toArray, List.set_cons_zero, List.set_cons_succ]; refine hK _ ?_; clear hK K) | (refine Sched.walk1_pure rfl rfl rfl (fun K hK => ?_); apply Exists.intro; refine ⟨fun w1 => ?_, ?_⟩; (focus (go_simp; (try go_ints); (try (simp only [IntWalk.iteOmega]; go_simp)); first | done | (with_reducible rfl) | (with_reducible exact ⟨rfl, rfl⟩))); simp only [Act.put, List.setIfInBounds_toArray, List.set_cons_zero, List.set_cons_succ]; refine hK _ ?_; clear hK K) | (refine Sched.walk1_box rfl rfl ?_; apply Exists.intro; refine ⟨fun w1 hw1 => ?_, ?_⟩; (focus (go_simp; exact ⟨Gr.alloc _ _, rfl, by simp, heap_alloc_new _ _⟩))))
            refine Sched.walk1_nil ?_
            intro wq hwq
            dsimp only [Sched.EndN, List.nil_append, List.cons_append, Act.put]
            (try simp only [List.setIfInBounds_toArray, List.set_cons_zero, List.set_cons_succ])
            repeat (first | (refine Sched.walk2_no rfl (fun K hK => ?_); simp only [Act.put, List.setIfInBounds_toArray, List.set_cons_zero, List.set_cons_succ]; refine hK _ ?_; clear hK K) | (refine Sched.walk2_go rfl (fun K hK => ?_); go_simp; (try go_ints); (try (simp only [IntWalk.iteOmega]; go_simp)); first | (refine hK _ _ ?_; clear hK K) | fail))
            refine Sched.walk2_nil ?_
            clear k_0 k_1 k_2 k_3 k_4 x_0 x_1 x_2 x_3 x_4
            go_wp2_with fail
            go_ret
            exact ⟨rfl, HGR.out.trans hwq⟩
  · have x_0 : w5.cell? ⟨w3.heap.size, 0, none⟩ = some (.slice xa 32 xc) := by rw [cell_of_block HX5.out]; rfl
    have x_1 : w5.cell? ⟨w3.heap.size, 1, none⟩ = some (.slice xb 16 xd) := by rw [cell_of_block HX5.out]; rfl
    have x_2 : w5.cell? ⟨w3.heap.size, 2, none⟩ = some (.int .i64 xn) := by rw [cell_of_block HX5.out]; rfl
    have x_3 : w5.cell? ⟨w3.heap.size, 3, none⟩ = some (.int .i64 xB) := by rw [cell_of_block HX5.out]; rfl
    have x_4 : w5.cell? ⟨w3.heap.size, 4, none⟩ = some (.int .i64 xD) := by rw [cell_of_block HX5.out]; rfl
    go_wp2_with fail
    refine (oddkey_any p xa xc xs xb xd xs' xn xB xD w5 hd5 HXA.out hxc HXB.out x1 x2 x3 xq2).mono ?_
    rintro e w6 ⟨ya, yl, yc, yb, yl2, yd, yn, yB, yD, rfl, -, -, -, hd6, hg6⟩
    have hx6 := (hg6.block _ (heap_lt HX5.out) (by simp; omega)).trans HX5.out
    have hk6 := (hg6.block _ (heap_lt HK5.out) (by simp; omega)).trans HK5.out
    have hn6 := (hg6.block _ (heap_lt HN5.out) (by simp; omega)).trans HN5.out
    have HG6 := Lib.hid (grown_trans' HG5.out hg6)
    have hXlt := heap_lt hx6
    have hz3 : w2.heap.size ≤ w3.heap.size := HG3.out.size
    have f_ := frozen_of_block hx6
    have f0 := f_ 0
    have f1 := f_ 1
    have f2 := f_ 2
    have f3 := f_ 3
    have f4 := f_ 4
    have HX6 := Lib.hid hx6
    have HK6 := Lib.hid hk6
    have HN6 := Lib.hid hn6
    clear f_ hx6 hk6 hn6 hg6 x_0 x_1 x_2 x_3 x_4
    have x_0 : w6.cell? ⟨w3.heap.size, 0, none⟩ = some (.slice xa 32 xc) := by rw [cell_of_block HX6.out]; rfl
    have x_1 : w6.cell? ⟨w3.heap.size, 1, none⟩ = some (.slice xb 16 xd) := by rw [cell_of_block HX6.out]; rfl
    have x_2 : w6.cell? ⟨w3.heap.size, 2, none⟩ = some (.int .i64 xn) := by rw [cell_of_block HX6.out]; rfl
    have x_3 : w6.cell? ⟨w3.heap.size, 3, none⟩ = some (.int .i64 xB) := by rw [cell_of_block HX6.out]; rfl
    have x_4 : w6.cell? ⟨w3.heap.size, 4, none⟩ = some (.int .i64 xD) := by rw [cell_of_block HX6.out]; rfl
    go_wp2_with fail
    clear x_0 x_1 x_2 x_3 x_4 f0 f1 f2 f3 f4
    have hX7 := block_set5 HX6.out (.slice ya yl yc) (.slice yb yl2 yd) (.int .i64 yn) (.int .i64 yB) (.int .i64 yD)
    have hg67 := grown_set5 w6 w3.heap.size (.slice ya yl yc) (.slice yb yl2 yd) (.int .i64 yn) (.int .i64 yB) (.int .i64 yD)
    have hgw7 : w2.grownBy (((((w6.setCell ⟨w3.heap.size, 0, none⟩ (.slice ya yl yc)).setCell ⟨w3.heap.size, 1, none⟩ (.slice yb yl2 yd)).setCell ⟨w3.heap.size, 2, none⟩ (.int .i64 yn)).setCell ⟨w3.heap.size, 3, none⟩ (.int .i64 yB)).setCell ⟨w3.heap.size, 4, none⟩ (.int .i64 yD)) (some p) := grown_new (grown_new (grown_new (grown_new (grown_new HG6.out hz3 _) hz3 _) hz3 _) hz3 _) hz3 _
    obtain ⟨w6b, hw6b⟩ : ∃ x, x = (((((w6.setCell ⟨w3.heap.size, 0, none⟩ (.slice ya yl yc)).setCell ⟨w3.heap.size, 1, none⟩ (.slice yb yl2 yd)).setCell ⟨w3.heap.size, 2, none⟩ (.int .i64 yn)).setCell ⟨w3.heap.size, 3, none⟩ (.int .i64 yB)).setCell ⟨w3.heap.size, 4, none⟩ (.int .i64 yD)) := ⟨_, rfl⟩
    rw [← hw6b] at hX7 hg67 hgw7
    rw [← hw6b]
    have hz2 := heap_lt HK2.out
    have HX7b := Lib.hid hX7
    have HK7b := Lib.hid ((hg67.block _ (heap_lt HK6.out) (by simp; omega)).trans HK6.out)
    have HN7b := Lib.hid ((hg67.block _ (heap_lt HN6.out) (by simp; omega)).trans HN6.out)
    have HG7b := Lib.hid hgw7
    have hd7b := hd6.kept hg67 (by simp; omega)
    clear hw6b hX7 hg67 hgw7
    refine (dbits_any p w6b hd7b).mono ?_
    rintro e w7 ⟨b, rfl, b1, b2, hd7, hg7⟩
    obtain ⟨p1, p2⟩ := bits_pow ⟨b1, b2⟩
    have hX7 := (hg7.block _ (heap_lt HX7b.out) (by simp; omega)).trans HX7b.out
    have hK7 := (hg7.block _ (heap_lt HK7b.out) (by simp; omega)).trans HK7b.out
    have hN7 := (hg7.block _ (heap_lt HN7b.out) (by simp; omega)).trans HN7b.out
    have hgp7 := grown_trans' HG7b.out hg7
    have hg7w : Gr w w7 := grownBy_trans HG2.out hgp7 (.inr (.inr ⟨p, rfl, by omega⟩))
    have HG7 := Lib.hid hg7w
    have HX7 := Lib.hid hX7
    have HK7 := Lib.hid hK7
    have c0 : ∀ u, Gr w7 u → u.cell? ⟨w.heap.size + 1, 0, none⟩ = some (.int .i64 n0) := fun u h => h.cell (by rw [cell_of_block hN7]; rfl)
    have c1 : ∀ u, Gr w7 u → u.cell? ⟨w.heap.size + 1, 1, none⟩ = some (.int .i64 n1) := fun u h => h.cell (by rw [cell_of_block hN7]; rfl)
    have c2 : ∀ u, Gr w7 u → u.cell? ⟨w.heap.size + 1, 2, none⟩ = some (.int .i64 n2) := fun u h => h.cell (by rw [cell_of_block hN7]; rfl)
    obtain ⟨M1, hM1⟩ : ∃ M, modF n1 1048579 = M := ⟨_, rfl⟩
    obtain ⟨M2, hM2⟩ : ∃ M, modF n2 (2 ^ b.toNat + 2) = M := ⟨_, rfl⟩
    obtain ⟨M3, hM3⟩ : ∃ M, modF n1 300 = M := ⟨_, rfl⟩
    obtain ⟨M4, hM4⟩ : ∃ M, modF n2 (2 ^ b.toNat) = M := ⟨_, rfl⟩
    have m1 := modF_lo n1 1048579
    have m2 := modF_hi n1 1048579 (by omega)
    have m3 := modF_lo n2 (2 ^ b.toNat + 2)
    have m4 := modF_hi n2 (2 ^ b.toNat + 2) (by omega)
    have m5 := modF_lo n1 300
    have m6 := modF_hi n1 300 (by omega)
    have m7 := modF_lo n2 (2 ^ b.toNat)
    have m8 := modF_hi n2 (2 ^ b.toNat) (by omega)
    rw [hM1] at m1 m2
    rw [hM2] at m3 m4
    rw [hM3] at m5 m6
    rw [hM4] at m7 m8
    have HM1 := Lib.hid hM1
    have HM2 := Lib.hid hM2
    have HM3 := Lib.hid hM3
    have HM4 := Lib.hid hM4
    clear hM1 hM2 hM3 hM4 hX7 hK7 hN7 hg7 hgp7 hg7w
    go_wp2_with fail
    refine Sched.wp_region_sched 29 [] [28] (by kernel_rfl) (by kernel_rfl) ?_
    simp only [List.take_succ_cons, List.take_zero, List.drop_succ_cons, List.drop_zero]
    repeat (first | (refine Sched.walk1_no rfl rfl (fun K hK => ?_); simp only [Act.put, List.setIfInBounds_toArray, List.set_cons_zero, List.set_cons_succ]; refine hK _ ?_; clear hK K) | (refine Sched.walk1_gr rfl rfl rfl (fun K hK => ?_); apply Exists.intro; refine ⟨fun w1 hw1 => ?_, ?_⟩; (focus (go_simp; (try go_ints); (try (simp only [IntWalk.iteOmega]; go_simp)); first | done | ((go_at_call 12; (with_reducible exact gr_same (mod_is HM1.out _ (by omega))))) | ((go_at_call 12; (with_reducible exact gr_same (mod_is HM2.out _ (by omega))))) | ((go_at_call 12; (with_reducible exact gr_same (mod_is HM3.out _ (by omega))))) | ((go_at_call 12; (with_reducible exact gr_same (mod_is HM4.out _ (by omega))))) | (with_reducible rfl) | (with_reducible exact ⟨rfl, rfl⟩))); simp only [Act.put, List.setIfInBounds_toArray, List.set_cons_zero, List.set_cons_succ]; refine hK _ ?_; clear hK K) | (refine Sched.walk1_pure rfl rfl rfl (fun K hK => ?_); apply Exists.intro; refine ⟨fun w1 => ?_, ?_⟩; (focus (go_simp; (try go_ints); (try (simp only [IntWalk.iteOmega]; go_simp)); first | done | (with_reducible rfl) | (with_reducible exact ⟨rfl, rfl⟩))); simp only [Act.put, List.setIfInBounds_toArray, List.set_cons_zero, List.set_cons_succ]; refine hK _ ?_; clear hK K) | (refine Sched.walk1_box rfl rfl ?_; apply Exists.intro; refine ⟨fun w1 hw1 => ?_, ?_⟩; (focus (go_simp; exact ⟨Gr.alloc _ _, rfl, by simp, heap_alloc_new _ _⟩))))
    refine Sched.walk1_nil ?_
    intro wq hwq
    dsimp only [Sched.EndN]
    rintro lo hi v ⟨rfl, hlt, hblk⟩ hlo hle hhi -
    have f_ : ∀ i, wq.frozen? ⟨lo, i, none⟩ = false := frozen_of_block hblk
    have g_ := cell_of_block hblk
    have f0 := f_ 0
    have f1 := f_ 1
    have f2 := f_ 2
    have f3 := f_ 3
    have f4 := f_ 4
    have f5 := f_ 5
    have f6 := f_ 6
    have f7 := f_ 7
    have f8 := f_ 8
    have g0 := g_ 0
    have g1 := g_ 1
    have g2 := g_ 2
    have g3 := g_ 3
    have g4 := g_ 4
    have g5 := g_ 5
    have g6 := g_ 6
    have g7 := g_ 7
    have g8 := g_ 8
    simp only [List.getElem?_toArray, List.getElem?_cons_zero, List.getElem?_cons_succ] at g0 g1 g2 g3 g4 g5 g6 g7 g8
    have hb8 := block_set9 hblk (.int .i64 n0) (.int .i64 n1) (.int .i64 n2) (.int .i64 b) (.int .i64 (M1 - 1)) (.int .i64 (M2 - 1)) (.int .i64 b) (.int .i64 (1048576 - M3)) (.int .i64 M4)
    have hg8 := grown_set9 wq lo (.int .i64 n0) (.int .i64 n1) (.int .i64 n2) (.int .i64 b) (.int .i64 (M1 - 1)) (.int .i64 (M2 - 1)) (.int .i64 b) (.int .i64 (1048576 - M3)) (.int .i64 M4)
    have HB8 := Lib.hid hb8
    have HGS8 := Lib.hid hg8
    have HGQ := Lib.hid hwq
    clear f_ g_ hblk hb8 hg8 hwq c0 c1 c2
    dsimp only [Sched.EndN, List.nil_append, List.cons_append, Act.put]
    (try simp only [List.setIfInBounds_toArray, List.set_cons_zero, List.set_cons_succ])
    repeat (first | (refine Sched.walk2_no rfl (fun K hK => ?_); simp only [Act.put, List.setIfInBounds_toArray, List.set_cons_zero, List.set_cons_succ]; refine hK _ ?_; clear hK K) | (refine Sched.walk2_go rfl (fun K hK => ?_); go_simp; (try go_ints); (try (simp only [IntWalk.iteOmega]; go_simp)); first | (refine hK _ _ ?_; clear hK K) | fail))
    refine Sched.walk2_nil ?_
    clear f0 f1 f2 f3 f4 f5 f6 f7 f8 g0 g1 g2 g3 g4 g5 g6 g7 g8
    have hb8 := HB8.out
    have hg8 := HGS8.out
    clear HB8 HGS8
    obtain ⟨w8, hw8⟩ : ∃ x, x = (((((((((wq.setCell ⟨lo, 0, none⟩ (.int .i64 n0)).setCell ⟨lo, 1, none⟩ (.int .i64 n1)).setCell ⟨lo, 2, none⟩ (.int .i64 n2)).setCell ⟨lo, 3, none⟩ (.int .i64 b)).setCell ⟨lo, 4, none⟩ (.int .i64 (M1 - 1))).setCell ⟨lo, 5, none⟩ (.int .i64 (M2 - 1))).setCell ⟨lo, 6, none⟩ (.int .i64 b)).setCell ⟨lo, 7, none⟩ (.int .i64 (1048576 - M3))).setCell ⟨lo, 8, none⟩ (.int .i64 M4)) := ⟨_, rfl⟩
    rw [← hw8] at hb8 hg8
    rw [← hw8]
    clear hw8
    have hg78 : Gr w7 w8 := grownBy_trans HGQ.out hg8 (.inr (.inr ⟨lo, rfl, by omega⟩))
    have HX8 := Lib.hid ((hg78.block _ (heap_lt HX7.out) (by simp)).trans HX7.out)
    have HK8 := Lib.hid ((hg78.block _ (heap_lt HK7.out) (by simp)).trans HK7.out)
    have HB8 := Lib.hid hb8
    have HG8 := Lib.hid (HG7.out.trans hg78)
    clear hg78 hb8 hg8
    go_wp2_with fail
    go_loopw [11] (fun i wr => ∃ k : Nat, k ≤ 3 ∧ i = .int .i64 k ∧ Gr w8 wr) (fun i _ => 3 - (intOf i).toNat)
    case atStart => exact ⟨0, by omega, rfl, Gr.refl _⟩
    case round =>
      obtain ⟨k, hk, rfl, hg⟩ := hrel
      have HGR := Lib.hid (HG8.out.trans hg)
      have HBR := Lib.hid ((hg.block _ (heap_lt HB8.out) (by simp)).trans HB8.out)
      have HXR := Lib.hid ((hg.block _ (heap_lt HX8.out) (by simp)).trans HX8.out)
      have HKR := Lib.hid ((hg.block _ (heap_lt HK8.out) (by simp)).trans HK8.out)
      have HG := Lib.hid hg
      clear hg
      by_cases k0 : k = 0
      · subst k0
        have q_0 : wr.cell? ⟨lo, 0, none⟩ = some (.int .i64 n0) := by rw [cell_of_block HBR.out]; rfl
        have q_1 : wr.cell? ⟨lo, 1, none⟩ = some (.int .i64 n1) := by rw [cell_of_block HBR.out]; rfl
        have q_2 : wr.cell? ⟨lo, 2, none⟩ = some (.int .i64 n2) := by rw [cell_of_block HBR.out]; rfl
        go_wp2_with fail
        obtain ⟨w10, hw10⟩ : ∃ x, x = wr.alloc (.cells #[.int .i64 n0, .int .i64 n1, .int .i64 n2] 25) := ⟨_, rfl⟩
        rw [← hw10]
        have hg10 : Gr wr w10 := by rw [hw10]; exact Gr.alloc _ _
        have hb10 : w10.heap[wr.heap.size]? = some (.cells #[.int .i64 n0, .int .i64 n1, .int .i64 n2] 25 (0, 0)) := by rw [hw10]; exact heap_alloc_new _ _
        have y_0 : ∀ u, Gr w10 u → u.cell? ⟨wr.heap.size, 0, none⟩ = some (.int .i64 n0) := fun u h => h.cell (by rw [cell_of_block hb10]; rfl)
        have y_1 : ∀ u, Gr w10 u → u.cell? ⟨wr.heap.size, 1, none⟩ = some (.int .i64 n1) := fun u h => h.cell (by rw [cell_of_block hb10]; rfl)
        have y_2 : ∀ u, Gr w10 u → u.cell? ⟨wr.heap.size, 2, none⟩ = some (.int .i64 n2) := fun u h => h.cell (by rw [cell_of_block hb10]; rfl)
        have HY0 := Lib.hid y_0
        have HY1 := Lib.hid y_1
        have HY2 := Lib.hid y_2
        have HX10 := Lib.hid ((hg10.block _ (heap_lt HXR.out) (by simp)).trans HXR.out)
        have HG10 := Lib.hid hg10
        clear hw10 hb10 hg10 q_0 q_1 q_2 y_0 y_1 y_2
        refine (split_any _ _ _).mono ?_
        rintro e w11 ⟨rfl, hg11⟩
        have z_0 := HY0.out w11 hg11
        have z_1 := HY1.out w11 hg11
        have z_2 := HY2.out w11 hg11
        have HG11 := Lib.hid hg11
        have HX11 := Lib.hid ((hg11.block _ (heap_lt HX10.out) (by simp)).trans HX10.out)
        clear hg11
        go_wp2_with fail
        refine (rsplit_any _ _ _).mono ?_
        rintro e w' ⟨rfl, rfl⟩
        go_wp2_with fail
        refine (join_any _ _ _ _).mono ?_
        rintro e w' ⟨rfl, rfl⟩
        go_wp2_with fail
        refine (rjoin_any _ _ _ _).mono ?_
        rintro e w' ⟨rfl, rfl⟩
        go_wp2_with fail
        refine (infer_any _ _ _ _).mono ?_
        rintro e w' ⟨rfl, rfl⟩
        go_wp2_with fail
        refine (rinfer_any _ _ _ _).mono ?_
        rintro e w' ⟨rfl, rfl⟩
        have x_0 : w11.cell? ⟨w3.heap.size, 0, none⟩ = some (.slice ya yl yc) := by rw [cell_of_block HX11.out]; rfl
        have x_1 : w11.cell? ⟨w3.heap.size, 1, none⟩ = some (.slice yb yl2 yd) := by rw [cell_of_block HX11.out]; rfl
        have x_2 : w11.cell? ⟨w3.heap.size, 2, none⟩ = some (.int .i64 yn) := by rw [cell_of_block HX11.out]; rfl
        have x_3 : w11.cell? ⟨w3.heap.size, 3, none⟩ = some (.int .i64 yB) := by rw [cell_of_block HX11.out]; rfl
        have x_4 : w11.cell? ⟨w3.heap.size, 4, none⟩ = some (.int .i64 yD) := by rw [cell_of_block HX11.out]; rfl
        go_wp2_with fail
        refine (nonce_any _ _ _ _ _ _ _ _ _ _ _).mono ?_
        clear z_0 z_1 z_2 x_0 x_1 x_2 x_3 x_4
        rintro e w12 ⟨na, nm, nc, rfl, hn12, hg12⟩
        have hg1012 := HG11.out.trans hg12
        have z_1 := HY1.out w12 hg1012
        have HX12 := Lib.hid ((hg12.block _ (heap_lt HX11.out) (by simp)).trans HX11.out)
        have HG12 := Lib.hid hg1012
        have HN12 := Lib.hid hn12
        have x_0 : w12.cell? ⟨w3.heap.size, 0, none⟩ = some (.slice ya yl yc) := by rw [cell_of_block HX12.out]; rfl
        have x_1 : w12.cell? ⟨w3.heap.size, 1, none⟩ = some (.slice yb yl2 yd) := by rw [cell_of_block HX12.out]; rfl
        have x_2 : w12.cell? ⟨w3.heap.size, 2, none⟩ = some (.int .i64 yn) := by rw [cell_of_block HX12.out]; rfl
        have x_3 : w12.cell? ⟨w3.heap.size, 3, none⟩ = some (.int .i64 yB) := by rw [cell_of_block HX12.out]; rfl
        have x_4 : w12.cell? ⟨w3.heap.size, 4, none⟩ = some (.int .i64 yD) := by rw [cell_of_block HX12.out]; rfl
        clear hg12 hg1012 hn12
        go_wp2_with fail
        refine (rnonce_any _ _ _ _ _ _ _ _ _ _ _).mono ?_
        clear z_1 x_0 x_1 x_2 x_3 x_4
        rintro e w13 ⟨ma, mm, mc, rfl, hn13, hg13⟩
        have HN13 := Lib.hid hn13
        have HM13 := Lib.hid (HN12.out.kept hg13)
        have HG13 := Lib.hid (HG10.out.trans (HG12.out.trans hg13))
        clear hn13 hg13
        go_wp2_with fail
        refine (same_eq _ _ _ _ _ _ _ _ HM13.out HN13.out).mono ?_
        rintro e w' ⟨rfl, rfl⟩
        go_wp2_with fail
        go_roundw
        case rel => exact ⟨0 + 1, by omega, rfl, HG.out.trans HG13.out⟩
        case measure => simp [intOf]
      · by_cases k1 : k = 1
        · subst k1
          have q_0 : wr.cell? ⟨lo, 3, none⟩ = some (.int .i64 b) := by rw [cell_of_block HBR.out]; rfl
          have q_1 : wr.cell? ⟨lo, 4, none⟩ = some (.int .i64 (M1 - 1)) := by rw [cell_of_block HBR.out]; rfl
          have q_2 : wr.cell? ⟨lo, 5, none⟩ = some (.int .i64 (M2 - 1)) := by rw [cell_of_block HBR.out]; rfl
          go_wp2_with fail
          obtain ⟨w10, hw10⟩ : ∃ x, x = wr.alloc (.cells #[.int .i64 b, .int .i64 (M1 - 1), .int .i64 (M2 - 1)] 25) := ⟨_, rfl⟩
          rw [← hw10]
          have hg10 : Gr wr w10 := by rw [hw10]; exact Gr.alloc _ _
          have hb10 : w10.heap[wr.heap.size]? = some (.cells #[.int .i64 b, .int .i64 (M1 - 1), .int .i64 (M2 - 1)] 25 (0, 0)) := by rw [hw10]; exact heap_alloc_new _ _
          have y_0 : ∀ u, Gr w10 u → u.cell? ⟨wr.heap.size, 0, none⟩ = some (.int .i64 b) := fun u h => h.cell (by rw [cell_of_block hb10]; rfl)
          have y_1 : ∀ u, Gr w10 u → u.cell? ⟨wr.heap.size, 1, none⟩ = some (.int .i64 (M1 - 1)) := fun u h => h.cell (by rw [cell_of_block hb10]; rfl)
          have y_2 : ∀ u, Gr w10 u → u.cell? ⟨wr.heap.size, 2, none⟩ = some (.int .i64 (M2 - 1)) := fun u h => h.cell (by rw [cell_of_block hb10]; rfl)
          have HY0 := Lib.hid y_0
          have HY1 := Lib.hid y_1
          have HY2 := Lib.hid y_2
          have HX10 := Lib.hid ((hg10.block _ (heap_lt HXR.out) (by simp)).trans HXR.out)
          have HG10 := Lib.hid hg10
          clear hw10 hb10 hg10 q_0 q_1 q_2 y_0 y_1 y_2
          refine (split_any _ _ _).mono ?_
          rintro e w11 ⟨rfl, hg11⟩
          have z_0 := HY0.out w11 hg11
          have z_1 := HY1.out w11 hg11
          have z_2 := HY2.out w11 hg11
          have HG11 := Lib.hid hg11
          have HX11 := Lib.hid ((hg11.block _ (heap_lt HX10.out) (by simp)).trans HX10.out)
          clear hg11
          go_wp2_with fail
          refine (rsplit_any _ _ _).mono ?_
          rintro e w' ⟨rfl, rfl⟩
          go_wp2_with fail
          refine (join_any _ _ _ _).mono ?_
          rintro e w' ⟨rfl, rfl⟩
          go_wp2_with fail
          refine (rjoin_any _ _ _ _).mono ?_
          rintro e w' ⟨rfl, rfl⟩
          go_wp2_with fail
          refine (infer_any _ _ _ _).mono ?_
          rintro e w' ⟨rfl, rfl⟩
          go_wp2_with fail
          refine (rinfer_any _ _ _ _).mono ?_
          rintro e w' ⟨rfl, rfl⟩
          have x_0 : w11.cell? ⟨w3.heap.size, 0, none⟩ = some (.slice ya yl yc) := by rw [cell_of_block HX11.out]; rfl
          have x_1 : w11.cell? ⟨w3.heap.size, 1, none⟩ = some (.slice yb yl2 yd) := by rw [cell_of_block HX11.out]; rfl
          have x_2 : w11.cell? ⟨w3.heap.size, 2, none⟩ = some (.int .i64 yn) := by rw [cell_of_block HX11.out]; rfl
          have x_3 : w11.cell? ⟨w3.heap.size, 3, none⟩ = some (.int .i64 yB) := by rw [cell_of_block HX11.out]; rfl
          have x_4 : w11.cell? ⟨w3.heap.size, 4, none⟩ = some (.int .i64 yD) := by rw [cell_of_block HX11.out]; rfl
          go_wp2_with fail
          refine (nonce_any _ _ _ _ _ _ _ _ _ _ _).mono ?_
          clear z_0 z_1 z_2 x_0 x_1 x_2 x_3 x_4
          rintro e w12 ⟨na, nm, nc, rfl, hn12, hg12⟩
          have hg1012 := HG11.out.trans hg12
          have z_1 := HY1.out w12 hg1012
          have HX12 := Lib.hid ((hg12.block _ (heap_lt HX11.out) (by simp)).trans HX11.out)
          have HG12 := Lib.hid hg1012
          have HN12 := Lib.hid hn12
          have x_0 : w12.cell? ⟨w3.heap.size, 0, none⟩ = some (.slice ya yl yc) := by rw [cell_of_block HX12.out]; rfl
          have x_1 : w12.cell? ⟨w3.heap.size, 1, none⟩ = some (.slice yb yl2 yd) := by rw [cell_of_block HX12.out]; rfl
          have x_2 : w12.cell? ⟨w3.heap.size, 2, none⟩ = some (.int .i64 yn) := by rw [cell_of_block HX12.out]; rfl
          have x_3 : w12.cell? ⟨w3.heap.size, 3, none⟩ = some (.int .i64 yB) := by rw [cell_of_block HX12.out]; rfl
          have x_4 : w12.cell? ⟨w3.heap.size, 4, none⟩ = some (.int .i64 yD) := by rw [cell_of_block HX12.out]; rfl
          clear hg12 hg1012 hn12
          go_wp2_with fail
          refine (rnonce_any _ _ _ _ _ _ _ _ _ _ _).mono ?_
          clear z_1 x_0 x_1 x_2 x_3 x_4
          rintro e w13 ⟨ma, mm, mc, rfl, hn13, hg13⟩
          have HN13 := Lib.hid hn13
          have HM13 := Lib.hid (HN12.out.kept hg13)
          have HG13 := Lib.hid (HG10.out.trans (HG12.out.trans hg13))
          clear hn13 hg13
          go_wp2_with fail
          refine (same_eq _ _ _ _ _ _ _ _ HM13.out HN13.out).mono ?_
          rintro e w' ⟨rfl, rfl⟩
          go_wp2_with fail
          go_roundw
          case rel => exact ⟨1 + 1, by omega, rfl, HG.out.trans HG13.out⟩
          case measure => simp [intOf]
        · by_cases k2 : k = 2
          · subst k2
            have q_0 : wr.cell? ⟨lo, 6, none⟩ = some (.int .i64 b) := by rw [cell_of_block HBR.out]; rfl
            have q_1 : wr.cell? ⟨lo, 7, none⟩ = some (.int .i64 (1048576 - M3)) := by rw [cell_of_block HBR.out]; rfl
            have q_2 : wr.cell? ⟨lo, 8, none⟩ = some (.int .i64 M4) := by rw [cell_of_block HBR.out]; rfl
            go_wp2_with fail
            obtain ⟨w10, hw10⟩ : ∃ x, x = wr.alloc (.cells #[.int .i64 b, .int .i64 (1048576 - M3), .int .i64 M4] 25) := ⟨_, rfl⟩
            rw [← hw10]
            have hg10 : Gr wr w10 := by rw [hw10]; exact Gr.alloc _ _
            have hb10 : w10.heap[wr.heap.size]? = some (.cells #[.int .i64 b, .int .i64 (1048576 - M3), .int .i64 M4] 25 (0, 0)) := by rw [hw10]; exact heap_alloc_new _ _
            have y_0 : ∀ u, Gr w10 u → u.cell? ⟨wr.heap.size, 0, none⟩ = some (.int .i64 b) := fun u h => h.cell (by rw [cell_of_block hb10]; rfl)
            have y_1 : ∀ u, Gr w10 u → u.cell? ⟨wr.heap.size, 1, none⟩ = some (.int .i64 (1048576 - M3)) := fun u h => h.cell (by rw [cell_of_block hb10]; rfl)
            have y_2 : ∀ u, Gr w10 u → u.cell? ⟨wr.heap.size, 2, none⟩ = some (.int .i64 M4) := fun u h => h.cell (by rw [cell_of_block hb10]; rfl)
            have HY0 := Lib.hid y_0
            have HY1 := Lib.hid y_1
            have HY2 := Lib.hid y_2
            have HX10 := Lib.hid ((hg10.block _ (heap_lt HXR.out) (by simp)).trans HXR.out)
            have HG10 := Lib.hid hg10
            clear hw10 hb10 hg10 q_0 q_1 q_2 y_0 y_1 y_2
            refine (split_any _ _ _).mono ?_
            rintro e w11 ⟨rfl, hg11⟩
            have z_0 := HY0.out w11 hg11
            have z_1 := HY1.out w11 hg11
            have z_2 := HY2.out w11 hg11
            have HG11 := Lib.hid hg11
            have HX11 := Lib.hid ((hg11.block _ (heap_lt HX10.out) (by simp)).trans HX10.out)
            clear hg11
            go_wp2_with fail
            refine (rsplit_any _ _ _).mono ?_
            rintro e w' ⟨rfl, rfl⟩
            go_wp2_with fail
            refine (join_any _ _ _ _).mono ?_
            rintro e w' ⟨rfl, rfl⟩
            go_wp2_with fail
            refine (rjoin_any _ _ _ _).mono ?_
            rintro e w' ⟨rfl, rfl⟩
            go_wp2_with fail
            refine (infer_any _ _ _ _).mono ?_
            rintro e w' ⟨rfl, rfl⟩
            go_wp2_with fail
            refine (rinfer_any _ _ _ _).mono ?_
            rintro e w' ⟨rfl, rfl⟩
            have x_0 : w11.cell? ⟨w3.heap.size, 0, none⟩ = some (.slice ya yl yc) := by rw [cell_of_block HX11.out]; rfl
            have x_1 : w11.cell? ⟨w3.heap.size, 1, none⟩ = some (.slice yb yl2 yd) := by rw [cell_of_block HX11.out]; rfl
            have x_2 : w11.cell? ⟨w3.heap.size, 2, none⟩ = some (.int .i64 yn) := by rw [cell_of_block HX11.out]; rfl
            have x_3 : w11.cell? ⟨w3.heap.size, 3, none⟩ = some (.int .i64 yB) := by rw [cell_of_block HX11.out]; rfl
            have x_4 : w11.cell? ⟨w3.heap.size, 4, none⟩ = some (.int .i64 yD) := by rw [cell_of_block HX11.out]; rfl
            go_wp2_with fail
            refine (nonce_any _ _ _ _ _ _ _ _ _ _ _).mono ?_
            clear z_0 z_1 z_2 x_0 x_1 x_2 x_3 x_4
            rintro e w12 ⟨na, nm, nc, rfl, hn12, hg12⟩
            have hg1012 := HG11.out.trans hg12
            have z_1 := HY1.out w12 hg1012
            have HX12 := Lib.hid ((hg12.block _ (heap_lt HX11.out) (by simp)).trans HX11.out)
            have HG12 := Lib.hid hg1012
            have HN12 := Lib.hid hn12
            have x_0 : w12.cell? ⟨w3.heap.size, 0, none⟩ = some (.slice ya yl yc) := by rw [cell_of_block HX12.out]; rfl
            have x_1 : w12.cell? ⟨w3.heap.size, 1, none⟩ = some (.slice yb yl2 yd) := by rw [cell_of_block HX12.out]; rfl
            have x_2 : w12.cell? ⟨w3.heap.size, 2, none⟩ = some (.int .i64 yn) := by rw [cell_of_block HX12.out]; rfl
            have x_3 : w12.cell? ⟨w3.heap.size, 3, none⟩ = some (.int .i64 yB) := by rw [cell_of_block HX12.out]; rfl
            have x_4 : w12.cell? ⟨w3.heap.size, 4, none⟩ = some (.int .i64 yD) := by rw [cell_of_block HX12.out]; rfl
            clear hg12 hg1012 hn12
            go_wp2_with fail
            refine (rnonce_any _ _ _ _ _ _ _ _ _ _ _).mono ?_
            clear z_1 x_0 x_1 x_2 x_3 x_4
            rintro e w13 ⟨ma, mm, mc, rfl, hn13, hg13⟩
            have HN13 := Lib.hid hn13
            have HM13 := Lib.hid (HN12.out.kept hg13)
            have HG13 := Lib.hid (HG10.out.trans (HG12.out.trans hg13))
            clear hn13 hg13
            go_wp2_with fail
            refine (same_eq _ _ _ _ _ _ _ _ HM13.out HN13.out).mono ?_
            rintro e w' ⟨rfl, rfl⟩
            go_wp2_with fail
            go_roundw
            case rel => exact ⟨2 + 1, by omega, rfl, HG.out.trans HG13.out⟩
            case measure => simp [intOf]
          · obtain rfl : k = 3 := by omega
            have k_0 : ∀ u, Gr wr u → u.cell? ⟨w.heap.size, 0, none⟩ = some (.slice ka kl kc) := fun u h => h.cell (by rw [cell_of_block HKR.out]; rfl)
            have k_1 : ∀ u, Gr wr u → u.cell? ⟨w.heap.size, 1, none⟩ = some (.slice ka' kl' kc') := fun u h => h.cell (by rw [cell_of_block HKR.out]; rfl)
            have k_2 : ∀ u, Gr wr u → u.cell? ⟨w.heap.size, 2, none⟩ = some (.int .i64 kn) := fun u h => h.cell (by rw [cell_of_block HKR.out]; rfl)
            have k_3 : ∀ u, Gr wr u → u.cell? ⟨w.heap.size, 3, none⟩ = some (.int .i64 kb) := fun u h => h.cell (by rw [cell_of_block HKR.out]; rfl)
            have k_4 : ∀ u, Gr wr u → u.cell? ⟨w.heap.size, 4, none⟩ = some (.int .i64 kd) := fun u h => h.cell (by rw [cell_of_block HKR.out]; rfl)
            have x_0 : ∀ u, Gr wr u → u.cell? ⟨w3.heap.size, 0, none⟩ = some (.slice ya yl yc) := fun u h => h.cell (by rw [cell_of_block HXR.out]; rfl)
            have x_1 : ∀ u, Gr wr u → u.cell? ⟨w3.heap.size, 1, none⟩ = some (.slice yb yl2 yd) := fun u h => h.cell (by rw [cell_of_block HXR.out]; rfl)
            have x_2 : ∀ u, Gr wr u → u.cell? ⟨w3.heap.size, 2, none⟩ = some (.int .i64 yn) := fun u h => h.cell (by rw [cell_of_block HXR.out]; rfl)
            have x_3 : ∀ u, Gr wr u → u.cell? ⟨w3.heap.size, 3, none⟩ = some (.int .i64 yB) := fun u h => h.cell (by rw [cell_of_block HXR.out]; rfl)
            have x_4 : ∀ u, Gr wr u → u.cell? ⟨w3.heap.size, 4, none⟩ = some (.int .i64 yD) := fun u h => h.cell (by rw [cell_of_block HXR.out]; rfl)
            go_wp2_with fail
            refine Sched.wp_region_sched 16 [] [] (by kernel_rfl) (by kernel_rfl) ?_
            simp only [List.take_succ_cons, List.take_zero, List.drop_succ_cons, List.drop_zero]
            repeat (first | (refine Sched.walk1_no rfl rfl (fun K hK => ?_); simp only [Act.put, List.setIfInBounds_toArray, List.set_cons_zero, List.set_cons_succ]; refine hK _ ?_; clear hK K) | (refine Sched.walk1_gr rfl rfl rfl (fun K hK => ?_); apply Exists.intro; refine ⟨fun w1 hw1 => ?_, ?_⟩; (focus (go_simp; (try go_ints); (try (simp only [IntWalk.iteOmega]; go_simp)); first | done | (go_at_call 23; (with_reducible exact awake15 _)) | (go_at_call 38; (with_reducible exact valid_any _ _ _ _ _ _ _ _ _ _)) | (go_at_call 39; (with_reducible exact rvalid15_any _ _ _ _ _ _ _ _ _ _)) | (with_reducible rfl) | (with_reducible exact ⟨rfl, rfl⟩))); simp only [Act.put, List.setIfInBounds_toArray, List.set_cons_zero, List.set_cons_succ]; refine hK _ ?_; clear hK K) | (refine Sched.walk1_pure rfl rfl rfl (fun K hK => ?_); apply Exists.intro; refine ⟨fun w1 => ?_, ?_⟩; (focus (go_simp; (try go_ints); (try (simp only [IntWalk.iteOmega]; go_simp)); first | done | (with_reducible rfl) | (with_reducible exact ⟨rfl, rfl⟩))); simp only [Act.put, List.setIfInBounds_toArray, List.set_cons_zero, List.set_cons_succ]; refine hK _ ?_; clear hK K) | (refine Sched.walk1_box rfl rfl ?_; apply Exists.intro; refine ⟨fun w1 hw1 => ?_, ?_⟩; (focus (go_simp; exact ⟨Gr.alloc _ _, rfl, by simp, heap_alloc_new _ _⟩))))
            refine Sched.walk1_nil ?_
            intro wq hwq
            dsimp only [Sched.EndN, List.nil_append, List.cons_append, Act.put]
            (try simp only [List.setIfInBounds_toArray, List.set_cons_zero, List.set_cons_succ])
            repeat (first | (refine Sched.walk2_no rfl (fun K hK => ?_); simp only [Act.put, List.setIfInBounds_toArray, List.set_cons_zero, List.set_cons_succ]; refine hK _ ?_; clear hK K) | (refine Sched.walk2_go rfl (fun K hK => ?_); go_simp; (try go_ints); (try (simp only [IntWalk.iteOmega]; go_simp)); first | (refine hK _ _ ?_; clear hK K) | fail))
            refine Sched.walk2_nil ?_
            clear k_0 k_1 k_2 k_3 k_4 x_0 x_1 x_2 x_3 x_4
            go_wp2_with fail
            go_ret
            exact ⟨rfl, HGR.out.trans hwq⟩
end Go.Proofs.Ytinkllejjilenaa
