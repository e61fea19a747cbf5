/- The law CounterNonces: its walk. -/
import Derived.Test.YtinkllejjilenaaNonce
import Derived.Test.YtinkllejjilenaaCounterLaws
import Derived.Test.YtinkllejjilenaaSame
namespace Go.Proofs.Ytinkllejjilenaa
open Go.ChangeShapes Go.WideShapes Go.ChangeAt Go.RowKit

theorem nonce_inj {n b d c n' b' d' c' : Int} (h1 : 0 ≤ n ∧ n < 5) (h1' : 0 ≤ n' ∧ n' < 5) (h4 : 0 ≤ c ∧ c < 1048576) (h4' : 0 ≤ c' ∧ c' < 1048576) :
    nonceL n b d c = nonceL n' b' d' c' ↔ n = n' ∧ b = b' ∧ d = d' ∧ c = c' := by
  constructor
  · intro h
    simp only [nonceL, put4, List.cons_append, List.nil_append, List.cons.injEq, and_true, true_and] at h
    omega
  · rintro ⟨rfl, rfl, rfl, rfl⟩; rfl
theorem key_small {n b d : Int} (h1 : 0 ≤ n ∧ n < 5) (h2 : 0 ≤ b ∧ b < 3) (h3 : 0 ≤ d ∧ d < 2) : keyB 32 16 n b d = true := key_true (by omega)

theorem light_any (a : Option Addr) (len cap : Nat) (w : World) (hm : len ≤ 9223372036854775807) : Calls Try.prog 26 #[.slice a len cap] w fun e w' => e = .returned (.bool (decide (len ≤ 400))) ∧ w = w' := by
  go_enter Try.func26, Try.ntmps26
  go_wp2
  go_ret
  exact ⟨ret_bool (by rw [Bool.eq_iff_iff]; simp; omega), rfl⟩
def RollPost (w : World) (e : Ending) (w' : World) : Prop := ∃ p, e = .returned (.pointer (some ⟨p, 0, none⟩)) ∧ Die w' p ∧ Gr w w' ∧ w.heap.size ≤ p
theorem roll_any (a : Option Addr) (len cap : Nat) (ts : List Int) (w : World) (hr : Rd .i64 w a len ts) : Calls Try.prog 27 #[.slice a len cap] w (RollPost w) := by
  have HR := Lib.hid hr
  clear hr
  go_enter Try.func27, Try.ntmps27
  go_wp2_with fail
  go_ret
  refine ⟨w.heap.size, rfl, ?_, Gr.alloc _ _, Nat.le_refl _⟩
  refine ⟨a, len, cap, ts, 0, heap_alloc_new _ _, HR.out.kept (Gr.alloc _ _), by omega, ?_⟩
  intro b' off' h0 he
  obtain ⟨b, off, rfl, hb, hc⟩ := HR.out.some h0
  injection he with he
  injection he
  omega

set_option maxHeartbeats 2000000 in
theorem nonces_walk (a : Option Addr) (len cap : Nat) (ts : List Int) (n0 n1 : Int) (w : World) (hr : Rd .i64 w a len ts) (_h0 : i64 n0) (_h1 : i64 n1) :
    Calls Try.prog 9 #[.slice a len cap, .agg #[.int .i64 n0, .int .i64 n1]] w fun e w' => e = .returned (.bool true) ∧ Gr w w' := by
  have hm : len ≤ 9223372036854775807 := by have := hr.2.2.1; simp only [maxLen] at this; omega
  have HR := Lib.hid hr
  clear hr
  by_cases hl : len ≤ 400
  · have hl2 : decide (len ≤ 400) = true := by simpa using hl
    go_enter Try.func9, Try.ntmps9
    go_wp2_with ((go_at_call 26; refine (light_any _ _ _ _ hm).mono ?_; rintro e w' ⟨rfl, rfl⟩))
    obtain ⟨w1, hw1⟩ : ∃ x, x = w.alloc (.cells #[.int .i64 n0, .int .i64 n1] 36) := ⟨_, rfl⟩
    rw [← hw1]
    have hg1 : Gr w w1 := by rw [hw1]; exact Gr.alloc _ _
    have hb1 : w1.heap[w.heap.size]? = some (.cells #[.int .i64 n0, .int .i64 n1] 36 (0, 0)) := by rw [hw1]; exact heap_alloc_new _ _
    have HG1 := Lib.hid hg1
    have HB1 := Lib.hid hb1
    clear hw1
    refine (roll_any a len cap ts w1 (HR.out.kept hg1)).mono ?_
    rintro e w2 ⟨p, rfl, hd2, hg2, hp⟩
    have HG2 := Lib.hid (hg1.trans hg2)
    have hp2 : w.heap.size < p := Nat.lt_of_lt_of_le (heap_lt hb1) hp
    have HB2 := Lib.hid ((hg2.block _ (heap_lt hb1) (by simp)).trans hb1)
    clear hg1 hb1 hg2
    go_wp2_with fail
    refine (key_any p w2 hd2).mono ?_
    rintro e w3 ⟨xa, xc, xs, xb, xd, xs', xn, xB, xD, rfl, -, -, -, x1, x2, x3, hd3, hg3, -, -⟩
    have HG3 := Lib.hid hg3
    clear hg3
    go_wp2_with fail
    refine (key_any p w3 hd3).mono ?_
    rintro e w4 ⟨ya, yc, ys, yb, yd, ys', yn, yB, yD, rfl, -, -, -, y1, y2, y3, hd4, hg4, -, -⟩
    have hg24 := grown_trans' HG3.out hg4
    have HG24 := Lib.hid hg24
    have HB4 := Lib.hid ((hg24.block _ (heap_lt HB2.out) (by simp; omega)).trans HB2.out)
    clear hg4 hg24
    go_wp2_with fail
    obtain ⟨w5, hw5⟩ : ∃ x, x = (w4.alloc (.cells #[.slice xa 32 xc, .slice xb 16 xd, .int .i64 xn, .int .i64 xB, .int .i64 xD] 50)).alloc (.cells #[.slice ya 32 yc, .slice yb 16 yd, .int .i64 yn, .int .i64 yB, .int .i64 yD] 50) := ⟨_, rfl⟩
    rw [← hw5]
    have hg5 : Gr w4 w5 := by rw [hw5]; exact (Gr.alloc _ _).trans (Gr.alloc _ _)
    have hx5 : w5.heap[w4.heap.size]? = some (.cells #[.slice xa 32 xc, .slice xb 16 xd, .int .i64 xn, .int .i64 xB, .int .i64 xD] 50 (0, 0)) := by rw [hw5]; exact heap_alloc2_old _ _ _
    have hy5 : w5.heap[w4.heap.size + 1]? = some (.cells #[.slice ya 32 yc, .slice yb 16 yd, .int .i64 yn, .int .i64 yB, .int .i64 yD] 50 (0, 0)) := by rw [hw5]; exact heap_alloc2_new _ _ _
    have hb5 := (hg5.block _ (heap_lt HB4.out) (by simp)).trans HB4.out
    have c0 : ∀ u, Gr w5 u → u.cell? ⟨w.heap.size, 0, none⟩ = some (.int .i64 n0) := fun u h => h.cell (by rw [cell_of_block hb5]; rfl)
    have c1 : ∀ u, Gr w5 u → u.cell? ⟨w.heap.size, 1, none⟩ = some (.int .i64 n1) := fun u h => h.cell (by rw [cell_of_block hb5]; rfl)
    have hd5 := hd4.kept hg5 (by simp)
    have HX5 := Lib.hid hx5
    have HY5 := Lib.hid hy5
    have HG5 := Lib.hid hg5
    obtain ⟨A, hA⟩ : ∃ A, modF n0 1048576 = A := ⟨_, rfl⟩
    obtain ⟨B, hB⟩ : ∃ B, modF n1 1048576 = B := ⟨_, rfl⟩
    have A1 := modF_lo n0 1048576
    have A2 := modF_hi n0 1048576 (by omega)
    have B1 := modF_lo n1 1048576
    have B2 := modF_hi n1 1048576 (by omega)
    rw [hA] at A1 A2
    rw [hB] at B1 B2
    have HA := Lib.hid hA
    have HBB := Lib.hid hB
    clear hw5 hg5 hx5 hy5 hb5 hA hB
    refine Sched.wp_region_sched 8 [] [] (by kernel_rfl) (by kernel_rfl) ?_
    simp only [List.take_succ_cons, List.take_zero, List.drop_succ_cons, List.drop_zero]
    repeat (first | (refine Sched.walk1_no rfl rfl (fun K hK => ?_); simp only [Act.put, List.setIfInBounds_toArray, List.set_cons_zero, List.set_cons_succ]; refine hK _ ?_; clear hK K) | (refine Sched.walk1_gr rfl rfl rfl (fun K hK => ?_); apply Exists.intro; refine ⟨fun w1 hw1 => ?_, ?_⟩; (focus (go_simp; (try go_ints); (try (simp only [IntWalk.iteOmega]; go_simp)); first | done | ((go_at_call 12; (with_reducible exact gr_same (mod_is HA.out _ (by omega))))) | ((go_at_call 12; (with_reducible exact gr_same (mod_is HBB.out _ (by omega))))) | (with_reducible rfl) | (with_reducible exact ⟨rfl, rfl⟩))); simp only [Act.put, List.setIfInBounds_toArray, List.set_cons_zero, List.set_cons_succ]; refine hK _ ?_; clear hK K) | (refine Sched.walk1_pure rfl rfl rfl (fun K hK => ?_); apply Exists.intro; refine ⟨fun w1 => ?_, ?_⟩; (focus (go_simp; (try go_ints); (try (simp only [IntWalk.iteOmega]; go_simp)); first | done | (with_reducible rfl) | (with_reducible exact ⟨rfl, rfl⟩))); simp only [Act.put, List.setIfInBounds_toArray, List.set_cons_zero, List.set_cons_succ]; refine hK _ ?_; clear hK K) | (refine Sched.walk1_box rfl rfl ?_; apply Exists.intro; refine ⟨fun w1 hw1 => ?_, ?_⟩; (focus (go_simp; exact ⟨Gr.alloc _ _, rfl, by simp, heap_alloc_new _ _⟩))))
    refine Sched.walk1_nil ?_
    intro wq hwq
    dsimp only [Sched.EndN, List.nil_append, List.cons_append, Act.put]
    (try simp only [List.setIfInBounds_toArray, List.set_cons_zero, List.set_cons_succ])
    repeat (first | (refine Sched.walk2_no rfl (fun K hK => ?_); simp only [Act.put, List.setIfInBounds_toArray, List.set_cons_zero, List.set_cons_succ]; refine hK _ ?_; clear hK K) | (refine Sched.walk2_go rfl (fun K hK => ?_); go_simp; (try go_ints); (try (simp only [IntWalk.iteOmega]; go_simp)); first | (refine hK _ _ ?_; clear hK K) | fail))
    refine Sched.walk2_nil ?_
    have HGQ := Lib.hid hwq
    have hpX : p < w4.heap.size := hd4.lt
    clear c0 c1 hwq
    go_wp2_with fail
    refine (one_any p 2 wq (hd5.kept HGQ.out (by simp)) (by omega) (by omega)).mono ?_
    rintro e w6 ⟨o, rfl, -, hg6⟩
    have hg56 : w5.grownBy w6 (some p) := grown_trans' (grown_weak HGQ.out _) hg6
    have hx6 := (hg56.block _ (heap_lt HX5.out) (by simp; omega)).trans HX5.out
    have hy6 := (hg56.block _ (heap_lt HY5.out) (by simp; omega)).trans HY5.out
    have HG6 := Lib.hid hg56
    have HX6 := Lib.hid hx6
    have HY6 := Lib.hid hy6
    clear hg6 hg56 hx6 hy6
    cases o
    · have hcA : countB A = true := by simp [countB]; omega
      have hcB : countB B = true := by simp [countB]; omega
      have x_0 : w6.cell? ⟨w4.heap.size, 0, none⟩ = some (.slice xa 32 xc) := by rw [cell_of_block HX6.out]; rfl
      have x_1 : w6.cell? ⟨w4.heap.size, 1, none⟩ = some (.slice xb 16 xd) := by rw [cell_of_block HX6.out]; rfl
      have x_2 : w6.cell? ⟨w4.heap.size, 2, none⟩ = some (.int .i64 xn) := by rw [cell_of_block HX6.out]; rfl
      have x_3 : w6.cell? ⟨w4.heap.size, 3, none⟩ = some (.int .i64 xB) := by rw [cell_of_block HX6.out]; rfl
      have x_4 : w6.cell? ⟨w4.heap.size, 4, none⟩ = some (.int .i64 xD) := by rw [cell_of_block HX6.out]; rfl
      go_wp2_with fail
      refine (nonce_any _ _ _ _ _ _ _ _ _ _ _).mono ?_
      rintro e w7 ⟨na, nm, nc, rfl, hrx, hg7⟩
      rw [key_small x1 x2 x3, hcA] at hrx
      rw [key_small x1 x2 x3]
      simp only [Bool.and_self, if_true] at hrx
      have hnm : nm = 12 := by have := hrx.1; simp [nonceL, put4] at this; omega
      subst hnm
      have hy7 := (hg7.block _ (heap_lt HY6.out) (by simp)).trans HY6.out
      have HX7 := Lib.hid ((hg7.block _ (heap_lt HX6.out) (by simp)).trans HX6.out)
      have HY7 := Lib.hid hy7
      clear x_0 x_1 x_2 x_3 x_4
      have y_0 : w7.cell? ⟨(w4.heap.size + 1), 0, none⟩ = some (.slice ya 32 yc) := by rw [cell_of_block HY7.out]; rfl
      have y_1 : w7.cell? ⟨(w4.heap.size + 1), 1, none⟩ = some (.slice yb 16 yd) := by rw [cell_of_block HY7.out]; rfl
      have y_2 : w7.cell? ⟨(w4.heap.size + 1), 2, none⟩ = some (.int .i64 yn) := by rw [cell_of_block HY7.out]; rfl
      have y_3 : w7.cell? ⟨(w4.heap.size + 1), 3, none⟩ = some (.int .i64 yB) := by rw [cell_of_block HY7.out]; rfl
      have y_4 : w7.cell? ⟨(w4.heap.size + 1), 4, none⟩ = some (.int .i64 yD) := by rw [cell_of_block HY7.out]; rfl
      have HRX := Lib.hid hrx
      have HG7 := Lib.hid hg7
      have he0 : nonceE true A = 0 := by simp [nonceE, hcA]
      have he1 : nonceE true B = 0 := by simp [nonceE, hcB]
      rw [he0]
      clear hrx hg7 hy7 he0
      go_wp2_with fail
      refine (nonce_any _ _ _ _ _ _ _ _ _ _ _).mono ?_
      rintro e w8 ⟨ma, mm, mc, rfl, hry, hg8⟩
      rw [key_small y1 y2 y3, hcB] at hry
      rw [key_small y1 y2 y3]
      simp only [Bool.and_self, if_true] at hry
      have hmm : mm = 12 := by have := hry.1; simp [nonceL, put4] at this; omega
      subst hmm
      rw [he1]
      have HX8 := Lib.hid ((hg8.block _ (heap_lt HX7.out) (by simp)).trans HX7.out)
      have HY8 := Lib.hid ((hg8.block _ (heap_lt HY7.out) (by simp)).trans HY7.out)
      clear y_0 y_1 y_2 y_3 y_4 he1 hcA hcB
      have y_0 : w8.cell? ⟨(w4.heap.size + 1), 0, none⟩ = some (.slice ya 32 yc) := by rw [cell_of_block HY8.out]; rfl
      have y_1 : w8.cell? ⟨(w4.heap.size + 1), 1, none⟩ = some (.slice yb 16 yd) := by rw [cell_of_block HY8.out]; rfl
      have y_2 : w8.cell? ⟨(w4.heap.size + 1), 2, none⟩ = some (.int .i64 yn) := by rw [cell_of_block HY8.out]; rfl
      have y_3 : w8.cell? ⟨(w4.heap.size + 1), 3, none⟩ = some (.int .i64 yB) := by rw [cell_of_block HY8.out]; rfl
      have y_4 : w8.cell? ⟨(w4.heap.size + 1), 4, none⟩ = some (.int .i64 yD) := by rw [cell_of_block HY8.out]; rfl
      have x_0 : w8.cell? ⟨w4.heap.size, 0, none⟩ = some (.slice xa 32 xc) := by rw [cell_of_block HX8.out]; rfl
      have x_1 : w8.cell? ⟨w4.heap.size, 1, none⟩ = some (.slice xb 16 xd) := by rw [cell_of_block HX8.out]; rfl
      have x_2 : w8.cell? ⟨w4.heap.size, 2, none⟩ = some (.int .i64 xn) := by rw [cell_of_block HX8.out]; rfl
      have x_3 : w8.cell? ⟨w4.heap.size, 3, none⟩ = some (.int .i64 xB) := by rw [cell_of_block HX8.out]; rfl
      have x_4 : w8.cell? ⟨w4.heap.size, 4, none⟩ = some (.int .i64 xD) := by rw [cell_of_block HX8.out]; rfl
      clear x_0 x_1 y_0 y_1
      have hrx := HRX.out
      have hinj := nonce_inj (b := xB) (d := xD) (b' := yB) (d' := yD) x1 y1 (⟨A1, A2⟩ : 0 ≤ A ∧ A < 1048576) (⟨B1, B2⟩ : 0 ≤ B ∧ B < 1048576)
      have hgp : w2.grownBy w6 (some p) := grown_trans' (grown_trans' HG24.out (grown_weak HG5.out _)) HG6.out
      have HGF := Lib.hid (show ∀ u, Gr w8 u → Gr w u from fun u h => Gr.trans (grownBy_trans HG2.out hgp (.inr (.inr ⟨p, rfl, by omega⟩))) (HG7.out.trans (hg8.trans h)))
      clear hgp
      by_cases heq : xn = yn ∧ xB = yB ∧ xD = yD ∧ A = B
      · have hs : decide (nonceL xn xB xD A = nonceL yn yB yD B) = true := decide_eq_true (hinj.2 heq)
        have HS := Lib.hid hs
        obtain ⟨e1, e2, e3, e4⟩ := heq
        have k1 : (xn == yn) = true := by simp [e1]
        have k2 : (xB == yB) = true := by simp [e2]
        have k3 : (xD == yD) = true := by simp [e3]
        have k4 : (A == B) = true := beq_iff_eq.2 e4
        clear hs hinj e1 e2 e3 e4
        go_wp2_with fail
        refine (awake15 _).mono ?_
        rintro e w9 ⟨rfl, hg9⟩
        have HR9x := Lib.hid (hrx.kept (hg8.trans hg9))
        have HR9y := Lib.hid (hry.kept hg9)
        have HG9 := Lib.hid hg9
        clear hg9 hrx hry
        go_wp2_with fail
        refine (same_any _ _ _ _ _ _ _ _ _ HR9x.out HR9y.out).mono ?_
        rw [HS.out]
        rintro e w' ⟨rfl, rfl⟩
        go_wp2_with fail
        go_ret
        exact ⟨rfl, HGF.out _ HG9.out⟩
      · have hs : decide (nonceL xn xB xD A = nonceL yn yB yD B) = false := decide_eq_false (fun h => heq (hinj.1 h))
        have HS := Lib.hid hs
        by_cases htr : xn = yn ∧ xB = yB ∧ xD = yD
        · have k4 : (A == B) = false := by simpa using fun h => heq ⟨htr.1, htr.2.1, htr.2.2, h⟩
          have k1 : (xn == yn) = true := by simp [htr.1]
          have k2 : (xB == yB) = true := by simp [htr.2.1]
          have k3 : (xD == yD) = true := by simp [htr.2.2]
          clear hs hinj heq htr
          go_wp2_with fail
          refine (awake15 _).mono ?_
          rintro e w9 ⟨rfl, hg9⟩
          have HR9x := Lib.hid (hrx.kept (hg8.trans hg9))
          have HR9y := Lib.hid (hry.kept hg9)
          have HG9 := Lib.hid hg9
          clear hg9 hrx hry
          go_wp2_with fail
          refine (same_any _ _ _ _ _ _ _ _ _ HR9x.out HR9y.out).mono ?_
          rw [HS.out]
          rintro e w' ⟨rfl, rfl⟩
          go_wp2_with fail
          go_ret
          exact ⟨rfl, HGF.out _ HG9.out⟩
        · have HTR := Lib.hid htr
          clear hs hinj heq htr
          go_wp2_with fail
          · exact absurd ⟨by assumption, by assumption, by assumption⟩ HTR.out
          · refine (awake15 _).mono ?_
            rintro e w9 ⟨rfl, hg9⟩
            have HR9x := Lib.hid (hrx.kept (hg8.trans hg9))
            have HR9y := Lib.hid (hry.kept hg9)
            have HG9 := Lib.hid hg9
            clear hg9 hrx hry
            go_wp2_with fail
            refine (same_any _ _ _ _ _ _ _ _ _ HR9x.out HR9y.out).mono ?_
            rw [HS.out]
            rintro e w' ⟨rfl, rfl⟩
            go_wp2_with fail
            go_ret
            exact ⟨rfl, HGF.out _ HG9.out⟩
          · refine (awake15 _).mono ?_
            rintro e w9 ⟨rfl, hg9⟩
            have HR9x := Lib.hid (hrx.kept (hg8.trans hg9))
            have HR9y := Lib.hid (hry.kept hg9)
            have HG9 := Lib.hid hg9
            clear hg9 hrx hry
            go_wp2_with fail
            refine (same_any _ _ _ _ _ _ _ _ _ HR9x.out HR9y.out).mono ?_
            rw [HS.out]
            rintro e w' ⟨rfl, rfl⟩
            go_wp2_with fail
            go_ret
            exact ⟨rfl, HGF.out _ HG9.out⟩
          · refine (awake15 _).mono ?_
            rintro e w9 ⟨rfl, hg9⟩
            have HR9x := Lib.hid (hrx.kept (hg8.trans hg9))
            have HR9y := Lib.hid (hry.kept hg9)
            have HG9 := Lib.hid hg9
            clear hg9 hrx hry
            go_wp2_with fail
            refine (same_any _ _ _ _ _ _ _ _ _ HR9x.out HR9y.out).mono ?_
            rw [HS.out]
            rintro e w' ⟨rfl, rfl⟩
            go_wp2_with fail
            go_ret
            exact ⟨rfl, HGF.out _ HG9.out⟩
    · have hcA : countB A = true := by simp [countB]; omega
      have hcB : countB A = true := by simp [countB]; omega
      have x_0 : w6.cell? ⟨w4.heap.size, 0, none⟩ = some (.slice xa 32 xc) := by rw [cell_of_block HX6.out]; rfl
      have x_1 : w6.cell? ⟨w4.heap.size, 1, none⟩ = some (.slice xb 16 xd) := by rw [cell_of_block HX6.out]; rfl
      have x_2 : w6.cell? ⟨w4.heap.size, 2, none⟩ = some (.int .i64 xn) := by rw [cell_of_block HX6.out]; rfl
      have x_3 : w6.cell? ⟨w4.heap.size, 3, none⟩ = some (.int .i64 xB) := by rw [cell_of_block HX6.out]; rfl
      have x_4 : w6.cell? ⟨w4.heap.size, 4, none⟩ = some (.int .i64 xD) := by rw [cell_of_block HX6.out]; rfl
      go_wp2_with fail
      refine (nonce_any _ _ _ _ _ _ _ _ _ _ _).mono ?_
      rintro e w7 ⟨na, nm, nc, rfl, hrx, hg7⟩
      rw [key_small x1 x2 x3, hcA] at hrx
      rw [key_small x1 x2 x3]
      simp only [Bool.and_self, if_true] at hrx
      have hnm : nm = 12 := by have := hrx.1; simp [nonceL, put4] at this; omega
      subst hnm
      have hy7 := (hg7.block _ (heap_lt HY6.out) (by simp)).trans HY6.out
      have HX7 := Lib.hid ((hg7.block _ (heap_lt HX6.out) (by simp)).trans HX6.out)
      have HY7 := Lib.hid hy7
      clear x_0 x_1 x_2 x_3 x_4
      have y_0 : w7.cell? ⟨(w4.heap.size + 1), 0, none⟩ = some (.slice ya 32 yc) := by rw [cell_of_block HY7.out]; rfl
      have y_1 : w7.cell? ⟨(w4.heap.size + 1), 1, none⟩ = some (.slice yb 16 yd) := by rw [cell_of_block HY7.out]; rfl
      have y_2 : w7.cell? ⟨(w4.heap.size + 1), 2, none⟩ = some (.int .i64 yn) := by rw [cell_of_block HY7.out]; rfl
      have y_3 : w7.cell? ⟨(w4.heap.size + 1), 3, none⟩ = some (.int .i64 yB) := by rw [cell_of_block HY7.out]; rfl
      have y_4 : w7.cell? ⟨(w4.heap.size + 1), 4, none⟩ = some (.int .i64 yD) := by rw [cell_of_block HY7.out]; rfl
      have HRX := Lib.hid hrx
      have HG7 := Lib.hid hg7
      have he0 : nonceE true A = 0 := by simp [nonceE, hcA]
      have he1 : nonceE true A = 0 := by simp [nonceE, hcB]
      rw [he0]
      clear hrx hg7 hy7 he0
      go_wp2_with fail
      refine (nonce_any _ _ _ _ _ _ _ _ _ _ _).mono ?_
      rintro e w8 ⟨ma, mm, mc, rfl, hry, hg8⟩
      rw [key_small y1 y2 y3, hcB] at hry
      rw [key_small y1 y2 y3]
      simp only [Bool.and_self, if_true] at hry
      have hmm : mm = 12 := by have := hry.1; simp [nonceL, put4] at this; omega
      subst hmm
      rw [he1]
      have HX8 := Lib.hid ((hg8.block _ (heap_lt HX7.out) (by simp)).trans HX7.out)
      have HY8 := Lib.hid ((hg8.block _ (heap_lt HY7.out) (by simp)).trans HY7.out)
      clear y_0 y_1 y_2 y_3 y_4 he1 hcA hcB
      have y_0 : w8.cell? ⟨(w4.heap.size + 1), 0, none⟩ = some (.slice ya 32 yc) := by rw [cell_of_block HY8.out]; rfl
      have y_1 : w8.cell? ⟨(w4.heap.size + 1), 1, none⟩ = some (.slice yb 16 yd) := by rw [cell_of_block HY8.out]; rfl
      have y_2 : w8.cell? ⟨(w4.heap.size + 1), 2, none⟩ = some (.int .i64 yn) := by rw [cell_of_block HY8.out]; rfl
      have y_3 : w8.cell? ⟨(w4.heap.size + 1), 3, none⟩ = some (.int .i64 yB) := by rw [cell_of_block HY8.out]; rfl
      have y_4 : w8.cell? ⟨(w4.heap.size + 1), 4, none⟩ = some (.int .i64 yD) := by rw [cell_of_block HY8.out]; rfl
      have x_0 : w8.cell? ⟨w4.heap.size, 0, none⟩ = some (.slice xa 32 xc) := by rw [cell_of_block HX8.out]; rfl
      have x_1 : w8.cell? ⟨w4.heap.size, 1, none⟩ = some (.slice xb 16 xd) := by rw [cell_of_block HX8.out]; rfl
      have x_2 : w8.cell? ⟨w4.heap.size, 2, none⟩ = some (.int .i64 xn) := by rw [cell_of_block HX8.out]; rfl
      have x_3 : w8.cell? ⟨w4.heap.size, 3, none⟩ = some (.int .i64 xB) := by rw [cell_of_block HX8.out]; rfl
      have x_4 : w8.cell? ⟨w4.heap.size, 4, none⟩ = some (.int .i64 xD) := by rw [cell_of_block HX8.out]; rfl
      clear x_0 x_1 y_0 y_1
      have hrx := HRX.out
      have hinj := nonce_inj (b := xB) (d := xD) (b' := yB) (d' := yD) x1 y1 (⟨A1, A2⟩ : 0 ≤ A ∧ A < 1048576) (⟨A1, A2⟩ : 0 ≤ A ∧ A < 1048576)
      have hgp : w2.grownBy w6 (some p) := grown_trans' (grown_trans' HG24.out (grown_weak HG5.out _)) HG6.out
      have HGF := Lib.hid (show ∀ u, Gr w8 u → Gr w u from fun u h => Gr.trans (grownBy_trans HG2.out hgp (.inr (.inr ⟨p, rfl, by omega⟩))) (HG7.out.trans (hg8.trans h)))
      clear hgp
      by_cases heq : xn = yn ∧ xB = yB ∧ xD = yD ∧ A = A
      · have hs : decide (nonceL xn xB xD A = nonceL yn yB yD A) = true := decide_eq_true (hinj.2 heq)
        have HS := Lib.hid hs
        obtain ⟨e1, e2, e3, e4⟩ := heq
        have k1 : (xn == yn) = true := by simp [e1]
        have k2 : (xB == yB) = true := by simp [e2]
        have k3 : (xD == yD) = true := by simp [e3]
        have k4 : (A == A) = true := beq_iff_eq.2 e4
        clear hs hinj e1 e2 e3 e4
        go_wp2_with fail
        refine (awake15 _).mono ?_
        rintro e w9 ⟨rfl, hg9⟩
        have HR9x := Lib.hid (hrx.kept (hg8.trans hg9))
        have HR9y := Lib.hid (hry.kept hg9)
        have HG9 := Lib.hid hg9
        clear hg9 hrx hry
        go_wp2_with fail
        refine (same_any _ _ _ _ _ _ _ _ _ HR9x.out HR9y.out).mono ?_
        rw [HS.out]
        rintro e w' ⟨rfl, rfl⟩
        go_wp2_with fail
        go_ret
        exact ⟨rfl, HGF.out _ HG9.out⟩
      · have hs : decide (nonceL xn xB xD A = nonceL yn yB yD A) = false := decide_eq_false (fun h => heq (hinj.1 h))
        have HS := Lib.hid hs
        by_cases htr : xn = yn ∧ xB = yB ∧ xD = yD
        · exact absurd ⟨htr.1, htr.2.1, htr.2.2, rfl⟩ heq
        · have HTR := Lib.hid htr
          clear hs hinj heq htr
          go_wp2_with fail
          · exact absurd ⟨by assumption, by assumption, by assumption⟩ HTR.out
          · refine (awake15 _).mono ?_
            rintro e w9 ⟨rfl, hg9⟩
            have HR9x := Lib.hid (hrx.kept (hg8.trans hg9))
            have HR9y := Lib.hid (hry.kept hg9)
            have HG9 := Lib.hid hg9
            clear hg9 hrx hry
            go_wp2_with fail
            refine (same_any _ _ _ _ _ _ _ _ _ HR9x.out HR9y.out).mono ?_
            rw [HS.out]
            rintro e w' ⟨rfl, rfl⟩
            go_wp2_with fail
            go_ret
            exact ⟨rfl, HGF.out _ HG9.out⟩
          · refine (awake15 _).mono ?_
            rintro e w9 ⟨rfl, hg9⟩
            have HR9x := Lib.hid (hrx.kept (hg8.trans hg9))
            have HR9y := Lib.hid (hry.kept hg9)
            have HG9 := Lib.hid hg9
            clear hg9 hrx hry
            go_wp2_with fail
            refine (same_any _ _ _ _ _ _ _ _ _ HR9x.out HR9y.out).mono ?_
            rw [HS.out]
            rintro e w' ⟨rfl, rfl⟩
            go_wp2_with fail
            go_ret
            exact ⟨rfl, HGF.out _ HG9.out⟩
          · refine (awake15 _).mono ?_
            rintro e w9 ⟨rfl, hg9⟩
            have HR9x := Lib.hid (hrx.kept (hg8.trans hg9))
            have HR9y := Lib.hid (hry.kept hg9)
            have HG9 := Lib.hid hg9
            clear hg9 hrx hry
            go_wp2_with fail
            refine (same_any _ _ _ _ _ _ _ _ _ HR9x.out HR9y.out).mono ?_
            rw [HS.out]
            rintro e w' ⟨rfl, rfl⟩
            go_wp2_with fail
            go_ret
            exact ⟨rfl, HGF.out _ HG9.out⟩
  · have hl2 : decide (len ≤ 400) = false := by simpa using hl
    go_enter Try.func9, Try.ntmps9
    go_wp2_with ((go_at_call 26; refine (light_any _ _ _ _ hm).mono ?_; rintro e w' ⟨rfl, rfl⟩))
    refine (awake15 _).mono ?_
    rintro e w1 ⟨rfl, hg⟩
    have HG := Lib.hid ((Gr.alloc w _).trans hg)
    clear hg
    go_wp2_with fail
    go_ret
    exact ⟨rfl, HG.out⟩
theorem nonces_fit (a : Option Addr) (len cap : Nat) (ts : List Int) (n0 n1 : Int) (w : World) (hr : Rd .i64 w a len ts) (_hc : len ≤ cap) (_hL : len ≤ 17592186043904) (h0 : i64 n0) (h1 : i64 n1) :
    Calls Try.prog 9 #[.slice a len cap, .agg #[.int .i64 n0, .int .i64 n1]] w fun e w' => e = .returned (.bool true) ∧ Below w.heap.size w w' :=
  (nonces_walk a len cap ts n0 n1 w hr h0 h1).mono fun _ _ ⟨he, hg⟩ => ⟨he, Below.of_none hg⟩
end Go.Proofs.Ytinkllejjilenaa
