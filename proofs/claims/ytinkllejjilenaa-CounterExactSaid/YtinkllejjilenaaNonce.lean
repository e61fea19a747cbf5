/- Layer 15 (counter): Nonce, of the program and of the reference. -/
import Derived.Test.YtinkllejjilenaaCounterN
import Derived.Laws.MakeOwn
namespace Go.Proofs.Ytinkllejjilenaa
open Go.ChangeShapes Go.WideShapes Go.ChangeAt Go.RowKit

namespace Sched
/-- A value of a new block. -/
def NRow (f : Nat → Value) (o : Obj) : NPred := fun lo hi v w => v = f lo ∧ lo < hi ∧ w.heap[lo]? = some o
theorem NRow.stable (f : Nat → Value) (o : Obj) : Stable (NRow f o) := by
  rintro lo hi v w w' ⟨h1, h2, h3⟩ hg
  exact ⟨h1, h2, by rw [hg.block lo (heap_lt h3) (by simp)]; exact h3⟩
end Sched
theorem mk12 (w : World) : (Instr.makeSlice 48 (.int .i64 0) (.int .i64 12)).run Try.prog w = .ok (.slice (some ⟨w.heap.size, 0, none⟩) 0 12) (w.alloc (.cells (madeCells #[.int .u8 0] 12) 5)) := by
  obtain ⟨i0, hi, hz0, hz1, hz2⟩ := info_parts info_u8
  have := run_makeSlice (P := Try.prog) w 48 5 i0 (.int .u8 0) Try.underlying48 hi hz0 .i64 .i64 0 12 (by omega) (by omega) (by rw [hz1]; decide) (by rw [hz2]; decide) (by omega)
  rw [hz1] at this
  exact this

def nonceL (n b d c : Int) : List Int := putR n 4 ++ [b, d, 0, 0] ++ putR c 4
def nonceE (k : Bool) (c : Int) : Int := if k then (if countB c then 0 else 3) else 9
def NoncePost (l l' : Nat) (n b d c : Int) (w : World) (e : Ending) (w' : World) : Prop := ∃ (a : Option Addr) (m cap : Nat), e = .returned (.tuple #[.slice a m cap, .int .i64 (nonceE (keyB l l' n b d) c)]) ∧
  Rd .u8 w' a m (if keyB l l' n b d && countB c then nonceL n b d c else []) ∧ Gr w w'
theorem rd_none (k : IntKind) (w : World) (a : Option Addr) : Rd k w a 0 [] := ⟨rfl, by simp, by simp [maxLen], .inl rfl⟩
theorem key_parts {l l' : Nat} {n b d : Int} (h : keyB l l' n b d = true) : (0 ≤ b ∧ b ≤ 255) ∧ (0 ≤ d ∧ d ≤ 255) := by
  simp only [keyB, Bool.and_eq_true, decide_eq_true_eq] at h
  omega
theorem ret_sei {a : Option Addr} {m cap : Nat} {x y : Int} (h : x = y) : Ending.returned (.tuple #[.slice a m cap, .int .i64 x]) = .returned (.tuple #[.slice a m cap, .int .i64 y]) := by rw [h]

set_option maxHeartbeats 2000000 in
theorem nonce_any (a : Option Addr) (l c : Nat) (a' : Option Addr) (l' c' : Nat) (n b d x : Int) (w : World) :
    Calls Try.prog 30 #[KeyVal a l c a' l' c' n b d, .int .i64 x] w (NoncePost l l' n b d x w) := by
  cases hk : keyB l l' n b d
  · have H1 := Lib.hid hk
    go_enter Try.func30, Try.ntmps30
    go_wp2_with fail
    refine (valid_any _ _ _ _ _ _ _ _ _ _).mono ?_
    rw [H1.out]
    rintro e w1 ⟨rfl, hg⟩
    have HG := Lib.hid ((Gr.alloc w _).trans hg)
    clear hg
    go_wp2_with fail
    go_ret2
    exact ⟨none, 0, 0, ret_sei (by simp [nonceE, H1.out]), by rw [H1.out]; exact rd_none _ _ _, HG.out⟩
  · have H1 := Lib.hid hk
    obtain ⟨hb, hd⟩ := key_parts hk
    cases hc : countB x
    · have H2 := Lib.hid hc
      go_enter Try.func30, Try.ntmps30
      go_wp2_with fail
      refine (valid_any _ _ _ _ _ _ _ _ _ _).mono ?_
      rw [H1.out]
      rintro e w1 ⟨rfl, hg⟩
      have HG := Lib.hid ((Gr.alloc w _).trans hg)
      clear hg
      go_wp2_with ((go_at_call 49; refine (count_any _ _).mono ?_; rintro e w' ⟨rfl, rfl⟩))
      go_ret2
      exact ⟨none, 0, 0, ret_sei (by simp [nonceE, H1.out, H2.out]), by rw [H1.out, H2.out]; exact rd_none _ _ _, HG.out⟩
    · have H2 := Lib.hid hc
      go_enter Try.func30, Try.ntmps30
      go_wp2_with fail
      refine (valid_any _ _ _ _ _ _ _ _ _ _).mono ?_
      rw [H1.out]
      rintro e w1 ⟨rfl, hg⟩
      have hb1 : w1.heap[w.heap.size]? = some (.cells #[.slice a l c, .slice a' l' c', .int .i64 n, .int .i64 b, .int .i64 d] 50 (0, 0)) := by
        rw [hg.block _ (by simp) (by simp)]; exact heap_alloc_new _ _
      have HG := Lib.hid ((Gr.alloc w _).trans hg)
      have HB1 := Lib.hid hb1
      have k2 : ∀ u, Gr w1 u → u.cell? ⟨w.heap.size, 2, none⟩ = some (.int .i64 n) := fun u h => h.cell (by rw [cell_of_block hb1]; rfl)
      have hmk := mk12
      clear hg hb1 hk
      go_wp2_with ((go_at_call 49; refine (count_any _ _).mono ?_; rintro e w' ⟨rfl, rfl⟩))
      refine Sched.wp_region_sched 3 [] [0] (by kernel_rfl) (by kernel_rfl) ?_
      simp only [List.take_succ_cons, List.take_zero, List.drop_succ_cons, List.drop_zero]
      refine Sched.walk1_new (Sched.NRow (fun lo => .slice (some ⟨lo, 0, none⟩) 0 12) (.cells (madeCells #[.int .u8 0] 12) 5)) rfl rfl (Sched.NRow.stable _ _) (fun u hu => ?_) ?_
      · go_simp
        exact ⟨Gr.alloc _ _, rfl, by simp, heap_alloc_new _ _⟩
      repeat (first | (refine Sched.walk1_no rfl rfl (fun K hK => ?_); simp only [Act.put, List.setIfInBounds_toArray, List.set_cons_zero, List.set_cons_succ]; refine hK _ ?_; clear hK K) | (refine Sched.walk1_gr rfl rfl rfl (fun K hK => ?_); apply Exists.intro; refine ⟨fun w1 hw1 => ?_, ?_⟩; (focus (go_simp; (try go_ints); (try (simp only [IntWalk.iteOmega]; go_simp)); first | done | fail | (with_reducible rfl) | (with_reducible exact ⟨rfl, rfl⟩))); simp only [Act.put, List.setIfInBounds_toArray, List.set_cons_zero, List.set_cons_succ]; refine hK _ ?_; clear hK K) | (refine Sched.walk1_pure rfl rfl rfl (fun K hK => ?_); apply Exists.intro; refine ⟨fun w1 => ?_, ?_⟩; (focus (go_simp; (try go_ints); (try (simp only [IntWalk.iteOmega]; go_simp)); first | done | (with_reducible rfl) | (with_reducible exact ⟨rfl, rfl⟩))); simp only [Act.put, List.setIfInBounds_toArray, List.set_cons_zero, List.set_cons_succ]; refine hK _ ?_; clear hK K) | (refine Sched.walk1_box rfl rfl ?_; apply Exists.intro; refine ⟨fun w1 hw1 => ?_, ?_⟩; (focus (go_simp; exact ⟨Gr.alloc _ _, rfl, by simp, heap_alloc_new _ _⟩))))
      refine Sched.walk1_nil ?_
      intro wq hwq
      dsimp only [Sched.EndN]
      rintro lo hi v ⟨rfl, hlt, hblk⟩ hlo hle hhi -
      have hown : OwnI w1.heap.size 5 .u8 wq (some ⟨lo, 0, none⟩) 0 12 [] := by
        refine ⟨⟨rfl, .inr ⟨lo, 12, _, rfl, hlo, hblk, by omega, by simp [maxLen], by simp [madeCells], by simp⟩⟩, by simp⟩
      have HOWN := Lib.hid hown
      have HGQ := Lib.hid hwq
      clear hown hblk
      dsimp only [Sched.EndN, List.nil_append, List.cons_append, Act.put]
      (try simp only [List.setIfInBounds_toArray, List.set_cons_zero, List.set_cons_succ])
      repeat (first | (refine Sched.walk2_no rfl (fun K hK => ?_); simp only [Act.put, List.setIfInBounds_toArray, List.set_cons_zero, List.set_cons_succ]; refine hK _ ?_; clear hK K) | (refine Sched.walk2_go rfl (fun K hK => ?_); go_simp; (try go_ints); (try (simp only [IntWalk.iteOmega]; go_simp)); first | (refine hK _ _ ?_; clear hK K) | (go_at_call 52; refine (cput_any w1.heap.size _ 0 12 [] n wq HOWN.out (by omega) HGQ.out.size).mono ?_; rintro e w3 ⟨a3, c3, n3, hn3, rfl, ho3, hg3, hf3⟩; refine ⟨_, rfl, ?_⟩; refine hK _ _ ?_; clear hK K)))
      refine Sched.walk2_nil ?_
      obtain rfl : n3 = 4 := by omega
      clear hn3
      simp only [List.nil_append] at ho3
      have hg4 : Gr w1 w3 := grown_own hwq HOWN.out (Nat.le_refl _) hg3
      have HO3 := Lib.hid ho3
      have HG4 := Lib.hid hg4
      have hz1 := hg4.size
      have k3 : w3.cell? ⟨w.heap.size, 3, none⟩ = some (.int .i64 b) := hg4.cell (by rw [cell_of_block HB1.out]; rfl)
      have k4 : w3.cell? ⟨w.heap.size, 4, none⟩ = some (.int .i64 d) := hg4.cell (by rw [cell_of_block HB1.out]; rfl)
      obtain ⟨a5, c5, w5, hrun5, ho5, hg5, hf5⟩ := app4 w1.heap.size a3 4 c3 _ w3 ho3 (by omega) hg4.size b d 0 0 hb hd (by omega) (by omega)
      have HR5 := Lib.hid hrun5
      have hg6 : Gr w1 w5 := grown_own hg4 ho3 (Nat.le_refl _) hg5
      have HG6 := Lib.hid hg6
      clear hrun5 ho3 hg3 hf3 hg4 hg5 hf5 hwq k2 hg6
      go_wp2_with (at_builtin; refine wpList_app rfl _ _ _ rfl rfl rfl HR5.out ?_)
      refine (cput_any w1.heap.size a5 8 c5 _ x w5 ho5 (by omega) HG6.out.size).mono ?_
      rintro e w7 ⟨a7, c7, n7, hn7, rfl, ho7, hg7, hf7⟩
      obtain rfl : n7 = 12 := by omega
      clear hn7
      have HG7 := Lib.hid (HG.out.trans (grown_own HG6.out ho5 (Nat.le_refl _) hg7))
      have HO7 := Lib.hid ho7
      clear ho5 ho7 hg7 hf7
      go_wp2_with fail
      go_ret2
      exact ⟨a7, 12, c7, ret_sei (by simp [nonceE, H1.out, H2.out]), by rw [H1.out, H2.out]; exact HO7.out.rd, HG7.out⟩
theorem rcount_any (n : Int) (w : World) : Calls Try.prog 54 #[.int .i64 n] w fun e w' => e = .returned (.bool (countB n)) ∧ w = w' := by
  go_enter Try.func54, Try.ntmps54
  go_wp2
  all_goals (go_ret; exact ⟨ret_bool (by rw [Bool.eq_iff_iff]; simp [countB]; omega), rfl⟩)
set_option maxHeartbeats 2000000 in
theorem rnonce_any (a : Option Addr) (l c : Nat) (a' : Option Addr) (l' c' : Nat) (n b d x : Int) (w : World) :
    Calls Try.prog 37 #[KeyVal a l c a' l' c' n b d, .int .i64 x] w (NoncePost l l' n b d x w) := by
  cases hk : keyB l l' n b d
  · have H1 := Lib.hid hk
    go_enter Try.func37, Try.ntmps37
    go_wp2_with fail
    refine (rvalid15_any _ _ _ _ _ _ _ _ _ _).mono ?_
    rw [H1.out]
    rintro e w1 ⟨rfl, hg⟩
    have HG := Lib.hid ((Gr.alloc w _).trans hg)
    clear hg
    go_wp2_with fail
    go_ret2
    exact ⟨none, 0, 0, ret_sei (by simp [nonceE, H1.out]), by rw [H1.out]; exact rd_none _ _ _, HG.out⟩
  · have H1 := Lib.hid hk
    obtain ⟨hb, hd⟩ := key_parts hk
    cases hc : countB x
    · have H2 := Lib.hid hc
      go_enter Try.func37, Try.ntmps37
      go_wp2_with fail
      refine (rvalid15_any _ _ _ _ _ _ _ _ _ _).mono ?_
      rw [H1.out]
      rintro e w1 ⟨rfl, hg⟩
      have HG := Lib.hid ((Gr.alloc w _).trans hg)
      clear hg
      go_wp2_with ((go_at_call 54; refine (rcount_any _ _).mono ?_; rintro e w' ⟨rfl, rfl⟩))
      go_ret2
      exact ⟨none, 0, 0, ret_sei (by simp [nonceE, H1.out, H2.out]), by rw [H1.out, H2.out]; exact rd_none _ _ _, HG.out⟩
    · have H2 := Lib.hid hc
      go_enter Try.func37, Try.ntmps37
      go_wp2_with fail
      refine (rvalid15_any _ _ _ _ _ _ _ _ _ _).mono ?_
      rw [H1.out]
      rintro e w1 ⟨rfl, hg⟩
      have hb1 : w1.heap[w.heap.size]? = some (.cells #[.slice a l c, .slice a' l' c', .int .i64 n, .int .i64 b, .int .i64 d] 50 (0, 0)) := by
        rw [hg.block _ (by simp) (by simp)]; exact heap_alloc_new _ _
      have HG := Lib.hid ((Gr.alloc w _).trans hg)
      have HB1 := Lib.hid hb1
      have k2 : w1.cell? ⟨w.heap.size, 2, none⟩ = some (.int .i64 n) := by rw [cell_of_block hb1]; rfl
      clear hg hb1 hk
      go_wp2_with ((go_at_call 54; refine (rcount_any _ _).mono ?_; rintro e w' ⟨rfl, rfl⟩))
      refine (put_any w1.heap.size none 0 0 [] 4 4 n w1 rfl (OwnI.nil _ _ _ _) (by omega) (by omega) (Nat.le_refl _)).mono ?_
      rintro e w3 ⟨a3, c3, n3, hn3, rfl, ho3, hg3, hf3⟩
      obtain rfl : n3 = 4 := by omega
      clear hn3
      simp only [List.nil_append] at ho3
      have hg4 : Gr w1 w3 := hg3
      have HO3 := Lib.hid ho3
      have HG4 := Lib.hid hg4
      have hz1 := hg4.size
      have k3 : w3.cell? ⟨w.heap.size, 3, none⟩ = some (.int .i64 b) := hg4.cell (by rw [cell_of_block HB1.out]; rfl)
      have k4 : w3.cell? ⟨w.heap.size, 4, none⟩ = some (.int .i64 d) := hg4.cell (by rw [cell_of_block HB1.out]; rfl)
      obtain ⟨a5, c5, w5, hrun5, ho5, hg5, hf5⟩ := app4 w1.heap.size a3 4 c3 _ w3 ho3 (by omega) hg4.size b d 0 0 hb hd (by omega) (by omega)
      have HR5 := Lib.hid hrun5
      have hg6 : Gr w1 w5 := grown_own hg4 ho3 (Nat.le_refl _) hg5
      have HG6 := Lib.hid hg6
      clear hrun5 ho3 hg3 hf3 hg4 hg5 hf5 k2 hg6
      go_wp2_with (at_builtin; refine wpList_app rfl _ _ _ rfl rfl rfl HR5.out ?_)
      refine (put_any w1.heap.size a5 8 c5 _ 4 4 x w5 rfl ho5 (by omega) (by omega) HG6.out.size).mono ?_
      rintro e w7 ⟨a7, c7, n7, hn7, rfl, ho7, hg7, hf7⟩
      obtain rfl : n7 = 12 := by omega
      clear hn7
      have HG7 := Lib.hid (HG.out.trans (grown_own HG6.out ho5 (Nat.le_refl _) hg7))
      have HO7 := Lib.hid ho7
      clear ho5 ho7 hg7 hf7
      go_wp2_with fail
      go_ret2
      exact ⟨a7, 12, c7, ret_sei (by simp [nonceE, H1.out, H2.out]), by rw [H1.out, H2.out]; exact HO7.out.rd, HG7.out⟩
end Go.Proofs.Ytinkllejjilenaa
