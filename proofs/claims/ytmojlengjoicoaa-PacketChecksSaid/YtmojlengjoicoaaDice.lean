/- Dice: numbers that are given out; what a call of them leaves. -/
import Derived.Test.YtmojlengjoicoaaBase
import Derived.Test.YtmojlengjoicoaaMem2
namespace Go.Proofs.Ytmojlengjoicoaa
open Go.ChangeShapes Go.WideShapes Go.ChangeAt Go.RowKit

/-- Block p is a pair of dice; its list lies before it. -/
def Die (w : World) (p : Nat) : Prop := ∃ (a : Option Addr) (len cap : Nat) (ts : List Int) (k : Nat),
  w.heap[p]? = some (.cells #[.slice a len cap, .int .i64 k] 70 (0, 0)) ∧ Rd .i64 w a len ts ∧ k ≤ len ∧ ∀ b off, 0 < len → a = some ⟨b, off, none⟩ → b < p

theorem Die.lt {w : World} {p : Nat} (h : Die w p) : p < w.heap.size := by
  obtain ⟨_, _, _, _, _, h1, _⟩ := h
  exact heap_lt h1
/-- Other blocks turn. -/
theorem Die.kept {w w' : World} {p : Nat} {r : Option Nat} (h : Die w p) (hg : w.grownBy w' r) (hr : ∀ g, r = some g → p < g) : Die w' p := by
  have hlt := h.lt
  obtain ⟨a, len, cap, ts, k, h1, h2, h3, h4⟩ := h
  refine ⟨a, len, cap, ts, k, ?_, rd_keptBut h2 hg ?_, h3, h4⟩
  · rw [hg.block p hlt ?_]
    · exact h1
    · intro he; have := hr p he.symm; omega
  · intro b off h0 he h; have := hr b h.symm; have := h4 b off h0 he; omega
def NextPost (p : Nat) (n : Int) (w : World) (e : Ending) (w' : World) : Prop := ∃ v : Int, e = .returned (.int .i64 v) ∧ 0 ≤ v ∧ v < n ∧ Die w' p ∧ w.grownBy w' (some p)

set_option maxHeartbeats 1000000 in
theorem next_any (p : Nat) (n : Int) (w : World) (hd : Die w p) (hn : 1 ≤ n) (hn2 : n ≤ 9223372036854775807) :
    Calls Try.prog 18 #[.pointer (some ⟨p, 0, none⟩), .int .i64 n] w (NextPost p n w) := by
  have HD := Lib.hid hd
  obtain ⟨a, len, cap, ts, k, h1, h2, h3, h4⟩ := hd
  have hplt := heap_lt h1
  have hm : len ≤ 9223372036854775807 := by have := h2.2.2.1; simp only [maxLen] at this; omega
  have c0 : ∀ w1, Gr w w1 → w1.cell? ⟨p, 0, none⟩ = some (.slice a len cap) := fun w1 h => h.cell (by rw [cell_of_block h1]; rfl)
  have c1 : ∀ w1, Gr w w1 → w1.cell? ⟨p, 1, none⟩ = some (.int .i64 k) := fun w1 h => h.cell (by rw [cell_of_block h1]; rfl)
  have H1 := Lib.hid h1
  have H2 := Lib.hid h2
  have H4 := Lib.hid h4
  clear h1 h2 h4
  go_enter Try.func18, Try.ntmps18
  go_wp2_with fail
  refine Sched.wp_region_sched 10 [] [] (by kernel_rfl) (by kernel_rfl) ?_
  simp only [List.take_succ_cons, List.take_zero, List.drop_succ_cons, List.drop_zero]
  repeat (first | (refine Sched.walk1_no rfl rfl (fun K hK => ?_); simp only [Act.put, List.setIfInBounds_toArray, List.set_cons_zero, List.set_cons_succ]; refine hK _ ?_; clear hK K) | (refine Sched.walk1_gr rfl rfl rfl (fun K hK => ?_); apply Exists.intro; refine ⟨fun w1 hw1 => ?_, ?_⟩; (focus (go_simp; (try go_ints); (try (simp only [IntWalk.iteOmega]; go_simp)); first | done | fail | (with_reducible rfl) | (with_reducible exact ⟨rfl, rfl⟩))); simp only [Act.put, List.setIfInBounds_toArray, List.set_cons_zero, List.set_cons_succ]; refine hK _ ?_; clear hK K) | (refine Sched.walk1_pure rfl rfl rfl (fun K hK => ?_); apply Exists.intro; refine ⟨fun w1 => ?_, ?_⟩; (focus (go_simp; (try go_ints); (try (simp only [IntWalk.iteOmega]; go_simp)); first | done | (with_reducible rfl) | (with_reducible exact ⟨rfl, rfl⟩))); simp only [Act.put, List.setIfInBounds_toArray, List.set_cons_zero, List.set_cons_succ]; refine hK _ ?_; clear hK K) | (refine Sched.walk1_box rfl rfl ?_; apply Exists.intro; refine ⟨fun w1 hw1 => ?_, ?_⟩; (focus (go_simp; exact ⟨Gr.alloc _ _, rfl, by simp, heap_alloc_new _ _⟩))))
  refine Sched.walk1_nil ?_
  intro wq hwq
  dsimp only [Sched.EndN, List.nil_append, List.cons_append, Act.put]
  (try simp only [List.setIfInBounds_toArray, List.set_cons_zero, List.set_cons_succ])
  repeat (first | (refine Sched.walk2_no rfl (fun K hK => ?_); simp only [Act.put, List.setIfInBounds_toArray, List.set_cons_zero, List.set_cons_succ]; refine hK _ ?_; clear hK K) | (refine Sched.walk2_go rfl (fun K hK => ?_); go_simp; (try go_ints); (try (simp only [IntWalk.iteOmega]; go_simp)); first | (refine hK _ _ ?_; clear hK K) | fail))
  refine Sched.walk2_nil ?_
  by_cases hk : k < len
  · obtain ⟨b, off, hab, hb, hcell⟩ := H2.out.some (by omega)
    subst hab
    have hbp := H4.out b off (by omega) rfl
    have ck := hcell k hk
    obtain ⟨x, hx⟩ : ∃ x, ts[k]?.getD 0 = x := ⟨_, rfl⟩
    rw [hx] at ck
    have c1' := c1 wq hwq
    have c0' := c0 wq hwq
    have ckq := hwq.cell ck
    have hfz : wq.frozen? ⟨p, 1, none⟩ = false := frozen_of_block (by rw [hwq.block p hplt (by simp)]; exact H1.out) 1
    have HX := Lib.hid hx
    have HQ := Lib.hid hwq
    clear hcell hx c0 c1 ck hb hwq
    go_wp2_with fail
    have hbw : (wq.setCell ⟨p, 1, none⟩ (.int .i64 (k + 1))).heap[p]? = some (.cells #[.slice (some ⟨b, off, none⟩) len cap, .int .i64 (k + 1)] 70 (0, 0)) :=
      heap_setCell_eq (by rw [HQ.out.block p hplt (by simp)]; exact H1.out) 1 _
    have hg2 := grown_trans' (grown_weak HQ.out (some p)) (grown_setAt wq p 1 (.int .i64 (k + 1)))
    have ckw : (wq.setCell ⟨p, 1, none⟩ (.int .i64 (k + 1))).cell? ⟨b, off + k, none⟩ = some (.int .i64 x) := by
      rw [World.cell?_of_block (heap_setCell_ne _ _ _ _ (by show b ≠ p; omega))]; exact ckq
    obtain ⟨w2, hw2⟩ : ∃ w2, w2 = wq.setCell ⟨p, 1, none⟩ (.int .i64 (k + 1)) := ⟨_, rfl⟩
    rw [← hw2] at hbw hg2 ckw
    rw [← hw2]
    have d0 : ∀ w1, Gr w2 w1 → w1.cell? ⟨p, 0, none⟩ = some (.slice (some ⟨b, off, none⟩) len cap) := fun w1 h => h.cell (by rw [cell_of_block hbw]; rfl)
    have d1 : ∀ w1, Gr w2 w1 → w1.cell? ⟨p, 1, none⟩ = some (.int .i64 (k + 1)) := fun w1 h => h.cell (by rw [cell_of_block hbw]; rfl)
    have d2 : ∀ w1, Gr w2 w1 → w1.cell? ⟨b, off + k, none⟩ = some (.int .i64 x) := fun w1 h => h.cell ckw
    have HBW := Lib.hid hbw
    have HG2 := Lib.hid hg2
    clear hw2 hbw hg2 ckw c1' c0' ckq hfz
    refine Sched.wp_region_sched 14 [] [] (by kernel_rfl) (by kernel_rfl) ?_
    simp only [List.take_succ_cons, List.take_zero, List.drop_succ_cons, List.drop_zero]
    repeat (first | (refine Sched.walk1_no rfl rfl (fun K hK => ?_); simp only [Act.put, List.setIfInBounds_toArray, List.set_cons_zero, List.set_cons_succ]; refine hK _ ?_; clear hK K) | (refine Sched.walk1_gr rfl rfl rfl (fun K hK => ?_); apply Exists.intro; refine ⟨fun w1 hw1 => ?_, ?_⟩; (focus (go_simp; (try go_ints); (try (simp only [IntWalk.iteOmega]; go_simp)); first | done | ((go_at_call 20; (with_reducible exact gr_same (mod_any _ _ _ (by omega))))) | (with_reducible rfl) | (with_reducible exact ⟨rfl, rfl⟩))); simp only [Act.put, List.setIfInBounds_toArray, List.set_cons_zero, List.set_cons_succ]; refine hK _ ?_; clear hK K) | (refine Sched.walk1_pure rfl rfl rfl (fun K hK => ?_); apply Exists.intro; refine ⟨fun w1 => ?_, ?_⟩; (focus (go_simp; (try go_ints); (try (simp only [IntWalk.iteOmega]; go_simp)); first | done | (with_reducible rfl) | (with_reducible exact ⟨rfl, rfl⟩))); simp only [Act.put, List.setIfInBounds_toArray, List.set_cons_zero, List.set_cons_succ]; refine hK _ ?_; clear hK K) | (refine Sched.walk1_box rfl rfl ?_; apply Exists.intro; refine ⟨fun w1 hw1 => ?_, ?_⟩; (focus (go_simp; exact ⟨Gr.alloc _ _, rfl, by simp, heap_alloc_new _ _⟩))))
    refine Sched.walk1_nil ?_
    intro wq hwq
    dsimp only [Sched.EndN, List.nil_append, List.cons_append, Act.put]
    (try simp only [List.setIfInBounds_toArray, List.set_cons_zero, List.set_cons_succ])
    repeat (first | (refine Sched.walk2_no rfl (fun K hK => ?_); simp only [Act.put, List.setIfInBounds_toArray, List.set_cons_zero, List.set_cons_succ]; refine hK _ ?_; clear hK K) | (refine Sched.walk2_go rfl (fun K hK => ?_); go_simp; (try go_ints); (try (simp only [IntWalk.iteOmega]; go_simp)); first | (refine hK _ _ ?_; clear hK K) | fail))
    refine Sched.walk2_nil ?_
    go_wp2_with fail
    go_ret
    have hg3 := grown_trans' HG2.out (grown_weak hwq (some p))
    refine ⟨modF x n, rfl, modF_lo _ _, modF_hi _ _ hn, ⟨some ⟨b, off, none⟩, len, cap, ts, k + 1, ?_, rd_keptBut H2.out hg3 ?_, by omega, H4.out⟩, hg3⟩
    · rw [hwq.block p (heap_lt HBW.out) (by simp), HBW.out]; rfl
    · intro b' off' h0 he h
      injection h with h
      have := H4.out b' off' h0 he
      omega
  · go_wp2_with fail
    go_ret
    exact ⟨0, rfl, by omega, by omega, HD.out.kept hwq (by simp), grown_weak hwq _⟩
end Go.Proofs.Ytmojlengjoicoaa
