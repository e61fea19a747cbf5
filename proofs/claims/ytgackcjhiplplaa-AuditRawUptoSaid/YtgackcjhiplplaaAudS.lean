/- radiolinkroll.SameInts, radiolinkref24.SameBytes. -/
import Derived.Test.YtgackcjhiplplaaMem2
import Derived.Test.YtgackcjhiplplaaBase
namespace Go.Proofs.Ytgackcjhiplplaa
open Go.ChangeShapes Go.WideShapes Go.ChangeAt Go.RowKit

theorem take_eq_step {xs ys : List Int} {k : Nat} (h : xs.take k = ys.take k) (h1 : k < xs.length) (h2 : k < ys.length) (he : xs[k]?.getD 0 = ys[k]?.getD 0) : xs.take (k + 1) = ys.take (k + 1) := by
  have e : ∀ (l : List Int), k < l.length → l.take (k + 1) = l.take k ++ [l[k]?.getD 0] := fun l hl => by rw [List.take_add_one]; simp [hl]
  rw [e xs h1, e ys h2, h, he]
theorem same_ints (a b : Option Addr) (l c l' c' : Nat) (xs ys : List Int) (w : World) (hx : Rd .i64 w a l xs) (hy : Rd .i64 w b l' ys) :
    Calls Try.prog 22 #[.slice a l c, .slice b l' c'] w fun e w' => e = .returned (.bool (decide (xs = ys))) ∧ Gr w w' := by
  have hm : l ≤ 9223372036854775807 := by have := hx.2.2.1; simp only [maxLen] at this; omega
  have hm' : l' ≤ 9223372036854775807 := by have := hy.2.2.1; simp only [maxLen] at this; omega
  have hlx := hx.1
  have hly := hy.1
  by_cases hll : l = l'
  · subst hll
    have HX := Lib.hid hx
    have HY := Lib.hid hy
    have HLX := Lib.hid hlx
    have HLY := Lib.hid hly
    clear hx hy hlx hly
    go_enter Try.func22, Try.ntmps22
    go_wp2_with fail
    go_loopw [5] (fun i wr => ∃ k : Nat, k ≤ l ∧ i = .int .i64 k ∧ xs.take k = ys.take k ∧ Gr w wr) (fun i _ => l - (intOf i).toNat)
    case atStart => exact ⟨0, by omega, rfl, rfl, Gr.refl _⟩
    case round =>
      obtain ⟨k, hk, rfl, ht, hg⟩ := hrel
      have HT := Lib.hid ht
      have HG := Lib.hid hg
      clear ht hg
      by_cases hlt : k < l
      · obtain ⟨b1, o1, e1, g1, c1⟩ := HX.out.some (by omega)
        obtain ⟨b2, o2, e2, g2, c2⟩ := HY.out.some (by omega)
        subst e1 e2
        obtain ⟨x, hxx⟩ : ∃ x, xs[k]?.getD 0 = x := ⟨_, rfl⟩
        obtain ⟨y, hyy⟩ : ∃ y, ys[k]?.getD 0 = y := ⟨_, rfl⟩
        have q1 : ∀ u, Gr wr u → u.cell? ⟨b1, o1 + k, none⟩ = some (.int .i64 x) := fun u h => by rw [← hxx]; exact (HG.out.trans h).cell (c1 k hlt)
        have q2 : ∀ u, Gr wr u → u.cell? ⟨b2, o2 + k, none⟩ = some (.int .i64 y) := fun u h => by rw [← hyy]; exact (HG.out.trans h).cell (c2 k hlt)
        have HXX := Lib.hid hxx
        have HYY := Lib.hid hyy
        clear hxx hyy c1 c2
        go_wp2_with fail
        refine Sched.wp_region_sched 9 [] [] (by kernel_rfl) (by kernel_rfl) ?_
        simp only [List.take_succ_cons, List.take_zero, List.drop_succ_cons, List.drop_zero]
        repeat (first | (refine Sched.walk1_no rfl rfl (fun K hK => ?_); simp only [Act.put, List.setIfInBounds_toArray, List.set_cons_zero, List.set_cons_succ]; refine hK _ ?_; clear hK K) | (refine Sched.walk1_gr rfl rfl rfl (fun K hK => ?_); apply Exists.intro; refine ⟨fun w1 hw1 => ?_, ?_⟩; (focus (go_simp; (try go_ints); (try (simp only [IntWalk.iteOmega]; go_simp)); first | done | fail | (with_reducible rfl) | (with_reducible exact ⟨rfl, rfl⟩))); simp only [Act.put, List.setIfInBounds_toArray, List.set_cons_zero, List.set_cons_succ]; refine hK _ ?_; clear hK K) | (refine Sched.walk1_pure rfl rfl rfl (fun K hK => ?_); apply Exists.intro; refine ⟨fun w1 => ?_, ?_⟩; (focus (go_simp; (try go_ints); (try (simp only [IntWalk.iteOmega]; go_simp)); first | done | (with_reducible rfl) | (with_reducible exact ⟨rfl, rfl⟩))); simp only [Act.put, List.setIfInBounds_toArray, List.set_cons_zero, List.set_cons_succ]; refine hK _ ?_; clear hK K) | (refine Sched.walk1_box rfl rfl ?_; apply Exists.intro; refine ⟨fun w1 hw1 => ?_, ?_⟩; (focus (go_simp; exact ⟨Gr.alloc _ _, rfl, by simp, heap_alloc_new _ _⟩))))
        refine Sched.walk1_nil ?_
        intro wq hwq
        dsimp only [Sched.EndN, List.nil_append, List.cons_append, Act.put]
        (try simp only [List.setIfInBounds_toArray, List.set_cons_zero, List.set_cons_succ])
        repeat (first | (refine Sched.walk2_no rfl (fun K hK => ?_); simp only [Act.put, List.setIfInBounds_toArray, List.set_cons_zero, List.set_cons_succ]; refine hK _ ?_; clear hK K) | (refine Sched.walk2_go rfl (fun K hK => ?_); go_simp; (try go_ints); (try (simp only [IntWalk.iteOmega]; go_simp)); first | (refine hK _ _ ?_; clear hK K) | fail))
        refine Sched.walk2_nil ?_
        have HQ := Lib.hid hwq
        clear q1 q2 hwq
        by_cases hxy : x = y
        · subst hxy
          go_wp2_with fail
          go_roundw
          case rel => exact ⟨k + 1, by omega, by go_num, take_eq_step HT.out (by rw [HLX.out]; exact hlt) (by rw [HLY.out]; exact hlt) (by rw [HXX.out, HYY.out]), HG.out.trans HQ.out⟩
          case measure => (simp [intOf] <;> omega)
        · have hb : (x != y) = true := by simpa using hxy
          have hne : decide (xs = ys) = false := decide_eq_false (fun h => hxy (by rw [← HXX.out, ← HYY.out, h]))
          have HNE := Lib.hid hne
          clear hxy hne
          go_wp2_with fail
          go_ret
          exact ⟨ret_bool HNE.out.symm, HG.out.trans HQ.out⟩
      · obtain rfl : k = l := by omega
        have he : xs = ys := by
          have := HT.out
          rwa [List.take_of_length_le (by rw [HLX.out]; exact Nat.le_refl _), List.take_of_length_le (by rw [HLY.out]; exact Nat.le_refl _)] at this
        have HE := Lib.hid (decide_eq_true he)
        clear he
        go_wp2_with fail
        go_ret
        exact ⟨ret_bool HE.out.symm, HG.out⟩
  · have hne : decide (xs = ys) = false := decide_eq_false (fun h => hll (by rw [← hlx, ← hly, h]))
    have HNE := Lib.hid hne
    have hb : ((l : Int) != (l' : Int)) = true := by simp; omega
    clear hx hy hlx hly hne
    go_enter Try.func22, Try.ntmps22
    go_wp2_with fail
    go_ret
    exact ⟨ret_bool HNE.out.symm, Gr.refl _⟩

set_option maxHeartbeats 1000000 in
theorem same_bytes24 (a b : Option Addr) (l c l' c' : Nat) (xs ys : List Int) (w : World) (hx : Rd .u8 w a l xs) (hy : Rd .u8 w b l' ys) :
    Calls Try.prog 38 #[.slice a l c, .slice b l' c'] w fun e w' => e = .returned (.bool (decide (xs = ys))) ∧ Gr w w' := by
  have hm : l ≤ 9223372036854775807 := by have := hx.2.2.1; simp only [maxLen] at this; omega
  have hm' : l' ≤ 9223372036854775807 := by have := hy.2.2.1; simp only [maxLen] at this; omega
  have hlx := hx.1
  have hly := hy.1
  by_cases hll : l = l'
  · subst hll
    have HX := Lib.hid hx
    have HY := Lib.hid hy
    have HLX := Lib.hid hlx
    have HLY := Lib.hid hly
    clear hx hy hlx hly
    go_enter Try.func38, Try.ntmps38
    go_wp2_with fail
    go_loopw [5] (fun i wr => ∃ k : Nat, k ≤ l ∧ i = .int .i64 k ∧ xs.take k = ys.take k ∧ Gr w wr) (fun i _ => l - (intOf i).toNat)
    case atStart => exact ⟨0, by omega, rfl, rfl, Gr.refl _⟩
    case round =>
      obtain ⟨k, hk, rfl, ht, hg⟩ := hrel
      have HT := Lib.hid ht
      have HG := Lib.hid hg
      clear ht hg
      by_cases hlt : k < l
      · obtain ⟨b1, o1, e1, g1, c1⟩ := HX.out.some (by omega)
        obtain ⟨b2, o2, e2, g2, c2⟩ := HY.out.some (by omega)
        subst e1 e2
        obtain ⟨x, hxx⟩ : ∃ x, xs[k]?.getD 0 = x := ⟨_, rfl⟩
        obtain ⟨y, hyy⟩ : ∃ y, ys[k]?.getD 0 = y := ⟨_, rfl⟩
        have q1 : ∀ u, Gr wr u → u.cell? ⟨b1, o1 + k, none⟩ = some (.int .u8 x) := fun u h => by rw [← hxx]; exact (HG.out.trans h).cell (c1 k hlt)
        have q2 : ∀ u, Gr wr u → u.cell? ⟨b2, o2 + k, none⟩ = some (.int .u8 y) := fun u h => by rw [← hyy]; exact (HG.out.trans h).cell (c2 k hlt)
        have HXX := Lib.hid hxx
        have HYY := Lib.hid hyy
        clear hxx hyy c1 c2
        go_wp2_with fail
        refine Sched.wp_region_sched 9 [] [] (by kernel_rfl) (by kernel_rfl) ?_
        simp only [List.take_succ_cons, List.take_zero, List.drop_succ_cons, List.drop_zero]
        repeat (first | (refine Sched.walk1_no rfl rfl (fun K hK => ?_); simp only [Act.put, List.setIfInBounds_toArray, List.set_cons_zero, List.set_cons_succ]; refine hK _ ?_; clear hK K) | (refine Sched.walk1_gr rfl rfl rfl (fun K hK => ?_); apply Exists.intro; refine ⟨fun w1 hw1 => ?_, ?_⟩; (focus (go_simp; (try go_ints); (try (simp only [IntWalk.iteOmega]; go_simp)); first | done | fail | (with_reducible rfl) | (with_reducible exact ⟨rfl, rfl⟩))); simp only [Act.put, List.setIfInBounds_toArray, List.set_cons_zero, List.set_cons_succ]; refine hK _ ?_; clear hK K) | (refine Sched.walk1_pure rfl rfl rfl (fun K hK => ?_); apply Exists.intro; refine ⟨fun w1 => ?_, ?_⟩; (focus (go_simp; (try go_ints); (try (simp only [IntWalk.iteOmega]; go_simp)); first | done | (with_reducible rfl) | (with_reducible exact ⟨rfl, rfl⟩))); simp only [Act.put, List.setIfInBounds_toArray, List.set_cons_zero, List.set_cons_succ]; refine hK _ ?_; clear hK K) | (refine Sched.walk1_box rfl rfl ?_; apply Exists.intro; refine ⟨fun w1 hw1 => ?_, ?_⟩; (focus (go_simp; exact ⟨Gr.alloc _ _, rfl, by simp, heap_alloc_new _ _⟩))))
        refine Sched.walk1_nil ?_
        intro wq hwq
        dsimp only [Sched.EndN, List.nil_append, List.cons_append, Act.put]
        (try simp only [List.setIfInBounds_toArray, List.set_cons_zero, List.set_cons_succ])
        repeat (first | (refine Sched.walk2_no rfl (fun K hK => ?_); simp only [Act.put, List.setIfInBounds_toArray, List.set_cons_zero, List.set_cons_succ]; refine hK _ ?_; clear hK K) | (refine Sched.walk2_go rfl (fun K hK => ?_); go_simp; (try go_ints); (try (simp only [IntWalk.iteOmega]; go_simp)); first | (refine hK _ _ ?_; clear hK K) | fail))
        refine Sched.walk2_nil ?_
        have HQ := Lib.hid hwq
        clear q1 q2 hwq
        by_cases hxy : x = y
        · subst hxy
          go_wp2_with fail
          go_roundw
          case rel => exact ⟨k + 1, by omega, by go_num, take_eq_step HT.out (by rw [HLX.out]; exact hlt) (by rw [HLY.out]; exact hlt) (by rw [HXX.out, HYY.out]), HG.out.trans HQ.out⟩
          case measure => (simp [intOf] <;> omega)
        · have hb : (x != y) = true := by simpa using hxy
          have hne : decide (xs = ys) = false := decide_eq_false (fun h => hxy (by rw [← HXX.out, ← HYY.out, h]))
          have HNE := Lib.hid hne
          clear hxy hne
          go_wp2_with fail
          go_ret
          exact ⟨ret_bool HNE.out.symm, HG.out.trans HQ.out⟩
      · obtain rfl : k = l := by omega
        have he : xs = ys := by
          have := HT.out
          rwa [List.take_of_length_le (by rw [HLX.out]; exact Nat.le_refl _), List.take_of_length_le (by rw [HLY.out]; exact Nat.le_refl _)] at this
        have HE := Lib.hid (decide_eq_true he)
        clear he
        go_wp2_with fail
        go_ret
        exact ⟨ret_bool HE.out.symm, HG.out⟩
  · have hne : decide (xs = ys) = false := decide_eq_false (fun h => hll (by rw [← hlx, ← hly, h]))
    have HNE := Lib.hid hne
    have hb : ((l : Int) != (l' : Int)) = true := by simp; omega
    clear hx hy hlx hly hne
    go_enter Try.func38, Try.ntmps38
    go_wp2_with fail
    go_ret
    exact ⟨ret_bool HNE.out.symm, Gr.refl _⟩

end Go.Proofs.Ytgackcjhiplplaa
