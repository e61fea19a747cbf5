/- Layer 15 (counter): Split and Join. -/
import Derived.Test.YtinkllejjilenaaCounter
import Derived.Test.YtinkllejjilenaaSched
namespace Go.Proofs.Ytinkllejjilenaa
open Go.ChangeShapes Go.WideShapes Go.ChangeAt Go.RowKit

theorem join_no {b u s : Int} (h : ¬ (bitsB b = true ∧ 0 ≤ u ∧ 0 ≤ s ∧ s < 2 ^ b.toNat)) : 0 = joinV b u s ∧ 3 = joinE b u s := by
  have : joinOk b u s = false := by
    cases hh : joinOk b u s
    · rfl
    · simp only [joinOk, seqOk, Bool.and_eq_true, decide_eq_true_eq] at hh
      exact absurd ⟨hh.1.1, hh.2, hh.1.2.1, hh.1.2.2⟩ h
  simp [joinV, joinE, this]
theorem join_yes {b u s : Int} (h : bitsB b = true) (h1 : 0 ≤ u) (h3 : 0 ≤ s) (h4 : s < 2 ^ b.toNat) :
    (u < 1048576 / 2 ^ b.toNat → u * 2 ^ b.toNat + s = joinV b u s ∧ 0 = joinE b u s) ∧ (1048576 / 2 ^ b.toNat ≤ u → 0 = joinV b u s ∧ 10 = joinE b u s) := by
  have e : joinOk b u s = true := by simp [joinOk, seqOk, *]
  refine ⟨fun a => ?_, fun a => ?_⟩
  · simp [joinV, joinE, e, a]
  · have a2 : ¬ u < 1048576 / 2 ^ b.toNat := by omega
    simp [joinV, joinE, e, a2]
theorem bits_five {b : Int} (h : 5 ≤ b ∧ b ≤ 9) : b = 5 ∨ b = 6 ∨ b = 7 ∨ b = 8 ∨ b = 9 := by omega
theorem max_pow {b : Int} (h : 5 ≤ b ∧ b ≤ 9) : (1048576 : Int) / 2 ^ b.toNat * 2 ^ b.toNat = 1048576 := by
  rcases bits_five h with rfl | rfl | rfl | rfl | rfl <;> decide
theorem or_add {u s : Int} {k : Nat} (hk : k ≤ 62) (h0 : 0 ≤ u) (h1 : u * 2 ^ k < 9223372036854775808) (h2 : 0 ≤ s) (h3 : s < 2 ^ k) : bits .or .i64 (u * 2 ^ k) s = u * 2 ^ k + s := by
  have hp := two_pow_62 hk
  have hp0 := two_pow_pos k
  have hm : 0 ≤ u * 2 ^ k := Int.mul_nonneg h0 (by omega)
  rw [or_nn hm h1 h2 (by omega)]
  obtain ⟨n, rfl⟩ := Int.eq_ofNat_of_zero_le h0
  obtain ⟨m, rfl⟩ := Int.eq_ofNat_of_zero_le h2
  have e : ((n : Int) * 2 ^ k) = ((n * 2 ^ k : Nat) : Int) := by push_cast; rfl
  have h5 : m < 2 ^ k := by exact_mod_cast h3
  rw [e, Int.toNat_natCast, Int.toNat_natCast, Nat.mul_comm n, ← Nat.two_pow_add_eq_or_of_lt h5]
  push_cast; rfl
theorem count_at {x y : Int} (h : x = y) (w : World) : Calls Try.prog 49 #[.int .i64 x] w fun e w' => e = .returned (.bool (countB y)) ∧ w = w' := h ▸ count_any x w

set_option maxHeartbeats 2000000 in
theorem join_any (b u s : Int) (w : World) :
    Calls Try.prog 25 #[.int .i64 b, .int .i64 u, .int .i64 s] w fun e w' => e = .returned (.tuple #[.int .i64 (joinV b u s), .int .i64 (joinE b u s)]) ∧ w = w' := by
  cases hb : bitsB b
  · have hn := join_no (b := b) (u := u) (s := s) (by rw [hb]; simp)
    have HN := Lib.hid hn
    clear hn
    go_enter Try.func25, Try.ntmps25
    go_wp2_with (first | ((go_at_call 47; refine (bits_any _ _).mono ?_; rintro e w' ⟨rfl, rfl⟩)) | ((go_at_call 49; refine (count_at HOR.out _).mono ?_; rintro e w' ⟨rfl, rfl⟩)))
    go_ret2
    exact ⟨ret_ii' HN.out.1 HN.out.2, rfl⟩
  · obtain ⟨b1, b2⟩ := bits_rng hb
    obtain ⟨p1, p2⟩ := bits_pow ⟨b1, b2⟩
    have hno := join_no (b := b) (u := u) (s := s)
    have HN := Lib.hid hno
    have hyes := join_yes (u := u) (s := s) hb
    have HY := Lib.hid hyes
    clear hno hyes
    by_cases a2 : u < 0
    · go_enter Try.func25, Try.ntmps25
      go_wp2_with (first | ((go_at_call 47; refine (bits_any _ _).mono ?_; rintro e w' ⟨rfl, rfl⟩)) | ((go_at_call 49; refine (count_at HOR.out _).mono ?_; rintro e w' ⟨rfl, rfl⟩)))
      go_ret2
      exact ⟨ret_ii' (HN.out (by omega)).1 (HN.out (by omega)).2, rfl⟩
    · by_cases a3 : s < 0
      · go_enter Try.func25, Try.ntmps25
        go_wp2_with (first | ((go_at_call 47; refine (bits_any _ _).mono ?_; rintro e w' ⟨rfl, rfl⟩)) | ((go_at_call 49; refine (count_at HOR.out _).mono ?_; rintro e w' ⟨rfl, rfl⟩)))
        go_ret2
        exact ⟨ret_ii' (HN.out (by omega)).1 (HN.out (by omega)).2, rfl⟩
      · by_cases a4 : 2 ^ b.toNat ≤ s
        · go_enter Try.func25, Try.ntmps25
          go_wp2_with (first | ((go_at_call 47; refine (bits_any _ _).mono ?_; rintro e w' ⟨rfl, rfl⟩)) | ((go_at_call 49; refine (count_at HOR.out _).mono ?_; rintro e w' ⟨rfl, rfl⟩)))
          go_ret2
          exact ⟨ret_ii' (HN.out (by omega)).1 (HN.out (by omega)).2, rfl⟩
        · have HY2 := Lib.hid (HY.out (by omega) (by omega) (by omega))
          have hmp := max_pow ⟨b1, b2⟩
          by_cases a5 : 1048576 / 2 ^ b.toNat < u
          · clear hmp
            go_enter Try.func25, Try.ntmps25
            go_wp2_with (first | ((go_at_call 47; refine (bits_any _ _).mono ?_; rintro e w' ⟨rfl, rfl⟩)) | ((go_at_call 49; refine (count_at HOR.out _).mono ?_; rintro e w' ⟨rfl, rfl⟩)))
            go_ret2
            exact ⟨ret_ii' (HY2.out.2 (by omega)).1 (HY2.out.2 (by omega)).2, rfl⟩
          · have m1 : u * 2 ^ b.toNat ≤ 1048576 := by
              rw [← hmp]
              exact Int.mul_le_mul_of_nonneg_right (by omega) (by omega)
            have m0 : 0 ≤ u * 2 ^ b.toNat := Int.mul_nonneg (by omega) (by omega)
            have hor := or_add (k := b.toNat) (u := u) (s := s) (by omega) (by omega) (by omega) (by omega) (by omega)
            have HOR := Lib.hid hor
            have HMP := Lib.hid hmp
            clear hor hmp
            by_cases a6 : u < 1048576 / 2 ^ b.toNat
            · have hc : countB (u * 2 ^ b.toNat + s) = true := by
                have : (u + 1) * 2 ^ b.toNat ≤ 1048576 / 2 ^ b.toNat * 2 ^ b.toNat := Int.mul_le_mul_of_nonneg_right (by omega) (by omega)
                rw [HMP.out, Int.add_mul] at this
                simp [countB]; omega
              go_enter Try.func25, Try.ntmps25
              go_wp2_with (first | ((go_at_call 47; refine (bits_any _ _).mono ?_; rintro e w' ⟨rfl, rfl⟩)) | ((go_at_call 49; refine (count_at HOR.out _).mono ?_; rintro e w' ⟨rfl, rfl⟩)))
              go_ret2
              exact ⟨ret_ii' (by (first | rw [HOR.out] | skip); exact (HY2.out.1 a6).1) (HY2.out.1 a6).2, rfl⟩
            · have hc : countB (u * 2 ^ b.toNat + s) = false := by
                have : u = 1048576 / 2 ^ b.toNat := by omega
                rw [this, HMP.out]
                simp [countB]; omega
              go_enter Try.func25, Try.ntmps25
              go_wp2_with (first | ((go_at_call 47; refine (bits_any _ _).mono ?_; rintro e w' ⟨rfl, rfl⟩)) | ((go_at_call 49; refine (count_at HOR.out _).mono ?_; rintro e w' ⟨rfl, rfl⟩)))
              go_ret2
              exact ⟨ret_ii' (HY2.out.2 (by omega)).1 (HY2.out.2 (by omega)).2, rfl⟩

theorem split_no {b n : Int} (h : ¬ (bitsB b = true ∧ countB n = true)) : 0 = splitU b n ∧ 0 = splitS b n ∧ 3 = splitE b n := by
  have : splitOk b n = false := by
    cases hh : splitOk b n
    · rfl
    · simp only [splitOk, Bool.and_eq_true] at hh
      exact absurd hh h
  simp [splitU, splitS, splitE, this]
theorem split_yes {b n : Int} (h : bitsB b = true) (h2 : countB n = true) : splitU b n = n / 2 ^ b.toNat ∧ splitS b n = n % 2 ^ b.toNat ∧ splitE b n = 0 := by
  simp [splitU, splitS, splitE, splitOk, h, h2]
set_option maxHeartbeats 2000000 in
theorem split_any (b n : Int) (w : World) :
    Calls Try.prog 24 #[.int .i64 b, .int .i64 n] w fun e w' => e = .returned (.tuple #[.int .i64 (splitU b n), .int .i64 (splitS b n), .int .i64 (splitE b n)]) ∧ Gr w w' := by
  cases hb : bitsB b
  · have hn := split_no (b := b) (n := n) (by rw [hb]; simp)
    have HN := Lib.hid hn
    clear hn
    go_enter Try.func24, Try.ntmps24
    go_wp2_with (first | ((go_at_call 47; refine (bits_any _ _).mono ?_; rintro e w' ⟨rfl, rfl⟩)) | ((go_at_call 49; refine (count_any _ _).mono ?_; rintro e w' ⟨rfl, rfl⟩)))
    go_ret3
    exact ⟨ret_iii HN.out.1 HN.out.2.1 HN.out.2.2, Gr.refl _⟩
  · obtain ⟨b1, b2⟩ := bits_rng hb
    obtain ⟨p1, p2⟩ := bits_pow ⟨b1, b2⟩
    cases hc : countB n
    · have hn := split_no (b := b) (n := n) (by rw [hc]; simp)
      have HN := Lib.hid hn
      clear hn
      go_enter Try.func24, Try.ntmps24
      go_wp2_with (first | ((go_at_call 47; refine (bits_any _ _).mono ?_; rintro e w' ⟨rfl, rfl⟩)) | ((go_at_call 49; refine (count_any _ _).mono ?_; rintro e w' ⟨rfl, rfl⟩)))
      go_ret3
      exact ⟨ret_iii HN.out.1 HN.out.2.1 HN.out.2.2, Gr.refl _⟩
    · obtain ⟨c1, c2⟩ : 0 ≤ n ∧ n < 1048576 := by simpa [countB] using hc
      have hn := split_yes hb hc
      have HN := Lib.hid hn
      clear hn
      go_enter Try.func24, Try.ntmps24
      go_wp2_with (first | ((go_at_call 47; refine (bits_any _ _).mono ?_; rintro e w' ⟨rfl, rfl⟩)) | ((go_at_call 49; refine (count_any _ _).mono ?_; rintro e w' ⟨rfl, rfl⟩)))
      refine Sched.wp_region_sched 11 [] [] (by kernel_rfl) (by kernel_rfl) ?_
      simp only [List.take_succ_cons, List.take_zero, List.drop_succ_cons, List.drop_zero]
      repeat (first | (refine Sched.walk1_no rfl rfl (fun K hK => ?_); simp only [Act.put, List.setIfInBounds_toArray, List.set_cons_zero, List.set_cons_succ]; refine hK _ ?_; clear hK K) | (refine Sched.walk1_gr rfl rfl rfl (fun K hK => ?_); apply Exists.intro; refine ⟨fun w1 hw1 => ?_, ?_⟩; (focus (go_simp; (try go_ints); (try (simp only [IntWalk.iteOmega]; go_simp)); first | done | fail | (with_reducible rfl) | (with_reducible exact ⟨rfl, rfl⟩))); simp only [Act.put, List.setIfInBounds_toArray, List.set_cons_zero, List.set_cons_succ]; refine hK _ ?_; clear hK K) | (refine Sched.walk1_pure rfl rfl rfl (fun K hK => ?_); apply Exists.intro; refine ⟨fun w1 => ?_, ?_⟩; (focus (go_simp; (try go_ints); (try (simp only [IntWalk.iteOmega]; go_simp)); first | done | (with_reducible rfl) | (with_reducible exact ⟨rfl, rfl⟩))); simp only [Act.put, List.setIfInBounds_toArray, List.set_cons_zero, List.set_cons_succ]; refine hK _ ?_; clear hK K) | (refine Sched.walk1_box rfl rfl ?_; apply Exists.intro; refine ⟨fun w1 hw1 => ?_, ?_⟩; (focus (go_simp; exact ⟨Gr.alloc _ _, rfl, by simp, heap_alloc_new _ _⟩))))
      refine Sched.walk1_nil ?_
      intro wq hwq
      dsimp only [Sched.EndN, List.nil_append, List.cons_append, Act.put]
      (try simp only [List.setIfInBounds_toArray, List.set_cons_zero, List.set_cons_succ])
      repeat (first | (refine Sched.walk2_no rfl (fun K hK => ?_); simp only [Act.put, List.setIfInBounds_toArray, List.set_cons_zero, List.set_cons_succ]; refine hK _ ?_; clear hK K) | (refine Sched.walk2_go rfl (fun K hK => ?_); go_simp; (try go_ints); (try (simp only [IntWalk.iteOmega]; go_simp)); first | (refine hK _ _ ?_; clear hK K) | fail))
      refine Sched.walk2_nil ?_
      go_wp2_with fail
      go_ret3
      exact ⟨ret_iii HN.out.1.symm (by rw [and_mask _ (by omega)]; exact HN.out.2.1.symm) HN.out.2.2.symm, hwq⟩
end Go.Proofs.Ytinkllejjilenaa
