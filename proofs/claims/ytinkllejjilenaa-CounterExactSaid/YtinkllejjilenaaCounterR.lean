/- Layer 15 (counter): Split, Join and Infer of the reference. -/
import Derived.Test.YtinkllejjilenaaCounterB
import Derived.Test.YtinkllejjilenaaNonce
namespace Go.Proofs.Ytinkllejjilenaa
open Go.ChangeShapes Go.WideShapes Go.ChangeAt Go.RowKit

theorem rbits_any (b : Int) (w : World) : Calls Try.prog 53 #[.int .i64 b] w fun e w' => e = .returned (.bool (bitsB b)) ∧ w = w' := by
  go_enter Try.func53, Try.ntmps53
  go_wp2
  all_goals (go_ret; exact ⟨ret_bool (by rw [Bool.eq_iff_iff]; simp [bitsB]; omega), rfl⟩)
set_option maxHeartbeats 2000000 in
theorem rinfer_any (b f s : Int) (w : World) :
    Calls Try.prog 36 #[.int .i64 b, .int .i64 f, .int .i64 s] w fun e w' => e = .returned (.tuple #[.int .i64 (inferV b f s), .int .i64 (inferE b f s)]) ∧ w = w' := by
  cases hb : bitsB b
  · have hn := infer_no (b := b) (f := f) (s := s) (by rw [hb]; simp)
    have HN := Lib.hid hn
    clear hn
    go_enter Try.func36, Try.ntmps36
    go_wp2_with (first | ((go_at_call 53; refine (rbits_any _ _).mono ?_; rintro e w' ⟨rfl, rfl⟩)) | ((go_at_call 54; refine (rcount_any _ _).mono ?_; rintro e w' ⟨rfl, rfl⟩)) | ((go_at_call 55; refine (rnear _ _ _ _).mono ?_; rintro e w' ⟨rfl, rfl⟩)))
    go_ret2
    exact ⟨ret_ii' HN.out.1 HN.out.2, rfl⟩
  · obtain ⟨b1, b2⟩ := bits_rng hb
    obtain ⟨p1, p2⟩ := bits_pow ⟨b1, b2⟩
    have hno := infer_no (b := b) (f := f) (s := s)
    have hyes := infer_yes (f := f) (s := s) hb
    have HN := Lib.hid hno
    have HY := Lib.hid hyes
    have HB := Lib.hid hb
    clear hno hyes
    by_cases a1 : f < 0
    · go_enter Try.func36, Try.ntmps36
      go_wp2_with (first | ((go_at_call 53; refine (rbits_any _ _).mono ?_; rintro e w' ⟨rfl, rfl⟩)) | ((go_at_call 54; refine (rcount_any _ _).mono ?_; rintro e w' ⟨rfl, rfl⟩)) | ((go_at_call 55; refine (rnear _ _ _ _).mono ?_; rintro e w' ⟨rfl, rfl⟩)))
      go_ret2
      exact ⟨ret_ii' (HN.out (by omega)).1 (HN.out (by omega)).2, rfl⟩
    · by_cases a2 : 1048576 < f
      · go_enter Try.func36, Try.ntmps36
        go_wp2_with (first | ((go_at_call 53; refine (rbits_any _ _).mono ?_; rintro e w' ⟨rfl, rfl⟩)) | ((go_at_call 54; refine (rcount_any _ _).mono ?_; rintro e w' ⟨rfl, rfl⟩)) | ((go_at_call 55; refine (rnear _ _ _ _).mono ?_; rintro e w' ⟨rfl, rfl⟩)))
        go_ret2
        exact ⟨ret_ii' (HN.out (by omega)).1 (HN.out (by omega)).2, rfl⟩
      · by_cases a3 : s < 0
        · go_enter Try.func36, Try.ntmps36
          go_wp2_with (first | ((go_at_call 53; refine (rbits_any _ _).mono ?_; rintro e w' ⟨rfl, rfl⟩)) | ((go_at_call 54; refine (rcount_any _ _).mono ?_; rintro e w' ⟨rfl, rfl⟩)) | ((go_at_call 55; refine (rnear _ _ _ _).mono ?_; rintro e w' ⟨rfl, rfl⟩)))
          go_ret2
          exact ⟨ret_ii' (HN.out (by omega)).1 (HN.out (by omega)).2, rfl⟩
        · by_cases a4 : 2 ^ b.toNat ≤ s
          · go_enter Try.func36, Try.ntmps36
            go_wp2_with (first | ((go_at_call 53; refine (rbits_any _ _).mono ?_; rintro e w' ⟨rfl, rfl⟩)) | ((go_at_call 54; refine (rcount_any _ _).mono ?_; rintro e w' ⟨rfl, rfl⟩)) | ((go_at_call 55; refine (rnear _ _ _ _).mono ?_; rintro e w' ⟨rfl, rfl⟩)))
            go_ret2
            exact ⟨ret_ii' (HN.out (by omega)).1 (HN.out (by omega)).2, rfl⟩
          · have hr := near_rng b f s (by omega)
            have HY2 := Lib.hid (HY.out (by omega) (by omega) (by omega) (by omega))
            cases hc : countB (nearS b f s)
            · go_enter Try.func36, Try.ntmps36
              go_wp2_with (first | ((go_at_call 53; refine (rbits_any _ _).mono ?_; rintro e w' ⟨rfl, rfl⟩)) | ((go_at_call 54; refine (rcount_any _ _).mono ?_; rintro e w' ⟨rfl, rfl⟩)) | ((go_at_call 55; refine (rnear _ _ _ _).mono ?_; rintro e w' ⟨rfl, rfl⟩)))
              · go_ret2
                exact ⟨ret_ii' (HY2.out.1 (by assumption)).1 (HY2.out.1 (by assumption)).2, rfl⟩
              · go_ret2
                have h2 : 1048576 ≤ nearS b f s := by simp [countB] at hc; omega
                exact ⟨ret_ii' (HY2.out.2.1 h2).1 (HY2.out.2.1 h2).2, rfl⟩
            · obtain ⟨c1, c2⟩ : 0 ≤ nearS b f s ∧ nearS b f s < 1048576 := by simpa [countB] using hc
              go_enter Try.func36, Try.ntmps36
              go_wp2_with (first | ((go_at_call 53; refine (rbits_any _ _).mono ?_; rintro e w' ⟨rfl, rfl⟩)) | ((go_at_call 54; refine (rcount_any _ _).mono ?_; rintro e w' ⟨rfl, rfl⟩)) | ((go_at_call 55; refine (rnear _ _ _ _).mono ?_; rintro e w' ⟨rfl, rfl⟩)))
              go_ret2
              exact ⟨ret_ii' (HY2.out.2.2 c1 c2).1 (HY2.out.2.2 c1 c2).2, rfl⟩
set_option maxHeartbeats 2000000 in
theorem rsplit_any (b n : Int) (w : World) :
    Calls Try.prog 34 #[.int .i64 b, .int .i64 n] w fun e w' => e = .returned (.tuple #[.int .i64 (splitU b n), .int .i64 (splitS b n), .int .i64 (splitE b n)]) ∧ w = w' := by
  cases hb : bitsB b
  · have hn := split_no (b := b) (n := n) (by rw [hb]; simp)
    have HN := Lib.hid hn
    clear hn
    go_enter Try.func34, Try.ntmps34
    go_wp2_with (first | ((go_at_call 53; refine (rbits_any _ _).mono ?_; rintro e w' ⟨rfl, rfl⟩)) | ((go_at_call 54; refine (rcount_any _ _).mono ?_; rintro e w' ⟨rfl, rfl⟩)))
    go_ret3
    exact ⟨ret_iii HN.out.1 HN.out.2.1 HN.out.2.2, rfl⟩
  · obtain ⟨b1, b2⟩ := bits_rng hb
    cases hc : countB n
    · have hn := split_no (b := b) (n := n) (by rw [hc]; simp)
      have HN := Lib.hid hn
      clear hn
      go_enter Try.func34, Try.ntmps34
      go_wp2_with (first | ((go_at_call 53; refine (rbits_any _ _).mono ?_; rintro e w' ⟨rfl, rfl⟩)) | ((go_at_call 54; refine (rcount_any _ _).mono ?_; rintro e w' ⟨rfl, rfl⟩)))
      go_ret3
      exact ⟨ret_iii HN.out.1 HN.out.2.1 HN.out.2.2, rfl⟩
    · obtain ⟨c1, c2⟩ : 0 ≤ n ∧ n < 1048576 := by simpa [countB] using hc
      have hn := split_yes hb hc
      have HN := Lib.hid hn
      have hlow : lowS b n = n % 2 ^ b.toNat := by unfold lowS; rw [if_pos (vld_mk (by omega) (by omega))]
      have HLOW := Lib.hid hlow
      clear hn hlow
      go_enter Try.func34, Try.ntmps34
      go_wp2_with (first | ((go_at_call 53; refine (rbits_any _ _).mono ?_; rintro e w' ⟨rfl, rfl⟩)) | ((go_at_call 54; refine (rcount_any _ _).mono ?_; rintro e w' ⟨rfl, rfl⟩)) | ((go_at_call 13; refine (rlow _ _ _).mono ?_; rintro e w' ⟨rfl, rfl⟩)))
      go_ret3
      exact ⟨ret_iii HN.out.1.symm (by rw [HLOW.out]; exact HN.out.2.1.symm) HN.out.2.2.symm, rfl⟩
set_option maxHeartbeats 2000000 in
theorem rjoin_any (b u s : Int) (w : World) :
    Calls Try.prog 35 #[.int .i64 b, .int .i64 u, .int .i64 s] w fun e w' => e = .returned (.tuple #[.int .i64 (joinV b u s), .int .i64 (joinE b u s)]) ∧ w = w' := by
  cases hb : bitsB b
  · have hn := join_no (b := b) (u := u) (s := s) (by rw [hb]; simp)
    have HN := Lib.hid hn
    clear hn
    go_enter Try.func35, Try.ntmps35
    go_wp2_with ((go_at_call 53; refine (rbits_any _ _).mono ?_; rintro e w' ⟨rfl, rfl⟩))
    go_ret2
    exact ⟨ret_ii' HN.out.1 HN.out.2, rfl⟩
  · obtain ⟨b1, b2⟩ := bits_rng hb
    obtain ⟨p1, p2⟩ := bits_pow ⟨b1, b2⟩
    have hno := join_no (b := b) (u := u) (s := s)
    have HN := Lib.hid hno
    have hyes := join_yes (u := u) (s := s) hb
    have HY := Lib.hid hyes
    clear hno hyes
    by_cases a2 : u < 0
    · go_enter Try.func35, Try.ntmps35
      go_wp2_with ((go_at_call 53; refine (rbits_any _ _).mono ?_; rintro e w' ⟨rfl, rfl⟩))
      go_ret2
      exact ⟨ret_ii' (HN.out (by omega)).1 (HN.out (by omega)).2, rfl⟩
    · by_cases a3 : s < 0
      · go_enter Try.func35, Try.ntmps35
        go_wp2_with ((go_at_call 53; refine (rbits_any _ _).mono ?_; rintro e w' ⟨rfl, rfl⟩))
        go_ret2
        exact ⟨ret_ii' (HN.out (by omega)).1 (HN.out (by omega)).2, rfl⟩
      · by_cases a4 : 2 ^ b.toNat ≤ s
        · go_enter Try.func35, Try.ntmps35
          go_wp2_with ((go_at_call 53; refine (rbits_any _ _).mono ?_; rintro e w' ⟨rfl, rfl⟩))
          go_ret2
          exact ⟨ret_ii' (HN.out (by omega)).1 (HN.out (by omega)).2, rfl⟩
        · have HY2 := Lib.hid (HY.out (by omega) (by omega) (by omega))
          have hmp := max_pow ⟨b1, b2⟩
          by_cases a5 : 1048576 / 2 ^ b.toNat ≤ u
          · clear hmp
            go_enter Try.func35, Try.ntmps35
            go_wp2_with ((go_at_call 53; refine (rbits_any _ _).mono ?_; rintro e w' ⟨rfl, rfl⟩))
            go_ret2
            exact ⟨ret_ii' (HY2.out.2 (by omega)).1 (HY2.out.2 (by omega)).2, rfl⟩
          · have m1 : u * 2 ^ b.toNat ≤ 1048576 := by
              rw [← hmp]
              exact Int.mul_le_mul_of_nonneg_right (by omega) (by omega)
            have m0 : 0 ≤ u * 2 ^ b.toNat := Int.mul_nonneg (by omega) (by omega)
            clear hmp
            go_enter Try.func35, Try.ntmps35
            go_wp2_with ((go_at_call 53; refine (rbits_any _ _).mono ?_; rintro e w' ⟨rfl, rfl⟩))
            go_ret2
            exact ⟨ret_ii' (HY2.out.1 (by omega)).1 (HY2.out.1 (by omega)).2, rfl⟩
end Go.Proofs.Ytinkllejjilenaa
