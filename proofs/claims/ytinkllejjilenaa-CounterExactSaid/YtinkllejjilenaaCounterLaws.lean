/- The laws CounterInfers and CounterParts: their walks. -/
import Derived.Test.YtinkllejjilenaaCounterB
namespace Go.Proofs.Ytinkllejjilenaa
open Go.ChangeShapes Go.WideShapes Go.ChangeAt Go.RowKit

theorem mod_is {n m r : Int} (h : modF n m = r) (w : World) (hm : m ≤ 9223372036854775807) :
    Calls Try.prog 12 #[.int .i64 n, .int .i64 m] w fun e w' => e = .returned (.int .i64 r) ∧ w = w' := h ▸ mod_any n m w hm
theorem split_is {b n u s e : Int} (h : splitU b n = u ∧ splitS b n = s ∧ splitE b n = e) (w : World) :
    Calls Try.prog 24 #[.int .i64 b, .int .i64 n] w fun e' w' => e' = .returned (.tuple #[.int .i64 u, .int .i64 s, .int .i64 e]) ∧ Gr w w' := by
  obtain ⟨rfl, rfl, rfl⟩ := h; exact split_any b n w
theorem join_is {b u s v e : Int} (h : joinV b u s = v ∧ joinE b u s = e) (w : World) :
    Calls Try.prog 25 #[.int .i64 b, .int .i64 u, .int .i64 s] w fun e' w' => e' = .returned (.tuple #[.int .i64 v, .int .i64 e]) ∧ w = w' := by
  obtain ⟨rfl, rfl⟩ := h; exact join_any b u s w
theorem infer_is {b f s v e : Int} (h : inferV b f s = v ∧ inferE b f s = e) (w : World) :
    Calls Try.prog 22 #[.int .i64 b, .int .i64 f, .int .i64 s] w fun e' w' => e' = .returned (.tuple #[.int .i64 v, .int .i64 e]) ∧ w = w' := by
  obtain ⟨rfl, rfl⟩ := h; exact infer_any b f s w

theorem awake15 (w : World) : Calls Try.prog 23 #[] w fun e w' => e = .returned (.bool true) ∧ Gr w w' := by
  have e1 : splitU 5 40 = 1 ∧ splitS 5 40 = 8 ∧ splitE 5 40 = 0 := by decide +kernel
  have e2 : inferV 5 40 20 = 52 ∧ inferE 5 40 20 = 0 := by decide +kernel
  have E1 := Lib.hid e1
  have E2 := Lib.hid e2
  clear e1 e2
  go_enter Try.func23, Try.ntmps23
  go_wp2_with fail
  refine (split_is E1.out _).mono ?_
  rintro e w1 ⟨rfl, hg⟩
  have HG := Lib.hid hg
  clear hg
  go_wp2_with fail
  refine (infer_is E2.out _).mono ?_
  rintro e w' ⟨rfl, rfl⟩
  go_wp2_with fail
  go_ret
  exact ⟨rfl, HG.out⟩

theorem half_pow {b : Int} (h : 5 ≤ b ∧ b ≤ 9) : (2 : Int) ^ b.toNat = 2 * 2 ^ (b.toNat - 1) := by
  rcases bits_five h with rfl | rfl | rfl | rfl | rfl <;> decide
theorem near_c {b f c : Int} (hb : 5 ≤ b ∧ b ≤ 9) (hf : 0 ≤ f ∧ f ≤ 1048576) (h1 : f - 2 ^ (b.toNat - 1) ≤ c) (h2 : c < f + 2 ^ (b.toNat - 1)) : nearS b f (c % 2 ^ b.toNat) = c := by
  have hv : vld b = true := vld_mk (by omega) (by omega)
  have hp := half_pow hb
  have hq := two_pow_pos (b.toNat - 1)
  unfold nearS
  rw [if_pos ⟨hv, by omega, by omega⟩]
  unfold signedS distS
  rw [hv, if_pos rfl, if_pos rfl, hp]
  generalize (2 : Int) ^ (b.toNat - 1) = p at *
  have e : (c % (2 * p) - f) % (2 * p) = (c - f) % (2 * p) := by rw [Int.sub_emod, Int.emod_emod, ← Int.sub_emod]
  rw [e]
  by_cases h : f ≤ c
  · rw [Int.emod_eq_of_lt (by omega) (by omega), if_neg (by omega)]; omega
  · have : (c - f) % (2 * p) = c - f + 2 * p := by
      rw [← Int.add_emod_right, Int.emod_eq_of_lt (by omega) (by omega)]
    rw [this, if_pos (by omega)]; omega
theorem infer_c {b f c : Int} (hb : 5 ≤ b ∧ b ≤ 9) (hf : 0 ≤ f ∧ f ≤ 1048576) (h1 : f - 2 ^ (b.toNat - 1) ≤ c) (h2 : c < f + 2 ^ (b.toNat - 1)) :
    inferE b f (c % 2 ^ b.toNat) = (if c < 0 then 11 else if c ≥ 1048576 then 10 else 0) ∧ inferV b f (c % 2 ^ b.toNat) = (if 0 ≤ c ∧ c < 1048576 then c else 0) := by
  have hn := near_c hb hf h1 h2
  have hp := bits_pow hb
  have hB : bitsB b = true := by simpa [bitsB] using hb
  have hy := infer_yes (f := f) (s := c % 2 ^ b.toNat) hB hf.1 hf.2 (Int.emod_nonneg _ (by omega)) (Int.emod_lt_of_pos _ (by omega))
  rw [hn] at hy
  by_cases a : c < 0
  · have := hy.1 a
    simp only [if_pos a]; rw [if_neg (by omega)]; exact ⟨this.2.symm, this.1.symm⟩
  · by_cases a2 : 1048576 ≤ c
    · have := hy.2.1 a2
      rw [if_neg a, if_pos (by omega), if_neg (by omega)]; exact ⟨this.2.symm, this.1.symm⟩
    · have := hy.2.2 (by omega) (by omega)
      rw [if_neg a, if_neg (by omega), if_pos (by omega)]; exact ⟨this.2.symm, this.1.symm⟩

set_option maxHeartbeats 2000000 in
theorem infers_fit (n0 n1 n2 : Int) (w : World) (_h0 : i64 n0) (_h1 : i64 n1) (_h2 : i64 n2) :
    Calls Try.prog 7 #[.int .i64 n0, .int .i64 n1, .int .i64 n2] w fun e w' => e = .returned (.bool true) ∧ Below w.heap.size w w' := by
  obtain ⟨q, hq⟩ : ∃ q, modF n0 5 = q := ⟨_, rfl⟩
  have q1 := modF_lo n0 5
  have q2 := modF_hi n0 5 (by omega)
  rw [hq] at q1 q2
  have hb : 5 ≤ 5 + q ∧ 5 + q ≤ 9 := by omega
  obtain ⟨p1, p2⟩ := bits_pow hb
  have hh := half_pow hb
  have hh1 : 16 ≤ (2 : Int) ^ ((5 + q).toNat - 1) := by omega
  have hh2 : (2 : Int) ^ ((5 + q).toNat - 1) ≤ 256 := by omega
  obtain ⟨f, hf⟩ : ∃ f, modF n1 1048577 = f := ⟨_, rfl⟩
  have f1 := modF_lo n1 1048577
  have f2 := modF_hi n1 1048577 (by omega)
  rw [hf] at f1 f2
  obtain ⟨m, hm⟩ : ∃ m, modF n2 (2 * 2 ^ ((5 + q).toNat - 1)) = m := ⟨_, rfl⟩
  have m1 := modF_lo n2 (2 * 2 ^ ((5 + q).toNat - 1))
  have m2 := modF_hi n2 (2 * 2 ^ ((5 + q).toNat - 1)) (by omega)
  rw [hm] at m1 m2
  have hi := infer_c (c := f + m - 2 ^ ((5 + q).toNat - 1)) hb (by omega : 0 ≤ f ∧ f ≤ 1048576) (by omega) (by omega)
  obtain ⟨c, hc⟩ : ∃ c, f + m - 2 ^ ((5 + q).toNat - 1) = c := ⟨_, rfl⟩
  have HI0 := Lib.hid hi
  have hmc : modF c (2 ^ (5 + q).toNat) = c % 2 ^ (5 + q).toNat := by unfold modF; rw [if_neg (by omega)]
  have HMC := Lib.hid hmc
  have HQ := Lib.hid hq
  have HF := Lib.hid hf
  have HM := Lib.hid hm
  have HC := Lib.hid hc
  have c1 : -256 ≤ f + m - 2 ^ ((5 + q).toNat - 1) := by omega
  have c2 : f + m - 2 ^ ((5 + q).toNat - 1) ≤ 1048832 := by omega
  clear hi hmc hq hf hm hh
  have c3 : -256 ≤ c := by omega
  have c4 : c ≤ 1048832 := by omega
  rw [hc] at HI0
  clear c1 c2
  go_enter Try.func7, Try.ntmps7
  go_wp2_with fail
  refine (mod_is HQ.out _ (by omega)).mono ?_
  rintro e w' ⟨rfl, rfl⟩
  go_wp2_with fail
  refine (mod_is HF.out _ (by omega)).mono ?_
  rintro e w' ⟨rfl, rfl⟩
  go_wp2_with fail
  refine (mod_is HM.out _ (by omega)).mono ?_
  rintro e w' ⟨rfl, rfl⟩
  go_wp2_with fail
  clear hc
  refine (mod_is HMC.out _ (by omega)).mono ?_
  rintro e w' ⟨rfl, rfl⟩
  by_cases k1 : c < 0
  · have HI := HI0
    simp only [if_pos k1] at HI
    go_wp2_with fail
    refine (infer_is ⟨HI.out.2, HI.out.1⟩ _).mono ?_
    rintro e w' ⟨rfl, rfl⟩
    go_wp2_with fail
    refine (awake15 _).mono ?_
    rintro e w1 ⟨rfl, hg⟩
    have HG := Lib.hid hg
    clear hg
    go_wp2_with fail
    go_ret
    exact ⟨rfl, Below.of_none HG.out⟩
  · by_cases k2 : c ≥ 1048576
    · have HI := HI0
      simp only [if_neg k1, if_pos k2] at HI
      go_wp2_with fail
      refine (infer_is ⟨HI.out.2, HI.out.1⟩ _).mono ?_
      rintro e w' ⟨rfl, rfl⟩
      go_wp2_with fail
      refine (awake15 _).mono ?_
      rintro e w1 ⟨rfl, hg⟩
      have HG := Lib.hid hg
      clear hg
      go_wp2_with fail
      go_ret
      exact ⟨rfl, Below.of_none HG.out⟩
    · have HI := HI0
      simp only [if_neg k1, if_neg k2, if_pos (show 0 ≤ c ∧ c < 1048576 by omega)] at HI
      go_wp2_with fail
      refine (infer_is ⟨HI.out.2, HI.out.1⟩ _).mono ?_
      rintro e w' ⟨rfl, rfl⟩
      go_wp2_with fail
      refine (awake15 _).mono ?_
      rintro e w1 ⟨rfl, hg⟩
      have HG := Lib.hid hg
      clear hg
      go_wp2_with fail
      go_ret
      exact ⟨rfl, Below.of_none HG.out⟩

set_option maxHeartbeats 2000000 in
theorem parts_fit (n0 n1 : Int) (w : World) (_h0 : i64 n0) (_h1 : i64 n1) :
    Calls Try.prog 8 #[.int .i64 n0, .int .i64 n1] w fun e w' => e = .returned (.bool true) ∧ Below w.heap.size w w' := by
  obtain ⟨q, hq⟩ : ∃ q, modF n0 5 = q := ⟨_, rfl⟩
  have q1 := modF_lo n0 5
  have q2 := modF_hi n0 5 (by omega)
  rw [hq] at q1 q2
  have hb : 5 ≤ 5 + q ∧ 5 + q ≤ 9 := by omega
  have hB : bitsB (5 + q) = true := by simpa [bitsB] using hb
  obtain ⟨p1, p2⟩ := bits_pow hb
  have hmp := max_pow hb
  obtain ⟨c, hc⟩ : ∃ c, modF n1 1048575 = c := ⟨_, rfl⟩
  have c1 := modF_lo n1 1048575
  have c2 := modF_hi n1 1048575 (by omega)
  rw [hc] at c1 c2
  have hs1 := split_yes (n := c) hB (by simp [countB]; omega)
  have hs2 := split_yes (n := c + 1) hB (by simp [countB]; omega)
  have s1 := Int.emod_nonneg c (show (2 : Int) ^ (5 + q).toNat ≠ 0 by omega)
  have s2 := Int.emod_lt_of_pos c (show (0 : Int) < 2 ^ (5 + q).toNat by omega)
  have u1 : 0 ≤ c / (2 : Int) ^ (5 + q).toNat := Int.ediv_nonneg (by omega) (by omega)
  have u2 : c / (2 : Int) ^ (5 + q).toNat < 1048576 / 2 ^ (5 + q).toNat := by
    rw [Int.ediv_lt_iff_lt_mul (by omega), hmp]; omega
  have u3 : c / (2 : Int) ^ (5 + q).toNat < 1048576 := Int.lt_of_le_of_lt (Int.ediv_le_self _ (by omega)) (by omega)
  have hjo := (join_yes hB u1 s1 s2).1 u2
  have hdm : c / (2 : Int) ^ (5 + q).toNat * 2 ^ (5 + q).toNat + c % 2 ^ (5 + q).toNat = c := by rw [Int.mul_comm]; exact Int.mul_ediv_add_emod c _
  rw [hdm] at hjo
  have hstep : (c % 2 ^ (5 + q).toNat + 1 < (2 : Int) ^ (5 + q).toNat → (c + 1) / 2 ^ (5 + q).toNat = c / 2 ^ (5 + q).toNat ∧ (c + 1) % 2 ^ (5 + q).toNat = c % 2 ^ (5 + q).toNat + 1) ∧
      ((2 : Int) ^ (5 + q).toNat ≤ c % 2 ^ (5 + q).toNat + 1 → (c + 1) / 2 ^ (5 + q).toNat = c / 2 ^ (5 + q).toNat + 1 ∧ (c + 1) % 2 ^ (5 + q).toNat = 0) := by
    clear hs1 hs2 hjo hmp u2
    generalize (2 : Int) ^ (5 + q).toNat = p at *
    generalize c / p = u at *
    generalize hss : c % p = s at *
    have e : c + 1 = (s + 1) + p * u := by rw [← hdm, Int.mul_comm u p]; omega
    refine ⟨fun h => ⟨?_, ?_⟩, fun h => ⟨?_, ?_⟩⟩
    · rw [e, Int.add_mul_ediv_left _ _ (by omega), Int.ediv_eq_zero_of_lt (by omega) h]; omega
    · rw [e, Int.add_mul_emod_self_left, Int.emod_eq_of_lt (by omega) h]
    · have : s + 1 = p := by omega
      rw [e, Int.add_mul_ediv_left _ _ (by omega), this, Int.ediv_self (by omega)]; omega
    · have : s + 1 = p := by omega
      rw [e, Int.add_mul_emod_self_left, this, Int.emod_self]
  obtain ⟨u, hu⟩ : ∃ u, c / (2 : Int) ^ (5 + q).toNat = u := ⟨_, rfl⟩
  obtain ⟨s, hs⟩ : ∃ s, c % (2 : Int) ^ (5 + q).toNat = s := ⟨_, rfl⟩
  rw [hu] at hs1 hjo hstep u1 u3
  rw [hs] at hs1 hjo hstep s1 s2
  have HS1 := Lib.hid hs1
  have HJ := Lib.hid (show joinV (5 + q) u s = c ∧ joinE (5 + q) u s = 0 from ⟨hjo.1.symm, hjo.2.symm⟩)
  have HQ := Lib.hid hq
  have HC := Lib.hid hc
  have HST := Lib.hid hstep
  have HS20 := Lib.hid hs2
  clear hs1 hjo hq hc hu hs hstep hs2 hdm hmp u2
  by_cases hk : s + 1 < 2 ^ (5 + q).toNat
  · have hs2 := HS20.out
    rw [(HST.out.1 hk).1, (HST.out.1 hk).2] at hs2
    have HS2 := Lib.hid hs2
    clear hs2
    go_enter Try.func8, Try.ntmps8
    go_wp2_with fail
    refine (mod_is HQ.out _ (by omega)).mono ?_
    rintro e w' ⟨rfl, rfl⟩
    go_wp2_with fail
    refine (mod_is HC.out _ (by omega)).mono ?_
    rintro e w' ⟨rfl, rfl⟩
    go_wp2_with fail
    refine (split_is HS1.out _).mono ?_
    rintro e w1 ⟨rfl, hg⟩
    have HG := Lib.hid hg
    clear hg
    go_wp2_with fail
    refine (join_is HJ.out _).mono ?_
    rintro e w' ⟨rfl, rfl⟩
    go_wp2_with fail
    refine (split_is HS2.out _).mono ?_
    rintro e w2 ⟨rfl, hg⟩
    have HG2 := Lib.hid hg
    clear hg
    go_wp2_with fail
    refine (awake15 _).mono ?_
    rintro e w3 ⟨rfl, hg⟩
    have HG3 := Lib.hid hg
    clear hg
    go_wp2_with fail
    go_ret
    exact ⟨rfl, Below.of_none (HG.out.trans (HG2.out.trans HG3.out))⟩
  · have hs2 := HS20.out
    rw [(HST.out.2 (by omega)).1, (HST.out.2 (by omega)).2] at hs2
    have HS2 := Lib.hid hs2
    clear hs2
    have hkb : (s == 2 ^ (5 + q).toNat - 1) = true := by simp; omega
    go_enter Try.func8, Try.ntmps8
    go_wp2_with fail
    refine (mod_is HQ.out _ (by omega)).mono ?_
    rintro e w' ⟨rfl, rfl⟩
    go_wp2_with fail
    refine (mod_is HC.out _ (by omega)).mono ?_
    rintro e w' ⟨rfl, rfl⟩
    go_wp2_with fail
    refine (split_is HS1.out _).mono ?_
    rintro e w1 ⟨rfl, hg⟩
    have HG := Lib.hid hg
    clear hg
    go_wp2_with fail
    refine (join_is HJ.out _).mono ?_
    rintro e w' ⟨rfl, rfl⟩
    go_wp2_with fail
    refine (split_is HS2.out _).mono ?_
    rintro e w2 ⟨rfl, hg⟩
    have HG2 := Lib.hid hg
    clear hg
    go_wp2_with fail
    refine (awake15 _).mono ?_
    rintro e w3 ⟨rfl, hg⟩
    have HG3 := Lib.hid hg
    clear hg
    go_wp2_with fail
    go_ret
    exact ⟨rfl, Below.of_none (HG.out.trans (HG2.out.trans HG3.out))⟩
end Go.Proofs.Ytinkllejjilenaa
