/- The laws of layer 2 (serial): their walks. -/
import Derived.Test.YtajbenpekphllaaBase
namespace Go.Proofs.Ytajbenpekphllaa
open Go.ChangeShapes Go.WideShapes Go.ChangeAt Go.RowKit

theorem awake2 (w : World) : Calls Try.prog 20 #[] w fun e w' => e = .returned (.bool true) ∧ w = w' := by
  have e1 : nearS 5 100 1 = 97 := by decide +kernel
  have e2 : nearB 5 100 = true := by decide +kernel
  have e3 : distS 8 250 3 = 9 := by decide +kernel
  have e4 : signedS 8 3 250 = -9 := by decide +kernel
  go_enter Try.func20, Try.ntmps20
  go_wp2_with (first | ((go_at_call 18; refine (snear _ _ _ _).mono ?_; rintro e w' ⟨rfl, rfl⟩)) | ((go_at_call 21; refine (sdist _ _ _ _).mono ?_; rintro e w' ⟨rfl, rfl⟩)) | ((go_at_call 27; refine (ssigned _ _ _ _).mono ?_; rintro e w' ⟨rfl, rfl⟩)))
  go_ret
  exact ⟨rfl, rfl⟩

/-- The count is found from its low bits. -/
theorem near_law (k c x : Int) (h1 : 1 ≤ k) (h2 : k ≤ 32) (hc : 0 ≤ c) (hc2 : c ≤ 1099511627776) (hx : c - 2 ^ (k.toNat - 1) ≤ x) (hx2 : x < c + 2 ^ (k.toNat - 1)) :
    nearS k c (lowS k x) = x ∧ nearB k c = true := by
  have hv := vld_mk h1 h2
  refine ⟨?_, by simp [nearB, hv]; omega⟩
  have hp : (2 : Int) ^ k.toNat = 2 * 2 ^ (k.toNat - 1) := by
    rw [← Int.pow_succ', show k.toNat - 1 + 1 = k.toNat from by omega]
  have hq := two_pow_pos (k.toNat - 1)
  have e : distS k c (lowS k x) = (x - c) % 2 ^ k.toNat := by
    simp only [distS, lowS, hv, if_true]
    rw [Int.emod_sub_emod]
  simp only [nearS, signedS, hv, e]
  rw [hp]
  generalize (2 : Int) ^ (k.toNat - 1) = p at *
  simp only [hc2, show (-1099511627776 : Int) ≤ c from by omega, and_self, if_true]
  by_cases h : 0 ≤ x - c
  · have : (x - c) % (2 * p) = x - c := Int.emod_eq_of_lt h (by omega)
    rw [this]; rw [if_neg (by omega)]; omega
  · have : (x - c) % (2 * p) = x - c + 2 * p := by
      rw [← Int.add_emod_right]; exact Int.emod_eq_of_lt (by omega) (by omega)
    rw [this]; rw [if_pos (by omega)]; omega

theorem near_walk (n count d : Int) (w : World) :
    Calls Try.prog 6 #[.int .i64 n, .int .i64 count, .int .i64 d] w fun e w' => e = .returned (.bool true) ∧ w = w' := by
  have h1 := modF_lo n 32
  have h2 := modF_hi n 32 (by omega)
  have h3 := modF_lo count 1099511627776
  have h4 := modF_hi count 1099511627776 (by omega)
  obtain ⟨p, hp⟩ : ∃ p, wrap64 (2 ^ ((1 + modF n 32).toNat - 1)) = p := ⟨_, rfl⟩
  have hp0 : p = 2 ^ ((1 + modF n 32).toNat - 1) := by rw [← hp, wrap_pow (by omega)]
  have hp1 : 1 ≤ p := by have := two_pow_pos ((1 + modF n 32).toNat - 1); omega
  have hp2 : p ≤ 2147483648 := by
    have := two_pow_le (show (1 + modF n 32).toNat - 1 ≤ 31 by omega); rw [hp0]; simpa using this
  have h5 := modF_lo d (2 * p)
  have h6 := modF_hi d (2 * p) (by omega)
  obtain ⟨e1, e2⟩ := near_law (1 + modF n 32) (modF count 1099511627776) (modF count 1099511627776 + modF d (2 * p) - p) (by omega) (by omega) h3 (by omega) (by rw [← hp0]; omega) (by rw [← hp0]; omega)
  clear hp0
  go_enter Try.func6, Try.ntmps6
  go_wp2_with (first | ((go_at_call 15; refine (mod_any _ _ _ (by omega)).mono ?_; rintro e w' ⟨rfl, rfl⟩)) | ((go_at_call 18; refine (snear _ _ _ _).mono ?_; rintro e w' ⟨rfl, rfl⟩)) | ((go_at_call 19; refine (slow _ _ _).mono ?_; rintro e w' ⟨rfl, rfl⟩)) | ((go_at_call 20; refine (awake2 _).mono ?_; rintro e w' ⟨rfl, rfl⟩)))
  go_ret
  exact ⟨rfl, rfl⟩

theorem dist_shift (k a b t : Int) : distS k (a + t) (b + t) = distS k a b := by
  unfold distS; rw [show b + t - (a + t) = b - a from by omega]
theorem dist_turn1 (k a b : Int) : distS k (a + 2 ^ k.toNat) b = distS k a b := by
  unfold distS; split
  · rw [show b - (a + 2 ^ k.toNat) = b - a - 2 ^ k.toNat from by omega, Int.sub_emod_right]
  · rfl
theorem dist_turn2 (k a b : Int) : distS k a (b - 2 ^ k.toNat) = distS k a b := by
  unfold distS; split
  · rw [show b - 2 ^ k.toNat - a = b - a - 2 ^ k.toNat from by omega, Int.sub_emod_right]
  · rfl
theorem low_moved (k a b : Int) (hv : vld k = true) : lowS k (a + distS k a b) = lowS k b := by
  simp only [lowS, distS, hv, if_true]
  rw [Int.add_emod_emod, show a + (b - a) = b from by omega]

theorem moves_walk (n a b : Int) (w : World) :
    Calls Try.prog 7 #[.int .i64 n, .int .i64 a, .int .i64 b] w fun e w' => e = .returned (.bool true) ∧ w = w' := by
  have h1 := modF_lo n 32
  have h2 := modF_hi n 32 (by omega)
  have h3 := modF_lo a 1099511627776
  have h4 := modF_hi a 1099511627776 (by omega)
  have h5 := modF_lo b 1099511627776
  have h6 := modF_hi b 1099511627776 (by omega)
  have hd := dist_rng (1 + modF n 32) (modF a 1099511627776) (modF b 1099511627776) (by omega) (by omega)
  obtain ⟨p, hp⟩ : ∃ p, wrap64 (2 ^ (1 + modF n 32).toNat) = p := ⟨_, rfl⟩
  have hp0 : (2 : Int) ^ (1 + modF n 32).toNat = p := by rw [← hp, wrap_pow (by omega)]
  have hp1 : 1 ≤ p := by have := two_pow_pos (1 + modF n 32).toNat; omega
  have hp2 : p ≤ 4294967296 := by
    have := two_pow_le (show (1 + modF n 32).toNat ≤ 32 by omega); rw [← hp0]; simpa using this
  rw [hp0] at hd
  have e1 := dist_shift (1 + modF n 32) (modF a 1099511627776) (modF b 1099511627776) 17
  have e2 := dist_turn1 (1 + modF n 32) (modF a 1099511627776) (modF b 1099511627776)
  have e3 := dist_turn2 (1 + modF n 32) (modF a 1099511627776) (modF b 1099511627776)
  have e4 := low_moved (1 + modF n 32) (modF a 1099511627776) (modF b 1099511627776) (vld_mk (by omega) (by omega))
  rw [hp0] at e2 e3
  clear hp0
  go_enter Try.func7, Try.ntmps7
  go_wp2_with (first | ((go_at_call 15; refine (mod_any _ _ _ (by omega)).mono ?_; rintro e w' ⟨rfl, rfl⟩)) | ((go_at_call 21; refine (sdist _ _ _ _).mono ?_; rintro e w' ⟨rfl, rfl⟩)) | ((go_at_call 19; refine (slow _ _ _).mono ?_; rintro e w' ⟨rfl, rfl⟩)) | ((go_at_call 20; refine (awake2 _).mono ?_; rintro e w' ⟨rfl, rfl⟩)))
  go_ret
  exact ⟨rfl, rfl⟩

set_option maxRecDepth 100000 in
theorem exact_walk (n a b : Int) (w : World) (hn : i64 n) :
    Calls Try.prog 8 #[.int .i64 n, .int .i64 a, .int .i64 b] w fun e w' => e = .returned (.bool true) ∧ w = w' := by
  obtain ⟨hn1, hn2⟩ := hn
  go_enter Try.func8, Try.ntmps8
  go_wp2_with fail
  go_loop [0, 7] (fun n i => ∃ (m : Int) (k : Nat), k ≤ 2 ∧ n = .int .i64 m ∧ i = .int .i64 k) (fun _ i => 2 - (intOf i).toNat)
  case atStart => exact ⟨n, 0, by omega, rfl, rfl⟩
  case round =>
    obtain ⟨m, k, hk, rfl, rfl⟩ := hrel
    have h1 := modF_lo m 32
    have h2 := modF_hi m 32 (by omega)
    by_cases hlt : k < 2
    · go_wp2_with (first | ((go_at_call 15; refine (mod_any _ _ _ (by omega)).mono ?_; rintro e w' ⟨rfl, rfl⟩)) | ((go_at_call 21; refine (sdist _ _ _ _).mono ?_; rintro e w' ⟨rfl, rfl⟩)) | ((go_at_call 19; refine (slow _ _ _).mono ?_; rintro e w' ⟨rfl, rfl⟩)) | ((go_at_call 25; refine (sinside _ _ _ _).mono ?_; rintro e w' ⟨rfl, rfl⟩)) | ((go_at_call 27; refine (ssigned _ _ _ _).mono ?_; rintro e w' ⟨rfl, rfl⟩)) | ((go_at_call 18; refine (snear _ _ _ _).mono ?_; rintro e w' ⟨rfl, rfl⟩)) | ((go_at_call 24; refine (rdist _ _ _ _).mono ?_; rintro e w' ⟨rfl, rfl⟩)) | ((go_at_call 23; refine (rlow _ _ _).mono ?_; rintro e w' ⟨rfl, rfl⟩)) | ((go_at_call 26; refine (rinside _ _ _ _).mono ?_; rintro e w' ⟨rfl, rfl⟩)) | ((go_at_call 28; refine (rsigned _ _ _ _).mono ?_; rintro e w' ⟨rfl, rfl⟩)) | ((go_at_call 22; refine (rnear _ _ _ _).mono ?_; rintro e w' ⟨rfl, rfl⟩)) | ((go_at_call 20; refine (awake2 _).mono ?_; rintro e w' ⟨rfl, rfl⟩)))
      go_round
      case rel => exact ⟨1 + modF m 32, k + 1, by omega, rfl, by go_num⟩
      case measure => simp [intOf]; omega
    · go_wp2_with ((go_at_call 20; refine (awake2 _).mono ?_; rintro e w' ⟨rfl, rfl⟩))
      go_ret
      exact ⟨rfl, rfl⟩

/-! ### windows -/
theorem dist_zero (k a b : Int) (h1 : 1 ≤ k) (h2 : k ≤ 32) (h : distS k a b = 0) : distS k b a = 0 := by
  have hv := vld_mk h1 h2
  simp only [distS, hv, if_true] at *
  have := Int.dvd_of_emod_eq_zero h
  apply Int.emod_eq_zero_of_dvd
  rw [show a - b = -(b - a) from by omega]
  exact Int.dvd_neg.2 this
theorem dist_both (k a b : Int) (h1 : 1 ≤ k) (h2 : k ≤ 32) (h : distS k a b ≠ 0) : distS k a b + distS k b a = 2 ^ k.toNat := by
  have hv := vld_mk h1 h2
  have hp := two_pow_pos k.toNat
  obtain ⟨h3, h4⟩ := dist_rng k a b h1 h2
  have e : distS k b a = 2 ^ k.toNat - distS k a b := by
    have : (2 ^ k.toNat - distS k a b) % 2 ^ k.toNat = distS k b a := by
      simp only [distS, hv, if_true]
      rw [Int.sub_emod, Int.emod_emod_of_dvd _ (Int.dvd_refl _), ← Int.sub_emod, show (2 : Int) ^ k.toNat - (b - a) = a - b + 2 ^ k.toNat from by omega, Int.add_emod_right]
    rw [← this]; exact Int.emod_eq_of_lt (by omega) (by omega)
  omega
theorem pow_half (k : Int) (h1 : 1 ≤ k) : (2 : Int) ^ k.toNat = 2 * 2 ^ (k.toNat - 1) := by
  rw [← Int.pow_succ', show k.toNat - 1 + 1 = k.toNat from by omega]

theorem inside_eq (k a b : Int) (h1 : 1 ≤ k) (h2 : k ≤ 32) : insideS k a b = decide (distS k a b < 2 ^ (k.toNat - 1)) := by
  simp [insideS, vld_mk h1 h2]
theorem signed_eq (k a b : Int) (h1 : 1 ≤ k) (h2 : k ≤ 32) : signedS k a b = if 2 ^ (k.toNat - 1) ≤ distS k a b then distS k a b - 2 * 2 ^ (k.toNat - 1) else distS k a b := by
  simp [signedS, vld_mk h1 h2, ← pow_half k h1]

theorem windows_walk (n a b : Int) (w : World) :
    Calls Try.prog 9 #[.int .i64 n, .int .i64 a, .int .i64 b] w fun e w' => e = .returned (.bool true) ∧ w = w' := by
  have h1 := modF_lo n 32
  have h2 := modF_hi n 32 (by omega)
  obtain ⟨p, hp⟩ : ∃ p, wrap64 (2 ^ ((1 + modF n 32).toNat - 1)) = p := ⟨_, rfl⟩
  have hp0 : (2 : Int) ^ ((1 + modF n 32).toNat - 1) = p := by rw [← hp, wrap_pow (by omega)]
  have hp1 : 1 ≤ p := by have := two_pow_pos ((1 + modF n 32).toNat - 1); omega
  have hp2 : p ≤ 2147483648 := by
    have := two_pow_le (show (1 + modF n 32).toNat - 1 ≤ 31 by omega); rw [← hp0]; simpa using this
  have hpp : wrap64 (2 ^ (1 + modF n 32).toNat) = 2 * p := by rw [wrap_pow (by omega), pow_half _ (by omega), hp0]
  have hz := dist_zero (1 + modF n 32) a b (by omega) (by omega)
  have hb := dist_both (1 + modF n 32) a b (by omega) (by omega)
  have i1 := inside_eq (1 + modF n 32) a b (by omega) (by omega)
  have i2 := inside_eq (1 + modF n 32) b a (by omega) (by omega)
  have s1 := signed_eq (1 + modF n 32) a b (by omega) (by omega)
  have s2 := signed_eq (1 + modF n 32) b a (by omega) (by omega)
  obtain ⟨d1, d2⟩ := dist_rng (1 + modF n 32) a b (by omega) (by omega)
  obtain ⟨d3, d4⟩ := dist_rng (1 + modF n 32) b a (by omega) (by omega)
  rw [pow_half _ (by omega), hp0] at hb d2 d4
  rw [hp0] at i1 i2 s1 s2
  clear hp0
  obtain ⟨d, hd⟩ : ∃ d, distS (1 + modF n 32) a b = d := ⟨_, rfl⟩
  obtain ⟨e, he⟩ : ∃ e, distS (1 + modF n 32) b a = e := ⟨_, rfl⟩
  rw [hd] at hz hb i1 s1 d1 d2
  rw [he] at hz hb i2 s2 d3 d4
  by_cases hd0 : d = 0
  · have he0 := hz hd0
    subst hd0 he0
    have i1' : insideS (1 + modF n 32) a b = true := by rw [i1]; simp; omega
    have i2' : insideS (1 + modF n 32) b a = true := by rw [i2]; simp; omega
    clear hz hb i1 i2 s1 s2
    go_enter Try.func9, Try.ntmps9
    go_wp2_with (first | ((go_at_call 15; refine (mod_any _ _ _ (by omega)).mono ?_; rintro e w' ⟨rfl, rfl⟩)) | ((go_at_call 21; refine (sdist _ _ _ _).mono ?_; rintro e w' ⟨rfl, rfl⟩)) | ((go_at_call 25; refine (sinside _ _ _ _).mono ?_; rintro e w' ⟨rfl, rfl⟩)) | ((go_at_call 20; refine (awake2 _).mono ?_; rintro e w' ⟨rfl, rfl⟩)))
    go_ret
    exact ⟨rfl, rfl⟩
  · have hb0 := hb hd0
    have hd0' : (d == 0) = false := by simpa using hd0
    obtain rfl : e = 2 * p - d := by omega
    by_cases hdp : d = p
    · subst hdp
      have i1' : insideS (1 + modF n 32) a b = false := by rw [i1]; simp
      have i2' : insideS (1 + modF n 32) b a = false := by rw [i2]; simp; omega
      clear hz hb i1 i2 s1 s2 hb0
      go_enter Try.func9, Try.ntmps9
      go_wp2_with (first | ((go_at_call 15; refine (mod_any _ _ _ (by omega)).mono ?_; rintro e w' ⟨rfl, rfl⟩)) | ((go_at_call 21; refine (sdist _ _ _ _).mono ?_; rintro e w' ⟨rfl, rfl⟩)) | ((go_at_call 25; refine (sinside _ _ _ _).mono ?_; rintro e w' ⟨rfl, rfl⟩)) | ((go_at_call 27; refine (ssigned _ _ _ _).mono ?_; rintro e w' ⟨rfl, rfl⟩)) | ((go_at_call 20; refine (awake2 _).mono ?_; rintro e w' ⟨rfl, rfl⟩)))
      go_ret
      exact ⟨rfl, rfl⟩
    · have hdp' : (d == p) = false := by simpa using hdp
      have hdp2 : (d != p) = true := by simpa using hdp
      have hi : insideS (1 + modF n 32) a b = !insideS (1 + modF n 32) b a := by
        rw [i1, i2]
        by_cases h : d < p
        · simp [h]; omega
        · simp [h]; omega
      have hs : signedS (1 + modF n 32) a b = -signedS (1 + modF n 32) b a := by
        rw [s1, s2]
        by_cases h : d < p
        · rw [if_neg (by omega), if_pos (by omega)]; omega
        · rw [if_pos (by omega), if_neg (by omega)]; omega
      have hr := signed_rng (1 + modF n 32) b a
      clear hz hb i1 i2 s1 s2 hb0
      go_enter Try.func9, Try.ntmps9
      go_wp2_with (first | ((go_at_call 15; refine (mod_any _ _ _ (by omega)).mono ?_; rintro e w' ⟨rfl, rfl⟩)) | ((go_at_call 21; refine (sdist _ _ _ _).mono ?_; rintro e w' ⟨rfl, rfl⟩)) | ((go_at_call 25; refine (sinside _ _ _ _).mono ?_; rintro e w' ⟨rfl, rfl⟩)) | ((go_at_call 27; refine (ssigned _ _ _ _).mono ?_; rintro e w' ⟨rfl, rfl⟩)) | ((go_at_call 20; refine (awake2 _).mono ?_; rintro e w' ⟨rfl, rfl⟩)))
      go_ret
      exact ⟨rfl, rfl⟩
end Go.Proofs.Ytajbenpekphllaa
namespace Go.Proofs.Ytajbenpekphllaa
open Go.ChangeShapes Go.WideShapes Go.ChangeAt Go.RowKit
theorem near_fit (n count d : Int) (w : World) (_h0 : i64 n) (_h1 : i64 count) (_h2 : i64 d) :
    Calls Try.prog 6 #[.int .i64 n, .int .i64 count, .int .i64 d] w fun e w' => e = .returned (.bool true) ∧ Below w.heap.size w w' :=
  (near_walk n count d w).mono fun _ _ ⟨he, hw⟩ => ⟨he, hw ▸ Below.refl _ _⟩
theorem moves_fit (n a b : Int) (w : World) (_h0 : i64 n) (_h1 : i64 a) (_h2 : i64 b) :
    Calls Try.prog 7 #[.int .i64 n, .int .i64 a, .int .i64 b] w fun e w' => e = .returned (.bool true) ∧ Below w.heap.size w w' :=
  (moves_walk n a b w).mono fun _ _ ⟨he, hw⟩ => ⟨he, hw ▸ Below.refl _ _⟩
theorem exact_fit (n a b : Int) (w : World) (h0 : i64 n) (_h1 : i64 a) (_h2 : i64 b) :
    Calls Try.prog 8 #[.int .i64 n, .int .i64 a, .int .i64 b] w fun e w' => e = .returned (.bool true) ∧ Below w.heap.size w w' :=
  (exact_walk n a b w h0).mono fun _ _ ⟨he, hw⟩ => ⟨he, hw ▸ Below.refl _ _⟩
theorem windows_fit (n a b : Int) (w : World) (_h0 : i64 n) (_h1 : i64 a) (_h2 : i64 b) :
    Calls Try.prog 9 #[.int .i64 n, .int .i64 a, .int .i64 b] w fun e w' => e = .returned (.bool true) ∧ Below w.heap.size w w' :=
  (windows_walk n a b w).mono fun _ _ ⟨he, hw⟩ => ⟨he, hw ▸ Below.refl _ _⟩
end Go.Proofs.Ytajbenpekphllaa
