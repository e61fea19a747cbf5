/- Contracts of the small functions over numbers: Mod, serial, and their references. -/
import Derived.Test.YtmojlengjoicoaaRows
import Derived.Test.YtmojlengjoicoaaPlain
import Derived.WalkLawsBesides
import Derived.WalkSpells
namespace Go.Proofs.Ytmojlengjoicoaa
open Go.ChangeShapes Go.WideShapes Go.ChangeAt Go.RowKit

/-! ### Mod -/
def modF (n m : Int) : Int := if m < 1 then 0 else n % m

theorem modF_lo (n m : Int) : 0 ≤ modF n m := by
  unfold modF; split
  · omega
  · exact Int.emod_nonneg _ (by omega)
theorem modF_hi (n m : Int) (h : 1 ≤ m) : modF n m < m := by
  unfold modF; rw [if_neg (by omega)]
  exact Int.emod_lt_of_pos _ (by omega)

theorem tmod_cases (n m : Int) (h : 1 ≤ m) : (n.tmod m < 0 → n % m = n.tmod m + m) ∧ (0 ≤ n.tmod m → n % m = n.tmod m) ∧ -m < n.tmod m ∧ n.tmod m < m := by
  have e := Int.tmod_eq_emod (a := n) (b := m)
  have h1 := Int.emod_nonneg n (show m ≠ 0 by omega)
  have h2 := Int.emod_lt_of_pos n (show 0 < m by omega)
  split at e
  · rw [e]; refine ⟨fun h => ?_, fun h => ?_, ?_, ?_⟩ <;> omega
  · rename_i hd
    have : n % m ≠ 0 := fun h0 => hd (.inr (Int.dvd_of_emod_eq_zero h0))
    rw [e]; refine ⟨fun h => ?_, fun h => ?_, ?_, ?_⟩ <;> omega

theorem mod_any (n m : Int) (w : World) (hm : m ≤ 9223372036854775807) :
    Calls Try.prog 20 #[.int .i64 n, .int .i64 m] w fun e w' => e = .returned (.int .i64 (modF n m)) ∧ w = w' := by
  by_cases h : m < 1
  · go_enter Try.func20, Try.ntmps20
    go_wp2
    go_ret
    exact ⟨ret_i64 (by unfold modF; rw [if_pos h]), rfl⟩
  · have hc := tmod_cases n m (by omega)
    obtain ⟨h1, h2, h3, h4⟩ := hc
    have H1 := Lib.hid h1
    have H2 := Lib.hid h2
    clear h1 h2
    go_enter Try.func20, Try.ntmps20
    go_wp2
    · go_ret
      exact ⟨ret_i64 (by unfold modF; rw [if_neg (by omega), H1.out (by assumption)]), rfl⟩
    · go_ret
      exact ⟨ret_i64 (by unfold modF; rw [if_neg (by omega), H2.out (by assumption)]), rfl⟩

/-! ### The plain functions of serial -/
abbrev i64 (n : Int) : Prop := -9223372036854775808 ≤ n ∧ n ≤ 9223372036854775807
def vld (n : Int) : Bool := decide (1 ≤ n ∧ n ≤ 32)
def lowS (n x : Int) : Int := if vld n then x % 2 ^ n.toNat else -1
def distS (n a b : Int) : Int := if vld n then (b - a) % 2 ^ n.toNat else -1
def insideS (n a b : Int) : Bool := vld n && decide (distS n a b < 2 ^ (n.toNat - 1))
def signedS (n a b : Int) : Int := if vld n then (if 2 ^ (n.toNat - 1) ≤ distS n a b then distS n a b - 2 ^ n.toNat else distS n a b) else 0
def nearS (n c x : Int) : Int := if vld n ∧ -1099511627776 ≤ c ∧ c ≤ 1099511627776 then c + signedS n c x else 0
def nearB (n c : Int) : Bool := vld n && decide (-1099511627776 ≤ c) && decide (c ≤ 1099511627776)

theorem vld_yes {n : Int} (h : vld n = true) : 1 ≤ n ∧ n ≤ 32 := by simpa [vld] using h
theorem vld_no {n : Int} (h : vld n = false) : ¬ (1 ≤ n ∧ n ≤ 32) := by simpa [vld] using h
theorem vld_mk {n : Int} (h1 : 1 ≤ n) (h2 : n ≤ 32) : vld n = true := by simp [vld, h1, h2]

theorem wrap_emod (x : Int) {k : Nat} (h : k ≤ 62) : wrap64 x % 2 ^ k = x % 2 ^ k := by
  have hd : (2 : Int) ^ k ∣ 18446744073709551616 := by
    have : (18446744073709551616 : Int) = 2 ^ k * 2 ^ (64 - k) := by rw [← Int.pow_add, show k + (64 - k) = 64 from by omega]; rfl
    exact ⟨_, this⟩
  have e : wrap64 x = x - 18446744073709551616 * ((x + 9223372036854775808) / 18446744073709551616) := by
    unfold wrap64; omega
  rw [e]
  obtain ⟨c, hc⟩ := hd
  rw [hc, Int.mul_assoc, Int.sub_mul_emod_self_left]

theorem emod_i64 (x : Int) {k : Nat} (h : k ≤ 62) : 0 ≤ x % 2 ^ k ∧ x % 2 ^ k < 4611686018427387904 := by
  have h1 := two_pow_62 h; have h2 := two_pow_pos k
  have h5 := Int.emod_nonneg x (show (2 : Int) ^ k ≠ 0 by omega)
  have h6 := Int.emod_lt_of_pos x h2
  exact ⟨h5, by omega⟩

/-! ### serial -/
theorem svalid (n : Int) (w : World) :
    Calls Try.prog 73 #[.int .i64 n] w fun e w' => e = .returned (.bool (vld n)) ∧ w = w' := by
  go_enter Try.func73, Try.ntmps73
  go_wp2
  · go_ret
    exact ⟨ret_bool (by have : 1 ≤ n := by assumption
                        simp [vld, this]), rfl⟩
  · go_ret
    exact ⟨ret_bool (by have : n < 1 := by assumption
                        simp [vld]; omega), rfl⟩

theorem slow (n x : Int) (w : World) :
    Calls Try.prog 55 #[.int .i64 n, .int .i64 x] w fun e w' => e = .returned (.int .i64 (lowS n x)) ∧ w = w' := by
  cases hv : vld n
  · have H := Lib.hid hv
    go_enter Try.func55, Try.ntmps55
    go_wp2_with ((go_at_call 73; refine (svalid _ _).mono ?_; rintro e w' ⟨rfl, rfl⟩))
    go_ret
    exact ⟨ret_i64 (by simp [lowS, H.out]), rfl⟩
  · have H := Lib.hid hv
    obtain ⟨h1, h2⟩ := vld_yes hv
    go_enter Try.func55, Try.ntmps55
    go_wp2_with ((go_at_call 73; refine (svalid _ _).mono ?_; rintro e w' ⟨rfl, rfl⟩))
    go_ret
    exact ⟨ret_i64 (by rw [wrap_pow1 (by omega), and_mask _ (by omega)]; simp [lowS, H.out]), rfl⟩

theorem lowS_wrap (n x : Int) : lowS n (wrap64 x) = lowS n x := by
  unfold lowS; split
  · rename_i h; obtain ⟨h1, h2⟩ := vld_yes h; exact wrap_emod x (by omega)
  · rfl
theorem low_sub (n a b : Int) : lowS n (b - a) = distS n a b := rfl

theorem sdist (n a b : Int) (w : World) :
    Calls Try.prog 74 #[.int .i64 n, .int .i64 a, .int .i64 b] w fun e w' => e = .returned (.int .i64 (distS n a b)) ∧ w = w' := by
  go_enter Try.func74, Try.ntmps74
  go_wp2_with ((go_at_call 55; refine (slow _ _ _).mono ?_; rintro e w' ⟨rfl, rfl⟩))
  go_ret
  exact ⟨ret_i64 (by first | rw [lowS_wrap, low_sub] | rw [low_sub]), rfl⟩


theorem shalf (n : Int) (w : World) (h1 : 1 ≤ n) (h2 : n ≤ 32) :
    Calls Try.prog 75 #[.int .i64 n] w fun e w' => e = .returned (.int .i64 (2 ^ (n.toNat - 1))) ∧ w = w' := by
  go_enter Try.func75, Try.ntmps75
  go_wp2
  go_ret
  exact ⟨ret_i64 (wrap_pow (by omega)), rfl⟩

theorem dist_rng (n a b : Int) (h1 : 1 ≤ n) (h2 : n ≤ 32) : 0 ≤ distS n a b ∧ distS n a b < 2 ^ n.toNat := by
  have hp := two_pow_pos n.toNat
  unfold distS; rw [if_pos (vld_mk h1 h2)]
  exact ⟨Int.emod_nonneg _ (by omega), Int.emod_lt_of_pos _ hp⟩
theorem wrap_dist (n a b : Int) (h1 : 1 ≤ n) (h2 : n ≤ 32) : wrap64 (distS n a b - wrap64 (2 ^ n.toNat)) = distS n a b - 2 ^ n.toNat := by
  obtain ⟨h3, h4⟩ := dist_rng n a b h1 h2
  have h5 := two_pow_62 (show n.toNat ≤ 62 by omega)
  rw [wrap_pow (by omega)]
  generalize (2 : Int) ^ n.toNat = p at *
  unfold wrap64; omega


theorem ssigned (n a b : Int) (w : World) :
    Calls Try.prog 57 #[.int .i64 n, .int .i64 a, .int .i64 b] w fun e w' => e = .returned (.int .i64 (signedS n a b)) ∧ w = w' := by
  cases hv : vld n
  · have H := Lib.hid hv
    go_enter Try.func57, Try.ntmps57
    go_wp2_with (first | ((go_at_call 73; refine (svalid _ _).mono ?_; rintro e w' ⟨rfl, rfl⟩)) | ((go_at_call 74; refine (sdist _ _ _ _).mono ?_; rintro e w' ⟨rfl, rfl⟩)) | ((go_at_call 75; refine (shalf _ _ (by assumption) (by assumption)).mono ?_; rintro e w' ⟨rfl, rfl⟩)))
    go_ret
    exact ⟨ret_i64 (by simp [signedS, H.out]), rfl⟩
  · have H := Lib.hid hv
    obtain ⟨h1, h2⟩ := vld_yes hv
    go_enter Try.func57, Try.ntmps57
    go_wp2_with (first | ((go_at_call 73; refine (svalid _ _).mono ?_; rintro e w' ⟨rfl, rfl⟩)) | ((go_at_call 74; refine (sdist _ _ _ _).mono ?_; rintro e w' ⟨rfl, rfl⟩)) | ((go_at_call 75; refine (shalf _ _ (by assumption) (by assumption)).mono ?_; rintro e w' ⟨rfl, rfl⟩)))
    · go_ret
      have h3 : 2 ^ (n.toNat - 1) ≤ distS n a b := by assumption
      exact ⟨ret_i64 (by rw [wrap_dist n a b h1 h2]; simp [signedS, H.out, h3]), rfl⟩
    · go_ret
      have h3 : distS n a b < 2 ^ (n.toNat - 1) := by assumption
      exact ⟨ret_i64 (by simp [signedS, H.out, Int.not_le.2 h3]), rfl⟩

theorem signed_rng (n a b : Int) : -4294967296 ≤ signedS n a b ∧ signedS n a b ≤ 4294967296 := by
  unfold signedS
  split
  · rename_i hv
    obtain ⟨h1, h2⟩ := vld_yes hv
    obtain ⟨h3, h4⟩ := dist_rng n a b h1 h2
    have h5 : (2 : Int) ^ n.toNat ≤ 2 ^ 32 := two_pow_le (by omega)
    have h6 : (2 : Int) ^ 32 = 4294967296 := by rfl
    have h7 := two_pow_pos n.toNat
    split <;> omega
  · omega

theorem ret_ib {a b : Int} {x y : Bool} (h : a = b) (k : x = y) : Ending.returned (.tuple #[.int .i64 a, .bool x]) = .returned (.tuple #[.int .i64 b, .bool y]) := by rw [h, k]
theorem near_in {n c : Int} (x : Int) (hv : vld n = true) (h : -1099511627776 ≤ c ∧ c ≤ 1099511627776) : c + signedS n c x = nearS n c x ∧ true = nearB n c := by
  simp [nearS, nearB, hv, h]
theorem near_out {n c : Int} (x : Int) (h : c < -1099511627776 ∨ 1099511627776 < c) : 0 = nearS n c x ∧ false = nearB n c := by
  constructor
  · unfold nearS; rw [if_neg (by omega)]
  · have : ¬ (-1099511627776 ≤ c ∧ c ≤ 1099511627776) := by omega
    simp only [nearB, Bool.and_assoc]
    have : (decide (-1099511627776 ≤ c) && decide (c ≤ 1099511627776)) = false := by
      rw [← Bool.decide_and]; simpa using this
    rw [this]; simp


/-! ### the reference of serial -/
theorem rvalid (n : Int) (w : World) :
    Calls Try.prog 59 #[.int .i64 n] w fun e w' => e = .returned (.bool (vld n)) ∧ w = w' := by
  go_enter Try.func59, Try.ntmps59
  go_wp2
  · go_ret
    exact ⟨ret_bool (by have : 1 ≤ n := by assumption
                        simp [vld, this]), rfl⟩
  · go_ret
    exact ⟨ret_bool (by have : n < 1 := by assumption
                        simp [vld]; omega), rfl⟩

theorem rlow (n x : Int) (w : World) :
    Calls Try.prog 61 #[.int .i64 n, .int .i64 x] w fun e w' => e = .returned (.int .i64 (lowS n x)) ∧ w = w' := by
  cases hv : vld n
  · have H := Lib.hid hv
    go_enter Try.func61, Try.ntmps61
    go_wp2_with ((go_at_call 59; refine (rvalid _ _).mono ?_; rintro e w' ⟨rfl, rfl⟩))
    go_ret
    exact ⟨ret_i64 (by simp [lowS, H.out]), rfl⟩
  · have H := Lib.hid hv
    obtain ⟨h1, h2⟩ := vld_yes hv
    go_enter Try.func61, Try.ntmps61
    go_wp2_with ((go_at_call 59; refine (rvalid _ _).mono ?_; rintro e w' ⟨rfl, rfl⟩))
    go_ret
    exact ⟨ret_i64 (by rw [wrap_pow1 (by omega), and_mask _ (by omega)]; simp [lowS, H.out]), rfl⟩

theorem lowS_rng (n x : Int) : -1 ≤ lowS n x ∧ lowS n x < 4294967296 := by
  unfold lowS; split
  · rename_i h; obtain ⟨h1, h2⟩ := vld_yes h
    have hp := two_pow_pos n.toNat
    have := Int.emod_nonneg x (show (2 : Int) ^ n.toNat ≠ 0 by omega)
    have := Int.emod_lt_of_pos x hp
    have h5 : (2 : Int) ^ n.toNat ≤ 2 ^ 32 := two_pow_le (by omega)
    have h6 : (2 : Int) ^ 32 = 4294967296 := by rfl
    omega
  · omega

theorem low_dist (n a b : Int) (hv : vld n = true) : (lowS n b - lowS n a) % 2 ^ n.toNat = distS n a b := by
  simp only [lowS, distS, hv, if_true]
  rw [← Int.emod_emod_of_dvd _ (Int.dvd_refl _), ← Int.sub_emod]
  exact Int.emod_emod_of_dvd _ (Int.dvd_refl _)

theorem rdist (n a b : Int) (w : World) :
    Calls Try.prog 60 #[.int .i64 n, .int .i64 a, .int .i64 b] w fun e w' => e = .returned (.int .i64 (distS n a b)) ∧ w = w' := by
  have hr1 := lowS_rng n a
  have hr2 := lowS_rng n b
  cases hv : vld n
  · have H := Lib.hid hv
    go_enter Try.func60, Try.ntmps60
    go_wp2_with (first | ((go_at_call 59; refine (rvalid _ _).mono ?_; rintro e w' ⟨rfl, rfl⟩)) | ((go_at_call 61; refine (rlow _ _ _).mono ?_; rintro e w' ⟨rfl, rfl⟩)))
    go_ret
    exact ⟨ret_i64 (by simp [distS, H.out]), rfl⟩
  · have H := Lib.hid hv
    obtain ⟨h1, h2⟩ := vld_yes hv
    go_enter Try.func60, Try.ntmps60
    go_wp2_with (first | ((go_at_call 59; refine (rvalid _ _).mono ?_; rintro e w' ⟨rfl, rfl⟩)) | ((go_at_call 61; refine (rlow _ _ _).mono ?_; rintro e w' ⟨rfl, rfl⟩)))
    go_ret
    exact ⟨ret_i64 (by rw [wrap_pow1 (by omega), and_mask _ (by omega), low_dist n a b H.out]), rfl⟩



theorem rsigned (n a b : Int) (w : World) :
    Calls Try.prog 24 #[.int .i64 n, .int .i64 a, .int .i64 b] w fun e w' => e = .returned (.int .i64 (signedS n a b)) ∧ w = w' := by
  cases hv : vld n
  · have H := Lib.hid hv
    go_enter Try.func24, Try.ntmps24
    go_wp2_with (first | ((go_at_call 59; refine (rvalid _ _).mono ?_; rintro e w' ⟨rfl, rfl⟩)) | ((go_at_call 60; refine (rdist _ _ _ _).mono ?_; rintro e w' ⟨rfl, rfl⟩)))
    go_ret
    exact ⟨ret_i64 (by simp [signedS, H.out]), rfl⟩
  · have H := Lib.hid hv
    obtain ⟨h1, h2⟩ := vld_yes hv
    have hw := wrap_pow (show n.toNat - 1 ≤ 62 by omega)
    go_enter Try.func24, Try.ntmps24
    go_wp2_with (first | ((go_at_call 59; refine (rvalid _ _).mono ?_; rintro e w' ⟨rfl, rfl⟩)) | ((go_at_call 60; refine (rdist _ _ _ _).mono ?_; rintro e w' ⟨rfl, rfl⟩)))
    · go_ret
      have h3 : 2 ^ (n.toNat - 1) ≤ distS n a b := by assumption
      exact ⟨ret_i64 (by rw [wrap_dist n a b h1 h2]; simp [signedS, H.out, h3]), rfl⟩
    · go_ret
      have h3 : distS n a b < 2 ^ (n.toNat - 1) := by assumption
      exact ⟨ret_i64 (by simp [signedS, H.out, Int.not_le.2 h3]), rfl⟩


end Go.Proofs.Ytmojlengjoicoaa
