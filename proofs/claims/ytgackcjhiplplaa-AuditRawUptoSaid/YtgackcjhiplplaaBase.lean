/- Contracts of the small functions over numbers: Mod, serial, and their references. -/
import Derived.Test.YtgackcjhiplplaaRows
import Derived.Test.YtgackcjhiplplaaPlain
import Derived.WalkLawsBesides
import Derived.WalkSpells
namespace Go.Proofs.Ytgackcjhiplplaa
open Go.ChangeShapes Go.WideShapes Go.ChangeAt Go.RowKit

/-! ### Mod -/
def modF (n m : Int) : Int := if m < 1 then 0 else n % m

theorem modF_lo (n m : Int) : 0 ≤ modF n m := by
  unfold modF; split
  · omega
  · exact Int.emod_nonneg _ (by omega)
theorem modF_hi (n m : Int) (h : 1 ≤ m) : modF n m < m := by
  unfold modF; rw [if_neg (by omega)]
  exact Int.emod_lt_of_pos _ (by omega)

theorem tmod_cases (n m : Int) (h : 1 ≤ m) : (n.tmod m < 0 → n % m = n.tmod m + m) ∧ (0 ≤ n.tmod m → n % m = n.tmod m) ∧ -m < n.tmod m ∧ n.tmod m < m := by
  have e := Int.tmod_eq_emod (a := n) (b := m)
  have h1 := Int.emod_nonneg n (show m ≠ 0 by omega)
  have h2 := Int.emod_lt_of_pos n (show 0 < m by omega)
  split at e
  · rw [e]; refine ⟨fun h => ?_, fun h => ?_, ?_, ?_⟩ <;> omega
  · rename_i hd
    have : n % m ≠ 0 := fun h0 => hd (.inr (Int.dvd_of_emod_eq_zero h0))
    rw [e]; refine ⟨fun h => ?_, fun h => ?_, ?_, ?_⟩ <;> omega


/-! ### The plain functions of serial -/
abbrev i64 (n : Int) : Prop := -9223372036854775808 ≤ n ∧ n ≤ 9223372036854775807
def vld (n : Int) : Bool := decide (1 ≤ n ∧ n ≤ 32)
def lowS (n x : Int) : Int := if vld n then x % 2 ^ n.toNat else -1
def distS (n a b : Int) : Int := if vld n then (b - a) % 2 ^ n.toNat else -1
def insideS (n a b : Int) : Bool := vld n && decide (distS n a b < 2 ^ (n.toNat - 1))
def signedS (n a b : Int) : Int := if vld n then (if 2 ^ (n.toNat - 1) ≤ distS n a b then distS n a b - 2 ^ n.toNat else distS n a b) else 0
def nearS (n c x : Int) : Int := if vld n ∧ -1099511627776 ≤ c ∧ c ≤ 1099511627776 then c + signedS n c x else 0
def nearB (n c : Int) : Bool := vld n && decide (-1099511627776 ≤ c) && decide (c ≤ 1099511627776)

theorem vld_yes {n : Int} (h : vld n = true) : 1 ≤ n ∧ n ≤ 32 := by simpa [vld] using h
theorem vld_no {n : Int} (h : vld n = false) : ¬ (1 ≤ n ∧ n ≤ 32) := by simpa [vld] using h
theorem vld_mk {n : Int} (h1 : 1 ≤ n) (h2 : n ≤ 32) : vld n = true := by simp [vld, h1, h2]

theorem wrap_emod (x : Int) {k : Nat} (h : k ≤ 62) : wrap64 x % 2 ^ k = x % 2 ^ k := by
  have hd : (2 : Int) ^ k ∣ 18446744073709551616 := by
    have : (18446744073709551616 : Int) = 2 ^ k * 2 ^ (64 - k) := by rw [← Int.pow_add, show k + (64 - k) = 64 from by omega]; rfl
    exact ⟨_, this⟩
  have e : wrap64 x = x - 18446744073709551616 * ((x + 9223372036854775808) / 18446744073709551616) := by
    unfold wrap64; omega
  rw [e]
  obtain ⟨c, hc⟩ := hd
  rw [hc, Int.mul_assoc, Int.sub_mul_emod_self_left]

theorem emod_i64 (x : Int) {k : Nat} (h : k ≤ 62) : 0 ≤ x % 2 ^ k ∧ x % 2 ^ k < 4611686018427387904 := by
  have h1 := two_pow_62 h; have h2 := two_pow_pos k
  have h5 := Int.emod_nonneg x (show (2 : Int) ^ k ≠ 0 by omega)
  have h6 := Int.emod_lt_of_pos x h2
  exact ⟨h5, by omega⟩

/-! ### serial -/


theorem lowS_wrap (n x : Int) : lowS n (wrap64 x) = lowS n x := by
  unfold lowS; split
  · rename_i h; obtain ⟨h1, h2⟩ := vld_yes h; exact wrap_emod x (by omega)
  · rfl
theorem low_sub (n a b : Int) : lowS n (b - a) = distS n a b := rfl



theorem dist_rng (n a b : Int) (h1 : 1 ≤ n) (h2 : n ≤ 32) : 0 ≤ distS n a b ∧ distS n a b < 2 ^ n.toNat := by
  have hp := two_pow_pos n.toNat
  unfold distS; rw [if_pos (vld_mk h1 h2)]
  exact ⟨Int.emod_nonneg _ (by omega), Int.emod_lt_of_pos _ hp⟩
theorem wrap_dist (n a b : Int) (h1 : 1 ≤ n) (h2 : n ≤ 32) : wrap64 (distS n a b - wrap64 (2 ^ n.toNat)) = distS n a b - 2 ^ n.toNat := by
  obtain ⟨h3, h4⟩ := dist_rng n a b h1 h2
  have h5 := two_pow_62 (show n.toNat ≤ 62 by omega)
  rw [wrap_pow (by omega)]
  generalize (2 : Int) ^ n.toNat = p at *
  unfold wrap64; omega



theorem signed_rng (n a b : Int) : -4294967296 ≤ signedS n a b ∧ signedS n a b ≤ 4294967296 := by
  unfold signedS
  split
  · rename_i hv
    obtain ⟨h1, h2⟩ := vld_yes hv
    obtain ⟨h3, h4⟩ := dist_rng n a b h1 h2
    have h5 : (2 : Int) ^ n.toNat ≤ 2 ^ 32 := two_pow_le (by omega)
    have h6 : (2 : Int) ^ 32 = 4294967296 := by rfl
    have h7 := two_pow_pos n.toNat
    split <;> omega
  · omega

theorem ret_ib {a b : Int} {x y : Bool} (h : a = b) (k : x = y) : Ending.returned (.tuple #[.int .i64 a, .bool x]) = .returned (.tuple #[.int .i64 b, .bool y]) := by rw [h, k]
theorem near_in {n c : Int} (x : Int) (hv : vld n = true) (h : -1099511627776 ≤ c ∧ c ≤ 1099511627776) : c + signedS n c x = nearS n c x ∧ true = nearB n c := by
  simp [nearS, nearB, hv, h]
theorem near_out {n c : Int} (x : Int) (h : c < -1099511627776 ∨ 1099511627776 < c) : 0 = nearS n c x ∧ false = nearB n c := by
  constructor
  · unfold nearS; rw [if_neg (by omega)]
  · have : ¬ (-1099511627776 ≤ c ∧ c ≤ 1099511627776) := by omega
    simp only [nearB, Bool.and_assoc]
    have : (decide (-1099511627776 ≤ c) && decide (c ≤ 1099511627776)) = false := by
      rw [← Bool.decide_and]; simpa using this
    rw [this]; simp


/-! ### the reference of serial -/


theorem lowS_rng (n x : Int) : -1 ≤ lowS n x ∧ lowS n x < 4294967296 := by
  unfold lowS; split
  · rename_i h; obtain ⟨h1, h2⟩ := vld_yes h
    have hp := two_pow_pos n.toNat
    have := Int.emod_nonneg x (show (2 : Int) ^ n.toNat ≠ 0 by omega)
    have := Int.emod_lt_of_pos x hp
    have h5 : (2 : Int) ^ n.toNat ≤ 2 ^ 32 := two_pow_le (by omega)
    have h6 : (2 : Int) ^ 32 = 4294967296 := by rfl
    omega
  · omega

theorem low_dist (n a b : Int) (hv : vld n = true) : (lowS n b - lowS n a) % 2 ^ n.toNat = distS n a b := by
  simp only [lowS, distS, hv, if_true]
  rw [← Int.emod_emod_of_dvd _ (Int.dvd_refl _), ← Int.sub_emod]
  exact Int.emod_emod_of_dvd _ (Int.dvd_refl _)





end Go.Proofs.Ytgackcjhiplplaa
