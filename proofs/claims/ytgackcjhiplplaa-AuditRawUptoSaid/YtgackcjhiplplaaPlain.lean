/- Plain arithmetic of Go's int: masks, shifts and wraps. No program in sight. -/
import Derived.WalkKit
import Derived.ProofKit
import Derived.OpenShut
import Derived.Lib.Hide
namespace Go.Proofs.Ytgackcjhiplplaa
open Go.RowKit

theorem ret_i64 {a b : Int} (h : a = b) : Ending.returned (.int .i64 a) = .returned (.int .i64 b) := by rw [h]
theorem ret_bool {a b : Bool} (h : a = b) : Ending.returned (.bool a) = .returned (.bool b) := by rw [h]

theorem two_pow_pos (k : Nat) : (0 : Int) < 2 ^ k := Int.pow_pos (by omega)
theorem two_pow_le {j k : Nat} (h : j ≤ k) : (2 : Int) ^ j ≤ 2 ^ k := by
  have := Nat.pow_le_pow_right (show 0 < 2 by omega) h
  exact_mod_cast this
theorem two_pow_lt {j k : Nat} (h : j < k) : (2 : Int) ^ j < 2 ^ k := by
  have := Nat.pow_lt_pow_right (show 1 < 2 by omega) h
  exact_mod_cast this
theorem two_pow_62 {k : Nat} (h : k ≤ 62) : (2 : Int) ^ k ≤ 4611686018427387904 := by
  have := two_pow_le h; simpa using this
theorem wrap_pow {k : Nat} (h : k ≤ 62) : wrap64 (2 ^ k) = 2 ^ k := by
  have h1 := two_pow_62 h; have h2 := two_pow_pos k
  generalize (2 : Int) ^ k = x at *
  unfold wrap64; omega
theorem wrap_pow1 {k : Nat} (h : k ≤ 62) : wrap64 (wrap64 (2 ^ k) - 1) = 2 ^ k - 1 := by
  rw [wrap_pow h]
  have h1 := two_pow_62 h; have h2 := two_pow_pos k
  generalize (2 : Int) ^ k = x at *
  unfold wrap64; omega

theorem ofInt_toNat (x : Int) : ((BitVec.ofInt 64 x).toNat : Int) = x % 18446744073709551616 := by
  rw [BitVec.toNat_ofInt]
  have := Int.emod_nonneg x (show (18446744073709551616 : Int) ≠ 0 by decide)
  simp
  omega

theorem and_mask (x : Int) {k : Nat} (h : k ≤ 62) : bits .and .i64 x (2 ^ k - 1) = x % 2 ^ k := by
  have h1 := two_pow_62 h; have h2 := two_pow_pos k
  show IntKind.i64.wrap (((BitVec.ofInt 64 x) &&& (BitVec.ofInt 64 (2 ^ k - 1))).toNat : Int) = _
  rw [BitVec.toNat_and]
  have e : (BitVec.ofInt 64 ((2 : Int) ^ k - 1)).toNat = 2 ^ k - 1 := by
    have := ofInt_toNat ((2 : Int) ^ k - 1)
    rw [Int.emod_eq_of_lt (by omega) (by omega)] at this
    have h3 : ((2 ^ k - 1 : Nat) : Int) = (2 : Int) ^ k - 1 := by
      have : 1 ≤ 2 ^ k := Nat.one_le_two_pow
      rw [Int.ofNat_sub this]; push_cast; rfl
    omega
  rw [e, Nat.and_two_pow_sub_one_eq_mod]
  have h4 : (((BitVec.ofInt 64 x).toNat % 2 ^ k : Nat) : Int) = x % 2 ^ k := by
    rw [Int.natCast_emod, ofInt_toNat]
    have hd : ((2 ^ k : Nat) : Int) ∣ 18446744073709551616 := by
      refine ⟨((2 ^ (64 - k) : Nat) : Int), ?_⟩
      have : 18446744073709551616 = 2 ^ k * 2 ^ (64 - k) := by
        rw [← Nat.pow_add, show k + (64 - k) = 64 from by omega]
      rw [← Int.natCast_mul, ← this]; rfl
    rw [Int.emod_emod_of_dvd _ hd, show ((2 ^ k : Nat) : Int) = 2 ^ k from by push_cast; rfl]
  rw [h4]
  have h5 := Int.emod_nonneg x (show (2 : Int) ^ k ≠ 0 by omega)
  have h6 := Int.emod_lt_of_pos x h2
  exact IntWalk.i64_in _ ⟨by omega, by omega⟩

theorem nn_toNat {x : Int} (h0 : 0 ≤ x) (h1 : x < 9223372036854775808) : (BitVec.ofInt 64 x).toNat = x.toNat := by
  have := ofInt_toNat x
  rw [Int.emod_eq_of_lt h0 (by omega)] at this; omega

theorem and_nn {x y : Int} (hx : 0 ≤ x) (hx1 : x < 9223372036854775808) (hy : 0 ≤ y) (hy1 : y < 9223372036854775808) : bits .and .i64 x y = ((x.toNat &&& y.toNat : Nat) : Int) := by
  show IntKind.i64.wrap (((BitVec.ofInt 64 x) &&& (BitVec.ofInt 64 y)).toNat : Int) = _
  rw [BitVec.toNat_and, nn_toNat hx hx1, nn_toNat hy hy1]
  have : x.toNat &&& y.toNat ≤ x.toNat := Nat.and_le_left
  exact IntWalk.i64_in _ ⟨by omega, by omega⟩

theorem or_nn {x y : Int} (hx : 0 ≤ x) (hx1 : x < 9223372036854775808) (hy : 0 ≤ y) (hy1 : y < 9223372036854775808) : bits .or .i64 x y = ((x.toNat ||| y.toNat : Nat) : Int) := by
  show IntKind.i64.wrap (((BitVec.ofInt 64 x) ||| (BitVec.ofInt 64 y)).toNat : Int) = _
  rw [BitVec.toNat_or, nn_toNat hx hx1, nn_toNat hy hy1]
  have : x.toNat ||| y.toNat < 2 ^ 63 := Nat.or_lt_two_pow (by omega) (by omega)
  exact IntWalk.i64_in _ ⟨by omega, by omega⟩

theorem xor_nn {x y : Int} (hx : 0 ≤ x) (hx1 : x < 9223372036854775808) (hy : 0 ≤ y) (hy1 : y < 9223372036854775808) : bits .xor .i64 x y = ((x.toNat ^^^ y.toNat : Nat) : Int) := by
  show IntKind.i64.wrap (((BitVec.ofInt 64 x) ^^^ (BitVec.ofInt 64 y)).toNat : Int) = _
  rw [BitVec.toNat_xor, nn_toNat hx hx1, nn_toNat hy hy1]
  have : x.toNat ^^^ y.toNat < 2 ^ 63 := Nat.xor_lt_two_pow (by omega) (by omega)
  exact IntWalk.i64_in _ ⟨by omega, by omega⟩
end Go.Proofs.Ytgackcjhiplplaa
