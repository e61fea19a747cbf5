/- Several texts in one. -/
import Derived.Test.YtlnkofpcidngoaaDoorK0
import Derived.WalkKit
import Derived.ProofKit
import Derived.OpenShut
import Derived.Lib.Hide
import Derived.Test.YtlnkofpcidngoaaDoorRows
import Derived.WalkLawsBesides
import Derived.WalkSpells
namespace Go.Proofs.YtlnkofpcidngoaaDoor
namespace Crc
def stp (k p r b : Nat) : Nat := (2 * r) % 2 ^ k ^^^ (if r / 2 ^ (k - 1) % 2 = b then 0 else p)
def feed (k p : Nat) (r : Nat) (bs : List Nat) : Nat := bs.foldl (stp k p) r
def val : List Nat → Nat
 | [] => 0
 | b :: t => b * 2 ^ t.length + val t
theorem half2 {k : Nat} (hk : 1 ≤ k) : 2 * 2 ^ (k - 1) = 2 ^ k := by
 obtain ⟨j, rfl⟩ : ∃ j, k = j + 1 := ⟨k - 1, by omega⟩
 rw [Nat.add_sub_cancel, Nat.pow_succ]; omega
theorem xor_lt {k a b : Nat} (ha : a < 2 ^ k) (hb : b < 2 ^ k) : a ^^^ b < 2 ^ k := Nat.xor_lt_two_pow ha hb
theorem stp_lt {k p : Nat} (hp : p < 2 ^ k) (r b : Nat) : stp k p r b < 2 ^ k := by
 unfold stp
 refine xor_lt (Nat.mod_lt _ (Nat.two_pow_pos k)) ?_
 split
 · exact Nat.two_pow_pos k
 · exact hp
theorem feed_lt {k p : Nat} (hp : p < 2 ^ k) : ∀ (bs : List Nat) (r : Nat), r < 2 ^ k → feed k p r bs < 2 ^ k
 | [], _, h => h
 | b :: t, r, _ => feed_lt hp t _ (stp_lt hp r b)
theorem feed_append (k p r : Nat) (a b : List Nat) : feed k p r (a ++ b) = feed k p (feed k p r a) b := by simp [feed]
end Crc
end Go.Proofs.YtlnkofpcidngoaaDoor
namespace Go.Proofs.YtlnkofpcidngoaaDoor
namespace Crc
def bits8 (c : Nat) : List Nat := [c / 128 % 2, c / 64 % 2, c / 32 % 2, c / 16 % 2, c / 8 % 2, c / 4 % 2, c / 2 % 2, c % 2]
def bitsI (xs : List Int) : List Nat := xs.flatMap fun x => bits8 x.toNat
theorem bitsI_append (xs ys : List Int) : bitsI (xs ++ ys) = bitsI xs ++ bitsI ys := by simp [bitsI]
def polyV (kind : Int) : Int := if kind = 3 then 3 else if kind = 7 then 9 else if kind = 8 then 7 else if kind = 16 then 4129 else if kind = 24 then 8801531 else 0
def isKind (kind : Int) : Prop := kind = 3 ∨ kind = 7 ∨ kind = 8 ∨ kind = 16 ∨ kind = 24
instance (kind : Int) : Decidable (isKind kind) := by unfold isKind; infer_instance
theorem polyV_no {kind : Int} (h : ¬ isKind kind) : polyV kind = 0 := by
 unfold isKind at h
 unfold polyV
 rw [if_neg (by omega), if_neg (by omega), if_neg (by omega), if_neg (by omega), if_neg (by omega)]
theorem polyV_yes {kind : Int} (h : isKind kind) : polyV kind ≠ 0 := by
 rcases h with rfl | rfl | rfl | rfl | rfl <;> decide
structure Kind (k p : Nat) : Prop where
 one : 1 ≤ k
 odd : p % 2 = 1
 lt : p < 2 ^ k
theorem kind_of {kind : Int} (h : isKind kind) : Kind kind.toNat (polyV kind).toNat := by
 rcases h with rfl | rfl | rfl | rfl | rfl <;> exact ⟨by decide, by decide, by decide⟩
def regN (kind : Int) (r : Nat) (xs : List Int) : Nat := feed kind.toNat (polyV kind).toNat r (bitsI xs)
def top (kind : Int) : Nat := 2 ^ kind.toNat - 1
theorem top_lt (kind : Int) : top kind < 2 ^ kind.toNat := by unfold top; have := Nat.two_pow_pos kind.toNat; omega
end Crc
end Go.Proofs.YtlnkofpcidngoaaDoor
namespace Go.Proofs.YtlnkofpcidngoaaDoor
open Go.RowKit
theorem ret_i64 {a b : Int} (h : a = b) : Ending.returned (.int .i64 a) = .returned (.int .i64 b) := by rw [h]
theorem ret_bool {a b : Bool} (h : a = b) : Ending.returned (.bool a) = .returned (.bool b) := by rw [h]
theorem two_pow_pos (k : Nat) : (0 : Int) < 2 ^ k := Int.pow_pos (by omega)
theorem two_pow_le {j k : Nat} (h : j ≤ k) : (2 : Int) ^ j ≤ 2 ^ k := by
 have := Nat.pow_le_pow_right (show 0 < 2 by omega) h
 exact_mod_cast this
theorem two_pow_62 {k : Nat} (h : k ≤ 62) : (2 : Int) ^ k ≤ 4611686018427387904 := by
 have := two_pow_le h; simpa using this
theorem wrap_pow {k : Nat} (h : k ≤ 62) : wrap64 (2 ^ k) = 2 ^ k := by
 have h1 := two_pow_62 h; have h2 := two_pow_pos k
 generalize (2 : Int) ^ k = x at *
 unfold wrap64; omega
theorem wrap_pow1 {k : Nat} (h : k ≤ 62) : wrap64 (wrap64 (2 ^ k) - 1) = 2 ^ k - 1 := by
 rw [wrap_pow h]
 have h1 := two_pow_62 h; have h2 := two_pow_pos k
 generalize (2 : Int) ^ k = x at *
 unfold wrap64; omega
theorem ofInt_toNat (x : Int) : ((BitVec.ofInt 64 x).toNat : Int) = x % 18446744073709551616 := by
 rw [BitVec.toNat_ofInt]
 have := Int.emod_nonneg x (show (18446744073709551616 : Int) ≠ 0 by decide)
 simp
 omega
theorem and_mask (x : Int) {k : Nat} (h : k ≤ 62) : bits .and .i64 x (2 ^ k - 1) = x % 2 ^ k := by
 have h1 := two_pow_62 h; have h2 := two_pow_pos k
 show IntKind.i64.wrap (((BitVec.ofInt 64 x) &&& (BitVec.ofInt 64 (2 ^ k - 1))).toNat : Int) = _
 rw [BitVec.toNat_and]
 have e : (BitVec.ofInt 64 ((2 : Int) ^ k - 1)).toNat = 2 ^ k - 1 := by
   have := ofInt_toNat ((2 : Int) ^ k - 1)
   rw [Int.emod_eq_of_lt (by omega) (by omega)] at this
   have h3 : ((2 ^ k - 1 : Nat) : Int) = (2 : Int) ^ k - 1 := by
     have : 1 ≤ 2 ^ k := Nat.one_le_two_pow
     rw [Int.ofNat_sub this]; push_cast; rfl
   omega
 rw [e, Nat.and_two_pow_sub_one_eq_mod]
 have h4 : (((BitVec.ofInt 64 x).toNat % 2 ^ k : Nat) : Int) = x % 2 ^ k := by
   rw [Int.natCast_emod, ofInt_toNat]
   have hd : ((2 ^ k : Nat) : Int) ∣ 18446744073709551616 := by
     refine ⟨((2 ^ (64 - k) : Nat) : Int), ?_⟩
     have : 18446744073709551616 = 2 ^ k * 2 ^ (64 - k) := by
       rw [← Nat.pow_add, show k + (64 - k) = 64 from by omega]
     rw [← Int.natCast_mul, ← this]; rfl
   rw [Int.emod_emod_of_dvd _ hd, show ((2 ^ k : Nat) : Int) = 2 ^ k from by push_cast; rfl]
 rw [h4]
 have h5 := Int.emod_nonneg x (show (2 : Int) ^ k ≠ 0 by omega)
 have h6 := Int.emod_lt_of_pos x h2
 exact IntWalk.i64_in _ ⟨by omega, by omega⟩
theorem nn_toNat {x : Int} (h0 : 0 ≤ x) (h1 : x < 9223372036854775808) : (BitVec.ofInt 64 x).toNat = x.toNat := by
 have := ofInt_toNat x
 rw [Int.emod_eq_of_lt h0 (by omega)] at this; omega
theorem xor_nn {x y : Int} (hx : 0 ≤ x) (hx1 : x < 9223372036854775808) (hy : 0 ≤ y) (hy1 : y < 9223372036854775808) : bits .xor .i64 x y = ((x.toNat ^^^ y.toNat : Nat) : Int) := by
 show IntKind.i64.wrap (((BitVec.ofInt 64 x) ^^^ (BitVec.ofInt 64 y)).toNat : Int) = _
 rw [BitVec.toNat_xor, nn_toNat hx hx1, nn_toNat hy hy1]
 have : x.toNat ^^^ y.toNat < 2 ^ 63 := Nat.xor_lt_two_pow (by omega) (by omega)
 exact IntWalk.i64_in _ ⟨by omega, by omega⟩
end Go.Proofs.YtlnkofpcidngoaaDoor
namespace Go.Proofs.YtlnkofpcidngoaaDoor
open Go.ChangeShapes Go.WideShapes Go.ChangeAt Go.RowKit
def modF (n m : Int) : Int := if m < 1 then 0 else n % m
theorem modF_lo (n m : Int) : 0 ≤ modF n m := by
 unfold modF; split
 · omega
 · exact Int.emod_nonneg _ (by omega)
theorem modF_hi (n m : Int) (h : 1 ≤ m) : modF n m < m := by
 unfold modF; rw [if_neg (by omega)]
 exact Int.emod_lt_of_pos _ (by omega)
theorem tmod_cases (n m : Int) (h : 1 ≤ m) : (n.tmod m < 0 → n % m = n.tmod m + m) ∧ (0 ≤ n.tmod m → n % m = n.tmod m) ∧ -m < n.tmod m ∧ n.tmod m < m := by
 have e := Int.tmod_eq_emod (a := n) (b := m)
 have h1 := Int.emod_nonneg n (show m ≠ 0 by omega)
 have h2 := Int.emod_lt_of_pos n (show 0 < m by omega)
 split at e
 · rw [e]; refine ⟨fun h => ?_, fun h => ?_, ?_, ?_⟩ <;> omega
 · rename_i hd
   have : n % m ≠ 0 := fun h0 => hd (.inr (Int.dvd_of_emod_eq_zero h0))
   rw [e]; refine ⟨fun h => ?_, fun h => ?_, ?_, ?_⟩ <;> omega
set_option maxRecDepth 20000 in
set_option maxHeartbeats 2000000 in
theorem mod_any (n m : Int) (w : World) (hm : m ≤ 9223372036854775807) :
   Calls Tryd.prog 19 #[.int .i64 n, .int .i64 m] w fun e w' => e = .returned (.int .i64 (modF n m)) ∧ w = w' := by
 by_cases h : m < 1
 · go_enter Tryd.func19, Tryd.ntmps19
   go_wp2
   go_ret
   exact ⟨ret_i64 (by unfold modF; rw [if_pos h]), rfl⟩
 · have hc := tmod_cases n m (by omega)
   obtain ⟨h1, h2, h3, h4⟩ := hc
   have H1 := zqd h1
   have H2 := zqd h2
   clear h1 h2
   go_enter Tryd.func19, Tryd.ntmps19
   go_wp2
   · go_ret
     exact ⟨ret_i64 (by unfold modF; rw [if_neg (by omega), H1.out (by assumption)]), rfl⟩
   · go_ret
     exact ⟨ret_i64 (by unfold modF; rw [if_neg (by omega), H2.out (by assumption)]), rfl⟩
abbrev i64 (n : Int) : Prop := -9223372036854775808 ≤ n ∧ n ≤ 9223372036854775807
def vld (n : Int) : Bool := decide (1 ≤ n ∧ n ≤ 32)
def lowS (n x : Int) : Int := if vld n then x % 2 ^ n.toNat else -1
def distS (n a b : Int) : Int := if vld n then (b - a) % 2 ^ n.toNat else -1
def signedS (n a b : Int) : Int := if vld n then (if 2 ^ (n.toNat - 1) ≤ distS n a b then distS n a b - 2 ^ n.toNat else distS n a b) else 0
theorem vld_yes {n : Int} (h : vld n = true) : 1 ≤ n ∧ n ≤ 32 := by simpa [vld] using h
theorem vld_mk {n : Int} (h1 : 1 ≤ n) (h2 : n ≤ 32) : vld n = true := by simp [vld, h1, h2]
set_option maxRecDepth 20000 in
set_option maxHeartbeats 2000000 in
theorem svalid (n : Int) (w : World) :
   Calls Tryd.prog 104 #[.int .i64 n] w fun e w' => e = .returned (.bool (vld n)) ∧ w = w' := by
 go_enter Tryd.func104, Tryd.ntmps104
 go_wp2
 · go_ret
   exact ⟨ret_bool (by have : 1 ≤ n := by assumption
                       simp [vld, this]), rfl⟩
 · go_ret
   exact ⟨ret_bool (by have : n < 1 := by assumption
                       simp [vld]; omega), rfl⟩
set_option maxRecDepth 20000 in
set_option maxHeartbeats 2000000 in
theorem slow (n x : Int) (w : World) :
   Calls Tryd.prog 99 #[.int .i64 n, .int .i64 x] w fun e w' => e = .returned (.int .i64 (lowS n x)) ∧ w = w' := by
 cases hv : vld n
 · have H := zqd hv
   go_enter Tryd.func99, Tryd.ntmps99
   go_wp2_with ((go_at_call 104; refine (svalid _ _).mono ?_; rintro e w' ⟨rfl, rfl⟩))
   go_ret
   exact ⟨ret_i64 (by simp [lowS, H.out]), rfl⟩
 · have H := zqd hv
   obtain ⟨h1, h2⟩ := vld_yes hv
   go_enter Tryd.func99, Tryd.ntmps99
   go_wp2_with ((go_at_call 104; refine (svalid _ _).mono ?_; rintro e w' ⟨rfl, rfl⟩))
   go_ret
   exact ⟨ret_i64 (by rw [wrap_pow1 (by omega), and_mask _ (by omega)]; simp [lowS, H.out]), rfl⟩
theorem dist_rng (n a b : Int) (h1 : 1 ≤ n) (h2 : n ≤ 32) : 0 ≤ distS n a b ∧ distS n a b < 2 ^ n.toNat := by
 have hp := two_pow_pos n.toNat
 unfold distS; rw [if_pos (vld_mk h1 h2)]
 exact ⟨Int.emod_nonneg _ (by omega), Int.emod_lt_of_pos _ hp⟩
theorem wrap_dist (n a b : Int) (h1 : 1 ≤ n) (h2 : n ≤ 32) : wrap64 (distS n a b - wrap64 (2 ^ n.toNat)) = distS n a b - 2 ^ n.toNat := by
 obtain ⟨h3, h4⟩ := dist_rng n a b h1 h2
 have h5 := two_pow_62 (show n.toNat ≤ 62 by omega)
 rw [wrap_pow (by omega)]
 generalize (2 : Int) ^ n.toNat = p at *
 unfold wrap64; omega
theorem signed_rng (n a b : Int) : -4294967296 ≤ signedS n a b ∧ signedS n a b ≤ 4294967296 := by
 unfold signedS
 split
 · rename_i hv
   obtain ⟨h1, h2⟩ := vld_yes hv
   obtain ⟨h3, h4⟩ := dist_rng n a b h1 h2
   have h5 : (2 : Int) ^ n.toNat ≤ 2 ^ 32 := two_pow_le (by omega)
   have h6 : (2 : Int) ^ 32 = 4294967296 := by rfl
   have h7 := two_pow_pos n.toNat
   split <;> omega
 · omega
set_option maxRecDepth 20000 in
set_option maxHeartbeats 2000000 in
theorem rvalid (n : Int) (w : World) :
   Calls Tryd.prog 58 #[.int .i64 n] w fun e w' => e = .returned (.bool (vld n)) ∧ w = w' := by
 go_enter Tryd.func58, Tryd.ntmps58
 go_wp2
 · go_ret
   exact ⟨ret_bool (by have : 1 ≤ n := by assumption
                       simp [vld, this]), rfl⟩
 · go_ret
   exact ⟨ret_bool (by have : n < 1 := by assumption
                       simp [vld]; omega), rfl⟩
set_option maxRecDepth 20000 in
set_option maxHeartbeats 2000000 in
theorem rlow (n x : Int) (w : World) :
   Calls Tryd.prog 43 #[.int .i64 n, .int .i64 x] w fun e w' => e = .returned (.int .i64 (lowS n x)) ∧ w = w' := by
 cases hv : vld n
 · have H := zqd hv
   go_enter Tryd.func43, Tryd.ntmps43
   go_wp2_with ((go_at_call 58; refine (rvalid _ _).mono ?_; rintro e w' ⟨rfl, rfl⟩))
   go_ret
   exact ⟨ret_i64 (by simp [lowS, H.out]), rfl⟩
 · have H := zqd hv
   obtain ⟨h1, h2⟩ := vld_yes hv
   go_enter Tryd.func43, Tryd.ntmps43
   go_wp2_with ((go_at_call 58; refine (rvalid _ _).mono ?_; rintro e w' ⟨rfl, rfl⟩))
   go_ret
   exact ⟨ret_i64 (by rw [wrap_pow1 (by omega), and_mask _ (by omega)]; simp [lowS, H.out]), rfl⟩
theorem lowS_rng (n x : Int) : -1 ≤ lowS n x ∧ lowS n x < 4294967296 := by
 unfold lowS; split
 · rename_i h; obtain ⟨h1, h2⟩ := vld_yes h
   have hp := two_pow_pos n.toNat
   have := Int.emod_nonneg x (show (2 : Int) ^ n.toNat ≠ 0 by omega)
   have := Int.emod_lt_of_pos x hp
   have h5 : (2 : Int) ^ n.toNat ≤ 2 ^ 32 := two_pow_le (by omega)
   have h6 : (2 : Int) ^ 32 = 4294967296 := by rfl
   omega
 · omega
theorem low_dist (n a b : Int) (hv : vld n = true) : (lowS n b - lowS n a) % 2 ^ n.toNat = distS n a b := by
 simp only [lowS, distS, hv, if_true]
 rw [← Int.emod_emod_of_dvd _ (Int.dvd_refl _), ← Int.sub_emod]
 exact Int.emod_emod_of_dvd _ (Int.dvd_refl _)
set_option maxRecDepth 20000 in
set_option maxHeartbeats 2000000 in
theorem rdist (n a b : Int) (w : World) :
   Calls Tryd.prog 59 #[.int .i64 n, .int .i64 a, .int .i64 b] w fun e w' => e = .returned (.int .i64 (distS n a b)) ∧ w = w' := by
 have hr1 := lowS_rng n a
 have hr2 := lowS_rng n b
 cases hv : vld n
 · have H := zqd hv
   go_enter Tryd.func59, Tryd.ntmps59
   go_wp2_with (first | ((go_at_call 58; refine (rvalid _ _).mono ?_; rintro e w' ⟨rfl, rfl⟩)) | ((go_at_call 43; refine (rlow _ _ _).mono ?_; rintro e w' ⟨rfl, rfl⟩)))
   go_ret
   exact ⟨ret_i64 (by simp [distS, H.out]), rfl⟩
 · have H := zqd hv
   obtain ⟨h1, h2⟩ := vld_yes hv
   go_enter Tryd.func59, Tryd.ntmps59
   go_wp2_with (first | ((go_at_call 58; refine (rvalid _ _).mono ?_; rintro e w' ⟨rfl, rfl⟩)) | ((go_at_call 43; refine (rlow _ _ _).mono ?_; rintro e w' ⟨rfl, rfl⟩)))
   go_ret
   exact ⟨ret_i64 (by rw [wrap_pow1 (by omega), and_mask _ (by omega), low_dist n a b H.out]), rfl⟩
set_option maxRecDepth 20000 in
set_option maxHeartbeats 2000000 in
theorem rsigned (n a b : Int) (w : World) :
   Calls Tryd.prog 36 #[.int .i64 n, .int .i64 a, .int .i64 b] w fun e w' => e = .returned (.int .i64 (signedS n a b)) ∧ w = w' := by
 cases hv : vld n
 · have H := zqd hv
   go_enter Tryd.func36, Tryd.ntmps36
   go_wp2_with (first | ((go_at_call 58; refine (rvalid _ _).mono ?_; rintro e w' ⟨rfl, rfl⟩)) | ((go_at_call 59; refine (rdist _ _ _ _).mono ?_; rintro e w' ⟨rfl, rfl⟩)))
   go_ret
   exact ⟨ret_i64 (by simp [signedS, H.out]), rfl⟩
 · have H := zqd hv
   obtain ⟨h1, h2⟩ := vld_yes hv
   have hw := wrap_pow (show n.toNat - 1 ≤ 62 by omega)
   go_enter Tryd.func36, Tryd.ntmps36
   go_wp2_with (first | ((go_at_call 58; refine (rvalid _ _).mono ?_; rintro e w' ⟨rfl, rfl⟩)) | ((go_at_call 59; refine (rdist _ _ _ _).mono ?_; rintro e w' ⟨rfl, rfl⟩)))
   · go_ret
     have h3 : 2 ^ (n.toNat - 1) ≤ distS n a b := by assumption
     exact ⟨ret_i64 (by rw [wrap_dist n a b h1 h2]; simp [signedS, H.out, h3]), rfl⟩
   · go_ret
     have h3 : distS n a b < 2 ^ (n.toNat - 1) := by assumption
     exact ⟨ret_i64 (by simp [signedS, H.out, Int.not_le.2 h3]), rfl⟩
end Go.Proofs.YtlnkofpcidngoaaDoor
