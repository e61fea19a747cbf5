/- Several texts in one. -/
import Derived.Test.YtlnkofpcidngoaaDoorM1
import Derived.WalkKit
import Derived.ProofKit
import Derived.OpenShut
import Derived.Lib.Hide
import Derived.Test.YtlnkofpcidngoaaDoorRows
import Derived.WalkLawsBesides
import Derived.WalkSpells
import Derived.Deep.Cut
/- ref01.Put: appends a number in some bytes. -/
namespace Go.Proofs.YtlnkofpcidngoaaDoor
open Go.ChangeShapes Go.WideShapes Go.ChangeAt Go.RowKit

def putR (x : Int) : Nat → List Int
  | 0 => []
  | r + 1 => x / 2 ^ (8 * r) % 256 :: putR x r
/-- What a function that appends integers to its first argument hands back. -/
def AppPost (B : Nat) (e : TypeId) (k : IntKind) (w : World) (a : Option Addr) (n cap : Nat) (m : Nat) (zs : List Int) (en : Ending) (w' : World) : Prop :=
  ∃ a' cap' n', n' = n + m ∧ en = .returned (.slice a' n' cap') ∧ OwnI B e k w' a' n' cap' zs ∧ w.grownBy w' (Value.slice a n cap).ownBlock ∧ Follows w (.slice a n cap) (.slice a' n' cap')

set_option maxRecDepth 20000 in
set_option maxHeartbeats 2000000 in
theorem put_any (B : Nat) (a : Option Addr) (n cap : Nat) (xs : List Int) (K : Int) (k : Nat) (x : Int) (w : World) (hK : K = k) (hown : OwnI B 5 .u8 w a n cap xs) (hn : n ≤ 140737488355000) (hk : k ≤ 7) (hB : B ≤ w.heap.size) :
    Calls Tryd.prog 51 #[.slice a n cap, .int .i64 K, .int .i64 x] w (AppPost B 5 .u8 w a n cap k (xs ++ putR x k)) := by
  subst hK
  go_enter Tryd.func51, Tryd.ntmps51
  go_wp2_with fail
  go_loopw [0, 7] (fun s i wr => ∃ (a' : Option Addr) (n' cap' r : Nat) (ys : List Int), r ≤ k ∧ n' + r = n + k ∧ s = .slice a' n' cap' ∧ i = .int .i64 ((r : Int) - 1) ∧ OwnI B 5 .u8 wr a' n' cap' ys ∧ ys ++ putR x r = xs ++ putR x k ∧ w.grownBy wr (Value.slice a n cap).ownBlock ∧ Follows w (.slice a n cap) (.slice a' n' cap')) (fun _ i _ => (intOf i + 1).toNat)
  case atStart => exact ⟨a, n, cap, k, xs, by omega, rfl, rfl, rfl, hown, rfl, grownBy_refl _ _, Follows.refl _ _⟩
  case round =>
    obtain ⟨a', n', cap', r, ys, hr, hnr, rfl, rfl, hown', hys, hg, hf⟩ := hrel
    have HY := Lib.hid hys
    have HN := Lib.hid hnr
    have hn' : n' ≤ 140737488355010 := by omega
    clear hys hnr hown
    by_cases h : 1 ≤ r
    · obtain ⟨q, rfl⟩ : ∃ q, r = q + 1 := ⟨r - 1, by omega⟩
      have hq : ((q + 1 : Nat) : Int) - 1 = (q : Int) := by omega
      rw [hq]
      have hrd := rd_new (k := .u8) (w := wr) [x / 2 ^ (8 * q) % 256] 5 (0, 0) 1 rfl (by simp [maxLen]) (by intro y hy; simp at hy; subst hy; exact WalkArith.wf_u8 (by omega))
      obtain ⟨a2, c2, w2, hrun, ho2, hg2, hf2⟩ := app_u8 B (wr.alloc (.cells ([x / 2 ^ (8 * q) % 256].map (Value.int .u8)).toArray 5)) a' n' cap' ys (hown'.stay (World.grownBy_alloc _ _ _)) (some ⟨wr.heap.size, 0, none⟩) 1 1 _ hrd (by omega) (by have := hg.size; simp; omega)
      simp only [List.map_cons, List.map_nil] at hrun hg2 hf2
      have HR := Lib.hid hrun
      have ho2' := ho2
      have hB2 := hg.size
      clear hrun hrd
      go_wp2_with (at_builtin; refine wpList_app rfl _ _ _ rfl rfl rfl HR.out ?_)
      have hrg := round_grown hg hf hg2 hf2
      exact ⟨⟨a2, n' + 1, c2, q, _, by omega, by have := HN.out; omega, rfl, rfl, ho2, by rw [← HY.out]; simp [putR], hrg.1, hrg.2⟩, by simp [intOf]⟩
    · obtain rfl : r = 0 := by omega
      go_wp2
      go_ret
      exact ⟨a', cap', n', by have := HN.out; omega, rfl, by have := HY.out; simp [putR] at this; rw [← this]; exact hown', hg, hf⟩
end Go.Proofs.YtlnkofpcidngoaaDoor
/- Check values over bits: the plain theory (linear, one to one without input, a word fed in is a word added). No program in sight. -/
namespace Go.Proofs.YtlnkofpcidngoaaDoor
namespace Crc

/-- One bit b goes into register r of k bits. -/
def stp (k p r b : Nat) : Nat := (2 * r) % 2 ^ k ^^^ (if r / 2 ^ (k - 1) % 2 = b then 0 else p)
def feed (k p : Nat) (r : Nat) (bs : List Nat) : Nat := bs.foldl (stp k p) r
/-- The number that bits say, the first one the greatest. -/
def val : List Nat → Nat
  | [] => 0
  | b :: t => b * 2 ^ t.length + val t
def isBits (bs : List Nat) : Prop := ∀ b ∈ bs, b < 2

theorem half2 {k : Nat} (hk : 1 ≤ k) : 2 * 2 ^ (k - 1) = 2 ^ k := by
  obtain ⟨j, rfl⟩ : ∃ j, k = j + 1 := ⟨k - 1, by omega⟩
  rw [Nat.add_sub_cancel, Nat.pow_succ]; omega
theorem xor_lt {k a b : Nat} (ha : a < 2 ^ k) (hb : b < 2 ^ k) : a ^^^ b < 2 ^ k := Nat.xor_lt_two_pow ha hb
theorem stp_lt {k p : Nat} (hp : p < 2 ^ k) (r b : Nat) : stp k p r b < 2 ^ k := by
  unfold stp
  refine xor_lt (Nat.mod_lt _ (Nat.two_pow_pos k)) ?_
  split
  · exact Nat.two_pow_pos k
  · exact hp
theorem top_test (k r : Nat) : r / 2 ^ (k - 1) % 2 = (r.testBit (k - 1)).toNat := by
  rw [Nat.testBit_eq_decide_div_mod_eq]
  have := Nat.mod_two_eq_zero_or_one (r / 2 ^ (k - 1))
  rcases this with h | h <;> simp [h]
theorem bit_of {b : Nat} (h : b < 2) : b = 0 ∨ b = 1 := by omega
theorem stp_eq {k p r b : Nat} (hb : b < 2) : stp k p r b = (2 * r) % 2 ^ k ^^^ (if (r.testBit (k - 1) ^^ decide (b = 1)) then p else 0) := by
  unfold stp
  rw [top_test]
  rcases bit_of hb with rfl | rfl <;> cases r.testBit (k - 1) <;> simp
theorem xor_ite (p : Nat) (x y : Bool) : (if x ^^ y then p else 0) = (if x then p else 0) ^^^ (if y then p else 0) := by
  cases x <;> cases y <;> simp
theorem dbl_xor (k a b : Nat) : (2 * (a ^^^ b)) % 2 ^ k = (2 * a) % 2 ^ k ^^^ (2 * b) % 2 ^ k := by
  apply Nat.eq_of_testBit_eq
  intro i
  rw [Nat.testBit_xor, Nat.testBit_mod_two_pow, Nat.testBit_mod_two_pow, Nat.testBit_mod_two_pow]
  have h : ∀ x, (2 * x).testBit i = (decide (1 ≤ i) && x.testBit (i - 1)) := by
    intro x
    cases i with
    | zero => simp
    | succ i => rw [Nat.testBit_succ]; simp
  rw [h, h, h, Nat.testBit_xor]
  cases decide (i < k) <;> cases decide (1 ≤ i) <;> simp
theorem stp_lin {k p r s b c : Nat} (hb : b < 2) (hc : c < 2) : stp k p (r ^^^ s) (b ^^^ c) = stp k p r b ^^^ stp k p s c := by
  have hbc : b ^^^ c < 2 := xor_lt (k := 1) hb hc
  rw [stp_eq hbc, stp_eq hb, stp_eq hc, dbl_xor, Nat.testBit_xor]
  have e : decide ((b ^^^ c) = 1) = (decide (b = 1) ^^ decide (c = 1)) := by
    rcases bit_of hb with rfl | rfl <;> rcases bit_of hc with rfl | rfl <;> rfl
  rw [e]
  have e2 : (r.testBit (k - 1) ^^ s.testBit (k - 1) ^^ (decide (b = 1) ^^ decide (c = 1))) = ((r.testBit (k - 1) ^^ decide (b = 1)) ^^ (s.testBit (k - 1) ^^ decide (c = 1))) := by
    cases r.testBit (k - 1) <;> cases s.testBit (k - 1) <;> cases decide (b = 1) <;> cases decide (c = 1) <;> rfl
  rw [e2, xor_ite]
  rw [Nat.xor_assoc, Nat.xor_assoc]
  congr 1
  rw [← Nat.xor_assoc, Nat.xor_comm ((2 * s) % 2 ^ k), Nat.xor_assoc]
theorem feed_lt {k p : Nat} (hp : p < 2 ^ k) : ∀ (bs : List Nat) (r : Nat), r < 2 ^ k → feed k p r bs < 2 ^ k
  | [], _, h => h
  | b :: t, r, _ => feed_lt hp t _ (stp_lt hp r b)
theorem feed_append (k p r : Nat) (a b : List Nat) : feed k p r (a ++ b) = feed k p (feed k p r a) b := by simp [feed]
theorem feed_lin (k p : Nat) : ∀ (bs cs : List Nat) (r s : Nat), bs.length = cs.length → isBits bs → isBits cs →
    feed k p (r ^^^ s) (List.zipWith (· ^^^ ·) bs cs) = feed k p r bs ^^^ feed k p s cs
  | [], [], _, _, _, _, _ => rfl
  | b :: bt, c :: ct, r, s, hl, hb, hc => by
    show feed k p (stp k p (r ^^^ s) (b ^^^ c)) (List.zipWith (· ^^^ ·) bt ct) = feed k p (stp k p r b) bt ^^^ feed k p (stp k p s c) ct
    rw [stp_lin (hb b (by simp)) (hc c (by simp))]
    exact feed_lin k p bt ct _ _ (by simpa using hl) (fun x hx => hb x (by simp [hx])) (fun x hx => hc x (by simp [hx]))

/-- Without input nothing but 0 leads to 0, if the polynomial has its last term. -/
theorem stp_zero {k p r : Nat} (hk : 1 ≤ k) (hp : p % 2 = 1) (hr : r < 2 ^ k) (h : stp k p r 0 = 0) : r = 0 := by
  rw [stp_eq (by omega)] at h
  simp only [Nat.zero_ne_one, decide_false, Bool.xor_false] at h
  have h0 := congrArg (fun x => Nat.testBit x 0) h
  simp only [Nat.testBit_xor, Nat.zero_testBit, Nat.testBit_mod_two_pow] at h0
  have e1 : (2 * r).testBit 0 = false := by simp
  rw [e1, Bool.and_false, Bool.false_xor] at h0
  cases ht : r.testBit (k - 1)
  · rw [ht] at h
    simp only [Bool.false_eq_true, if_false, Nat.xor_zero] at h
    have hlt : r < 2 ^ (k - 1) := by
      rcases Nat.lt_or_ge r (2 ^ (k - 1)) with h2 | h2
      · exact h2
      · exfalso
        have h3 : r / 2 ^ (k - 1) = 1 := by
          have := half2 hk
          exact Nat.div_eq_of_lt_le (by omega) (by omega)
        rw [Nat.testBit_eq_decide_div_mod_eq, h3] at ht
        simp at ht
    have : 2 * r < 2 ^ k := by
      have := half2 hk
      omega
    rw [Nat.mod_eq_of_lt this] at h
    omega
  · rw [ht] at h0
    simp [Nat.testBit_zero, hp] at h0
theorem feed_zeros {k p : Nat} (hk : 1 ≤ k) (hp : p % 2 = 1) (hpk : p < 2 ^ k) : ∀ (n r : Nat), r < 2 ^ k → feed k p r (List.replicate n 0) = 0 → r = 0
  | 0, _, _, h => h
  | n + 1, r, hr, h => by
    rw [List.replicate_succ] at h
    exact stp_zero hk hp hr (feed_zeros hk hp hpk n _ (stp_lt hpk r 0) h)
end Crc
end Go.Proofs.YtlnkofpcidngoaaDoor
/- Layer 03 (check): bits of bytes, the registers behind them, and what the laws say of them (plain). -/
namespace Go.Proofs.YtlnkofpcidngoaaDoor
namespace Crc

def bits8 (c : Nat) : List Nat := [c / 128 % 2, c / 64 % 2, c / 32 % 2, c / 16 % 2, c / 8 % 2, c / 4 % 2, c / 2 % 2, c % 2]
def bitsI (xs : List Int) : List Nat := xs.flatMap fun x => bits8 x.toNat
theorem bitsI_cons (x : Int) (xs : List Int) : bitsI (x :: xs) = bits8 x.toNat ++ bitsI xs := rfl
theorem bitsI_append (xs ys : List Int) : bitsI (xs ++ ys) = bitsI xs ++ bitsI ys := by simp [bitsI]
theorem bits8_bits (c : Nat) : isBits (bits8 c) := by
  intro b hb
  simp only [bits8, List.mem_cons, List.not_mem_nil, or_false] at hb
  omega
/-- The polynomial of a width; 0 if there is none. -/
def polyV (kind : Int) : Int := if kind = 3 then 3 else if kind = 7 then 9 else if kind = 8 then 7 else if kind = 16 then 4129 else if kind = 24 then 8801531 else 0
def isKind (kind : Int) : Prop := kind = 3 ∨ kind = 7 ∨ kind = 8 ∨ kind = 16 ∨ kind = 24
instance (kind : Int) : Decidable (isKind kind) := by unfold isKind; infer_instance
theorem polyV_no {kind : Int} (h : ¬ isKind kind) : polyV kind = 0 := by
  unfold isKind at h
  unfold polyV
  rw [if_neg (by omega), if_neg (by omega), if_neg (by omega), if_neg (by omega), if_neg (by omega)]
theorem polyV_yes {kind : Int} (h : isKind kind) : polyV kind ≠ 0 := by
  rcases h with rfl | rfl | rfl | rfl | rfl <;> decide
structure Kind (k p : Nat) : Prop where
  one : 1 ≤ k
  odd : p % 2 = 1
  lt : p < 2 ^ k
theorem kind_of {kind : Int} (h : isKind kind) : Kind kind.toNat (polyV kind).toNat := by
  rcases h with rfl | rfl | rfl | rfl | rfl <;> exact ⟨by decide, by decide, by decide⟩
/-- The register behind bytes. -/
def regN (kind : Int) (r : Nat) (xs : List Int) : Nat := feed kind.toNat (polyV kind).toNat r (bitsI xs)
def top (kind : Int) : Nat := 2 ^ kind.toNat - 1
theorem top_lt (kind : Int) : top kind < 2 ^ kind.toNat := by unfold top; have := Nat.two_pow_pos kind.toNat; omega
theorem bit_xor (a b d : Nat) (hd : ∃ i, d = 2 ^ i) : (a ^^^ b) / d % 2 = (a / d % 2) ^^^ (b / d % 2) := by
  obtain ⟨i, rfl⟩ := hd
  have h : ∀ n : Nat, n / 2 ^ i % 2 = (n.testBit i).toNat := by
    intro n
    rw [Nat.testBit_eq_decide_div_mod_eq]
    have := Nat.mod_two_eq_zero_or_one (n / 2 ^ i)
    rcases this with h | h <;> simp [h]
  rw [h, h, h, Nat.testBit_xor]
  cases a.testBit i <;> cases b.testBit i <;> rfl
theorem bits8_xor (a b : Nat) : bits8 (a ^^^ b) = List.zipWith (· ^^^ ·) (bits8 a) (bits8 b) := by
  have h1 : (a ^^^ b) % 2 = (a % 2) ^^^ (b % 2) := by
    have := bit_xor a b 1 ⟨0, rfl⟩
    simpa using this
  simp only [bits8, List.zipWith_cons_cons, List.zipWith_nil_left, h1, bit_xor a b 128 ⟨7, rfl⟩, bit_xor a b 64 ⟨6, rfl⟩, bit_xor a b 32 ⟨5, rfl⟩, bit_xor a b 16 ⟨4, rfl⟩, bit_xor a b 8 ⟨3, rfl⟩, bit_xor a b 4 ⟨2, rfl⟩, bit_xor a b 2 ⟨1, rfl⟩]
/-! ### Bursts -/
/-! ### The check value itself goes in -/
end Crc
end Go.Proofs.YtlnkofpcidngoaaDoor
/- Plain arithmetic of Go's int: masks, shifts and wraps. No program in sight. -/
namespace Go.Proofs.YtlnkofpcidngoaaDoor
open Go.RowKit

theorem ret_i64 {a b : Int} (h : a = b) : Ending.returned (.int .i64 a) = .returned (.int .i64 b) := by rw [h]
theorem ret_bool {a b : Bool} (h : a = b) : Ending.returned (.bool a) = .returned (.bool b) := by rw [h]

theorem two_pow_pos (k : Nat) : (0 : Int) < 2 ^ k := Int.pow_pos (by omega)
theorem two_pow_le {j k : Nat} (h : j ≤ k) : (2 : Int) ^ j ≤ 2 ^ k := by
  have := Nat.pow_le_pow_right (show 0 < 2 by omega) h
  exact_mod_cast this
theorem two_pow_62 {k : Nat} (h : k ≤ 62) : (2 : Int) ^ k ≤ 4611686018427387904 := by
  have := two_pow_le h; simpa using this
theorem wrap_pow {k : Nat} (h : k ≤ 62) : wrap64 (2 ^ k) = 2 ^ k := by
  have h1 := two_pow_62 h; have h2 := two_pow_pos k
  generalize (2 : Int) ^ k = x at *
  unfold wrap64; omega
theorem wrap_pow1 {k : Nat} (h : k ≤ 62) : wrap64 (wrap64 (2 ^ k) - 1) = 2 ^ k - 1 := by
  rw [wrap_pow h]
  have h1 := two_pow_62 h; have h2 := two_pow_pos k
  generalize (2 : Int) ^ k = x at *
  unfold wrap64; omega

theorem ofInt_toNat (x : Int) : ((BitVec.ofInt 64 x).toNat : Int) = x % 18446744073709551616 := by
  rw [BitVec.toNat_ofInt]
  have := Int.emod_nonneg x (show (18446744073709551616 : Int) ≠ 0 by decide)
  simp
  omega

theorem and_mask (x : Int) {k : Nat} (h : k ≤ 62) : bits .and .i64 x (2 ^ k - 1) = x % 2 ^ k := by
  have h1 := two_pow_62 h; have h2 := two_pow_pos k
  show IntKind.i64.wrap (((BitVec.ofInt 64 x) &&& (BitVec.ofInt 64 (2 ^ k - 1))).toNat : Int) = _
  rw [BitVec.toNat_and]
  have e : (BitVec.ofInt 64 ((2 : Int) ^ k - 1)).toNat = 2 ^ k - 1 := by
    have := ofInt_toNat ((2 : Int) ^ k - 1)
    rw [Int.emod_eq_of_lt (by omega) (by omega)] at this
    have h3 : ((2 ^ k - 1 : Nat) : Int) = (2 : Int) ^ k - 1 := by
      have : 1 ≤ 2 ^ k := Nat.one_le_two_pow
      rw [Int.ofNat_sub this]; push_cast; rfl
    omega
  rw [e, Nat.and_two_pow_sub_one_eq_mod]
  have h4 : (((BitVec.ofInt 64 x).toNat % 2 ^ k : Nat) : Int) = x % 2 ^ k := by
    rw [Int.natCast_emod, ofInt_toNat]
    have hd : ((2 ^ k : Nat) : Int) ∣ 18446744073709551616 := by
      refine ⟨((2 ^ (64 - k) : Nat) : Int), ?_⟩
      have : 18446744073709551616 = 2 ^ k * 2 ^ (64 - k) := by
        rw [← Nat.pow_add, show k + (64 - k) = 64 from by omega]
      rw [← Int.natCast_mul, ← this]; rfl
    rw [Int.emod_emod_of_dvd _ hd, show ((2 ^ k : Nat) : Int) = 2 ^ k from by push_cast; rfl]
  rw [h4]
  have h5 := Int.emod_nonneg x (show (2 : Int) ^ k ≠ 0 by omega)
  have h6 := Int.emod_lt_of_pos x h2
  exact IntWalk.i64_in _ ⟨by omega, by omega⟩

theorem nn_toNat {x : Int} (h0 : 0 ≤ x) (h1 : x < 9223372036854775808) : (BitVec.ofInt 64 x).toNat = x.toNat := by
  have := ofInt_toNat x
  rw [Int.emod_eq_of_lt h0 (by omega)] at this; omega

theorem or_nn {x y : Int} (hx : 0 ≤ x) (hx1 : x < 9223372036854775808) (hy : 0 ≤ y) (hy1 : y < 9223372036854775808) : bits .or .i64 x y = ((x.toNat ||| y.toNat : Nat) : Int) := by
  show IntKind.i64.wrap (((BitVec.ofInt 64 x) ||| (BitVec.ofInt 64 y)).toNat : Int) = _
  rw [BitVec.toNat_or, nn_toNat hx hx1, nn_toNat hy hy1]
  have : x.toNat ||| y.toNat < 2 ^ 63 := Nat.or_lt_two_pow (by omega) (by omega)
  exact IntWalk.i64_in _ ⟨by omega, by omega⟩

theorem xor_nn {x y : Int} (hx : 0 ≤ x) (hx1 : x < 9223372036854775808) (hy : 0 ≤ y) (hy1 : y < 9223372036854775808) : bits .xor .i64 x y = ((x.toNat ^^^ y.toNat : Nat) : Int) := by
  show IntKind.i64.wrap (((BitVec.ofInt 64 x) ^^^ (BitVec.ofInt 64 y)).toNat : Int) = _
  rw [BitVec.toNat_xor, nn_toNat hx hx1, nn_toNat hy hy1]
  have : x.toNat ^^^ y.toNat < 2 ^ 63 := Nat.xor_lt_two_pow (by omega) (by omega)
  exact IntWalk.i64_in _ ⟨by omega, by omega⟩
end Go.Proofs.YtlnkofpcidngoaaDoor
/- Contracts of the small functions over numbers: Mod, serial, and their references. -/
namespace Go.Proofs.YtlnkofpcidngoaaDoor
open Go.ChangeShapes Go.WideShapes Go.ChangeAt Go.RowKit

/-! ### Mod -/
def modF (n m : Int) : Int := if m < 1 then 0 else n % m

theorem modF_lo (n m : Int) : 0 ≤ modF n m := by
  unfold modF; split
  · omega
  · exact Int.emod_nonneg _ (by omega)
theorem modF_hi (n m : Int) (h : 1 ≤ m) : modF n m < m := by
  unfold modF; rw [if_neg (by omega)]
  exact Int.emod_lt_of_pos _ (by omega)

theorem tmod_cases (n m : Int) (h : 1 ≤ m) : (n.tmod m < 0 → n % m = n.tmod m + m) ∧ (0 ≤ n.tmod m → n % m = n.tmod m) ∧ -m < n.tmod m ∧ n.tmod m < m := by
  have e := Int.tmod_eq_emod (a := n) (b := m)
  have h1 := Int.emod_nonneg n (show m ≠ 0 by omega)
  have h2 := Int.emod_lt_of_pos n (show 0 < m by omega)
  split at e
  · rw [e]; refine ⟨fun h => ?_, fun h => ?_, ?_, ?_⟩ <;> omega
  · rename_i hd
    have : n % m ≠ 0 := fun h0 => hd (.inr (Int.dvd_of_emod_eq_zero h0))
    rw [e]; refine ⟨fun h => ?_, fun h => ?_, ?_, ?_⟩ <;> omega

set_option maxRecDepth 20000 in
set_option maxHeartbeats 2000000 in
theorem mod_any (n m : Int) (w : World) (hm : m ≤ 9223372036854775807) :
    Calls Tryd.prog 19 #[.int .i64 n, .int .i64 m] w fun e w' => e = .returned (.int .i64 (modF n m)) ∧ w = w' := by
  by_cases h : m < 1
  · go_enter Tryd.func19, Tryd.ntmps19
    go_wp2
    go_ret
    exact ⟨ret_i64 (by unfold modF; rw [if_pos h]), rfl⟩
  · have hc := tmod_cases n m (by omega)
    obtain ⟨h1, h2, h3, h4⟩ := hc
    have H1 := Lib.hid h1
    have H2 := Lib.hid h2
    clear h1 h2
    go_enter Tryd.func19, Tryd.ntmps19
    go_wp2
    · go_ret
      exact ⟨ret_i64 (by unfold modF; rw [if_neg (by omega), H1.out (by assumption)]), rfl⟩
    · go_ret
      exact ⟨ret_i64 (by unfold modF; rw [if_neg (by omega), H2.out (by assumption)]), rfl⟩

/-! ### The plain functions of serial -/
abbrev i64 (n : Int) : Prop := -9223372036854775808 ≤ n ∧ n ≤ 9223372036854775807
def vld (n : Int) : Bool := decide (1 ≤ n ∧ n ≤ 32)
def lowS (n x : Int) : Int := if vld n then x % 2 ^ n.toNat else -1
def distS (n a b : Int) : Int := if vld n then (b - a) % 2 ^ n.toNat else -1
def signedS (n a b : Int) : Int := if vld n then (if 2 ^ (n.toNat - 1) ≤ distS n a b then distS n a b - 2 ^ n.toNat else distS n a b) else 0
theorem vld_yes {n : Int} (h : vld n = true) : 1 ≤ n ∧ n ≤ 32 := by simpa [vld] using h
theorem vld_mk {n : Int} (h1 : 1 ≤ n) (h2 : n ≤ 32) : vld n = true := by simp [vld, h1, h2]

/-! ### serial -/
set_option maxRecDepth 20000 in
set_option maxHeartbeats 2000000 in
theorem svalid (n : Int) (w : World) :
    Calls Tryd.prog 104 #[.int .i64 n] w fun e w' => e = .returned (.bool (vld n)) ∧ w = w' := by
  go_enter Tryd.func104, Tryd.ntmps104
  go_wp2
  · go_ret
    exact ⟨ret_bool (by have : 1 ≤ n := by assumption
                        simp [vld, this]), rfl⟩
  · go_ret
    exact ⟨ret_bool (by have : n < 1 := by assumption
                        simp [vld]; omega), rfl⟩

set_option maxRecDepth 20000 in
set_option maxHeartbeats 2000000 in
theorem slow (n x : Int) (w : World) :
    Calls Tryd.prog 99 #[.int .i64 n, .int .i64 x] w fun e w' => e = .returned (.int .i64 (lowS n x)) ∧ w = w' := by
  cases hv : vld n
  · have H := Lib.hid hv
    go_enter Tryd.func99, Tryd.ntmps99
    go_wp2_with ((go_at_call 104; refine (svalid _ _).mono ?_; rintro e w' ⟨rfl, rfl⟩))
    go_ret
    exact ⟨ret_i64 (by simp [lowS, H.out]), rfl⟩
  · have H := Lib.hid hv
    obtain ⟨h1, h2⟩ := vld_yes hv
    go_enter Tryd.func99, Tryd.ntmps99
    go_wp2_with ((go_at_call 104; refine (svalid _ _).mono ?_; rintro e w' ⟨rfl, rfl⟩))
    go_ret
    exact ⟨ret_i64 (by rw [wrap_pow1 (by omega), and_mask _ (by omega)]; simp [lowS, H.out]), rfl⟩

theorem dist_rng (n a b : Int) (h1 : 1 ≤ n) (h2 : n ≤ 32) : 0 ≤ distS n a b ∧ distS n a b < 2 ^ n.toNat := by
  have hp := two_pow_pos n.toNat
  unfold distS; rw [if_pos (vld_mk h1 h2)]
  exact ⟨Int.emod_nonneg _ (by omega), Int.emod_lt_of_pos _ hp⟩
theorem wrap_dist (n a b : Int) (h1 : 1 ≤ n) (h2 : n ≤ 32) : wrap64 (distS n a b - wrap64 (2 ^ n.toNat)) = distS n a b - 2 ^ n.toNat := by
  obtain ⟨h3, h4⟩ := dist_rng n a b h1 h2
  have h5 := two_pow_62 (show n.toNat ≤ 62 by omega)
  rw [wrap_pow (by omega)]
  generalize (2 : Int) ^ n.toNat = p at *
  unfold wrap64; omega



theorem signed_rng (n a b : Int) : -4294967296 ≤ signedS n a b ∧ signedS n a b ≤ 4294967296 := by
  unfold signedS
  split
  · rename_i hv
    obtain ⟨h1, h2⟩ := vld_yes hv
    obtain ⟨h3, h4⟩ := dist_rng n a b h1 h2
    have h5 : (2 : Int) ^ n.toNat ≤ 2 ^ 32 := two_pow_le (by omega)
    have h6 : (2 : Int) ^ 32 = 4294967296 := by rfl
    have h7 := two_pow_pos n.toNat
    split <;> omega
  · omega

/-! ### the reference of serial -/
set_option maxRecDepth 20000 in
set_option maxHeartbeats 2000000 in
theorem rvalid (n : Int) (w : World) :
    Calls Tryd.prog 58 #[.int .i64 n] w fun e w' => e = .returned (.bool (vld n)) ∧ w = w' := by
  go_enter Tryd.func58, Tryd.ntmps58
  go_wp2
  · go_ret
    exact ⟨ret_bool (by have : 1 ≤ n := by assumption
                        simp [vld, this]), rfl⟩
  · go_ret
    exact ⟨ret_bool (by have : n < 1 := by assumption
                        simp [vld]; omega), rfl⟩

set_option maxRecDepth 20000 in
set_option maxHeartbeats 2000000 in
theorem rlow (n x : Int) (w : World) :
    Calls Tryd.prog 43 #[.int .i64 n, .int .i64 x] w fun e w' => e = .returned (.int .i64 (lowS n x)) ∧ w = w' := by
  cases hv : vld n
  · have H := Lib.hid hv
    go_enter Tryd.func43, Tryd.ntmps43
    go_wp2_with ((go_at_call 58; refine (rvalid _ _).mono ?_; rintro e w' ⟨rfl, rfl⟩))
    go_ret
    exact ⟨ret_i64 (by simp [lowS, H.out]), rfl⟩
  · have H := Lib.hid hv
    obtain ⟨h1, h2⟩ := vld_yes hv
    go_enter Tryd.func43, Tryd.ntmps43
    go_wp2_with ((go_at_call 58; refine (rvalid _ _).mono ?_; rintro e w' ⟨rfl, rfl⟩))
    go_ret
    exact ⟨ret_i64 (by rw [wrap_pow1 (by omega), and_mask _ (by omega)]; simp [lowS, H.out]), rfl⟩

theorem lowS_rng (n x : Int) : -1 ≤ lowS n x ∧ lowS n x < 4294967296 := by
  unfold lowS; split
  · rename_i h; obtain ⟨h1, h2⟩ := vld_yes h
    have hp := two_pow_pos n.toNat
    have := Int.emod_nonneg x (show (2 : Int) ^ n.toNat ≠ 0 by omega)
    have := Int.emod_lt_of_pos x hp
    have h5 : (2 : Int) ^ n.toNat ≤ 2 ^ 32 := two_pow_le (by omega)
    have h6 : (2 : Int) ^ 32 = 4294967296 := by rfl
    omega
  · omega

theorem low_dist (n a b : Int) (hv : vld n = true) : (lowS n b - lowS n a) % 2 ^ n.toNat = distS n a b := by
  simp only [lowS, distS, hv, if_true]
  rw [← Int.emod_emod_of_dvd _ (Int.dvd_refl _), ← Int.sub_emod]
  exact Int.emod_emod_of_dvd _ (Int.dvd_refl _)

set_option maxRecDepth 20000 in
set_option maxHeartbeats 2000000 in
theorem rdist (n a b : Int) (w : World) :
    Calls Tryd.prog 59 #[.int .i64 n, .int .i64 a, .int .i64 b] w fun e w' => e = .returned (.int .i64 (distS n a b)) ∧ w = w' := by
  have hr1 := lowS_rng n a
  have hr2 := lowS_rng n b
  cases hv : vld n
  · have H := Lib.hid hv
    go_enter Tryd.func59, Tryd.ntmps59
    go_wp2_with (first | ((go_at_call 58; refine (rvalid _ _).mono ?_; rintro e w' ⟨rfl, rfl⟩)) | ((go_at_call 43; refine (rlow _ _ _).mono ?_; rintro e w' ⟨rfl, rfl⟩)))
    go_ret
    exact ⟨ret_i64 (by simp [distS, H.out]), rfl⟩
  · have H := Lib.hid hv
    obtain ⟨h1, h2⟩ := vld_yes hv
    go_enter Tryd.func59, Tryd.ntmps59
    go_wp2_with (first | ((go_at_call 58; refine (rvalid _ _).mono ?_; rintro e w' ⟨rfl, rfl⟩)) | ((go_at_call 43; refine (rlow _ _ _).mono ?_; rintro e w' ⟨rfl, rfl⟩)))
    go_ret
    exact ⟨ret_i64 (by rw [wrap_pow1 (by omega), and_mask _ (by omega), low_dist n a b H.out]), rfl⟩



set_option maxRecDepth 20000 in
set_option maxHeartbeats 2000000 in
theorem rsigned (n a b : Int) (w : World) :
    Calls Tryd.prog 36 #[.int .i64 n, .int .i64 a, .int .i64 b] w fun e w' => e = .returned (.int .i64 (signedS n a b)) ∧ w = w' := by
  cases hv : vld n
  · have H := Lib.hid hv
    go_enter Tryd.func36, Tryd.ntmps36
    go_wp2_with (first | ((go_at_call 58; refine (rvalid _ _).mono ?_; rintro e w' ⟨rfl, rfl⟩)) | ((go_at_call 59; refine (rdist _ _ _ _).mono ?_; rintro e w' ⟨rfl, rfl⟩)))
    go_ret
    exact ⟨ret_i64 (by simp [signedS, H.out]), rfl⟩
  · have H := Lib.hid hv
    obtain ⟨h1, h2⟩ := vld_yes hv
    have hw := wrap_pow (show n.toNat - 1 ≤ 62 by omega)
    go_enter Tryd.func36, Tryd.ntmps36
    go_wp2_with (first | ((go_at_call 58; refine (rvalid _ _).mono ?_; rintro e w' ⟨rfl, rfl⟩)) | ((go_at_call 59; refine (rdist _ _ _ _).mono ?_; rintro e w' ⟨rfl, rfl⟩)))
    · go_ret
      have h3 : 2 ^ (n.toNat - 1) ≤ distS n a b := by assumption
      exact ⟨ret_i64 (by rw [wrap_dist n a b h1 h2]; simp [signedS, H.out, h3]), rfl⟩
    · go_ret
      have h3 : distS n a b < 2 ^ (n.toNat - 1) := by assumption
      exact ⟨ret_i64 (by simp [signedS, H.out, Int.not_le.2 h3]), rfl⟩


end Go.Proofs.YtlnkofpcidngoaaDoor
/- Layer 03 (check): contracts of the program's functions. -/
namespace Go.Proofs.YtlnkofpcidngoaaDoor
open Go.ChangeShapes Go.WideShapes Go.ChangeAt Go.RowKit
open Crc

/-- The listed variable is a map in which the polynomials are found, in this world and in all that grow out of it. -/
def LaidIn (w : World) : Prop := ∃ bm : Nat, w.cell? ⟨0, 0, none⟩ = some (.map (some bm)) ∧ ∀ w', Gr w w' → ∀ k : Int, i64 k → (Instr.lookup 120 (.map (some bm)) (.int .i64 k) true).run Tryd.prog w' = .ok (.tuple #[.int .i64 (polyV k), .bool (decide (isKind k))]) w'
theorem LaidIn.kept {w w' : World} (h : LaidIn w) (hg : Gr w w') : LaidIn w' := by
  obtain ⟨bm, hc, hl⟩ := h
  exact ⟨bm, hg.cell hc, fun u hu => hl u (hg.trans hu)⟩
set_option maxRecDepth 20000 in
set_option maxHeartbeats 2000000 in
theorem poly_any (kind : Int) (w : World) (hl : LaidIn w) (hk : i64 kind) : Calls Tryd.prog 80 #[.int .i64 kind] w fun e w' => e = .returned (.tuple #[.int .i64 (polyV kind), .bool (decide (isKind kind))]) ∧ w = w' := by
  obtain ⟨bm, hc, hl⟩ := hl
  have hrun := hl w (Gr.refl w) kind hk
  clear hl
  obtain ⟨K, hK⟩ : ∃ K, decide (isKind kind) = K := ⟨_, rfl⟩
  obtain ⟨V, hV⟩ : ∃ V, polyV kind = V := ⟨_, rfl⟩
  rw [hK, hV] at hrun
  rw [hK, hV]
  clear hK hV
  go_enter Tryd.func80, Tryd.ntmps80
  go_wp2
  go_ret2
  exact ⟨rfl, rfl⟩
set_option maxRecDepth 20000 in
set_option maxHeartbeats 2000000 in
theorem rpoly_any (kind : Int) (w : World) : Calls Tryd.prog 78 #[.int .i64 kind] w fun e w' => e = .returned (.int .i64 (polyV kind)) ∧ w = w' := by
  by_cases hk : isKind kind
  · rcases hk with rfl | rfl | rfl | rfl | rfl
    all_goals
      go_enter Tryd.func78, Tryd.ntmps78
      go_wp2
      go_ret
      exact ⟨rfl, rfl⟩
  · have hv := polyV_no hk
    unfold isKind at hk
    have HV := Lib.hid hv
    have h3 : (kind == 3) = false := by simp; omega
    have h7 : (kind == 7) = false := by simp; omega
    have h8 : (kind == 8) = false := by simp; omega
    have h16 : (kind == 16) = false := by simp; omega
    have h24 : (kind == 24) = false := by simp; omega
    clear hv hk
    go_enter Tryd.func78, Tryd.ntmps78
    go_wp2
    go_ret
    exact ⟨ret_i64 HV.out.symm, rfl⟩
/-! ### One bit -/
theorem and_one (x : Int) : bits .and .i64 x 1 = x % 2 := by
  have := and_mask x (k := 1) (by omega)
  exact this
theorem xor_bits {a b : Int} (ha : a = 0 ∨ a = 1) (hb : b = 0 ∨ b = 1) : bits .xor .i64 a b = if a = b then 0 else 1 := by
  rcases ha with rfl | rfl <;> rcases hb with rfl | rfl <;> decide +kernel
theorem pow_nat (k : Nat) : ((2 : Int) ^ k) = ((2 ^ k : Nat) : Int) := by push_cast; rfl
theorem top_bit {R k : Nat} (h1 : 1 ≤ k) (h : R < 2 ^ k) : R / 2 ^ (k - 1) = 0 ∨ R / 2 ^ (k - 1) = 1 := by
  have h2 := half2 h1
  have h3 : R / 2 ^ (k - 1) < 2 := by rw [Nat.div_lt_iff_lt_mul (Nat.two_pow_pos _)]; omega
  generalize R / 2 ^ (k - 1) = d at h3
  omega
theorem dbl_mask {R k : Nat} (hk : k ≤ 24) : bits .and .i64 ((R : Int) * 2) (2 ^ k - 1) = ((2 * R % 2 ^ k : Nat) : Int) := by
  have hw : (R : Int) * 2 = ((2 * R : Nat) : Int) := by push_cast; omega
  rw [hw, and_mask _ (by omega), pow_nat]
  norm_cast
theorem stp_go {R k p b : Nat} {V : Int} (hV : V = (p : Nat)) (h1 : 1 ≤ k) (hk : k ≤ 24) (hR : R < 2 ^ k) (hp : p < 2 ^ k) :
    (if R / 2 ^ (k - 1) = b then bits .and .i64 ((R : Int) * 2) (2 ^ k - 1) else bits .xor .i64 (bits .and .i64 ((R : Int) * 2) (2 ^ k - 1)) V) = ((stp k p R b : Nat) : Int) := by
  have ht := top_bit h1 hR
  have hm : R / 2 ^ (k - 1) % 2 = R / 2 ^ (k - 1) := by omega
  have hpw : (2 : Nat) ^ k ≤ 2 ^ 24 := Nat.pow_le_pow_right (by omega) hk
  have hp2 : (2 : Nat) ^ 24 = 16777216 := by decide
  have hlt : 2 * R % 2 ^ k < 2 ^ k := Nat.mod_lt _ (Nat.two_pow_pos k)
  rw [dbl_mask hk]
  unfold stp
  rw [hm]
  by_cases h : R / 2 ^ (k - 1) = b
  · rw [if_pos h, if_pos h, Nat.xor_zero]
  · rw [if_neg h, if_neg h, hV]
    generalize 2 * R % 2 ^ k = d at hlt
    rw [xor_nn (by omega) (by omega) (by omega) (by omega)]
    simp only [Int.toNat_natCast]
theorem bits8_at (c i j : Nat) (h : i + j = 7) : (bits8 c).take (j + 1) = (bits8 c).take j ++ [c / 2 ^ i % 2] := by
  have hj : j = 0 ∨ j = 1 ∨ j = 2 ∨ j = 3 ∨ j = 4 ∨ j = 5 ∨ j = 6 ∨ j = 7 := by omega
  rcases hj with rfl | rfl | rfl | rfl | rfl | rfl | rfl | rfl
  · obtain rfl : i = 7 := by omega
    rfl
  · obtain rfl : i = 6 := by omega
    rfl
  · obtain rfl : i = 5 := by omega
    rfl
  · obtain rfl : i = 4 := by omega
    rfl
  · obtain rfl : i = 3 := by omega
    rfl
  · obtain rfl : i = 2 := by omega
    rfl
  · obtain rfl : i = 1 := by omega
    rfl
  · obtain rfl : i = 0 := by omega
    simp [bits8]
theorem feed_one (k p r : Nat) (l : List Nat) (b : Nat) : feed k p r (l ++ [b]) = stp k p (feed k p r l) b := by rw [feed_append]; rfl
theorem u8_rng {x : Int} (h : (Lit.int .u8 x).wf = true) : 0 ≤ x ∧ x ≤ 255 := bounds_u8 h
def InRel (kn p r0 : Nat) (x : Int) (w : World) (r i : Value) (wr : World) : Prop := ∃ j : Nat, j ≤ 8 ∧ i = .int .i64 (7 - (j : Int)) ∧ r = .int .i64 (feed kn p r0 ((bits8 x.toNat).take j) : Nat) ∧ Gr w wr
def OutRel (kn p r0 len : Nat) (xs : List Int) (w : World) (r t : Value) (wr : World) : Prop := ∃ q : Nat, q ≤ len ∧ t = .int .i64 q ∧ r = .int .i64 (feed kn p r0 (bitsI (xs.take q)) : Nat) ∧ Gr w wr
theorem take_bits (xs : List Int) (q : Nat) (h : q < xs.length) : bitsI (xs.take (q + 1)) = bitsI (xs.take q) ++ bits8 (xs[q]?.getD 0).toNat := by
  rw [List.take_add_one, List.getElem?_eq_getElem h, bitsI_append]
  simp [bitsI]
theorem bit_test {R k i : Nat} {x : Int} (h1 : 1 ≤ k) (hR : R < 2 ^ k) (hx : 0 ≤ x) : bits .xor .i64 ((R : Int) / 2 ^ (k - 1)) (bits .and .i64 (x / 2 ^ i) 1) = if R / 2 ^ (k - 1) = x.toNat / 2 ^ i % 2 then 0 else 1 := by
  have ht := top_bit h1 hR
  obtain ⟨c, rfl⟩ : ∃ c : Nat, x = c := ⟨x.toNat, by omega⟩
  rw [and_one, pow_nat, pow_nat]
  have e1 : (R : Int) / ((2 ^ (k - 1) : Nat) : Int) = ((R / 2 ^ (k - 1) : Nat) : Int) := by norm_cast
  have e2 : (c : Int) / ((2 ^ i : Nat) : Int) % 2 = ((c / 2 ^ i % 2 : Nat) : Int) := by norm_cast
  rw [e1, e2, xor_bits (by omega) (by omega)]
  simp only [Int.toNat_natCast]
  split <;> split <;> omega
set_option maxRecDepth 20000 in
set_option maxHeartbeats 2000000 in
theorem next_go (kind reg : Int) (r0 : Nat) (a : Option Addr) (len cap : Nat) (xs : List Int) (w : World) (hl : LaidIn w) (hk : isKind kind) (hr : Rd .u8 w a len xs) (h0 : reg = (r0 : Nat)) (h1 : r0 < 2 ^ kind.toNat) :
    Calls Tryd.prog 81 #[.int .i64 kind, .int .i64 reg, .slice a len cap] w fun e w' => e = .returned (.tuple #[.int .i64 (regN kind r0 xs), .int .i64 0]) ∧ Gr w w' := by
  subst h0
  have hk1 : 1 ≤ kind ∧ kind ≤ 24 := by rcases hk with h | h | h | h | h <;> omega
  obtain ⟨k1, k2⟩ := hk1
  have hp := two_pow_62 (k := kind.toNat) (by omega)
  have hm := hr.2.2.1
  simp only [maxLen] at hm
  have hkk := kind_of hk
  obtain ⟨kn, hkn⟩ : ∃ kn, kind.toNat = kn := ⟨_, rfl⟩
  have hpv : 0 ≤ polyV kind ∧ polyV kind < 16777216 := by rcases hk with rfl | rfl | rfl | rfl | rfl <;> decide
  obtain ⟨V, hV⟩ : ∃ V, polyV kind = V := ⟨_, rfl⟩
  have hreg : regN kind r0 xs = feed kn V.toNat r0 (bitsI xs) := by unfold regN; rw [hkn, hV]
  rw [hV] at hpv hkk
  rw [hreg]
  rw [hkn] at hkk h1 hp
  obtain ⟨p, hpp⟩ : ∃ p : Nat, V = p := ⟨V.toNat, by omega⟩
  have hvp : V.toNat = p := by omega
  rw [hvp] at hkk
  rw [hvp]
  obtain ⟨v1, v2⟩ := hpv
  have hrl := hr.1
  have h1i : (r0 : Int) < 2 ^ kn := by rw [pow_nat]; exact_mod_cast h1
  have kn1 : 1 ≤ kn := by omega
  have kn2 : kn ≤ 24 := by omega
  have HKN := Lib.hid hkn
  have HVP := Lib.hid hpp
  have HV := Lib.hid hV
  have HR := Lib.hid hr
  have HRL := Lib.hid hrl
  have HKK := Lib.hid hkk
  have HLT := Lib.hid h1
  have hkd : decide (isKind kind) = true := decide_eq_true hk
  have HKD := Lib.hid hkd
  have HLA := Lib.hid hl
  have HF := Lib.hid (fun l => feed_lt (k := kn) hkk.lt l r0 h1)
  clear hV hr hkd hk hl hreg hkn hpp hvp hrl hkk h1
  rw [← HKN.out] at h1i hp
  go_enter Tryd.func81, Tryd.ntmps81
  go_wp2_with fail
  refine (poly_any kind w HLA.out (by constructor <;> omega)).mono ?_
  rw [HV.out, HKD.out]
  rintro e w' ⟨rfl, rfl⟩
  go_wp2_with fail
  rw [HKN.out] at h1i hp
  go_loopw [1, 11, 12, 13, 33] (fun r _ _ _ t wr => OutRel kn p r0 len xs w r t wr) (fun _ _ _ _ t _ => len - (intOf t).toNat)
  case atStart => exact ⟨0, by omega, rfl, by simp [bitsI, feed], Gr.refl _⟩
  case round =>
    obtain ⟨q, hq, rfl, rfl, hg⟩ := hrel
    have HG := Lib.hid hg
    clear hg
    by_cases hlt : q < len
    · obtain ⟨b, off, ea, _, hc⟩ := HR.out.some (by omega)
      subst ea
      have ck := HG.out.cell (hc q hlt)
      have htb := take_bits xs q (by rw [HRL.out]; exact hlt)
      have hxb := u8_rng (HR.out.2.1 (xs[q]?.getD 0) (by have := HRL.out; rw [List.getElem?_eq_getElem (by omega)]; exact List.getElem_mem _))
      obtain ⟨x, hx⟩ : ∃ x, xs[q]?.getD 0 = x := ⟨_, rfl⟩
      rw [hx] at ck htb hxb
      obtain ⟨x1, x2⟩ := hxb
      have HTB := Lib.hid htb
      obtain ⟨R0, hR0⟩ : ∃ R0, feed kn p r0 (bitsI (xs.take q)) = R0 := ⟨_, rfl⟩
      have hR0l := HF.out (bitsI (xs.take q))
      rw [hR0] at hR0l
      rw [hR0]
      have HR0 := Lib.hid hR0
      have HR0L := Lib.hid hR0l
      have HF0 := Lib.hid (fun l => feed_lt (k := kn) HKK.out.lt l R0 hR0l)
      clear hc hx htb hR0 hR0l
      go_wp2_with fail
      clear ck
      obtain ⟨wo, rfl⟩ : ∃ wo : World, wo = wr := ⟨_, rfl⟩
      go_loopw [1, 12, 13] (fun r i _ wr => InRel kn p R0 x w r i wr) (fun _ i _ _ => (intOf i + 1).toNat)
      case atStart => exact ⟨0, by omega, rfl, by simp [feed], HG.out⟩
      case round =>
        clear HG
        obtain ⟨j, hj, rfl, rfl, hg⟩ := hrel
        have HG := Lib.hid hg
        clear hg
        obtain ⟨R, hR⟩ : ∃ R, feed kn p R0 ((bits8 x.toNat).take j) = R := ⟨_, rfl⟩
        have hRl := HF0.out ((bits8 x.toNat).take j)
        rw [hR] at hRl
        rw [hR]
        have hRi : (R : Int) < 2 ^ kn := by rw [pow_nat]; exact_mod_cast hRl
        have HRR := Lib.hid hR
        by_cases hj8 : j < 8
        · obtain ⟨i, hi⟩ : ∃ i : Nat, 7 - (j : Int) = i := ⟨7 - j, by omega⟩
          have hi7 : i ≤ 7 := by omega
          have hbt := bits8_at x.toNat i j (by omega)
          have htest := bit_test (i := i) kn1 hRl x1
          have hgo := stp_go (b := x.toNat / 2 ^ i % 2) HVP.out kn1 kn2 hRl HKK.out.lt
          have hstep : feed kn p R0 ((bits8 x.toNat).take (j + 1)) = stp kn p R (x.toNat / 2 ^ i % 2) := by rw [hbt, feed_one, hR]
          rw [hi]
          have HI := Lib.hid hi
          have HSTEP := Lib.hid hstep
          rw [← HKN.out] at htest hgo hRi hp
          by_cases hbit : R / 2 ^ (kn - 1) = x.toNat / 2 ^ i % 2
          · rw [HKN.out, if_pos hbit] at htest hgo
            rw [← HKN.out] at htest hgo
            have HGO := Lib.hid hgo
            have hb0 : (bits .xor .i64 ((R : Int) / 2 ^ (kind.toNat - 1)) (bits .and .i64 (x / 2 ^ i) 1) == 1) = false := by rw [htest]; rfl
            clear hi hbt htest hgo hbit hR hstep hRl
            go_wp2_with fail
            refine Sched.wp_region_sched 11 [] [] (by kernel_rfl) (by kernel_rfl) ?_
            simp only [List.take_succ_cons, List.take_zero, List.drop_succ_cons, List.drop_zero]
            repeat (first | (refine Sched.walk1_no rfl rfl (fun K hK => ?_); simp only [Act.put, List.setIfInBounds_toArray, List.set_cons_zero, List.set_cons_succ]; refine hK _ ?_; clear hK K) | (refine Sched.walk1_gr rfl rfl rfl (fun K hK => ?_); apply Exists.intro; refine ⟨fun w1 hw1 => ?_, ?_⟩; (focus (go_simp; (try go_ints); (try (simp only [IntWalk.iteOmega]; go_simp)); first | done | fail | (with_reducible rfl) | (with_reducible exact ⟨rfl, rfl⟩))); simp only [Act.put, List.setIfInBounds_toArray, List.set_cons_zero, List.set_cons_succ]; refine hK _ ?_; clear hK K) | (refine Sched.walk1_pure rfl rfl rfl (fun K hK => ?_); apply Exists.intro; refine ⟨fun w1 => ?_, ?_⟩; (focus (go_simp; (try go_ints); (try (simp only [IntWalk.iteOmega]; go_simp)); first | done | (with_reducible rfl) | (with_reducible exact ⟨rfl, rfl⟩))); simp only [Act.put, List.setIfInBounds_toArray, List.set_cons_zero, List.set_cons_succ]; refine hK _ ?_; clear hK K) | (refine Sched.walk1_box rfl rfl ?_; apply Exists.intro; refine ⟨fun w1 hw1 => ?_, ?_⟩; (focus (go_simp; exact ⟨Gr.alloc _ _, rfl, by simp, heap_alloc_new _ _⟩))))
            refine Sched.walk1_nil ?_
            intro wq hwq
            dsimp only [Sched.EndN, List.nil_append, List.cons_append, Act.put]
            (try simp only [List.setIfInBounds_toArray, List.set_cons_zero, List.set_cons_succ])
            repeat (first | (refine Sched.walk2_no rfl (fun K hK => ?_); simp only [Act.put, List.setIfInBounds_toArray, List.set_cons_zero, List.set_cons_succ]; refine hK _ ?_; clear hK K) | (refine Sched.walk2_go rfl (fun K hK => ?_); go_simp; (try go_ints); (try (simp only [IntWalk.iteOmega]; go_simp)); first | (refine hK _ _ ?_; clear hK K) | fail))
            refine Sched.walk2_nil ?_
            have HW := Lib.hid hwq
            clear hwq
            go_wp2_with fail
            rw [HGO.out]
            go_roundw
            case rel => exact ⟨j + 1, by omega, by have := HI.out; congr 1; omega, by rw [HSTEP.out, HKN.out], HG.out.trans HW.out⟩
            case measure => (simp [intOf] <;> omega)
          · rw [HKN.out, if_neg hbit] at htest hgo
            rw [← HKN.out] at htest hgo
            have HGO := Lib.hid hgo
            have hb0 : (bits .xor .i64 ((R : Int) / 2 ^ (kind.toNat - 1)) (bits .and .i64 (x / 2 ^ i) 1) == 1) = true := by rw [htest]; rfl
            clear hi hbt htest hgo hbit hR hstep hRl
            go_wp2_with fail
            refine Sched.wp_region_sched 11 [] [] (by kernel_rfl) (by kernel_rfl) ?_
            simp only [List.take_succ_cons, List.take_zero, List.drop_succ_cons, List.drop_zero]
            repeat (first | (refine Sched.walk1_no rfl rfl (fun K hK => ?_); simp only [Act.put, List.setIfInBounds_toArray, List.set_cons_zero, List.set_cons_succ]; refine hK _ ?_; clear hK K) | (refine Sched.walk1_gr rfl rfl rfl (fun K hK => ?_); apply Exists.intro; refine ⟨fun w1 hw1 => ?_, ?_⟩; (focus (go_simp; (try go_ints); (try (simp only [IntWalk.iteOmega]; go_simp)); first | done | fail | (with_reducible rfl) | (with_reducible exact ⟨rfl, rfl⟩))); simp only [Act.put, List.setIfInBounds_toArray, List.set_cons_zero, List.set_cons_succ]; refine hK _ ?_; clear hK K) | (refine Sched.walk1_pure rfl rfl rfl (fun K hK => ?_); apply Exists.intro; refine ⟨fun w1 => ?_, ?_⟩; (focus (go_simp; (try go_ints); (try (simp only [IntWalk.iteOmega]; go_simp)); first | done | (with_reducible rfl) | (with_reducible exact ⟨rfl, rfl⟩))); simp only [Act.put, List.setIfInBounds_toArray, List.set_cons_zero, List.set_cons_succ]; refine hK _ ?_; clear hK K) | (refine Sched.walk1_box rfl rfl ?_; apply Exists.intro; refine ⟨fun w1 hw1 => ?_, ?_⟩; (focus (go_simp; exact ⟨Gr.alloc _ _, rfl, by simp, heap_alloc_new _ _⟩))))
            refine Sched.walk1_nil ?_
            intro wq hwq
            dsimp only [Sched.EndN, List.nil_append, List.cons_append, Act.put]
            (try simp only [List.setIfInBounds_toArray, List.set_cons_zero, List.set_cons_succ])
            repeat (first | (refine Sched.walk2_no rfl (fun K hK => ?_); simp only [Act.put, List.setIfInBounds_toArray, List.set_cons_zero, List.set_cons_succ]; refine hK _ ?_; clear hK K) | (refine Sched.walk2_go rfl (fun K hK => ?_); go_simp; (try go_ints); (try (simp only [IntWalk.iteOmega]; go_simp)); first | (refine hK _ _ ?_; clear hK K) | fail))
            refine Sched.walk2_nil ?_
            have HW := Lib.hid hwq
            clear hwq
            go_wp2_with fail
            rw [HGO.out]
            go_roundw
            case rel => exact ⟨j + 1, by omega, by have := HI.out; congr 1; omega, by rw [HSTEP.out, HKN.out], HG.out.trans HW.out⟩
            case measure => (simp [intOf] <;> omega)
        · obtain rfl : j = 8 := by omega
          go_wp2_with fail
          go_roundw
          case rel => exact ⟨q + 1, by omega, by go_num, by rw [HTB.out, feed_append, HR0.out]; exact congrArg (fun n : Nat => Value.int .i64 n) HRR.out.symm, HG.out⟩
          case measure => (simp [intOf] <;> omega)
    · obtain rfl : q = len := by omega
      rw [List.take_of_length_le (by rw [HRL.out]; exact Nat.le_refl _)]
      go_wp2_with fail
      go_ret2
      exact ⟨rfl, HG.out⟩

def sumE (kind : Int) : Int := if isKind kind then 0 else 7
def sumV (kind : Int) (xs : List Int) : Int := if isKind kind then (regN kind (Crc.top kind) xs : Nat) else 0
theorem top_int (kind : Int) : (2 : Int) ^ kind.toNat - 1 = (Crc.top kind : Nat) := by
  unfold Crc.top
  have := Nat.two_pow_pos kind.toNat
  rw [pow_nat]
  omega
set_option maxRecDepth 20000 in
set_option maxHeartbeats 2000000 in
theorem csum_any (kind : Int) (a : Option Addr) (len cap : Nat) (xs : List Int) (w : World) (hl : LaidIn w) (hk : i64 kind) (hr : Rd .u8 w a len xs) :
    Calls Tryd.prog 53 #[.int .i64 kind, .slice a len cap] w fun e w' => e = .returned (.tuple #[.int .i64 (sumV kind xs), .int .i64 (sumE kind)]) ∧ Gr w w' := by
  have HLA := Lib.hid hl
  have HK := Lib.hid hk
  have HR := Lib.hid hr
  by_cases h : isKind kind
  · have hv : sumV kind xs = (regN kind (Crc.top kind) xs : Nat) := by unfold sumV; rw [if_pos h]
    have he : sumE kind = 0 := by unfold sumE; rw [if_pos h]
    rw [hv, he]
    have hk1 : 1 ≤ kind ∧ kind ≤ 24 := by rcases h with h | h | h | h | h <;> omega
    obtain ⟨k1, k2⟩ := hk1
    have hp := two_pow_62 (k := kind.toNat) (by omega)
    have hp0 := two_pow_pos kind.toNat
    have HKD := Lib.hid (decide_eq_true h)
    have HKI := Lib.hid h
    obtain ⟨V, hV⟩ : ∃ V, polyV kind = V := ⟨_, rfl⟩
    have HV := Lib.hid hV
    clear hv he h hl hr hk hV
    go_enter Tryd.func53, Tryd.ntmps53
    go_wp2_with fail
    refine (poly_any kind w HLA.out HK.out).mono ?_
    rw [HV.out, HKD.out]
    rintro e w' ⟨rfl, rfl⟩
    go_wp2_with fail
    refine (next_go kind _ (Crc.top kind) a len cap xs w HLA.out HKI.out HR.out (top_int kind) (top_lt kind)).mono ?_
    rintro e w' ⟨rfl, hg⟩
    have HG := Lib.hid hg
    clear hg
    go_wp2_with fail
    go_ret2
    exact ⟨rfl, HG.out⟩
  · have hv : sumV kind xs = 0 := by unfold sumV; rw [if_neg h]
    have he : sumE kind = 7 := by unfold sumE; rw [if_neg h]
    rw [hv, he]
    have HKD := Lib.hid (decide_eq_false h)
    obtain ⟨V, hV⟩ : ∃ V, polyV kind = V := ⟨_, rfl⟩
    have HV := Lib.hid hV
    clear hv he h hl hr hk hV
    go_enter Tryd.func53, Tryd.ntmps53
    go_wp2_with fail
    refine (poly_any kind w HLA.out HK.out).mono ?_
    rw [HV.out, HKD.out]
    rintro e w' ⟨rfl, rfl⟩
    go_wp2_with fail
    go_ret2
    exact ⟨rfl, Gr.refl _⟩
end Go.Proofs.YtlnkofpcidngoaaDoor
/- Layer 03 (check): contracts of the reference's functions; the sanity check. -/
namespace Go.Proofs.YtlnkofpcidngoaaDoor
open Go.ChangeShapes Go.WideShapes Go.ChangeAt Go.RowKit
open Crc

theorem and_one8 {x : Int} (h0 : 0 ≤ x) (h1 : x ≤ 255) : bits .and .u8 x 1 = x % 2 := by
  obtain ⟨n, rfl⟩ : ∃ n : Nat, x = n := ⟨x.toNat, by omega⟩
  have hn : n < 256 := by omega
  have : ∀ m : Fin 256, bits .and .u8 (m.val : Int) 1 = (m.val : Int) % 2 := by decide +kernel
  exact this ⟨n, hn⟩
theorem rbit_test {R k i : Nat} {x : Int} (h1 : 1 ≤ k) (hR : R < 2 ^ k) (hx : 0 ≤ x) (hx2 : x ≤ 255) : (bits .and .i64 ((R : Int) / 2 ^ (k - 1)) 1 != wrap64 (bits .and .u8 (x / 2 ^ i) 1)) = !decide (R / 2 ^ (k - 1) = x.toNat / 2 ^ i % 2) := by
  have ht := top_bit h1 hR
  obtain ⟨c, rfl⟩ : ∃ c : Nat, x = c := ⟨x.toNat, by omega⟩
  have e0 : (c : Int) / ((2 ^ i : Nat) : Int) = ((c / 2 ^ i : Nat) : Int) := by norm_cast
  have e3 : c / 2 ^ i ≤ c := Nat.div_le_self _ _
  rw [pow_nat, pow_nat, e0, and_one]
  generalize hf : c / 2 ^ i = f at e3
  have ew : wrap64 ((f : Int) % 2) = (f : Int) % 2 := by unfold wrap64; omega
  rw [and_one8 (by omega) (by omega), ew, Int.toNat_natCast]
  rw [hf]
  have e1 : (R : Int) / ((2 ^ (k - 1) : Nat) : Int) = ((R / 2 ^ (k - 1) : Nat) : Int) := by norm_cast
  rw [e1]
  generalize R / 2 ^ (k - 1) = d at ht
  rw [Bool.eq_iff_iff]
  simp only [bne_iff_ne, ne_eq, Bool.not_eq_eq_eq_not, Bool.not_true, decide_eq_false_iff_not]
  omega
set_option maxRecDepth 20000 in
set_option maxHeartbeats 2000000 in
theorem rnext_go (kind reg : Int) (r0 : Nat) (a : Option Addr) (len cap : Nat) (xs : List Int) (w : World) (hk : isKind kind) (hr : Rd .u8 w a len xs) (h0 : reg = (r0 : Nat)) (h1 : r0 < 2 ^ kind.toNat) :
    Calls Tryd.prog 79 #[.int .i64 kind, .int .i64 reg, .slice a len cap] w fun e w' => e = .returned (.tuple #[.int .i64 (regN kind r0 xs), .int .i64 0]) ∧ Gr w w' := by
  subst h0
  have hk1 : 1 ≤ kind ∧ kind ≤ 24 := by rcases hk with h | h | h | h | h <;> omega
  obtain ⟨k1, k2⟩ := hk1
  have hp := two_pow_62 (k := kind.toNat) (by omega)
  have hm := hr.2.2.1
  simp only [maxLen] at hm
  have hkk := kind_of hk
  obtain ⟨kn, hkn⟩ : ∃ kn, kind.toNat = kn := ⟨_, rfl⟩
  have hpv : 0 < polyV kind ∧ polyV kind < 16777216 := by rcases hk with rfl | rfl | rfl | rfl | rfl <;> decide
  obtain ⟨V, hV⟩ : ∃ V, polyV kind = V := ⟨_, rfl⟩
  have hreg : regN kind r0 xs = feed kn V.toNat r0 (bitsI xs) := by unfold regN; rw [hkn, hV]
  rw [hV] at hpv hkk
  rw [hreg]
  rw [hkn] at hkk h1 hp
  obtain ⟨p, hpp⟩ : ∃ p : Nat, V = p := ⟨V.toNat, by omega⟩
  have hvp : V.toNat = p := by omega
  rw [hvp] at hkk
  rw [hvp]
  obtain ⟨v1, v2⟩ := hpv
  have hv0 : (V == 0) = false := by simp; omega
  have hrl := hr.1
  have h1i : (r0 : Int) < 2 ^ kn := by rw [pow_nat]; exact_mod_cast h1
  have kn1 : 1 ≤ kn := by omega
  have kn2 : kn ≤ 24 := by omega
  have HKN := Lib.hid hkn
  have HVP := Lib.hid hpp
  have HV := Lib.hid hV
  have HR := Lib.hid hr
  have HRL := Lib.hid hrl
  have HKK := Lib.hid hkk
  have HF := Lib.hid (fun l => feed_lt (k := kn) hkk.lt l r0 h1)
  clear hV hr hk hreg hkn hpp hvp hrl hkk h1
  rw [← HKN.out] at h1i hp
  go_enter Tryd.func79, Tryd.ntmps79
  go_wp2_with fail
  refine (rpoly_any kind w).mono ?_
  rw [HV.out]
  rintro e w' ⟨rfl, rfl⟩
  go_wp2_with fail
  clear hv0
  rw [HKN.out] at h1i hp
  go_loopw [1, 9, 10, 11] (fun r t _ _ wr => OutRel kn p r0 len xs w r t wr) (fun _ t _ _ _ => len - (intOf t).toNat)
  case atStart => exact ⟨0, by omega, rfl, by simp [bitsI, feed], Gr.refl _⟩
  case round =>
    obtain ⟨q, hq, rfl, rfl, hg⟩ := hrel
    have HG := Lib.hid hg
    clear hg
    by_cases hlt : q < len
    · obtain ⟨b, off, ea, _, hc⟩ := HR.out.some (by omega)
      subst ea
      have htb := take_bits xs q (by rw [HRL.out]; exact hlt)
      have hxb := u8_rng (HR.out.2.1 (xs[q]?.getD 0) (by have := HRL.out; rw [List.getElem?_eq_getElem (by omega)]; exact List.getElem_mem _))
      obtain ⟨x, hx⟩ : ∃ x, xs[q]?.getD 0 = x := ⟨_, rfl⟩
      have ck : ∀ u, Gr w u → u.cell? ⟨b, off + q, none⟩ = some (.int .u8 x) := fun u h => by rw [← hx]; exact h.cell (hc q hlt)
      rw [hx] at htb hxb
      obtain ⟨x1, x2⟩ := hxb
      have HTB := Lib.hid htb
      have HCK := Lib.hid ck
      obtain ⟨R0, hR0⟩ : ∃ R0, feed kn p r0 (bitsI (xs.take q)) = R0 := ⟨_, rfl⟩
      have hR0l := HF.out (bitsI (xs.take q))
      rw [hR0] at hR0l
      rw [hR0]
      have HR0 := Lib.hid hR0
      have HF0 := Lib.hid (fun l => feed_lt (k := kn) HKK.out.lt l R0 hR0l)
      clear hc hx htb hR0 hR0l ck
      go_wp2_with fail
      obtain ⟨wo, rfl⟩ : ∃ wo : World, wo = wr := ⟨_, rfl⟩
      go_loopw [1, 10, 11] (fun r i _ wr => InRel kn p R0 x w r i wr) (fun _ i _ _ => (intOf i + 1).toNat)
      case atStart => exact ⟨0, by omega, rfl, by simp [feed], HG.out⟩
      case round =>
        clear HG
        obtain ⟨j, hj, rfl, rfl, hg⟩ := hrel
        have HG := Lib.hid hg
        have ck := HCK.out wr hg
        clear hg
        obtain ⟨R, hR⟩ : ∃ R, feed kn p R0 ((bits8 x.toNat).take j) = R := ⟨_, rfl⟩
        have hRl := HF0.out ((bits8 x.toNat).take j)
        rw [hR] at hRl
        rw [hR]
        have hRi : (R : Int) < 2 ^ kn := by rw [pow_nat]; exact_mod_cast hRl
        have HRR := Lib.hid hR
        by_cases hj8 : j < 8
        · obtain ⟨i, hi⟩ : ∃ i : Nat, 7 - (j : Int) = i := ⟨7 - j, by omega⟩
          have hi7 : i ≤ 7 := by omega
          have hbt := bits8_at x.toNat i j (by omega)
          have htest := rbit_test (i := i) kn1 hRl x1 x2
          have hgo := stp_go (b := x.toNat / 2 ^ i % 2) HVP.out kn1 kn2 hRl HKK.out.lt
          have hstep : feed kn p R0 ((bits8 x.toNat).take (j + 1)) = stp kn p R (x.toNat / 2 ^ i % 2) := by rw [hbt, feed_one, hR]
          rw [hi]
          have HI := Lib.hid hi
          have HSTEP := Lib.hid hstep
          rw [← HKN.out] at htest hgo hRi hp
          by_cases hbit : R / 2 ^ (kn - 1) = x.toNat / 2 ^ i % 2
          · rw [HKN.out] at htest hgo
            rw [if_pos hbit] at hgo
            rw [decide_eq_true hbit] at htest
            rw [← HKN.out] at htest hgo
            have HGO := Lib.hid hgo
            have hb0 := htest
            simp only [Bool.not_true] at hb0
            clear hi hbt htest hgo hbit hR hstep hRl
            go_wp2_with fail
            rw [HGO.out]
            go_roundw
            case rel => exact ⟨j + 1, by omega, by have := HI.out; congr 1; omega, by rw [HSTEP.out, HKN.out], HG.out⟩
            case measure => (simp [intOf] <;> omega)
          · rw [HKN.out] at htest hgo
            rw [if_neg hbit] at hgo
            rw [decide_eq_false hbit] at htest
            rw [← HKN.out] at htest hgo
            have HGO := Lib.hid hgo
            have hb0 := htest
            simp only [Bool.not_false] at hb0
            clear hi hbt htest hgo hbit hR hstep hRl
            go_wp2_with fail
            rw [HGO.out]
            go_roundw
            case rel => exact ⟨j + 1, by omega, by have := HI.out; congr 1; omega, by rw [HSTEP.out, HKN.out], HG.out⟩
            case measure => (simp [intOf] <;> omega)
        · obtain rfl : j = 8 := by omega
          go_wp2_with fail
          go_roundw
          case rel => exact ⟨q + 1, by omega, by go_num, by rw [HTB.out, feed_append, HR0.out]; exact congrArg (fun n : Nat => Value.int .i64 n) HRR.out.symm, HG.out⟩
          case measure => (simp [intOf] <;> omega)
    · obtain rfl : q = len := by omega
      rw [List.take_of_length_le (by rw [HRL.out]; exact Nat.le_refl _)]
      go_wp2_with fail
      go_ret2
      exact ⟨rfl, HG.out⟩
set_option maxRecDepth 20000 in
set_option maxHeartbeats 2000000 in
theorem rcsum_any (kind : Int) (a : Option Addr) (len cap : Nat) (xs : List Int) (w : World) (hr : Rd .u8 w a len xs) :
    Calls Tryd.prog 52 #[.int .i64 kind, .slice a len cap] w fun e w' => e = .returned (.tuple #[.int .i64 (sumV kind xs), .int .i64 (sumE kind)]) ∧ Gr w w' := by
  have HR := Lib.hid hr
  by_cases h : isKind kind
  · have hv : sumV kind xs = (regN kind (Crc.top kind) xs : Nat) := by unfold sumV; rw [if_pos h]
    have he : sumE kind = 0 := by unfold sumE; rw [if_pos h]
    rw [hv, he]
    have hk1 : 1 ≤ kind ∧ kind ≤ 24 := by rcases h with h | h | h | h | h <;> omega
    obtain ⟨k1, k2⟩ := hk1
    have hp := two_pow_62 (k := kind.toNat) (by omega)
    have hp0 := two_pow_pos kind.toNat
    have HKI := Lib.hid h
    have hvn := polyV_yes h
    obtain ⟨V, hV⟩ : ∃ V, polyV kind = V := ⟨_, rfl⟩
    rw [hV] at hvn
    have hv0 : (V == 0) = false := by simp; omega
    have HV := Lib.hid hV
    clear hv he h hr hV hvn
    go_enter Tryd.func52, Tryd.ntmps52
    go_wp2_with fail
    refine (rpoly_any kind w).mono ?_
    rw [HV.out]
    rintro e w' ⟨rfl, rfl⟩
    go_wp2_with fail
    refine (rnext_go kind _ (Crc.top kind) a len cap xs w HKI.out HR.out (top_int kind) (top_lt kind)).mono ?_
    rintro e w' ⟨rfl, hg⟩
    have HG := Lib.hid hg
    clear hg
    go_wp2_with fail
    go_ret2
    exact ⟨rfl, HG.out⟩
  · have hv : sumV kind xs = 0 := by unfold sumV; rw [if_neg h]
    have he : sumE kind = 7 := by unfold sumE; rw [if_neg h]
    rw [hv, he]
    have hvn := polyV_no h
    have HV := Lib.hid hvn
    clear hv he h hr hvn
    go_enter Tryd.func52, Tryd.ntmps52
    go_wp2_with fail
    refine (rpoly_any kind w).mono ?_
    rw [HV.out]
    rintro e w' ⟨rfl, rfl⟩
    go_wp2_with fail
    go_ret2
    exact ⟨rfl, Gr.refl _⟩
end Go.Proofs.YtlnkofpcidngoaaDoor
