/- Layer 03 (check): bits of bytes, the registers behind them, and what the laws say of them (plain). -/
import Derived.Test.YtcleegibdcphiaaDoorCrc
namespace Go.Proofs.YtcleegibdcphiaaDoor
namespace Crc

def bits8 (c : Nat) : List Nat := [c / 128 % 2, c / 64 % 2, c / 32 % 2, c / 16 % 2, c / 8 % 2, c / 4 % 2, c / 2 % 2, c % 2]
def bitsI (xs : List Int) : List Nat := xs.flatMap fun x => bits8 x.toNat
theorem bitsI_cons (x : Int) (xs : List Int) : bitsI (x :: xs) = bits8 x.toNat ++ bitsI xs := rfl
theorem bitsI_append (xs ys : List Int) : bitsI (xs ++ ys) = bitsI xs ++ bitsI ys := by simp [bitsI]
theorem bits8_bits (c : Nat) : isBits (bits8 c) := by
  intro b hb
  simp only [bits8, List.mem_cons, List.not_mem_nil, or_false] at hb
  omega
theorem bitsI_bits (xs : List Int) : isBits (bitsI xs) := by
  intro b hb
  simp only [bitsI, List.mem_flatMap] at hb
  obtain ⟨x, _, h⟩ := hb
  exact bits8_bits _ b h
theorem bits8_len (c : Nat) : (bits8 c).length = 8 := rfl
theorem bitsI_len : ∀ (xs : List Int), (bitsI xs).length = 8 * xs.length
  | [] => rfl
  | x :: xs => by rw [bitsI_cons, List.length_append, bitsI_len xs, bits8_len, List.length_cons]; omega
/-- The polynomial of a width; 0 if there is none. -/
def polyV (kind : Int) : Int := if kind = 3 then 3 else if kind = 7 then 9 else if kind = 8 then 7 else if kind = 16 then 4129 else if kind = 24 then 8801531 else 0
def isKind (kind : Int) : Prop := kind = 3 ∨ kind = 7 ∨ kind = 8 ∨ kind = 16 ∨ kind = 24
instance (kind : Int) : Decidable (isKind kind) := by unfold isKind; infer_instance
theorem polyV_no {kind : Int} (h : ¬ isKind kind) : polyV kind = 0 := by
  unfold isKind at h
  unfold polyV
  rw [if_neg (by omega), if_neg (by omega), if_neg (by omega), if_neg (by omega), if_neg (by omega)]
theorem polyV_yes {kind : Int} (h : isKind kind) : polyV kind ≠ 0 := by
  rcases h with rfl | rfl | rfl | rfl | rfl <;> decide
structure Kind (k p : Nat) : Prop where
  one : 1 ≤ k
  odd : p % 2 = 1
  lt : p < 2 ^ k
theorem kind_of {kind : Int} (h : isKind kind) : Kind kind.toNat (polyV kind).toNat := by
  rcases h with rfl | rfl | rfl | rfl | rfl <;> exact ⟨by decide, by decide, by decide⟩
/-- The register behind bytes. -/
def regN (kind : Int) (r : Nat) (xs : List Int) : Nat := feed kind.toNat (polyV kind).toNat r (bitsI xs)
def top (kind : Int) : Nat := 2 ^ kind.toNat - 1
theorem top_lt (kind : Int) : top kind < 2 ^ kind.toNat := by unfold top; have := Nat.two_pow_pos kind.toNat; omega
theorem regN_lt {kind : Int} (h : isKind kind) {r : Nat} (hr : r < 2 ^ kind.toNat) (xs : List Int) : regN kind r xs < 2 ^ kind.toNat := feed_lt (kind_of h).lt _ _ hr
theorem regN_append (kind : Int) (r : Nat) (xs ys : List Int) : regN kind r (xs ++ ys) = regN kind (regN kind r xs) ys := by
  unfold regN; rw [bitsI_append, feed_append]
def xorI (x y : Int) : Int := ((x.toNat ^^^ y.toNat : Nat) : Int)
theorem bit_xor (a b d : Nat) (hd : ∃ i, d = 2 ^ i) : (a ^^^ b) / d % 2 = (a / d % 2) ^^^ (b / d % 2) := by
  obtain ⟨i, rfl⟩ := hd
  have h : ∀ n : Nat, n / 2 ^ i % 2 = (n.testBit i).toNat := by
    intro n
    rw [Nat.testBit_eq_decide_div_mod_eq]
    have := Nat.mod_two_eq_zero_or_one (n / 2 ^ i)
    rcases this with h | h <;> simp [h]
  rw [h, h, h, Nat.testBit_xor]
  cases a.testBit i <;> cases b.testBit i <;> rfl
theorem bits8_xor (a b : Nat) : bits8 (a ^^^ b) = List.zipWith (· ^^^ ·) (bits8 a) (bits8 b) := by
  have h1 : (a ^^^ b) % 2 = (a % 2) ^^^ (b % 2) := by
    have := bit_xor a b 1 ⟨0, rfl⟩
    simpa using this
  simp only [bits8, List.zipWith_cons_cons, List.zipWith_nil_left, h1, bit_xor a b 128 ⟨7, rfl⟩, bit_xor a b 64 ⟨6, rfl⟩, bit_xor a b 32 ⟨5, rfl⟩, bit_xor a b 16 ⟨4, rfl⟩, bit_xor a b 8 ⟨3, rfl⟩, bit_xor a b 4 ⟨2, rfl⟩, bit_xor a b 2 ⟨1, rfl⟩]
theorem bitsI_xor : ∀ (xs ys : List Int), xs.length = ys.length → bitsI (List.zipWith xorI xs ys) = List.zipWith (· ^^^ ·) (bitsI xs) (bitsI ys)
  | [], [], _ => rfl
  | x :: xs, y :: ys, h => by
    rw [List.zipWith_cons_cons, bitsI_cons, bitsI_cons, bitsI_cons, List.zipWith_append (by simp [bits8_len]), bitsI_xor xs ys (by simpa using h)]
    congr 1
    exact bits8_xor _ _
/-- Law CheckLinear. -/
theorem regN_lin (kind : Int) (r s : Nat) (xs ys : List Int) (h : xs.length = ys.length) : regN kind (r ^^^ s) (List.zipWith xorI xs ys) = regN kind r xs ^^^ regN kind s ys := by
  unfold regN
  rw [bitsI_xor xs ys h]
  exact feed_lin _ _ _ _ _ _ (by rw [bitsI_len, bitsI_len, h]) (bitsI_bits _) (bitsI_bits _)
/-! ### Bursts -/
/-- The bits of which i says which are turned, from a place on. -/
theorem feed_diff {k p : Nat} (hK : Kind k p) (r n m q : Nat) (word bs cs : List Nat) (_hr : r < 2 ^ k) (hb : isBits bs) (hw : isBits word) (hwl : word.length = m) (hmk : m ≤ k) (hlen : bs.length = n + m + q)
    (hc : cs = List.zipWith (· ^^^ ·) bs (List.replicate n 0 ++ word ++ List.replicate q 0)) : feed k p r bs = feed k p r cs ↔ val word = 0 := by
  have hD : isBits (List.replicate n 0 ++ word ++ List.replicate q 0) := by
    intro b hb
    simp only [List.mem_append, List.mem_replicate] at hb
    rcases hb with (⟨_, rfl⟩ | hb) | ⟨_, rfl⟩
    · omega
    · exact hw b hb
    · omega
  have h1 := feed_lin k p bs (List.replicate n 0 ++ word ++ List.replicate q 0) r 0 (by simp [hwl, hlen]; omega) hb hD
  rw [Nat.xor_zero, ← hc] at h1
  have h2 : feed k p 0 (List.replicate n 0 ++ word ++ List.replicate q 0) = feed k p (val word * 2 ^ (k - m)) (List.replicate (m + q) 0) := by
    rw [feed_append, feed_append, feed_0, feed_word hK.one hK.lt word 0 (by omega) hw (Nat.two_pow_pos k), Nat.zero_xor, hwl, ← feed_append, List.replicate_append_replicate]
  rw [h1, h2]
  have hv := val_lt word hw
  have hlt : val word * 2 ^ (k - m) < 2 ^ k := by
    have : 2 ^ m * 2 ^ (k - m) = 2 ^ k := by rw [← Nat.pow_add]; congr 1; omega
    rw [← this]
    rw [hwl] at hv
    exact Nat.mul_lt_mul_of_pos_right hv (Nat.two_pow_pos _)
  constructor
  · intro h
    have h0 : feed k p (val word * 2 ^ (k - m)) (List.replicate (m + q) 0) = 0 := by
      have h3 : feed k p r bs ^^^ feed k p r bs = feed k p r bs ^^^ (feed k p r bs ^^^ feed k p (val word * 2 ^ (k - m)) (List.replicate (m + q) 0)) := congrArg _ h
      rw [Nat.xor_self, ← Nat.xor_assoc, Nat.xor_self, Nat.zero_xor] at h3
      exact h3.symm
    have h4 := feed_zeros hK.one hK.odd hK.lt _ _ hlt h0
    rcases Nat.mul_eq_zero.1 h4 with h5 | h5
    · exact h5
    · have := Nat.two_pow_pos (k - m); omega
  · intro h
    rw [h, Nat.zero_mul, feed_0, Nat.xor_zero]
theorem val_zero : ∀ (l : List Nat), val l = 0 ↔ ∀ b ∈ l, b = 0
  | [] => by simp [val]
  | b :: t => by
    have ih := val_zero t
    have := Nat.two_pow_pos t.length
    simp only [val, List.mem_cons, forall_eq_or_imp]
    rw [← ih, Nat.add_eq_zero_iff, Nat.mul_eq_zero]
    constructor
    · rintro ⟨h1 | h1, h2⟩
      · exact ⟨h1, h2⟩
      · omega
    · rintro ⟨h1, h2⟩; exact ⟨.inl h1, h2⟩
/-! ### The check value itself goes in -/
theorem feed_own {k p : Nat} (hK : Kind k p) (r : Nat) (hr : r < 2 ^ k) (word : List Nat) (hw : isBits word) (hl : word.length = k) : feed k p r word = 0 ↔ val word = r := by
  have h := feed_word hK.one hK.lt word r (by omega) hw hr
  rw [hl, Nat.sub_self, Nat.pow_zero, Nat.mul_one] at h
  have hv := val_lt word hw
  rw [hl] at hv
  rw [h]
  constructor
  · intro h0
    have h1 := feed_zeros hK.one hK.odd hK.lt k _ (xor_lt hr hv) h0
    have h2 : r ^^^ (r ^^^ val word) = r ^^^ 0 := by rw [h1]
    rw [← Nat.xor_assoc, Nat.xor_self, Nat.zero_xor, Nat.xor_zero] at h2
    exact h2
  · intro h0
    rw [h0, Nat.xor_self]; exact feed_0 k p k
theorem val_append : ∀ (a b : List Nat), val (a ++ b) = val a * 2 ^ b.length + val b
  | [], b => by simp [val]
  | x :: a, b => by
    simp only [List.cons_append, val, val_append a b, List.length_append, Nat.pow_add, Nat.add_mul, Nat.mul_assoc]
    omega
theorem val_bits8 (c : Nat) (h : c < 256) : val (bits8 c) = c := by
  simp only [bits8, val, List.length_cons, List.length_nil]
  omega
end Crc
end Go.Proofs.YtcleegibdcphiaaDoor
