/- Layer 03 (check): bursts, bit by bit (plain). -/
import Derived.Test.YtcdfljgpddafoaaDoorCheckPlain
namespace Go.Proofs.YtcdfljgpddafoaaDoor
namespace Crc

def bitAt (ys : List Int) (p : Nat) : Nat := (ys[p / 8]?.getD 0).toNat / 2 ^ (7 - p % 8) % 2
theorem bits8_get (c r : Nat) (h : r < 8) : (bits8 c)[r]? = some (c / 2 ^ (7 - r) % 2) := by
  have : r = 0 ∨ r = 1 ∨ r = 2 ∨ r = 3 ∨ r = 4 ∨ r = 5 ∨ r = 6 ∨ r = 7 := by omega
  rcases this with rfl | rfl | rfl | rfl | rfl | rfl | rfl | rfl <;> simp [bits8]
theorem bitsI_get : ∀ (ys : List Int) (p : Nat), p < 8 * ys.length → (bitsI ys)[p]? = some (bitAt ys p)
  | [], p, h => by simp at h
  | y :: ys, p, h => by
    rw [bitsI_cons]
    by_cases hp : p < 8
    · rw [List.getElem?_append_left (by rw [bits8_len]; exact hp), bits8_get _ _ hp]
      unfold bitAt
      rw [show p / 8 = 0 by omega, show p % 8 = p by omega]
      rfl
    · rw [List.getElem?_append_right (by rw [bits8_len]; omega), bits8_len, bitsI_get ys (p - 8) (by simp at h; omega)]
      unfold bitAt
      rw [show p / 8 = (p - 8) / 8 + 1 by omega, show (p - 8) % 8 = p % 8 by omega]
      rfl
theorem pow_bit (a b : Nat) (ha : a ≤ 7) (hb : b ≤ 7) : 2 ^ a / 2 ^ b % 2 = if a = b then 1 else 0 := by
  have : ∀ a : Fin 8, ∀ b : Fin 8, 2 ^ a.val / 2 ^ b.val % 2 = if a.val = b.val then 1 else 0 := by decide
  exact this ⟨a, by omega⟩ ⟨b, by omega⟩
/-- One bit is turned. -/
theorem bitAt_flip (ys : List Int) (f p : Nat) (hf : f < 8 * ys.length) : bitAt (ys.set (f / 8) (xorI (ys[f / 8]?.getD 0) ((2 ^ (7 - f % 8) : Nat) : Int))) p = bitAt ys p ^^^ (if p = f then 1 else 0) := by
  unfold bitAt
  by_cases h : p / 8 = f / 8
  · rw [h, List.getElem?_set_self (by omega)]
    simp only [Option.getD_some]
    unfold xorI
    rw [Int.toNat_natCast, Int.toNat_natCast, bit_xor _ _ _ ⟨7 - p % 8, rfl⟩, pow_bit _ _ (by omega) (by omega)]
    congr 1
    by_cases hpf : p = f
    · subst hpf; rw [if_pos rfl, if_pos rfl]
    · rw [if_neg hpf, if_neg (by omega)]
  · rw [List.getElem?_set_ne (by omega), if_neg (fun e => h (by rw [e])), Nat.xor_zero]
def mbit (B fr i p : Nat) : Nat := if fr ≤ p ∧ p < fr + i then B / 2 ^ (p - fr) % 2 else 0
/-- What i rounds have made of the bytes. -/
def Turned (xs : List Int) (B fr i : Nat) (ys : List Int) : Prop := ys.length = xs.length ∧ ∀ p, p < 8 * xs.length → bitAt ys p = bitAt xs p ^^^ mbit B fr i p
theorem turned_zero (xs : List Int) (B fr : Nat) : Turned xs B fr 0 xs := ⟨rfl, fun p _ => by unfold mbit; rw [if_neg (by omega), Nat.xor_zero]⟩
theorem mbit_succ (B fr i p : Nat) : mbit B fr (i + 1) p = mbit B fr i p ^^^ (if p = fr + i then B / 2 ^ i % 2 else 0) := by
  unfold mbit
  by_cases h : p = fr + i
  · subst h
    rw [if_pos (by omega), if_neg (by omega), if_pos rfl, Nat.zero_xor, Nat.add_sub_cancel_left]
  · rw [if_neg h, Nat.xor_zero]
    by_cases h2 : fr ≤ p ∧ p < fr + i
    · rw [if_pos (by omega), if_pos h2]
    · rw [if_neg (by omega), if_neg h2]
theorem turned_same {xs ys : List Int} {B fr i : Nat} (h : Turned xs B fr i ys) (hb : B / 2 ^ i % 2 = 0 ∨ 8 * xs.length ≤ fr + i) : Turned xs B fr (i + 1) ys := by
  refine ⟨h.1, fun p hp => ?_⟩
  rw [h.2 p hp, mbit_succ]
  by_cases hpf : p = fr + i
  · rcases hb with hb | hb
    · rw [hb]; simp
    · omega
  · rw [if_neg hpf, Nat.xor_zero]
theorem turned_flip {xs ys : List Int} {B fr i : Nat} (h : Turned xs B fr i ys) (hb : B / 2 ^ i % 2 = 1) (hf : fr + i < 8 * xs.length) :
    Turned xs B fr (i + 1) (ys.set ((fr + i) / 8) (xorI (ys[(fr + i) / 8]?.getD 0) ((2 ^ (7 - (fr + i) % 8) : Nat) : Int))) := by
  refine ⟨by simp [h.1], fun p hp => ?_⟩
  rw [bitAt_flip ys (fr + i) p (by rw [h.1]; exact hf), h.2 p hp, mbit_succ, hb, Nat.xor_assoc]
def chB (B fr N i : Nat) : Bool := (List.range i).any fun t => decide (B / 2 ^ t % 2 = 1) && decide (fr + t < N)
theorem chB_succ (B fr N i : Nat) : chB B fr N (i + 1) = (chB B fr N i || (decide (B / 2 ^ i % 2 = 1) && decide (fr + i < N))) := by
  simp [chB, List.range_succ]
/-- Law CheckBursts. -/
theorem turned_end {kind : Int} (hk : isKind kind) {xs ys : List Int} {B fr : Nat} (hfr : fr < 8 * xs.length) (h : Turned xs B fr kind.toNat ys) (r : Nat) (hr : r < 2 ^ kind.toNat) :
    (regN kind r xs = regN kind r ys ↔ chB B fr (8 * xs.length) kind.toNat = false) := by
  obtain ⟨m, hm⟩ : ∃ m, min kind.toNat (8 * xs.length - fr) = m := ⟨_, rfl⟩
  obtain ⟨word, hw⟩ : ∃ word, (List.range m).map (fun t => B / 2 ^ t % 2) = word := ⟨_, rfl⟩
  have hwl : word.length = m := by rw [← hw]; simp
  have hwb : isBits word := by
    intro b hb
    rw [← hw] at hb
    simp only [List.mem_map] at hb
    obtain ⟨t, _, rfl⟩ := hb
    omega
  have hc : bitsI ys = List.zipWith (· ^^^ ·) (bitsI xs) (List.replicate fr 0 ++ word ++ List.replicate (8 * xs.length - fr - m) 0) := by
    apply List.ext_getElem?
    intro p
    by_cases hp : p < 8 * xs.length
    · rw [bitsI_get ys p (by rw [h.1]; exact hp), h.2 p hp, List.getElem?_zipWith, bitsI_get xs p hp]
      have e : (List.replicate fr 0 ++ word ++ List.replicate (8 * xs.length - fr - m) 0)[p]? = some (mbit B fr kind.toNat p) := by
        unfold mbit
        by_cases h1 : p < fr
        · rw [if_neg (by omega), List.getElem?_append_left (by simp [hwl]; omega), List.getElem?_append_left (by simpa using h1), List.getElem?_replicate, if_pos h1]
        · by_cases h2 : p < fr + m
          · rw [if_pos (by omega), List.getElem?_append_left (by simp [hwl]; omega), List.getElem?_append_right (by simp; omega), List.length_replicate, ← hw, List.getElem?_map, List.getElem?_range (by omega)]
            rfl
          · rw [if_neg (by omega), List.getElem?_append_right (by simp [hwl]; omega), List.getElem?_replicate, if_pos (by simp [hwl]; omega)]
      rw [e]
    · rw [List.getElem?_eq_none (by rw [bitsI_len, h.1]; omega), List.getElem?_eq_none]
      simp [bitsI_len, hwl]
      omega
  have h1 := feed_diff (kind_of hk) r fr m (8 * xs.length - fr - m) word (bitsI xs) (bitsI ys) hr (bitsI_bits xs) hwb hwl (by omega) (by rw [bitsI_len]; omega) hc
  unfold regN
  rw [h1, val_zero]
  constructor
  · intro h2
    unfold chB
    rw [List.any_eq_false]
    intro t ht
    simp only [List.mem_range] at ht
    simp only [Bool.and_eq_true, decide_eq_true_eq, not_and]
    intro hb hlt
    have : B / 2 ^ t % 2 ∈ word := by rw [← hw]; simp only [List.mem_map, List.mem_range]; exact ⟨t, by omega, rfl⟩
    have := h2 _ this
    omega
  · intro h2 b hb
    rw [← hw] at hb
    simp only [List.mem_map, List.mem_range] at hb
    obtain ⟨t, ht, rfl⟩ := hb
    unfold chB at h2
    rw [List.any_eq_false] at h2
    have h3 := h2 t (by simp only [List.mem_range]; omega)
    simp only [Bool.and_eq_true, decide_eq_true_eq, not_and] at h3
    by_cases hb : B / 2 ^ t % 2 = 1
    · exact absurd (by omega) (h3 hb)
    · omega
end Crc
end Go.Proofs.YtcdfljgpddafoaaDoor
