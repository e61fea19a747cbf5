/- Layer 29 (harq), plain: transmissions of different blocks differ. -/
import Derived.Test.YtcleegibdcphiaaDoorHarU
namespace Go.Proofs.YtcleegibdcphiaaDoor
open Go.ChangeShapes Go.WideShapes Go.ChangeAt Go.RowKit
open Cod

theorem xor29 {x k : Int} (hx : 0 ≤ x ∧ x ≤ 255) (hk : 1 ≤ k ∧ k ≤ 255) : (0 ≤ bits .xor .u8 x k ∧ bits .xor .u8 x k ≤ 255) ∧ bits .xor .u8 x k ≠ x := by
  have e : ∀ z : Int, 0 ≤ z → z ≤ 255 → (BitVec.ofInt 8 z).toNat = z.toNat := by
    intro z h0 h1
    rw [BitVec.toNat_ofInt]
    congr 1
    have : ((2 ^ 8 : Nat) : Int) = 256 := by decide
    rw [this]; omega
  have hb : bits .xor .u8 x k = ((x.toNat ^^^ k.toNat : Nat) : Int) := by
    show IntKind.u8.wrap (((BitVec.ofInt 8 x) ^^^ (BitVec.ofInt 8 k)).toNat : Int) = _
    rw [BitVec.toNat_xor, e x hx.1 hx.2, e k (by omega) hk.2]
    have h : x.toNat ^^^ k.toNat < 2 ^ 8 := Nat.xor_lt_two_pow (by omega) (by omega)
    generalize x.toNat ^^^ k.toNat = z at h
    unfold IntKind.wrap
    have : ((2 ^ 8 : Nat) : Int) = 256 := by decide
    simp [IntKind.signed, IntKind.bits]
    omega
  have h : x.toNat ^^^ k.toNat < 2 ^ 8 := Nat.xor_lt_two_pow (by omega) (by omega)
  rw [hb]
  refine ⟨by omega, fun h2 => ?_⟩
  have h3 : x.toNat ^^^ k.toNat = x.toNat := by omega
  have h4 : x.toNat ^^^ (x.toNat ^^^ k.toNat) = k.toNat := by rw [← Nat.xor_assoc, Nat.xor_self, Nat.zero_xor]
  rw [h3, Nat.xor_self] at h4
  omega
theorem word_inj {a b : List Int} (ha : ∀ x ∈ a, 0 ≤ x ∧ x ≤ 255) (hb : ∀ x ∈ b, 0 ≤ x ∧ x ≤ 255) (hl : a.length = b.length) (h : wordL a = wordL b) : a = b := by
  unfold wordL at h
  have h1 := congrArg (List.take (8 * a.length)) h
  rw [List.take_append_of_le_length (by rw [bitsL_len]; exact Nat.le_refl _), List.take_append_of_le_length (by rw [bitsL_len, hl]; exact Nat.le_refl _), List.take_of_length_le (by rw [bitsL_len]; exact Nat.le_refl _), List.take_of_length_le (by rw [bitsL_len, hl]; exact Nat.le_refl _)] at h1
  rw [← pack_bits a ha, ← pack_bits b hb, h1, hl]
theorem enc_inj {a b : List Int} (hl : a.length = b.length) (ha : isBits a) (hb : isBits b) (h : enc a = enc b) : a = b := by
  by_cases he : a = b
  · exact he
  · have hf := enc_far hl ha hb he
    rw [h] at hf
    have h0 : ∀ l : List Int, isBits l → wt (sum2 l l) = 0 := by
      intro l
      induction l with
      | nil => intro _; rfl
      | cons x l ih =>
        intro hx
        obtain ⟨h1, h2⟩ := hx.cons
        have h3 := ih h2
        unfold sum2 at h3 ⊢
        simp only [List.zipWith_cons_cons, wt]
        rcases h1 with rfl | rfl <;> simpa using h3
    rw [h0 (enc b) (encS_bits _ _)] at hf
    omega
theorem plc_all {T v p : Nat} (hp : p < T) (hv : v < 4) : ∃ k, k < T ∧ plc T v k = p := by
  unfold plc
  obtain ⟨b, hb⟩ : ∃ b, v * T / 4 = b := ⟨_, rfl⟩
  have hbT : b < T := by
    have : v = 0 ∨ v = 1 ∨ v = 2 ∨ v = 3 := by omega
    rcases this with rfl | rfl | rfl | rfl <;> omega
  rw [hb]
  by_cases h : b ≤ p
  · exact ⟨p - b, by omega, by rw [show b + (p - b) = p by omega]; exact Nat.mod_eq_of_lt hp⟩
  · exact ⟨p + T - b, by omega, by rw [show b + (p + T - b) = p + T by omega, Nat.add_mod_right]; exact Nat.mod_eq_of_lt hp⟩
theorem sent_inj {a b : List Int} (ha : ∀ x ∈ a, 0 ≤ x ∧ x ≤ 255) (hb : ∀ x ∈ b, 0 ≤ x ∧ x ≤ 255) (hl : a.length = b.length) {v : Nat} (hv : v < 4) (h : sentL a v (totN a.length) = sentL b v (totN a.length)) : a = b := by
  refine word_inj ha hb hl (enc_inj (by rw [wordL_len, wordL_len, hl]) (wordL_bits a) (wordL_bits b) ?_)
  apply ext_getD
  · rw [encW_len, encW_len, hl]
  · intro p hp
    rw [encW_len] at hp
    obtain ⟨k, hk, rfl⟩ := plc_all (v := v) hp hv
    have h1 := sentL_at a v (totN a.length) k hk
    have h2 := sentL_at b v (totN a.length) k hk
    rw [h] at h1
    rw [← hl] at h2
    rw [← h1, ← h2]
end Go.Proofs.YtcleegibdcphiaaDoor
