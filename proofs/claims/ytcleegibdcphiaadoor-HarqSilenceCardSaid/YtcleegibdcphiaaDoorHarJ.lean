/- Layer 29 (harq): packing and taking apart, plain. -/
import Derived.Test.YtcleegibdcphiaaDoorHarC
namespace Go.Proofs.YtcleegibdcphiaaDoor

theorem val_bitI_fin : ∀ x : Fin 256, valL (bitI (x.val : Int)) = (x.val : Int) := by decide +kernel
theorem val_bitI {x : Int} (h0 : 0 ≤ x) (h1 : x ≤ 255) : valL (bitI x) = x := by
  have h := val_bitI_fin ⟨x.toNat, by omega⟩
  rw [show (((⟨x.toNat, by omega⟩ : Fin 256)).val : Int) = x by simp; omega] at h
  exact h
theorem bitsL_at : ∀ (b : List Int) (p : Nat), p < b.length → ((bitsL b).drop (8 * p)).take 8 = bitI (b[p]?.getD 0)
  | x :: r, 0, _ => by rw [bitsL_cons]; rfl
  | x :: r, p + 1, h => by
    have e : (bitI x ++ bitsL r).drop (8 * (p + 1)) = (bitsL r).drop (8 * p) := by
      rw [List.drop_append, List.drop_of_length_le (by rw [bitI_len]; omega), bitI_len, List.nil_append]
      congr 1
    rw [bitsL_cons, e, bitsL_at r p (by simpa using h)]
    rfl
theorem pack_bits (b : List Int) (hb : ∀ x ∈ b, 0 ≤ x ∧ x ≤ 255) : packL (bitsL b) b.length = b := by
  unfold packL
  refine List.ext_getElem (by simp) fun p h1 h2 => ?_
  simp only [List.getElem_map, List.getElem_range]
  rw [bitsL_at b p h2, List.getElem?_eq_getElem h2]
  have h := hb b[p] (List.getElem_mem _)
  exact val_bitI h.1 h.2
end Go.Proofs.YtcleegibdcphiaaDoor
