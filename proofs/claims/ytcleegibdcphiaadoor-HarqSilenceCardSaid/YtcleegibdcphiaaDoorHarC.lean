/- Layer 29 (harq): pack, plain. -/
import Derived.Test.YtcleegibdcphiaaDoorHarB
namespace Go.Proofs.YtcleegibdcphiaaDoor
open Go.ChangeShapes Go.WideShapes Go.ChangeAt Go.RowKit

def valL : List Int → Int := fun l => l.foldl (fun v x => 2 * v + x) 0
theorem valL_snoc (l : List Int) (x : Int) : valL (l ++ [x]) = 2 * valL l + x := by simp [valL]
theorem valL_rng : ∀ (n : Nat) (l : List Int), l.length = n → (∀ x ∈ l, x = 0 ∨ x = 1) → 0 ≤ valL l ∧ valL l < 2 ^ n := by
  intro n
  induction n with
  | zero => intro l hl _; rw [List.length_eq_zero_iff.1 hl]; exact ⟨by decide, by decide⟩
  | succ n ih =>
    intro l hl hb
    have hne : l ≠ [] := by intro h; rw [h] at hl; simp at hl
    have hsp := List.dropLast_concat_getLast hne
    have hx := hb (l.getLast hne) (List.getLast_mem hne)
    have h1 := ih l.dropLast (by simp [hl]) (fun x hx => hb x (by have := List.mem_append_left [l.getLast hne] hx; rw [hsp] at this; exact this))
    rw [← hsp, valL_snoc, Int.pow_succ]
    omega
/-- The bits of place p that have come by step i. -/
def gotL (l : List Int) (i p : Nat) : List Int := (l.drop (8 * p)).take (min 8 (i - 8 * p))
def stP (l : List Int) (n i : Nat) : List Int := (List.range n).map fun p => valL (gotL l i p) * 2 ^ (8 - min 8 (i - 8 * p))
def stR (l : List Int) (n i : Nat) : List Int := (List.range n).map fun p => valL (gotL l i p)
def packL (l : List Int) (n : Nat) : List Int := (List.range n).map fun p => valL ((l.drop (8 * p)).take 8)
theorem stP_zero (l : List Int) (n : Nat) : stP l n 0 = List.replicate n 0 := by
  unfold stP gotL
  refine List.ext_getElem (by simp) fun p h1 h2 => ?_
  simp [valL]
theorem stR_zero (l : List Int) (n : Nat) : stR l n 0 = List.replicate n 0 := by
  unfold stR gotL
  refine List.ext_getElem (by simp) fun p h1 h2 => ?_
  simp [valL]
theorem stP_all (l : List Int) (n : Nat) : stP l n (8 * n) = packL l n := by
  unfold stP gotL packL
  refine List.map_congr_left fun p hp => ?_
  have := List.mem_range.1 hp
  rw [show min 8 (8 * n - 8 * p) = 8 by omega]; simp
theorem stR_all (l : List Int) (n : Nat) : stR l n (8 * n) = packL l n := by
  unfold stR gotL packL
  refine List.map_congr_left fun p hp => ?_
  have := List.mem_range.1 hp
  rw [show min 8 (8 * n - 8 * p) = 8 by omega]
theorem gotL_other (i p : Nat) (h : p ≠ i / 8) : min 8 (i + 1 - 8 * p) = min 8 (i - 8 * p) := by omega
theorem gotL_step (l : List Int) (i : Nat) (h : i < l.length) : gotL l (i + 1) (i / 8) = gotL l i (i / 8) ++ [l[i]?.getD 0] := by
  unfold gotL
  rw [show min 8 (i + 1 - 8 * (i / 8)) = i % 8 + 1 by omega, show min 8 (i - 8 * (i / 8)) = i % 8 by omega]
  have hl : i % 8 < (l.drop (8 * (i / 8))).length := by simp; omega
  rw [take_one _ _ hl]
  congr 2
  rw [List.getElem?_drop, show 8 * (i / 8) + i % 8 = i by omega]
theorem stP_step (l : List Int) (n i : Nat) (h : i < l.length) : stP l n (i + 1) = (stP l n i).set (i / 8) ((2 * valL (gotL l i (i / 8)) + l[i]?.getD 0) * 2 ^ (7 - i % 8)) := by
  refine List.ext_getElem (by simp [stP]) fun p h1 h2 => ?_
  have hp : p < n := by simpa [stP] using h1
  rw [List.getElem_set]
  by_cases he : i / 8 = p
  · subst he
    rw [if_pos rfl]
    simp only [stP, List.getElem_map, List.getElem_range]
    rw [gotL_step l i h, valL_snoc, show 8 - min 8 (i + 1 - 8 * (i / 8)) = 7 - i % 8 by omega]
  · rw [if_neg he]
    simp only [stP, List.getElem_map, List.getElem_range]
    unfold gotL
    rw [gotL_other i p (by omega)]
theorem stR_step (l : List Int) (n i : Nat) (h : i < l.length) : stR l n (i + 1) = (stR l n i).set (i / 8) (2 * valL (gotL l i (i / 8)) + l[i]?.getD 0) := by
  refine List.ext_getElem (by simp [stR]) fun p h1 h2 => ?_
  have hp : p < n := by simpa [stR] using h1
  rw [List.getElem_set]
  by_cases he : i / 8 = p
  · subst he
    rw [if_pos rfl]
    simp only [stR, List.getElem_map, List.getElem_range]
    rw [gotL_step l i h, valL_snoc]
  · rw [if_neg he]
    simp only [stR, List.getElem_map, List.getElem_range]
    unfold gotL
    rw [gotL_other i p (by omega)]
theorem stP_at (l : List Int) (n i : Nat) (hn : i < 8 * n) : (stP l n i)[i / 8]?.getD 0 = valL (gotL l i (i / 8)) * 2 ^ (8 - i % 8) := by
  unfold stP
  rw [List.getElem?_map, List.getElem?_range (by omega)]
  simp only [Option.map_some, Option.getD_some]
  rw [show 8 - min 8 (i - 8 * (i / 8)) = 8 - i % 8 by omega]
theorem stR_at (l : List Int) (n i : Nat) (hn : i < 8 * n) : (stR l n i)[i / 8]?.getD 0 = valL (gotL l i (i / 8)) := by
  unfold stR
  rw [List.getElem?_map, List.getElem?_range (by omega)]
  rfl
theorem gotL_rng (l : List Int) (i : Nat) (h : i < l.length) (hb : ∀ x ∈ l, x = 0 ∨ x = 1) : 0 ≤ valL (gotL l i (i / 8)) ∧ valL (gotL l i (i / 8)) < 2 ^ (i % 8) := by
  refine valL_rng (i % 8) _ ?_ ?_
  · unfold gotL; rw [List.length_take, List.length_drop]; omega
  · intro x hx; exact hb x (List.mem_of_mem_drop (List.mem_of_mem_take hx))
/-- The packing of the program: or with a bit below all that is there. -/
theorem or_fin : ∀ (j : Fin 8) (V : Fin 128) (x : Fin 2), V.val < 2 ^ j.val → bits .or .u8 ((V.val : Int) * 2 ^ (8 - j.val)) ((x.val : Int) * 2 ^ (7 - j.val)) = (2 * (V.val : Int) + x.val) * 2 ^ (7 - j.val) := by decide +kernel
theorem or_bit {V x : Int} {j : Nat} (h : 0 ≤ V ∧ V < 2 ^ j) (hx : x = 0 ∨ x = 1) (hj : j < 8) : bits .or .u8 (V * 2 ^ (8 - j)) (wrap64 (x * 2 ^ (7 - j)) % 256) = (2 * V + x) * 2 ^ (7 - j) := by
  obtain ⟨v, rfl⟩ : ∃ v : Nat, V = v := ⟨V.toNat, by omega⟩
  have hv : v < 2 ^ j := by have := h.2; exact_mod_cast this
  have hv7 : v < 128 := Nat.lt_of_lt_of_le hv (Nat.pow_le_pow_right (by decide) (by omega) : 2 ^ j ≤ 2 ^ 7)
  have e : wrap64 (x * 2 ^ (7 - j)) % 256 = x * 2 ^ (7 - j) := by
    have hj' : j = 0 ∨ j = 1 ∨ j = 2 ∨ j = 3 ∨ j = 4 ∨ j = 5 ∨ j = 6 ∨ j = 7 := by omega
    rcases hx with rfl | rfl <;> rcases hj' with rfl | rfl | rfl | rfl | rfl | rfl | rfl | rfl <;> decide +kernel
  rw [e]
  rcases hx with rfl | rfl
  · exact or_fin ⟨j, hj⟩ ⟨v, hv7⟩ 0 hv
  · exact or_fin ⟨j, hj⟩ ⟨v, hv7⟩ 1 hv
theorem or_rng {V x : Int} {j : Nat} (h : 0 ≤ V ∧ V < 2 ^ j) (hx : x = 0 ∨ x = 1) (hj : j < 8) : 0 ≤ (2 * V + x) * 2 ^ (7 - j) ∧ (2 * V + x) * 2 ^ (7 - j) ≤ 255 := by
  have hj' : j = 0 ∨ j = 1 ∨ j = 2 ∨ j = 3 ∨ j = 4 ∨ j = 5 ∨ j = 6 ∨ j = 7 := by omega
  rcases hj' with rfl | rfl | rfl | rfl | rfl | rfl | rfl | rfl <;> (simp only [Nat.sub_zero, Nat.reduceSub, Int.reducePow] at h ⊢; omega)
theorem v_127 {V : Int} {j : Nat} (h : 0 ≤ V ∧ V < 2 ^ j) (hj : j < 8) : 0 ≤ V ∧ V ≤ 127 := by
  have hj' : j = 0 ∨ j = 1 ∨ j = 2 ∨ j = 3 ∨ j = 4 ∨ j = 5 ∨ j = 6 ∨ j = 7 := by omega
  rcases hj' with rfl | rfl | rfl | rfl | rfl | rfl | rfl | rfl <;> (simp only [Int.reducePow] at h; omega)
/-- The packing of the reference. -/
theorem orr_fin : ∀ (V : Fin 128) (x : Fin 2), bits .or .u8 ((V.val : Int) * 2) (x.val : Int) = 2 * (V.val : Int) + x.val := by decide +kernel
theorem orr_bit {V x : Int} (h : 0 ≤ V ∧ V ≤ 127) (hx : x = 0 ∨ x = 1) : bits .or .u8 (V * 2) x = 2 * V + x := by
  obtain ⟨v, rfl⟩ : ∃ v : Nat, V = v := ⟨V.toNat, by omega⟩
  rcases hx with rfl | rfl
  · exact orr_fin ⟨v, by omega⟩ 0
  · exact orr_fin ⟨v, by omega⟩ 1
end Go.Proofs.YtcleegibdcphiaaDoor
