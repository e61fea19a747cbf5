/- Layer 29 (harq), plain: what is sent, what is collected, what is decoded. -/
import Derived.Test.YtcleegibdcphiaaDoorHarE
import Derived.Test.YtcleegibdcphiaaDoorHarJ
import Derived.Test.YtcleegibdcphiaaDoorCodePos
import Derived.Test.YtcleegibdcphiaaDoorCodeCorr
namespace Go.Proofs.YtcleegibdcphiaaDoor
open Cod

def clipI (x : Int) : Int := if x < -127 then -127 else if 127 < x then 127 else x
theorem clipI_rng (x : Int) : -127 ≤ clipI x ∧ clipI x ≤ 127 := by unfold clipI; split <;> (try split) <;> omega
theorem clipI_in {x : Int} (h : -127 ≤ x ∧ x ≤ 127) : clipI x = x := by unfold clipI; rw [if_neg (by omega), if_neg (by omega)]
/-- The number of coded bits of a block of len bytes. -/
def totN (len : Nat) : Nat := 2 * (8 * len + 18)
/-- The place of the k-th bit of a transmission. -/
def plc (t v k : Nat) : Nat := (v * t / 4 + k) % t
theorem plc_lt {t v k : Nat} (h : 0 < t) : plc t v k < t := Nat.mod_lt _ h
theorem posL_plc (t v c k : Nat) (h : k < c) : (posL t v c)[k]?.getD 0 = ((plc t v k : Nat) : Int) := posL_at t v c k h
/-- The bits of a transmission. -/
def sentL (blk : List Int) (v c : Nat) : List Int := (List.range c).map fun k => (enc (wordL blk))[plc (totN blk.length) v k]?.getD 0
theorem sentL_len (blk : List Int) (v c : Nat) : (sentL blk v c).length = c := by simp [sentL]
theorem sentL_at (blk : List Int) (v c k : Nat) (h : k < c) : (sentL blk v c)[k]?.getD 0 = (enc (wordL blk))[plc (totN blk.length) v k]?.getD 0 := by
  unfold sentL
  rw [List.getElem?_map, List.getElem?_range h]; rfl
theorem bitI_bits (x : Int) : isBits (bitI x) := by
  intro y hy
  unfold bitI at hy
  rw [List.mem_map] at hy
  obtain ⟨b, hb, rfl⟩ := hy
  have h : b = 0 ∨ b = 1 := by
    unfold Crc.bits8 at hb
    simp only [List.mem_cons, List.not_mem_nil, or_false] at hb
    omega
  rcases h with rfl | rfl
  · exact .inl rfl
  · exact .inr rfl
theorem bitsL_bits : ∀ xs : List Int, isBits (bitsL xs)
  | [] => by intro y hy; simp [bitsL] at hy
  | x :: xs => by
    intro y hy
    rw [bitsL_cons, List.mem_append] at hy
    rcases hy with h | h
    · exact bitI_bits x y h
    · exact bitsL_bits xs y h
theorem wordL_bits (xs : List Int) : isBits (wordL xs) := by
  intro y hy
  unfold wordL at hy
  rw [List.mem_append] at hy
  rcases hy with h | h
  · exact bitsL_bits _ y h
  · exact bitsL_bits _ y h
theorem encW_len (blk : List Int) : (enc (wordL blk)).length = totN blk.length := by rw [enc_len, wordL_len]; unfold totN; omega
theorem encW_bits (blk : List Int) : isBits (enc (wordL blk)) := encS_bits _ _
theorem sentL_bits (blk : List Int) (v c : Nat) : isBits (sentL blk v c) := by
  intro y hy
  unfold sentL at hy
  rw [List.mem_map] at hy
  obtain ⟨k, _, rfl⟩ := hy
  exact bit_at (encW_bits blk) _
/-- What is collected behind k soft bits of a transmission. -/
def colL (ss l : List Int) (t v : Nat) : Nat → List Int
  | 0 => ss
  | k + 1 => (colL ss l t v k).set (plc t v k) (clipI ((colL ss l t v k)[plc t v k]?.getD 0 + l[k]?.getD 0))
theorem colL_len (ss l : List Int) (t v : Nat) : ∀ k, (colL ss l t v k).length = ss.length
  | 0 => rfl
  | k + 1 => by simp [colL, colL_len ss l t v k]
theorem colL_ok {ss : List Int} (l : List Int) (t v : Nat) (h : softOk ss) : ∀ k, softOk (colL ss l t v k)
  | 0 => h
  | k + 1 => by
    intro x hx
    unfold colL at hx
    rcases List.mem_or_eq_of_mem_set hx with h1 | h1
    · exact colL_ok l t v h k x h1
    · rw [h1]; exact clipI_rng _
theorem softOk_at {ss : List Int} (h : softOk ss) (i : Nat) : -127 ≤ ss[i]?.getD 0 ∧ ss[i]?.getD 0 ≤ 127 := by
  by_cases hi : i < ss.length
  · rw [List.getElem?_eq_getElem hi]; exact h _ (List.getElem_mem hi)
  · rw [List.getElem?_eq_none (by omega)]; simp
/-- What is decoded out of the soft bits of a block of n bytes: the block, and whether its check value is right. -/
def decB (S : List Int) (n : Nat) : List Int := packL ((dec (8 * n + 16) S 0).take (8 * n)) n
def decOk (S : List Int) (n : Nat) : Bool := decide (wordL (decB S n) = dec (8 * n + 16) S 0)
theorem packL_take (L : List Int) (n : Nat) : packL (L.take (8 * n)) n = packL L n := by
  unfold packL
  apply List.map_congr_left
  intro p hp
  have hp' : p < n := List.mem_range.1 hp
  congr 1
  rw [List.drop_take, List.take_take]
  congr 1
  omega
theorem decB_word {S blk : List Int} (hb : ∀ x ∈ blk, 0 ≤ x ∧ x ≤ 255) (h : dec (8 * blk.length + 16) S 0 = wordL blk) : decB S blk.length = blk := by
  unfold decB
  rw [h]
  unfold wordL
  have e : (bitsL blk ++ bitsL [sum16 blk / 256, sum16 blk % 256]).take (8 * blk.length) = bitsL blk := by
    rw [List.take_append_of_le_length (by rw [bitsL_len]; exact Nat.le_refl _), List.take_of_length_le (by rw [bitsL_len]; exact Nat.le_refl _)]
  rw [e, pack_bits blk hb]
theorem decOk_word {S blk : List Int} (hb : ∀ x ∈ blk, 0 ≤ x ∧ x ≤ 255) (h : dec (8 * blk.length + 16) S 0 = wordL blk) : decOk S blk.length = true := by
  unfold decOk
  rw [decB_word hb h, h]
  simp
end Go.Proofs.YtcleegibdcphiaaDoor
