/- Layer 29 (harq), plain: a whole transmission; what is received with two wrong signs. -/
import Derived.Test.YtcleegibdcphiaaDoorHarT
namespace Go.Proofs.YtcleegibdcphiaaDoor
open Go.ChangeShapes Go.WideShapes Go.ChangeAt Go.RowKit
open Cod

theorem plc_zero {t k : Nat} (h : k < t) : plc t 0 k = k := by unfold plc; rw [Nat.zero_mul, Nat.zero_div, Nat.zero_add, Nat.mod_eq_of_lt h]
theorem ext_getD {A B : List Int} (h : A.length = B.length) (he : ∀ k, k < A.length → A[k]?.getD 0 = B[k]?.getD 0) : A = B := by
  apply List.ext_getElem h
  intro i h1 h2
  have := he i h1
  rw [List.getElem?_eq_getElem h1, List.getElem?_eq_getElem h2] at this
  exact this
theorem sent_all (blk : List Int) : sentL blk 0 (totN blk.length) = enc (wordL blk) := by
  apply ext_getD
  · rw [sentL_len, encW_len]
  · intro k hk
    rw [sentL_len] at hk
    rw [sentL_at _ _ _ _ hk, plc_zero hk]
theorem col_take (S : List Int) (hs : softOk S) : ∀ k, k ≤ S.length → colL (List.replicate S.length 0) S S.length 0 k = S.take k ++ List.replicate (S.length - k) 0
  | 0, _ => by simp [colL]
  | k + 1, h => by
    have ih := col_take S hs k (by omega)
    unfold colL
    rw [ih, plc_zero (show k < S.length by omega)]
    have hz : (S.take k ++ List.replicate (S.length - k) 0)[k]?.getD 0 = 0 := by
      rw [List.getElem?_append_right (by simp; omega), List.length_take, show k - min k S.length = 0 by omega, List.getElem?_replicate, if_pos (by omega)]
      rfl
    rw [hz, Int.zero_add, clipI_in (softOk_at hs k), take_one S k (by omega)]
    have e : S.length - k = (S.length - (k + 1)) + 1 := by omega
    rw [List.set_append_right _ _ (by simp; omega), e, List.replicate_succ]
    simp [show min k S.length = k by omega]
theorem col_all (S : List Int) (hs : softOk S) {T : Nat} (hT : S.length = T) : colL (List.replicate T 0) S T 0 T = S := by
  subst hT
  rw [col_take S hs _ (Nat.le_refl _)]
  simp
theorem of_map (c : List Int) (h : isBits c) {g : Int} (h0 : 0 ≤ g) (h1 : g ≤ 127) : ofL c [] g = c.map fun x => g * (1 - 2 * x) := by
  apply ext_getD
  · rw [ofL_len, List.length_map]
  · intro k hk
    rw [ofL_len] at hk
    rw [ofL_at _ _ _ _ hk, List.getElem?_map, List.getElem?_eq_getElem hk]
    have hb := h _ (List.getElem_mem hk)
    have hn : nzI [] k = 0 := by unfold nzI; simp
    unfold ofI
    rw [hn]
    simp only [Option.getD_some, Option.map_some, Int.add_zero]
    rw [clipI_in]
    rcases hb with hb | hb <;> rw [hb] <;> omega
def flipL (S : List Int) (i : Nat) : List Int := S.set i (-(S[i]?.getD 0))
theorem flip_len (S : List Int) (i : Nat) : (flipL S i).length = S.length := by simp [flipL]
/-- A received word of which at most two places have the wrong sign. -/
def Near (c S : List Int) : Prop := S.length = c.length ∧ signed 30 S c ∧ nflip 30 S c ≤ 2
theorem near_two {c : List Int} (h : isBits c) (i k : Nat) (hi : i < c.length) (hk : k < c.length) : Near c (flipL (flipL (ofL c [] 30) i) k) ∧ Near c (flipL (ofL c [] 30) i) := by
  rw [of_map c h (by decide) (by decide)]
  obtain ⟨s0, n0⟩ := signed_map 30 c
  have hl : (c.map fun x => (30 : Int) * (1 - 2 * x)).length = c.length := List.length_map _
  obtain ⟨s1, n1⟩ := signed_set 30 _ c i s0 (by rw [hl]; exact hi)
  obtain ⟨s2, n2⟩ := signed_set 30 _ c k s1 (by rw [List.length_set, hl]; exact hk)
  refine ⟨⟨by rw [flip_len, flip_len, hl], s2, ?_⟩, by rw [flip_len, hl], s1, ?_⟩
  · unfold flipL; omega
  · unfold flipL; omega
theorem near_soft {c S : List Int} (hc : isBits c) (h : Near c S) : softOk S := signed_soft (g := 30) (by decide) (by decide) _ _ h.2.1 hc
theorem near_dec {blk S : List Int} (hn : blk.length ≤ 256) (h : Near (enc (wordL blk)) S) : dec (8 * blk.length + 16) S 0 = wordL blk :=
  dec_two (g := 30) (by decide) (by rw [h.1, encW_len]; unfold totN; omega) (near_soft (encW_bits blk) h) (by omega) (wordL_bits blk) (wordL_len blk) h.2.1 h.2.2
theorem first_rec {blk S : List Int} {num : Int} {T : Nat} (hb : ∀ x ∈ blk, 0 ≤ x ∧ x ≤ 255) (hn : 1 ≤ blk.length ∧ blk.length ≤ 25) (hT : totN blk.length = T) (h0 : 0 ≤ num ∧ num < 4) (hl : S.length = T) (hs : softOk S) (hd : dec (8 * blk.length + 16) S 0 = wordL blk) :
    recF zeroC [] ⟨num, 1, 0, blk.length, T⟩ S = ⟨0, ⟨1, blk.length, none, T, 0, true, true⟩, S, true, blk⟩ := by
  have hT2 : T ≤ 1152 ∧ 1 ≤ T := by rw [← hT]; unfold totN; omega
  have hA : anB ⟨num, 1, 0, blk.length, T⟩ = true := by
    unfold anB sizedB codedB
    rw [decide_eq_true (by dsimp only; omega), decide_eq_true (by dsimp only; omega), decide_eq_true (by dsimp only; omega)]; rfl
  have hSB : softB S = true := (softB_iff S).2 hs
  have hB : baseC zeroC ⟨num, 1, 0, blk.length, T⟩ = ⟨1, blk.length, none, T, 0, true, false⟩ := by
    unfold baseC
    rw [show newB zeroC ⟨num, 1, 0, blk.length, T⟩ = true from rfl, if_pos rfl]
    dsimp only
    rw [Int.toNat_natCast, hT]
  have hBS : baseS zeroC [] ⟨num, 1, 0, blk.length, T⟩ = List.replicate T 0 := by
    unfold baseS
    rw [show newB zeroC ⟨num, 1, 0, blk.length, T⟩ = true from rfl, if_pos rfl]
    dsimp only
    rw [Int.toNat_natCast, hT]
  have hz : softB (List.replicate T 0) = true := (softB_iff _).2 (fun x hx => by rw [List.eq_of_mem_replicate hx]; decide)
  have hgo : goS zeroC [] ⟨num, 1, 0, blk.length, T⟩ S = S := by
    unfold goS
    rw [hBS]
    dsimp only
    rw [Int.toNat_natCast, Int.toNat_natCast, hT]
    exact col_all S hs hl
  have hok : decOk S blk.length = true := decOk_word hb hd
  have hdb : decB S blk.length = blk := decB_word hb hd
  unfold recF
  rw [if_neg (by rw [hA, hSB]; simp), if_neg (by dsimp only; rw [hl]; simp), if_neg (by rw [hBS, hB, hz]; dsimp only; rw [Int.toNat_natCast, hT]; simp), if_neg (by rw [hB]; simp), hgo, hB]
  dsimp only
  rw [Int.toNat_natCast, if_pos hok, hdb]
theorem again_rec {ss S : List Int} {c : Cl} {A : An} {n T : Nat} (hT : totN n = T) (hA : anB A = true) (h1 : c.some = true) (h2 : c.fresh = A.fresh) (h3 : c.size = A.size) (h4 : A.size = n) (h5 : c.len = T) (h6 : c.done = true) (h7 : softOk ss) (hl : (S.length : Int) = A.coded) (hs : softOk S) :
    recF c ss A S = ⟨0, c, ss, true, []⟩ := by
  have hN : newB c A = false := by unfold newB; rw [h1, h2, h3]; simp
  have hB : baseC c A = c := by unfold baseC; rw [hN]; rfl
  have hBS : baseS c ss A = ss := by unfold baseS; rw [hN]; rfl
  unfold recF
  rw [if_neg (by rw [hA, (softB_iff S).2 hs]; simp), if_neg (by rw [hl]; simp), if_neg (by rw [hBS, hB, (softB_iff ss).2 h7, h5, h4, Int.toNat_natCast, hT]; simp), if_pos (by rw [hB]; exact h6), hB, hBS]
end Go.Proofs.YtcleegibdcphiaaDoor
