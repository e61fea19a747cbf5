/- Layer 29 (harq), plain: what is collected out of parts. -/
import Derived.Test.YtcleegibdcphiaaDoorHarU
namespace Go.Proofs.YtcleegibdcphiaaDoor
open Go.ChangeShapes Go.WideShapes Go.ChangeAt Go.RowKit
open Cod

/-- How well a soft bit fits a bit. -/
def fit (C S : List Int) (p : Nat) : Int := S[p]?.getD 0 * (1 - 2 * C[p]?.getD 0)
def Good (C S : List Int) : Prop := S.length = C.length ∧ ∀ p, p < C.length → 0 ≤ fit C S p
theorem good_zero (C : List Int) : Good C (List.replicate C.length 0) := by
  refine ⟨by simp, fun p hp => ?_⟩
  unfold fit
  rw [List.getElem?_replicate, if_pos hp]
  simp
theorem fit_step {C S : List Int} (hC : isBits C) (hg : Good C S) {q : Nat} (hq : q < C.length) :
    Good C (S.set q (clipI (S[q]?.getD 0 + 30 * (1 - 2 * C[q]?.getD 0)))) ∧ 1 ≤ fit C (S.set q (clipI (S[q]?.getD 0 + 30 * (1 - 2 * C[q]?.getD 0)))) q ∧
      ∀ p, 1 ≤ fit C S p → 1 ≤ fit C (S.set q (clipI (S[q]?.getD 0 + 30 * (1 - 2 * C[q]?.getD 0)))) p := by
  have hf : 1 ≤ fit C (S.set q (clipI (S[q]?.getD 0 + 30 * (1 - 2 * C[q]?.getD 0)))) q := by
    have h0 := hg.2 q hq
    have hb := bit_at hC q
    unfold fit at h0 ⊢
    rw [List.getElem?_set_self (by rw [hg.1]; exact hq)]
    simp only [Option.getD_some]
    rcases hb with hb | hb <;> rw [hb] at h0 ⊢ <;> unfold clipI <;> split <;> (try split) <;> omega
  have ho : ∀ p, p ≠ q → fit C (S.set q (clipI (S[q]?.getD 0 + 30 * (1 - 2 * C[q]?.getD 0)))) p = fit C S p := by
    intro p hp
    unfold fit
    rw [List.getElem?_set_ne (by omega)]
  refine ⟨⟨by rw [List.length_set]; exact hg.1, fun p hp => ?_⟩, hf, fun p hp => ?_⟩
  · by_cases h : p = q
    · rw [h]; omega
    · rw [ho p h]; exact hg.2 p hp
  · by_cases h : p = q
    · rw [h]; exact hf
    · rw [ho p h]; exact hp
theorem part_soft (blk : List Int) (v c k : Nat) (hk : k < c) : (ofL (sentL blk v c) [] 30)[k]?.getD 0 = 30 * (1 - 2 * (enc (wordL blk))[plc (totN blk.length) v k]?.getD 0) := by
  rw [ofL_at _ _ _ _ (by rw [sentL_len]; exact hk), sentL_at _ _ _ _ hk]
  have hb := bit_at (encW_bits blk) (plc (totN blk.length) v k)
  have hn : nzI [] k = 0 := by unfold nzI; simp
  unfold ofI
  rw [hn, clipI_in]
  · omega
  · rcases hb with hb | hb <;> rw [hb] <;> omega
theorem comb_good {blk S : List Int} (v c : Nat) {T : Nat} (hT : totN blk.length = T) (hg : Good (enc (wordL blk)) S) : ∀ k, k ≤ c →
    Good (enc (wordL blk)) (colL S (ofL (sentL blk v c) [] 30) T v k) ∧ (∀ p, 1 ≤ fit (enc (wordL blk)) S p → 1 ≤ fit (enc (wordL blk)) (colL S (ofL (sentL blk v c) [] 30) T v k) p) ∧
      ∀ j, j < k → 1 ≤ fit (enc (wordL blk)) (colL S (ofL (sentL blk v c) [] 30) T v k) (plc T v j)
  | 0, _ => ⟨hg, fun _ h => h, fun j hj => by omega⟩
  | k + 1, hk => by
    obtain ⟨h1, h2, h3⟩ := comb_good v c hT hg k (by omega)
    have hp : plc T v k < (enc (wordL blk)).length := by rw [encW_len, hT]; exact plc_lt (by rw [← hT]; unfold totN; omega)
    have hs := part_soft blk v c k (by omega)
    rw [hT] at hs
    obtain ⟨s1, s2, s3⟩ := fit_step (encW_bits blk) h1 hp
    unfold colL
    rw [hs]
    refine ⟨s1, fun p h => s3 p (h2 p h), fun j hj => ?_⟩
    by_cases h : j = k
    · rw [h]; exact s2
    · exact s3 _ (h3 j (by omega))
/-- What the first i parts have brought. -/
def Cov (C : List Int) (T c i : Nat) (S : List Int) : Prop := ∀ v k, v < i → k < c → 1 ≤ fit C S (plc T v k)
theorem cov_next {blk S : List Int} {c T i : Nat} (hT : totN blk.length = T) (hg : Good (enc (wordL blk)) S) (h : Cov (enc (wordL blk)) T c i S) :
    Cov (enc (wordL blk)) T c (i + 1) (colL S (ofL (sentL blk i c) [] 30) T i c) := by
  obtain ⟨_, h2, h3⟩ := comb_good i c hT hg c (Nat.le_refl _)
  intro v k hv hk
  by_cases he : v = i
  · rw [he]; exact h3 k hk
  · exact h2 _ (h v k (by omega) hk)
theorem plc_in {T v k : Nat} (h : v * T / 4 + k < T) : plc T v k = v * T / 4 + k := Nat.mod_eq_of_lt h
theorem cov_all {C S : List Int} {T c : Nat} (hc : c = (T + 3) / 4 + 1) (h : Cov C T c 4 S) : ∀ p, p < T → 1 ≤ fit C S p := by
  intro p hp
  have h0 := fun k => h 0 k (by omega)
  have h1 := fun k => h 1 k (by omega)
  have h2 := fun k => h 2 k (by omega)
  have h3 := fun k => h 3 k (by omega)
  by_cases a1 : p < 1 * T / 4
  · have := h0 p (by omega)
    rwa [plc_in (by omega), show 0 * T / 4 + p = p by omega] at this
  · by_cases a2 : p < 2 * T / 4
    · have := h1 (p - 1 * T / 4) (by omega)
      rwa [plc_in (by omega), show 1 * T / 4 + (p - 1 * T / 4) = p by omega] at this
    · by_cases a3 : p < 3 * T / 4
      · have := h2 (p - 2 * T / 4) (by omega)
        rwa [plc_in (by omega), show 2 * T / 4 + (p - 2 * T / 4) = p by omega] at this
      · have := h3 (p - 3 * T / 4) (by omega)
        rwa [plc_in (by omega), show 3 * T / 4 + (p - 3 * T / 4) = p by omega] at this
theorem zip_fit : ∀ (S C : List Int), S.length = C.length → (∀ p, p < C.length → 1 ≤ fit C S p) → ∀ q ∈ List.zip S C, 1 ≤ q.1 * (1 - 2 * q.2)
  | [], _, _, _ => by intro q hq; simp at hq
  | _ :: _, [], h, _ => by simp at h
  | x :: S, y :: C, h, hp => by
    intro q hq
    rw [List.zip_cons_cons, List.mem_cons] at hq
    rcases hq with rfl | hq
    · exact hp 0 (by simp)
    · exact zip_fit S C (by simpa using h) (fun p hp2 => hp (p + 1) (by simpa using hp2)) q hq
theorem all_dec {blk S : List Int} {c T : Nat} (hn : blk.length ≤ 256) (hT : totN blk.length = T) (hc : c = (T + 3) / 4 + 1) (hg : Good (enc (wordL blk)) S) (hs : softOk S) (h : Cov (enc (wordL blk)) T c 4 S) : dec (8 * blk.length + 16) S 0 = wordL blk := by
  have hl := hg.1
  rw [encW_len] at hl
  refine dec_right (by rw [hl]; unfold totN; omega) hs (by omega) (wordL_bits blk) (wordL_len blk) (zip_fit _ _ hg.1 (fun p hp => cov_all hc h p (by rw [encW_len, hT] at hp; exact hp)))
theorem score_fit : ∀ (S C E : List Int), S.length = C.length → E.length = C.length → isBits C → isBits E → (∀ p, p < C.length → 0 ≤ fit C S p) →
    score S E ≤ score S C ∧ (score S C ≤ score S E → ∀ p, p < C.length → fit E S p = fit C S p)
  | [], [], [], _, _, _, _, _ => ⟨Int.le_refl _, fun _ p hp => by simp at hp⟩
  | x :: S, y :: C, z :: E, h1, h2, hC, hE, hp => by
    obtain ⟨hy, hC'⟩ := hC.cons
    obtain ⟨hz, hE'⟩ := hE.cons
    obtain ⟨i1, i2⟩ := score_fit S C E (by simpa using h1) (by simpa using h2) hC' hE' (fun p hp2 => hp (p + 1) (by simpa using hp2))
    have h0 : 0 ≤ x * (1 - 2 * y) := hp 0 (by simp)
    have hle : x * (1 - 2 * z) ≤ x * (1 - 2 * y) := by rcases hy with rfl | rfl <;> rcases hz with rfl | rfl <;> omega
    have e1 : score (x :: S) (z :: E) = x * (1 - 2 * z) + score S E := rfl
    have e2 : score (x :: S) (y :: C) = x * (1 - 2 * y) + score S C := rfl
    rw [e1, e2]
    refine ⟨by omega, fun h p hp2 => ?_⟩
    cases p with
    | zero => show x * (1 - 2 * z) = x * (1 - 2 * y); omega
    | succ p => exact i2 (by omega) p (by simpa using hp2)
  | [], _ :: _, _, h, _, _, _, _ => by simp at h
  | _ :: _, [], _, h, _, _, _, _ => by simp at h
  | [], [], _ :: _, _, h, _, _, _ => by simp at h
  | _ :: _, _ :: _, [], _, h, _, _, _ => by simp at h
/-- What is decoded agrees with all soft bits. -/
theorem dec_agrees {blk S : List Int} {got : List Int} (hn : blk.length ≤ 256) (hg : Good (enc (wordL blk)) S) (hs : softOk S) (hd : dec (8 * blk.length + 16) S 0 = wordL got) (hgl : got.length = blk.length) :
    ∀ p, p < (enc (wordL got)).length → (0 < S[p]?.getD 0 → (enc (wordL got))[p]?.getD 0 = 0) ∧ (S[p]?.getD 0 < 0 → (enc (wordL got))[p]?.getD 0 = 1) := by
  have hl := hg.1
  rw [encW_len] at hl
  have hr : S.length = 2 * (8 * blk.length + 16 + 2) := by rw [hl]; unfold totN; omega
  have hbest := dec_score (8 * blk.length + 16) S 0 hr hs (.inl rfl) (by omega)
  have hge := best_ge (wordL blk) S 0 (by rw [wordL_len, hr]) (wordL_bits blk) (.inl rfl)
  rw [wordL_len] at hge
  rw [hd] at hbest
  obtain ⟨_, h2⟩ := score_fit S (enc (wordL blk)) (enc (wordL got)) hg.1 (by rw [encW_len, encW_len, hgl]) (encW_bits blk) (encW_bits got) hg.2
  have h3 := h2 (by show score S (encS 0 (wordL blk ++ [0, 0])) ≤ score S (encS 0 (wordL got ++ [0, 0])); omega)
  intro p hp
  have hp2 : p < (enc (wordL blk)).length := by rw [encW_len] at hp ⊢; rw [← hgl]; exact hp
  have h4 := h3 p hp2
  have h5 := hg.2 p hp2
  have hb := bit_at (encW_bits got) p
  unfold fit at h4 h5
  rw [← h4] at h5
  rcases hb with hb | hb <;> rw [hb] at h5 ⊢ <;> constructor <;> intro h <;> omega
end Go.Proofs.YtcleegibdcphiaaDoor
