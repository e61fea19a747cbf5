/- The plain laws of layer 7 (lsb): which values are understood. -/
import Derived.Test.YtinkllejjilenaaLsb
namespace Go.Proofs.Ytinkllejjilenaa
open Go.ChangeShapes Go.WideShapes Go.ChangeAt Go.RowKit

theorem pow_dvd {j k : Nat} (h : j ≤ k) : (2 : Int) ^ j ∣ 2 ^ k := ⟨2 ^ (k - j), by rw [← Int.pow_add]; congr 1; omega⟩
theorem emod_congr {a b m : Int} (h : m ∣ a - b) : a % m = b % m := Int.emod_emod_of_dvd a (Int.dvd_refl m) ▸ (by
  obtain ⟨c, hc⟩ := h
  rw [show a = b + m * c from by omega, Int.add_mul_emod_self_left, Int.emod_emod_of_dvd _ (Int.dvd_refl m)])

/-- v is understood from r with k bits exactly if it lies in the window. -/
theorem fit_iff {w k v r : Int} (hw : knownB w = true) (h3 : 3 ≤ k) (h4 : k ≤ w) (hv : valB w v = true) : fitOne w k v r = true ↔ valB w r = true ∧ (v - (r - offS k)) % 2 ^ w.toNat < 2 ^ k.toNat := by
  have hx := known_rng hw
  have hk := vld_mk (n := k) (by omega) (by omega)
  have hwv := known_vld hw
  simp only [fitOne, Bool.and_eq_true, beq_iff_eq]
  refine and_congr_right fun _ => ?_
  simp only [valB, decide_eq_true_eq] at hv
  simp only [decS, distS, lowS, hk, hwv, if_true]
  generalize r - offS k = f
  have hpk := two_pow_pos k.toNat
  have hpw := two_pow_pos w.toNat
  have hle : (2 : Int) ^ k.toNat ≤ 2 ^ w.toNat := two_pow_le (by omega)
  have e1 : (v % 2 ^ k.toNat - f) % 2 ^ k.toNat = (v - f) % 2 ^ k.toNat := by rw [Int.emod_sub_emod]
  rw [e1]
  have d1 := Int.emod_nonneg (v - f) (show (2 : Int) ^ k.toNat ≠ 0 by omega)
  have d2 := Int.emod_lt_of_pos (v - f) hpk
  have d3 := Int.emod_nonneg (v - f) (show (2 : Int) ^ w.toNat ≠ 0 by omega)
  have d4 := Int.emod_lt_of_pos (v - f) hpw
  have hd := Int.emod_emod_of_dvd (v - f) (pow_dvd (show k.toNat ≤ w.toNat by omega))
  constructor
  · intro h
    -- (f + e) % W = v
    have : (v - f) % 2 ^ w.toNat = (v - f) % 2 ^ k.toNat := by
      have e2 : (v - f) % 2 ^ w.toNat = ((v - f) % 2 ^ k.toNat) % 2 ^ w.toNat := by
        conv => lhs; rw [← h]
        rw [Int.emod_sub_emod, show f + (v - f) % 2 ^ k.toNat - f = (v - f) % 2 ^ k.toNat from by omega]
      rw [e2]; exact Int.emod_eq_of_lt d1 (by omega)
    omega
  · intro h
    have : (v - f) % 2 ^ k.toNat = (v - f) % 2 ^ w.toNat := by
      rw [← hd]; exact Int.emod_eq_of_lt d3 h
    rw [this, Int.add_emod_emod, show f + (v - f) = v from by omega]
    exact Int.emod_eq_of_lt hv.1 hv.2

theorem pow_k3 {k : Int} (h : 3 ≤ k) : (2 : Int) ^ k.toNat = 8 * 2 ^ (k - 3).toNat := by
  have : k.toNat = (k - 3).toNat + 3 := by omega
  rw [this, Int.pow_add]; simp; omega
/-- More bits are never worse. -/
theorem fit_mono {w k v r : Int} (hw : knownB w = true) (h3 : 3 ≤ k) (h4 : k + 1 ≤ w) (hv : valB w v = true) (h : fitOne w k v r = true) : fitOne w (k + 1) v r = true := by
  have hx := known_rng hw
  rw [fit_iff hw h3 (by omega) hv] at h
  rw [fit_iff hw (by omega) h4 hv]
  refine ⟨h.1, ?_⟩
  have e1 := pow_k3 h3
  have e2 := pow_k3 (show 3 ≤ k + 1 by omega)
  have e3 : (2 : Int) ^ (k + 1 - 3).toNat = 2 * 2 ^ (k - 3).toNat := by
    rw [show (k + 1 - 3).toNat = (k - 3).toNat + 1 from by omega, Int.pow_succ]; omega
  have hle : (2 : Int) ^ (k + 1).toNat ≤ 2 ^ w.toNat := two_pow_le (by omega)
  have hp := two_pow_pos (k - 3).toNat
  have o1 : offS k = 2 ^ (k - 3).toNat - 1 := by unfold offS; rw [if_pos (by omega)]
  have o2 : offS (k + 1) = 2 * 2 ^ (k - 3).toNat - 1 := by unfold offS; rw [if_pos (by omega), e3]
  have h2 := h.2
  rw [o1, e1] at h2
  rw [e2, e3] at hle
  rw [o2, e2, e3]
  have d3 := Int.emod_nonneg (v - (r - (2 ^ (k - 3).toNat - 1))) (show (2 : Int) ^ w.toNat ≠ 0 by have := two_pow_pos w.toNat; omega)
  generalize (2 : Int) ^ (k - 3).toNat = p at *
  generalize hW : (2 : Int) ^ w.toNat = W at *
  have e4 : (v - (r - (2 * p - 1))) % W = ((v - (r - (p - 1))) % W + p) % W := by
    rw [Int.emod_add_emod]; congr 1; omega
  rw [e4, Int.emod_eq_of_lt (by omega) (by omega)]
  omega
/-- All bits are always enough. -/
theorem fit_full {w v r : Int} (hw : knownB w = true) (hv : valB w v = true) (hr : valB w r = true) : fitOne w w v r = true := by
  have hx := known_rng hw
  rw [fit_iff hw (by omega) (by omega) hv]
  exact ⟨hr, Int.emod_lt_of_pos _ (two_pow_pos _)⟩

/-! ### Least -/
theorem fits_iff {w : Int} {rs : List Int} {k v : Int} (hw : knownB w = true) (h3 : 3 ≤ k) (h4 : k ≤ w) (hv : valB w v = true) : fitsS w rs k v = rs.all (fitOne w k v) :=
  fits_len (head_parts.2 ⟨hw, ⟨h3, h4⟩, hv⟩)
theorem fits_mono {w : Int} {rs : List Int} {k v : Int} (hw : knownB w = true) (h3 : 3 ≤ k) (h4 : k + 1 ≤ w) (hv : valB w v = true) (h : fitsS w rs k v = true) : fitsS w rs (k + 1) v = true := by
  rw [fits_iff hw h3 (by omega) hv, List.all_eq_true] at h
  rw [fits_iff hw (by omega) h4 hv, List.all_eq_true]
  exact fun r hr => fit_mono hw h3 h4 hv (h r hr)
theorem fits_up {w : Int} {rs : List Int} {v : Int} (hw : knownB w = true) (hv : valB w v = true) : ∀ (n : Nat) (k : Int), 3 ≤ k → k + n ≤ w → fitsS w rs k v = true → fitsS w rs (k + n) v = true
  | 0, k, _, _, h => by simpa using h
  | n + 1, k, h3, h4, h => by
    have := fits_mono hw (by omega) (by omega) hv (fits_up hw hv n k h3 (by omega) h)
    rw [show k + ((n + 1 : Nat) : Int) = k + n + 1 from by omega]; exact this
theorem fits_full {w : Int} {rs : List Int} {v : Int} (hw : knownB w = true) (hv : valB w v = true) (hr : ∀ r ∈ rs, valB w r = true) : fitsS w rs w v = true := by
  have hx := known_rng hw
  rw [fits_iff hw (by omega) (by omega) hv, List.all_eq_true]
  exact fun r hm => fit_full hw hv (hr r hm)
theorem leastFrom_spec {w : Int} {rs : List Int} {v : Int} : ∀ (n : Nat) (k : Int), (∃ j : Nat, j < n ∧ fitsS w rs (k + j) v = true) →
    k ≤ leastFrom w rs v n k ∧ fitsS w rs (leastFrom w rs v n k) v = true ∧ ∀ j : Nat, j < n → fitsS w rs (k + j) v = true → leastFrom w rs v n k ≤ k + j
  | 0, _, ⟨_, h, _⟩ => by omega
  | n + 1, k, ⟨j, hj, hf⟩ => by
    unfold leastFrom
    cases h : fitsS w rs k v
    · simp only [Bool.false_eq_true, if_false]
      have hj0 : j ≠ 0 := fun e => by subst e; simp [h] at hf
      have ih := leastFrom_spec (w := w) (rs := rs) (v := v) n (k + 1) ⟨j - 1, by omega, by rw [show k + 1 + ((j - 1 : Nat) : Int) = k + j from by omega]; exact hf⟩
      refine ⟨by omega, ih.2.1, fun i hi hfi => ?_⟩
      have hi0 : i ≠ 0 := fun e => by subst e; simp [h] at hfi
      have := ih.2.2 (i - 1) (by omega) (by rw [show k + 1 + ((i - 1 : Nat) : Int) = k + i from by omega]; exact hfi)
      omega
    · simp only [if_true]
      exact ⟨by omega, h, fun i _ _ => by omega⟩
/-- Least, where all references are values. -/
theorem least_spec {w : Int} {rs : List Int} {v : Int} (hw : knownB w = true) (hv : valB w v = true) (hr : ∀ r ∈ rs, valB w r = true) :
    3 ≤ leastS w rs v ∧ leastS w rs v ≤ w ∧ fitsS w rs (leastS w rs v) v = true ∧ ∀ k, 3 ≤ k → k ≤ w → fitsS w rs k v = true → leastS w rs v ≤ k := by
  have hx := known_rng hw
  have h := leastFrom_spec (w := w) (rs := rs) (v := v) (w - 2).toNat 3 ⟨(w - 3).toNat, by omega, by rw [show 3 + ((w - 3).toNat : Int) = w from by omega]; exact fits_full hw hv hr⟩
  have e : leastS w rs v = leastFrom w rs v (w - 2).toNat 3 := by simp [leastS, hw]
  rw [← e] at h
  have hle : ∀ k, 3 ≤ k → k ≤ w → fitsS w rs k v = true → leastS w rs v ≤ k := fun k h3 h4 hf => by
    have := h.2.2 (k - 3).toNat (by omega) (by rw [show 3 + ((k - 3).toNat : Int) = k from by omega]; exact hf)
    omega
  exact ⟨h.1, hle w (by omega) (by omega) (fits_full hw hv hr), h.2.1, hle⟩

/-! ### LsbUnderstands -/
theorem fits_one {w r k v : Int} (hw : knownB w = true) (h3 : 3 ≤ k) (h4 : k ≤ w) (hv : valB w v = true) : fitsS w [r] k v = fitOne w k v r := by
  rw [fits_iff hw h3 h4 hv]; simp
theorem und_plain {w k r o : Int} (hw : knownB w = true) (h3 : 3 ≤ k) (h4 : k + 1 ≤ w) (hr : valB w r = true) (ho : 0 ≤ o) (ho2 : o < 2 ^ k.toNat) :
    decV w r k (lowS k (lowS w (r - offS k + o))) = lowS w (r - offS k + o) ∧ decE w r k (lowS k (lowS w (r - offS k + o))) = 0 ∧ fitsS w [r] k (lowS w (r - offS k + o)) = true ∧
    fitsS w [r] k (lowS w (lowS w (r - offS k + o) + 2 ^ k.toNat)) = false := by
  have hx := known_rng hw
  have hwv := known_vld hw
  have v1 : ∀ z, valB w (lowS w z) = true := fun z => low_val (by omega) hx.2
  have hp := two_pow_pos k.toNat
  have hpw := two_pow_pos w.toNat
  have hle : (2 : Int) ^ (k + 1).toNat ≤ 2 ^ w.toNat := two_pow_le (by omega)
  have hle2 : (2 : Int) ^ (k + 1).toNat = 2 * 2 ^ k.toNat := by rw [show (k + 1).toNat = k.toNat + 1 from by omega, Int.pow_succ]; omega
  have f1 : fitOne w k (lowS w (r - offS k + o)) r = true := by
    rw [fit_iff hw h3 (by omega) (v1 _)]
    refine ⟨hr, ?_⟩
    simp only [lowS, hwv, if_true]
    rw [Int.emod_sub_emod, show r - offS k + o - (r - offS k) = o from by omega, Int.emod_eq_of_lt ho (by omega)]
    exact ho2
  have f2 : fitOne w k (lowS w (lowS w (r - offS k + o) + 2 ^ k.toNat)) r = false := by
    cases h : fitOne w k (lowS w (lowS w (r - offS k + o) + 2 ^ k.toNat)) r
    · rfl
    · rw [fit_iff hw h3 (by omega) (v1 _)] at h
      have h2 := h.2
      simp only [lowS, hwv, if_true] at h2
      rw [Int.emod_sub_emod, show (r - offS k + o) % 2 ^ w.toNat + 2 ^ k.toNat - (r - offS k) = (r - offS k + o) % 2 ^ w.toNat + (2 ^ k.toNat - (r - offS k)) from by omega, Int.emod_add_emod, show r - offS k + o + (2 ^ k.toNat - (r - offS k)) = o + 2 ^ k.toNat from by omega, Int.emod_eq_of_lt (by omega) (by omega)] at h2
      omega
  have hd := dec_yes hw (show 3 ≤ k ∧ k ≤ w by omega) hr (low_val (k := k) (v := lowS w (r - offS k + o)) (by omega) (by omega))
  refine ⟨?_, hd.2.symm, by rw [fits_one hw h3 (by omega) (v1 _)]; exact f1, by rw [fits_one hw h3 (by omega) (v1 _)]; exact f2⟩
  rw [← hd.1]
  simp only [fitOne, Bool.and_eq_true, beq_iff_eq] at f1
  exact f1.2

/-! ### LsbBetween -/
theorem btw_arith {W K x f t : Int} (hx : 0 ≤ x) (hx2 : x < K) (hW : 2 * K ≤ W) (_hf : 0 ≤ f) (hf2 : f < K) (ht : 0 ≤ t) (ht2 : t ≤ f) (h : (x - f) % W < K) : (x - t) % W < K := by
  by_cases hc : f ≤ x
  · rw [Int.emod_eq_of_lt (by omega) (by omega)]; omega
  · have e : (x - f) % W = x - f + W := by
      rw [← Int.add_emod_right, Int.emod_eq_of_lt (by omega) (by omega)]
    omega
theorem btw_plain {w k a f t v : Int} (hw : knownB w = true) (h3 : 3 ≤ k) (h4 : k + 1 ≤ w) (va : valB w a = true) (hf : 0 ≤ f) (hf2 : f < 2 ^ k.toNat) (ht : 0 ≤ t) (ht2 : t ≤ f) (hv : valB w v = true)
    (h : fitsS w [a, lowS w (a + f)] k v = true) : fitsS w [lowS w (a + t)] k v = true ∧ leastS w [a, lowS w (a + t), lowS w (a + f)] v ≤ k := by
  have hx := known_rng hw
  have hwv := known_vld hw
  have v1 : ∀ z, valB w (lowS w z) = true := fun z => low_val (by omega) hx.2
  rw [fits_iff hw h3 (by omega) hv] at h
  simp only [List.all_cons, List.all_nil, Bool.and_true, Bool.and_eq_true] at h
  obtain ⟨ha, hb⟩ := h
  have ha' := (fit_iff hw h3 (by omega) hv).1 ha
  have hb' := (fit_iff hw h3 (by omega) hv).1 hb
  have hle : (2 : Int) ^ (k + 1).toNat ≤ 2 ^ w.toNat := two_pow_le (by omega)
  have hle2 : (2 : Int) ^ (k + 1).toNat = 2 * 2 ^ k.toNat := by rw [show (k + 1).toNat = k.toNat + 1 from by omega, Int.pow_succ]; omega
  have hpw := two_pow_pos w.toNat
  have sh : ∀ z, (v - (lowS w (a + z) - offS k)) % 2 ^ w.toNat = ((v - (a - offS k)) % 2 ^ w.toNat - z) % 2 ^ w.toNat := by
    intro z
    simp only [lowS, hwv, if_true]
    rw [Int.emod_sub_emod, show v - ((a + z) % 2 ^ w.toNat - offS k) = v + offS k - (a + z) % 2 ^ w.toNat from by omega, Int.sub_emod_emod]
    congr 1; omega
  have hc : fitOne w k v (lowS w (a + t)) = true := by
    rw [fit_iff hw h3 (by omega) hv, sh]
    have hb2 := hb'.2
    rw [sh] at hb2
    exact ⟨v1 _, btw_arith (Int.emod_nonneg _ (by omega)) ha'.2 (by omega) hf hf2 ht ht2 hb2⟩
  refine ⟨by rw [fits_one hw h3 (by omega) hv]; exact hc, ?_⟩
  refine (least_spec hw hv ?_).2.2.2 k h3 (by omega) ?_
  · intro r hr
    simp only [List.mem_cons, List.not_mem_nil, or_false] at hr
    rcases hr with rfl | rfl | rfl
    · exact va
    · exact v1 _
    · exact v1 _
  · rw [fits_iff hw h3 (by omega) hv]
    simp [ha, hb, hc]

/-! ### LsbMonotone -/
theorem mono_pred {w : Int} {rs : List Int} {v k : Int} (hw : knownB w = true) (hv : valB w v = true) (hr : ∀ r ∈ rs, valB w r = true) (hk : leastS w rs v = k) (h3 : 3 < k) : fitsS w rs (k - 1) v = false := by
  have h := least_spec hw hv hr
  cases hf : fitsS w rs (k - 1) v
  · rfl
  · have := h.2.2.2 (k - 1) (by omega) (by omega) hf
    omega
theorem mono_up {w : Int} {rs : List Int} {v k i : Int} (hw : knownB w = true) (hv : valB w v = true) (hr : ∀ r ∈ rs, valB w r = true) (hk : leastS w rs v = k) (h1 : k ≤ i) (h2 : i ≤ w) : fitsS w rs i v = true := by
  have h := least_spec hw hv hr
  rw [hk] at h
  have := fits_up (rs := rs) hw hv (i - k).toNat k h.1 (by omega) h.2.2.1
  rwa [show k + ((i - k).toNat : Int) = i from by omega] at this
theorem mono_take {w : Int} {rs : List Int} {v k : Int} (n : Nat) (hw : knownB w = true) (hv : valB w v = true) (hr : ∀ r ∈ rs, valB w r = true) (hk : leastS w rs v = k) : leastS w (rs.take n) v ≤ k := by
  have h := least_spec hw hv hr
  rw [hk] at h
  refine (least_spec hw hv (fun r hm => hr r (List.mem_of_mem_take hm))).2.2.2 k h.1 h.2.1 ?_
  have h2 := h.2.2.1
  rw [fits_iff hw h.1 h.2.1 hv, List.all_eq_true] at h2
  rw [fits_iff hw h.1 h.2.1 hv, List.all_eq_true]
  exact fun r hm => h2 r (List.mem_of_mem_take hm)
theorem mono_nil {w v : Int} (hw : knownB w = true) (hv : valB w v = true) : leastS w [] v = 3 := by
  have hx := known_rng hw
  have h := least_spec (rs := []) hw hv (by simp)
  have := h.2.2.2 3 (by omega) (by omega) (by rw [fits_iff hw (by omega) (by omega) hv]; rfl)
  omega
end Go.Proofs.Ytinkllejjilenaa
