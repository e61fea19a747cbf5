/- Layer 7 (lsb): its plain functions, and the contracts of the program and of the reference. -/
import Derived.Test.YtinkllejjilenaaBase
import Derived.Test.YtinkllejjilenaaMem
namespace Go.Proofs.Ytinkllejjilenaa
open Go.ChangeShapes Go.WideShapes Go.ChangeAt Go.RowKit

/-! ### plain -/
def offS (k : Int) : Int := if 3 ≤ k ∧ k ≤ 32 then 2 ^ (k - 3).toNat - 1 else -1
def knownB (w : Int) : Bool := decide (w = 8 ∨ w = 16 ∨ w = 32)
def valB (w v : Int) : Bool := decide (0 ≤ v ∧ v < 2 ^ w.toNat)
def decS (w r k low : Int) : Int := lowS w (r - offS k + distS k (r - offS k) low)
def decV (w r k low : Int) : Int := if knownB w && decide (3 ≤ k ∧ k ≤ w) && valB w r && valB k low then decS w r k low else 0
def decE (w r k low : Int) : Int := if knownB w then (if decide (3 ≤ k ∧ k ≤ w) && valB w r && valB k low then 0 else 3) else 7
def fitOne (w k v r : Int) : Bool := valB w r && (decS w r k (lowS k v) == v)
def fitHead (w k v : Int) : Bool := knownB w && decide (3 ≤ k ∧ k ≤ w) && valB w v
def fitsS (w : Int) (rs : List Int) (k v : Int) : Bool := fitHead w k v && rs.all (fitOne w k v)
/-- The least k from w - n + 1 on, n tries being left. -/
def leastFrom (w : Int) (rs : List Int) (v : Int) : Nat → Int → Int
  | 0, _ => 0
  | n + 1, k => if fitsS w rs k v then k else leastFrom w rs v n (k + 1)
def leastS (w : Int) (rs : List Int) (v : Int) : Int := if knownB w then leastFrom w rs v (w - 2).toNat 3 else 0

theorem known_rng {w : Int} (h : knownB w = true) : 8 ≤ w ∧ w ≤ 32 := by
  simp only [knownB, decide_eq_true_eq] at h; omega
theorem known_vld {w : Int} (h : knownB w = true) : vld w = true := vld_mk (by have := known_rng h; omega) (known_rng h).2
theorem off_rng {k : Int} : -1 ≤ offS k ∧ offS k < 4294967296 := by
  unfold offS; split
  · have h1 := two_pow_pos (k - 3).toNat
    have h2 : (2 : Int) ^ (k - 3).toNat ≤ 2 ^ 32 := two_pow_le (by omega)
    have h3 : (2 : Int) ^ 32 = 4294967296 := by rfl
    omega
  · omega
theorem val_rng {w v : Int} (hw : w ≤ 32) (h : valB w v = true) : 0 ≤ v ∧ v < 4294967296 := by
  simp only [valB, decide_eq_true_eq] at h
  have h2 : (2 : Int) ^ w.toNat ≤ 2 ^ 32 := two_pow_le (by omega)
  have h3 : (2 : Int) ^ 32 = 4294967296 := by rfl
  omega
theorem low_val {k v : Int} (h1 : 1 ≤ k) (h2 : k ≤ 32) : valB k (lowS k v) = true := by
  simp only [valB, lowS, vld_mk h1 h2, if_true, decide_eq_true_eq]
  have hp := two_pow_pos k.toNat
  exact ⟨Int.emod_nonneg _ (by omega), Int.emod_lt_of_pos _ hp⟩

/-! ### the program -/
theorem known_any (x : Int) (w : World) : Calls Try.prog 41 #[.int .i64 x] w fun e w' => e = .returned (.bool (knownB x)) ∧ w = w' := by
  go_enter Try.func41, Try.ntmps41
  go_wp2
  all_goals (go_ret; exact ⟨ret_bool (by rw [Bool.eq_iff_iff]; simp [knownB]; omega), rfl⟩)
theorem value_any (k x : Int) (w : World) (h1 : 0 ≤ k) (h2 : k ≤ 32) : Calls Try.prog 42 #[.int .i64 k, .int .i64 x] w fun e w' => e = .returned (.bool (valB k x)) ∧ w = w' := by
  have hw := wrap_pow (show k.toNat ≤ 62 by omega)
  go_enter Try.func42, Try.ntmps42
  go_wp2
  all_goals (go_ret; exact ⟨ret_bool (by rw [Bool.eq_iff_iff]; simp [valB]; omega), rfl⟩)
theorem offset_any (k : Int) (w : World) : Calls Try.prog 16 #[.int .i64 k] w fun e w' => e = .returned (.int .i64 (offS k)) ∧ w = w' := by
  go_enter Try.func16, Try.ntmps16
  go_wp2
  · go_ret
    exact ⟨ret_i64 (by unfold offS; rw [if_neg (by omega)]), rfl⟩
  · go_ret
    exact ⟨ret_i64 (by unfold offS; rw [if_pos (by assumption), wrap_pow1 (by omega)]), rfl⟩
  · go_ret
    exact ⟨ret_i64 (by unfold offS; rw [if_neg (by omega)]), rfl⟩
theorem dec_any (x r k low : Int) (w : World) (hr : 0 ≤ r) (hr2 : r < 4294967296) :
    Calls Try.prog 43 #[.int .i64 x, .int .i64 r, .int .i64 k, .int .i64 low] w fun e w' => e = .returned (.int .i64 (decS x r k low)) ∧ w = w' := by
  have ho := off_rng (k := k)
  have hd : -1 ≤ distS k (r - offS k) low ∧ distS k (r - offS k) low < 4294967296 := lowS_rng k (low - (r - offS k))
  go_enter Try.func43, Try.ntmps43
  go_wp2_with (first | ((go_at_call 16; refine (offset_any _ _).mono ?_; rintro e w' ⟨rfl, rfl⟩)) | ((go_at_call 57; refine (sdist _ _ _ _).mono ?_; rintro e w' ⟨rfl, rfl⟩)) | ((go_at_call 46; refine (slow _ _ _).mono ?_; rintro e w' ⟨rfl, rfl⟩)))
  go_ret
  exact ⟨rfl, rfl⟩
theorem dec_yes {x r k low : Int} (h1 : knownB x = true) (h2 : 3 ≤ k ∧ k ≤ x) (h3 : valB x r = true) (h4 : valB k low = true) : decS x r k low = decV x r k low ∧ 0 = decE x r k low := by
  simp [decV, decE, h1, h2, h3, h4]
theorem dec_no {x r k low : Int} (h1 : knownB x = true) (h2 : ¬ (3 ≤ k ∧ k ≤ x ∧ valB x r = true ∧ valB k low = true)) : 0 = decV x r k low ∧ 3 = decE x r k low := by
  have : (decide (3 ≤ k ∧ k ≤ x) && valB x r && valB k low) = false := by
    cases h : (decide (3 ≤ k ∧ k ≤ x) && valB x r && valB k low)
    · rfl
    · simp only [Bool.and_eq_true, decide_eq_true_eq] at h; exact absurd ⟨h.1.1.1, h.1.1.2, h.1.2, h.2⟩ h2
  unfold decV decE
  rw [h1]
  simp only [Bool.true_and, this]
  exact ⟨rfl, rfl⟩
theorem ret_ii' {a b x y : Int} (h : a = b) (k : x = y) : Ending.returned (.tuple #[.int .i64 a, .int .i64 x]) = .returned (.tuple #[.int .i64 b, .int .i64 y]) := by rw [h, k]

theorem decode_any (x r k low : Int) (w : World) :
    Calls Try.prog 14 #[.int .i64 x, .int .i64 r, .int .i64 k, .int .i64 low] w fun e w' => e = .returned (.tuple #[.int .i64 (decV x r k low), .int .i64 (decE x r k low)]) ∧ w = w' := by
  by_cases h1 : knownB x = true
  · have hx := known_rng h1
    have H1 := Lib.hid h1
    by_cases h3 : k < 3
    · have hn := dec_no (r := r) (k := k) (low := low) h1 (fun h => by omega)
      have HN := Lib.hid hn
      clear hn
      go_enter Try.func14, Try.ntmps14
      go_wp2_with (first | ((go_at_call 41; refine (known_any _ _).mono ?_; rintro e w' ⟨rfl, rfl⟩)) | ((go_at_call 42; refine (value_any _ _ _ (by omega) (by omega)).mono ?_; rintro e w' ⟨rfl, rfl⟩)) | ((go_at_call 43; refine (dec_any _ _ _ _ _ hr.1 hr.2).mono ?_; rintro e w' ⟨rfl, rfl⟩)))
      go_ret2
      exact ⟨ret_ii' HN.out.1 HN.out.2, rfl⟩
    · by_cases h4 : x < k
      · have hn := dec_no (r := r) (k := k) (low := low) h1 (fun h => by omega)
        have HN := Lib.hid hn
        clear hn
        go_enter Try.func14, Try.ntmps14
        go_wp2_with (first | ((go_at_call 41; refine (known_any _ _).mono ?_; rintro e w' ⟨rfl, rfl⟩)) | ((go_at_call 42; refine (value_any _ _ _ (by omega) (by omega)).mono ?_; rintro e w' ⟨rfl, rfl⟩)) | ((go_at_call 43; refine (dec_any _ _ _ _ _ hr.1 hr.2).mono ?_; rintro e w' ⟨rfl, rfl⟩)))
        go_ret2
        exact ⟨ret_ii' HN.out.1 HN.out.2, rfl⟩
      · cases h5 : valB x r
        · have hn := dec_no (k := k) (low := low) h1 (fun h => by rw [h5] at h; simp at h)
          have HN := Lib.hid hn
          have H5 := Lib.hid h5
          clear hn
          go_enter Try.func14, Try.ntmps14
          go_wp2_with (first | ((go_at_call 41; refine (known_any _ _).mono ?_; rintro e w' ⟨rfl, rfl⟩)) | ((go_at_call 42; refine (value_any _ _ _ (by omega) (by omega)).mono ?_; rintro e w' ⟨rfl, rfl⟩)) | ((go_at_call 43; refine (dec_any _ _ _ _ _ hr.1 hr.2).mono ?_; rintro e w' ⟨rfl, rfl⟩)))
          go_ret2
          exact ⟨ret_ii' HN.out.1 HN.out.2, rfl⟩
        · have hr := val_rng hx.2 h5
          cases h6 : valB k low
          · have hn := dec_no (x := x) (r := r) h1 (fun h => by rw [h6] at h; simp at h)
            have HN := Lib.hid hn
            clear hn
            go_enter Try.func14, Try.ntmps14
            go_wp2_with (first | ((go_at_call 41; refine (known_any _ _).mono ?_; rintro e w' ⟨rfl, rfl⟩)) | ((go_at_call 42; refine (value_any _ _ _ (by omega) (by omega)).mono ?_; rintro e w' ⟨rfl, rfl⟩)) | ((go_at_call 43; refine (dec_any _ _ _ _ _ hr.1 hr.2).mono ?_; rintro e w' ⟨rfl, rfl⟩)))
            go_ret2
            exact ⟨ret_ii' HN.out.1 HN.out.2, rfl⟩
          · have hn := dec_yes h1 (by omega) h5 h6
            have HN := Lib.hid hn
            clear hn
            go_enter Try.func14, Try.ntmps14
            go_wp2_with (first | ((go_at_call 41; refine (known_any _ _).mono ?_; rintro e w' ⟨rfl, rfl⟩)) | ((go_at_call 42; refine (value_any _ _ _ (by omega) (by omega)).mono ?_; rintro e w' ⟨rfl, rfl⟩)) | ((go_at_call 43; refine (dec_any _ _ _ _ _ hr.1 hr.2).mono ?_; rintro e w' ⟨rfl, rfl⟩)))
            go_ret2
            exact ⟨ret_ii' HN.out.1 HN.out.2, rfl⟩
  · have h1' : knownB x = false := by simpa using h1
    have hn : 0 = decV x r k low ∧ 7 = decE x r k low := by simp [decV, decE, h1']
    have HN := Lib.hid hn
    clear hn h1
    go_enter Try.func14, Try.ntmps14
    go_wp2_with (first | ((go_at_call 41; refine (known_any _ _).mono ?_; rintro e w' ⟨rfl, rfl⟩)) | ((go_at_call 42; refine (value_any _ _ _ (by omega) (by omega)).mono ?_; rintro e w' ⟨rfl, rfl⟩)) | ((go_at_call 43; refine (dec_any _ _ _ _ _ hr.1 hr.2).mono ?_; rintro e w' ⟨rfl, rfl⟩)))
    go_ret2
    exact ⟨ret_ii' HN.out.1 HN.out.2, rfl⟩

theorem fits_len {w : Int} {rs : List Int} {k v : Int} (h : fitHead w k v = true) : fitsS w rs k v = rs.all (fitOne w k v) := by simp [fitsS, h]
theorem fits_nohead {w : Int} {rs : List Int} {k v : Int} (h : fitHead w k v = false) : fitsS w rs k v = false := by simp [fitsS, h]
theorem head_parts {w k v : Int} : fitHead w k v = true ↔ knownB w = true ∧ (3 ≤ k ∧ k ≤ w) ∧ valB w v = true := by
  simp [fitHead, and_assoc]
theorem head_no {w k v : Int} (h : ¬ (knownB w = true ∧ (3 ≤ k ∧ k ≤ w) ∧ valB w v = true)) : fitHead w k v = false := by
  cases hh : fitHead w k v
  · rfl
  · exact absurd (head_parts.1 hh) h
theorem all_drop {p : Int → Bool} (rs : List Int) (i : Nat) (h : i < rs.length) : (rs.drop i).all p = (p (rs[i]?.getD 0) && (rs.drop (i + 1)).all p) := by
  rw [List.drop_eq_getElem_cons h, List.all_cons]; simp [h]

theorem fits_head_no (x : Int) (a : Option Addr) (len cap : Nat) (rs : List Int) (k v : Int) (w : World) (h : fitHead x k v = false) :
    Calls Try.prog 18 #[.int .i64 x, .slice a len cap, .int .i64 k, .int .i64 v] w fun e w' => e = .returned (.bool (fitsS x rs k v)) ∧ w = w' := by
  have hn := fits_nohead (rs := rs) h
  have HN := Lib.hid hn
  have HH := Lib.hid h
  clear hn h
  cases h1 : knownB x
  · go_enter Try.func18, Try.ntmps18
    go_wp2_with ((go_at_call 41; refine (known_any _ _).mono ?_; rintro e w' ⟨rfl, rfl⟩))
    go_ret
    exact ⟨ret_bool HN.out.symm, rfl⟩
  · have hx := known_rng h1
    by_cases h3 : k < 3
    · go_enter Try.func18, Try.ntmps18
      go_wp2_with ((go_at_call 41; refine (known_any _ _).mono ?_; rintro e w' ⟨rfl, rfl⟩))
      go_ret
      exact ⟨ret_bool HN.out.symm, rfl⟩
    · by_cases h4 : x < k
      · go_enter Try.func18, Try.ntmps18
        go_wp2_with ((go_at_call 41; refine (known_any _ _).mono ?_; rintro e w' ⟨rfl, rfl⟩))
        go_ret
        exact ⟨ret_bool HN.out.symm, rfl⟩
      · have h5 : valB x v = false := by
          cases h5 : valB x v
          · rfl
          · have := head_parts (k := k).2 ⟨h1, ⟨by omega, by omega⟩, h5⟩
            rw [HH.out] at this; cases this
        go_enter Try.func18, Try.ntmps18
        go_wp2_with (first | ((go_at_call 41; refine (known_any _ _).mono ?_; rintro e w' ⟨rfl, rfl⟩)) | ((go_at_call 42; refine (value_any _ _ _ (by omega) (by omega)).mono ?_; rintro e w' ⟨rfl, rfl⟩)))
        go_ret
        exact ⟨ret_bool HN.out.symm, rfl⟩

theorem fits_any (x : Int) (a : Option Addr) (len cap : Nat) (rs : List Int) (k v : Int) (w : World) (hr : Rd .i64 w a len rs) :
    Calls Try.prog 18 #[.int .i64 x, .slice a len cap, .int .i64 k, .int .i64 v] w fun e w' => e = .returned (.bool (fitsS x rs k v)) ∧ w = w' := by
  cases hh : fitHead x k v
  · exact fits_head_no x a len cap rs k v w hh
  · have hl := fits_len (rs := rs) hh
    obtain ⟨h1, ⟨h3, h4⟩, h5⟩ := head_parts.1 hh
    have hx := known_rng h1
    have hm : len ≤ 9223372036854775807 := by have := hr.2.2.1; simp only [maxLen] at this; omega
    have HL := Lib.hid hl
    have HR := Lib.hid hr
    clear hl hh
    by_cases h0 : len = 0
    · subst h0
      have : rs = [] := List.eq_nil_of_length_eq_zero hr.1
      have HE := Lib.hid this
      clear this hr
      go_enter Try.func18, Try.ntmps18
      go_wp2_with (first | ((go_at_call 41; refine (known_any _ _).mono ?_; rintro e w' ⟨rfl, rfl⟩)) | ((go_at_call 42; refine (value_any _ _ _ (by omega) (by omega)).mono ?_; rintro e w' ⟨rfl, rfl⟩)))
      go_loop [10, 31] (fun _ i => i = .int .i64 0) (fun _ _ => 0)
      case atStart => exact rfl
      case round =>
        subst hrel
        go_wp2_with fail
        go_ret
        exact ⟨ret_bool (by rw [HL.out, HE.out]; rfl), rfl⟩
    · obtain ⟨b, off, rfl, hb, hc⟩ := hr.some (by omega)
      have HC := Lib.hid hc
      clear hr hc
      go_enter Try.func18, Try.ntmps18
      go_wp2_with (first | ((go_at_call 41; refine (known_any _ _).mono ?_; rintro e w' ⟨rfl, rfl⟩)) | ((go_at_call 42; refine (value_any _ _ _ (by omega) (by omega)).mono ?_; rintro e w' ⟨rfl, rfl⟩)))
      go_loop [10, 31] (fun _ i => ∃ j : Nat, j ≤ len ∧ i = .int .i64 j ∧ rs.all (fitOne x k v) = (rs.drop j).all (fitOne x k v)) (fun _ i => len - (intOf i).toNat)
      case atStart => exact ⟨0, by omega, rfl, by simp⟩
      case round =>
        obtain ⟨j, hj, rfl, hall⟩ := hrel
        have HA := Lib.hid hall
        clear hall
        by_cases hlt : j < len
        · have cj := HC.out j hlt
          have hd := all_drop (p := fitOne x k v) rs j (by rw [HR.out.1]; exact hlt)
          have HD := Lib.hid hd
          clear hd
          obtain ⟨r, hrr⟩ : ∃ r, rs[j]?.getD 0 = r := ⟨_, rfl⟩
          have HRR := Lib.hid hrr
          rw [hrr] at cj
          clear hrr
          cases h6 : valB x r
          · have H6 := Lib.hid h6
            go_wp2_with ((go_at_call 42; refine (value_any _ _ _ (by omega) (by omega)).mono ?_; rintro e w' ⟨rfl, rfl⟩))
            go_ret
            exact ⟨ret_bool (by rw [HL.out, HA.out, HD.out, HRR.out]; simp [fitOne, H6.out]), rfl⟩
          · have hrg := val_rng hx.2 h6
            have H6 := Lib.hid h6
            cases h7 : (decS x r k (lowS k v) == v)
            · have h7' : (decS x r k (lowS k v) != v) = true := by rw [bne, h7]; rfl
              have H7 := Lib.hid h7
              go_wp2_with (first | ((go_at_call 42; refine (value_any _ _ _ (by omega) (by omega)).mono ?_; rintro e w' ⟨rfl, rfl⟩)) | ((go_at_call 46; refine (slow _ _ _).mono ?_; rintro e w' ⟨rfl, rfl⟩)) | ((go_at_call 43; refine (dec_any _ _ _ _ _ hrg.1 hrg.2).mono ?_; rintro e w' ⟨rfl, rfl⟩)))
              go_ret
              exact ⟨ret_bool (by rw [HL.out, HA.out, HD.out, HRR.out]; simp [fitOne, H7.out]), rfl⟩
            · have h7' : (decS x r k (lowS k v) != v) = false := by rw [bne, h7]; rfl
              have H7 := Lib.hid h7
              go_wp2_with (first | ((go_at_call 42; refine (value_any _ _ _ (by omega) (by omega)).mono ?_; rintro e w' ⟨rfl, rfl⟩)) | ((go_at_call 46; refine (slow _ _ _).mono ?_; rintro e w' ⟨rfl, rfl⟩)) | ((go_at_call 43; refine (dec_any _ _ _ _ _ hrg.1 hrg.2).mono ?_; rintro e w' ⟨rfl, rfl⟩)))
              go_round
              case rel => exact ⟨j + 1, by omega, by go_num, by rw [HA.out, HD.out, HRR.out]; simp [fitOne, H6.out, H7.out]⟩
              case measure => simp [intOf]; omega
        · go_wp2_with fail
          go_ret
          exact ⟨ret_bool (by rw [HL.out, HA.out, List.drop_eq_nil_of_le (by rw [HR.out.1]; omega)]; rfl), rfl⟩

/-! ### Least -/
theorem least_any (x : Int) (a : Option Addr) (len cap : Nat) (rs : List Int) (v : Int) (w : World) (hr : Rd .i64 w a len rs) :
    Calls Try.prog 20 #[.int .i64 x, .slice a len cap, .int .i64 v] w fun e w' => e = .returned (.int .i64 (leastS x rs v)) ∧ w = w' := by
  cases h1 : knownB x
  · have H1 := Lib.hid h1
    go_enter Try.func20, Try.ntmps20
    go_wp2_with fail
    go_loop [7] (fun i => i = .int .i64 3) (fun _ => 0)
    case atStart => rfl
    case round =>
      subst hrel
      go_wp2_with ((go_at_call 41; refine (known_any _ _).mono ?_; rintro e w' ⟨rfl, rfl⟩))
      go_ret
      exact ⟨ret_i64 (by simp [leastS, H1.out]), rfl⟩
  · have hx := known_rng h1
    have H1 := Lib.hid h1
    have HR := Lib.hid hr
    clear hr
    go_enter Try.func20, Try.ntmps20
    go_wp2_with fail
    go_loop [7] (fun i => ∃ (n : Nat) (k : Int), k + n = x + 1 ∧ 3 ≤ k ∧ i = .int .i64 k ∧ leastS x rs v = leastFrom x rs v n k) (fun i => (x + 1 - intOf i).toNat)
    case atStart => exact ⟨(x - 2).toNat, 3, by omega, by omega, rfl, by simp [leastS, H1.out]⟩
    case round =>
      obtain ⟨n, k, hn, hk3, rfl, hl⟩ := hrel
      have HL := Lib.hid hl
      have HN := Lib.hid hn
      have hk2 : k ≤ 33 := by omega
      by_cases hk : k ≤ x
      · obtain ⟨n', rfl⟩ : ∃ n', n = n' + 1 := ⟨n - 1, by omega⟩
        clear hl hn
        cases hf : fitsS x rs k v
        · have HF := Lib.hid hf
          go_wp2_with (first | ((go_at_call 41; refine (known_any _ _).mono ?_; rintro e w' ⟨rfl, rfl⟩)) | ((go_at_call 18; refine (fits_any _ _ _ _ _ _ _ _ HR.out).mono ?_; rintro e w' ⟨rfl, rfl⟩)))
          go_round
          case rel => exact ⟨n', k + 1, by have := HN.out; omega, by omega, rfl, by rw [HL.out]; simp [leastFrom, HF.out]⟩
          case measure => simp [intOf]; omega
        · have HF := Lib.hid hf
          go_wp2_with (first | ((go_at_call 41; refine (known_any _ _).mono ?_; rintro e w' ⟨rfl, rfl⟩)) | ((go_at_call 18; refine (fits_any _ _ _ _ _ _ _ _ HR.out).mono ?_; rintro e w' ⟨rfl, rfl⟩)))
          go_ret
          exact ⟨ret_i64 (by rw [HL.out]; simp [leastFrom, HF.out]), rfl⟩
      · obtain rfl : n = 0 := by omega
        clear hl hn
        go_wp2_with ((go_at_call 41; refine (known_any _ _).mono ?_; rintro e w' ⟨rfl, rfl⟩))
        go_ret
        exact ⟨ret_i64 (by rw [HL.out]; rfl), rfl⟩

/-! ### the reference -/
theorem rwide_any (x : Int) (w : World) : Calls Try.prog 44 #[.int .i64 x] w fun e w' => e = .returned (.bool (knownB x)) ∧ w = w' := by
  go_enter Try.func44, Try.ntmps44
  go_wp2
  all_goals (go_ret; exact ⟨ret_bool (by rw [Bool.eq_iff_iff]; simp [knownB]; omega), rfl⟩)
theorem roffset_any (k : Int) (w : World) : Calls Try.prog 17 #[.int .i64 k] w fun e w' => e = .returned (.int .i64 (offS k)) ∧ w = w' := by
  go_enter Try.func17, Try.ntmps17
  go_wp2
  · go_ret
    exact ⟨ret_i64 (by unfold offS; rw [if_neg (by omega)]), rfl⟩
  · go_ret
    exact ⟨ret_i64 (by unfold offS; rw [if_pos (by assumption), wrap_pow1 (by omega)]), rfl⟩
  · go_ret
    exact ⟨ret_i64 (by unfold offS; rw [if_neg (by omega)]), rfl⟩
theorem val_neg {x r : Int} (h : r < 0) : valB x r = false := by simp [valB]; omega
theorem val_far {x r : Int} (h : 2 ^ x.toNat ≤ r) : valB x r = false := by simp [valB]; omega
theorem val_yes {x r : Int} (h : ¬ r < 0) (h2 : ¬ 2 ^ x.toNat ≤ r) : valB x r = true := by simp [valB]; omega

theorem rdecode_any (x r k low : Int) (w : World) :
    Calls Try.prog 15 #[.int .i64 x, .int .i64 r, .int .i64 k, .int .i64 low] w fun e w' => e = .returned (.tuple #[.int .i64 (decV x r k low), .int .i64 (decE x r k low)]) ∧ w = w' := by
  by_cases h1 : knownB x = true
  · have hx := known_rng h1
    by_cases h3 : k < 3
    · have hn := dec_no (r := r) (k := k) (low := low) h1 (fun h => by omega)
      have HN := Lib.hid hn
      clear hn
      go_enter Try.func15, Try.ntmps15
      go_wp2_with ((go_at_call 44; refine (rwide_any _ _).mono ?_; rintro e w' ⟨rfl, rfl⟩))
      go_ret2
      exact ⟨ret_ii' HN.out.1 HN.out.2, rfl⟩
    · by_cases h4 : x < k
      · have hn := dec_no (r := r) (k := k) (low := low) h1 (fun h => by omega)
        have HN := Lib.hid hn
        clear hn
        go_enter Try.func15, Try.ntmps15
        go_wp2_with ((go_at_call 44; refine (rwide_any _ _).mono ?_; rintro e w' ⟨rfl, rfl⟩))
        go_ret2
        exact ⟨ret_ii' HN.out.1 HN.out.2, rfl⟩
      · have hwx := wrap_pow (show x.toNat ≤ 62 by omega)
        have hwk := wrap_pow (show k.toNat ≤ 62 by omega)
        by_cases b1 : r < 0
        · have hn := dec_no (r := r) (k := k) (low := low) h1 (fun h => by rw [val_neg b1] at h; simp at h)
          have HN := Lib.hid hn
          clear hn
          go_enter Try.func15, Try.ntmps15
          go_wp2_with ((go_at_call 44; refine (rwide_any _ _).mono ?_; rintro e w' ⟨rfl, rfl⟩))
          go_ret2
          exact ⟨ret_ii' HN.out.1 HN.out.2, rfl⟩
        · by_cases b2 : 2 ^ x.toNat ≤ r
          · have hn := dec_no (r := r) (k := k) (low := low) h1 (fun h => by rw [val_far b2] at h; simp at h)
            have HN := Lib.hid hn
            clear hn
            go_enter Try.func15, Try.ntmps15
            go_wp2_with ((go_at_call 44; refine (rwide_any _ _).mono ?_; rintro e w' ⟨rfl, rfl⟩))
            go_ret2
            exact ⟨ret_ii' HN.out.1 HN.out.2, rfl⟩
          · by_cases b3 : low < 0
            · have hn := dec_no (r := r) (k := k) (low := low) h1 (fun h => by rw [val_neg b3] at h; simp at h)
              have HN := Lib.hid hn
              clear hn
              go_enter Try.func15, Try.ntmps15
              go_wp2_with ((go_at_call 44; refine (rwide_any _ _).mono ?_; rintro e w' ⟨rfl, rfl⟩))
              go_ret2
              exact ⟨ret_ii' HN.out.1 HN.out.2, rfl⟩
            · by_cases b4 : 2 ^ k.toNat ≤ low
              · have hn := dec_no (r := r) (k := k) (low := low) h1 (fun h => by rw [val_far b4] at h; simp at h)
                have HN := Lib.hid hn
                clear hn
                go_enter Try.func15, Try.ntmps15
                go_wp2_with ((go_at_call 44; refine (rwide_any _ _).mono ?_; rintro e w' ⟨rfl, rfl⟩))
                go_ret2
                exact ⟨ret_ii' HN.out.1 HN.out.2, rfl⟩
              · have h5 := val_yes b1 b2
                have h6 := val_yes b3 b4
                have hr := val_rng hx.2 h5
                have ho := off_rng (k := k)
                have hd : -1 ≤ distS k (r - offS k) low ∧ distS k (r - offS k) low < 4294967296 := lowS_rng k (low - (r - offS k))
                have hn := dec_yes h1 (by omega) h5 h6
                have HN := Lib.hid hn
                clear hn h5 h6
                go_enter Try.func15, Try.ntmps15
                go_wp2_with (first | ((go_at_call 44; refine (rwide_any _ _).mono ?_; rintro e w' ⟨rfl, rfl⟩)) | ((go_at_call 17; refine (roffset_any _ _).mono ?_; rintro e w' ⟨rfl, rfl⟩)) | ((go_at_call 45; refine (rdist _ _ _ _).mono ?_; rintro e w' ⟨rfl, rfl⟩)) | ((go_at_call 13; refine (rlow _ _ _).mono ?_; rintro e w' ⟨rfl, rfl⟩)))
                go_ret2
                exact ⟨ret_ii' HN.out.1 HN.out.2, rfl⟩
  · have h1' : knownB x = false := by simpa using h1
    have hn : 0 = decV x r k low ∧ 7 = decE x r k low := by simp [decV, decE, h1']
    have HN := Lib.hid hn
    clear hn h1
    go_enter Try.func15, Try.ntmps15
    go_wp2_with ((go_at_call 44; refine (rwide_any _ _).mono ?_; rintro e w' ⟨rfl, rfl⟩))
    go_ret2
    exact ⟨ret_ii' HN.out.1 HN.out.2, rfl⟩
end Go.Proofs.Ytinkllejjilenaa
