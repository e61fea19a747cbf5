/- Layer 15 (counter): its plain functions on numbers, and the contracts of the program. -/
import Derived.Test.YtinkllejjilenaaBase
namespace Go.Proofs.Ytinkllejjilenaa
open Go.ChangeShapes Go.WideShapes Go.ChangeAt Go.RowKit

def bitsB (b : Int) : Bool := decide (5 ≤ b ∧ b ≤ 9)
def countB (n : Int) : Bool := decide (0 ≤ n ∧ n < 1048576)
def splitOk (b n : Int) : Bool := bitsB b && countB n
def splitU (b n : Int) : Int := if splitOk b n then n / 2 ^ b.toNat else 0
def splitS (b n : Int) : Int := if splitOk b n then n % 2 ^ b.toNat else 0
def splitE (b n : Int) : Int := if splitOk b n then 0 else 3
def seqOk (b s : Int) : Bool := bitsB b && decide (0 ≤ s ∧ s < 2 ^ b.toNat)
def inferOk (b f s : Int) : Bool := seqOk b s && decide (0 ≤ f ∧ f ≤ 1048576)
def inferV (b f s : Int) : Int := if inferOk b f s && countB (nearS b f s) then nearS b f s else 0
def inferE (b f s : Int) : Int := if inferOk b f s then (if nearS b f s < 0 then 11 else if nearS b f s ≥ 1048576 then 10 else 0) else 3
def joinOk (b u s : Int) : Bool := seqOk b s && decide (0 ≤ u)
def joinV (b u s : Int) : Int := if joinOk b u s && decide (u < 1048576 / 2 ^ b.toNat) then u * 2 ^ b.toNat + s else 0
def joinE (b u s : Int) : Int := if joinOk b u s then (if u < 1048576 / 2 ^ b.toNat then 0 else 10) else 3

theorem bits_rng {b : Int} (h : bitsB b = true) : 5 ≤ b ∧ b ≤ 9 := by simpa [bitsB] using h
theorem bits_pow {b : Int} (h : 5 ≤ b ∧ b ≤ 9) : 32 ≤ (2 : Int) ^ b.toNat ∧ (2 : Int) ^ b.toNat ≤ 512 := by
  have h1 : (2 : Int) ^ 5 ≤ 2 ^ b.toNat := two_pow_le (by omega)
  have h2 : (2 : Int) ^ b.toNat ≤ 2 ^ 9 := two_pow_le (by omega)
  have e1 : (2 : Int) ^ 5 = 32 := rfl
  have e2 : (2 : Int) ^ 9 = 512 := rfl
  omega
theorem infer_no {b f s : Int} (h : ¬ (bitsB b = true ∧ 0 ≤ f ∧ f ≤ 1048576 ∧ 0 ≤ s ∧ s < 2 ^ b.toNat)) : 0 = inferV b f s ∧ 3 = inferE b f s := by
  have : inferOk b f s = false := by
    cases hh : inferOk b f s
    · rfl
    · simp only [inferOk, seqOk, Bool.and_eq_true, decide_eq_true_eq] at hh
      exact absurd ⟨hh.1.1, hh.2.1, hh.2.2, hh.1.2.1, hh.1.2.2⟩ h
  simp [inferV, inferE, this]
theorem infer_yes {b f s : Int} (h : bitsB b = true) (h1 : 0 ≤ f) (h2 : f ≤ 1048576) (h3 : 0 ≤ s) (h4 : s < 2 ^ b.toNat) :
    (nearS b f s < 0 → 0 = inferV b f s ∧ 11 = inferE b f s) ∧ (1048576 ≤ nearS b f s → 0 = inferV b f s ∧ 10 = inferE b f s) ∧
    (0 ≤ nearS b f s → nearS b f s < 1048576 → nearS b f s = inferV b f s ∧ 0 = inferE b f s) := by
  have e : inferOk b f s = true := by simp [inferOk, seqOk, *]
  refine ⟨fun a => ?_, fun a => ?_, fun a c => ?_⟩
  · have : countB (nearS b f s) = false := by simp [countB]; omega
    simp [inferV, inferE, this, e, a]
  · have : countB (nearS b f s) = false := by simp [countB]; omega
    have a2 : ¬ nearS b f s < 0 := by omega
    simp [inferV, inferE, this, e, a, a2]
  · have : countB (nearS b f s) = true := by simp [countB]; omega
    have a2 : ¬ nearS b f s < 0 := by omega
    have a3 : ¬ nearS b f s ≥ 1048576 := by omega
    simp [inferV, inferE, this, e, a2, a3]
theorem near_rng (b f s : Int) (h : 0 ≤ f ∧ f ≤ 1048576) : -4294967296 ≤ nearS b f s ∧ nearS b f s ≤ 4296015872 := by
  have := signed_rng b f s
  unfold nearS; split <;> omega
theorem ret_ii' {a b x y : Int} (h : a = b) (k : x = y) : Ending.returned (.tuple #[.int .i64 a, .int .i64 x]) = .returned (.tuple #[.int .i64 b, .int .i64 y]) := by rw [h, k]
theorem ret_iii {a b x y u v : Int} (h : a = b) (k : x = y) (l : u = v) : Ending.returned (.tuple #[.int .i64 a, .int .i64 x, .int .i64 u]) = .returned (.tuple #[.int .i64 b, .int .i64 y, .int .i64 v]) := by rw [h, k, l]

/-! ### the program -/
theorem bits_any (b : Int) (w : World) : Calls Try.prog 47 #[.int .i64 b] w fun e w' => e = .returned (.bool (bitsB b)) ∧ w = w' := by
  go_enter Try.func47, Try.ntmps47
  go_wp2
  all_goals (go_ret; exact ⟨ret_bool (by rw [Bool.eq_iff_iff]; simp [bitsB]; omega), rfl⟩)
theorem count_any (n : Int) (w : World) : Calls Try.prog 49 #[.int .i64 n] w fun e w' => e = .returned (.bool (countB n)) ∧ w = w' := by
  go_enter Try.func49, Try.ntmps49
  go_wp2
  all_goals (go_ret; exact ⟨ret_bool (by rw [Bool.eq_iff_iff]; simp [countB]; omega), rfl⟩)

set_option maxHeartbeats 2000000 in
theorem infer_any (b f s : Int) (w : World) :
    Calls Try.prog 22 #[.int .i64 b, .int .i64 f, .int .i64 s] w fun e w' => e = .returned (.tuple #[.int .i64 (inferV b f s), .int .i64 (inferE b f s)]) ∧ w = w' := by
  cases hb : bitsB b
  · have hn := infer_no (b := b) (f := f) (s := s) (by rw [hb]; simp)
    have HN := Lib.hid hn
    clear hn
    go_enter Try.func22, Try.ntmps22
    go_wp2_with (first | ((go_at_call 47; refine (bits_any _ _).mono ?_; rintro e w' ⟨rfl, rfl⟩)) | ((go_at_call 49; refine (count_any _ _).mono ?_; rintro e w' ⟨rfl, rfl⟩)) | ((go_at_call 48; refine (snear _ _ _ _).mono ?_; rintro e w' ⟨rfl, rfl⟩)))
    go_ret2
    exact ⟨ret_ii' HN.out.1 HN.out.2, rfl⟩
  · obtain ⟨b1, b2⟩ := bits_rng hb
    obtain ⟨p1, p2⟩ := bits_pow ⟨b1, b2⟩
    have hno := infer_no (b := b) (f := f) (s := s)
    have hyes := infer_yes (f := f) (s := s) hb
    have HN := Lib.hid hno
    have HY := Lib.hid hyes
    have HB := Lib.hid hb
    clear hno hyes
    by_cases a1 : f < 0
    · go_enter Try.func22, Try.ntmps22
      go_wp2_with (first | ((go_at_call 47; refine (bits_any _ _).mono ?_; rintro e w' ⟨rfl, rfl⟩)) | ((go_at_call 49; refine (count_any _ _).mono ?_; rintro e w' ⟨rfl, rfl⟩)) | ((go_at_call 48; refine (snear _ _ _ _).mono ?_; rintro e w' ⟨rfl, rfl⟩)))
      go_ret2
      exact ⟨ret_ii' (HN.out (by omega)).1 (HN.out (by omega)).2, rfl⟩
    · by_cases a2 : 1048576 < f
      · go_enter Try.func22, Try.ntmps22
        go_wp2_with (first | ((go_at_call 47; refine (bits_any _ _).mono ?_; rintro e w' ⟨rfl, rfl⟩)) | ((go_at_call 49; refine (count_any _ _).mono ?_; rintro e w' ⟨rfl, rfl⟩)) | ((go_at_call 48; refine (snear _ _ _ _).mono ?_; rintro e w' ⟨rfl, rfl⟩)))
        go_ret2
        exact ⟨ret_ii' (HN.out (by omega)).1 (HN.out (by omega)).2, rfl⟩
      · by_cases a3 : s < 0
        · go_enter Try.func22, Try.ntmps22
          go_wp2_with (first | ((go_at_call 47; refine (bits_any _ _).mono ?_; rintro e w' ⟨rfl, rfl⟩)) | ((go_at_call 49; refine (count_any _ _).mono ?_; rintro e w' ⟨rfl, rfl⟩)) | ((go_at_call 48; refine (snear _ _ _ _).mono ?_; rintro e w' ⟨rfl, rfl⟩)))
          go_ret2
          exact ⟨ret_ii' (HN.out (by omega)).1 (HN.out (by omega)).2, rfl⟩
        · by_cases a4 : 2 ^ b.toNat ≤ s
          · go_enter Try.func22, Try.ntmps22
            go_wp2_with (first | ((go_at_call 47; refine (bits_any _ _).mono ?_; rintro e w' ⟨rfl, rfl⟩)) | ((go_at_call 49; refine (count_any _ _).mono ?_; rintro e w' ⟨rfl, rfl⟩)) | ((go_at_call 48; refine (snear _ _ _ _).mono ?_; rintro e w' ⟨rfl, rfl⟩)))
            go_ret2
            exact ⟨ret_ii' (HN.out (by omega)).1 (HN.out (by omega)).2, rfl⟩
          · have hr := near_rng b f s (by omega)
            have HY2 := Lib.hid (HY.out (by omega) (by omega) (by omega) (by omega))
            cases hc : countB (nearS b f s)
            · go_enter Try.func22, Try.ntmps22
              go_wp2_with (first | ((go_at_call 47; refine (bits_any _ _).mono ?_; rintro e w' ⟨rfl, rfl⟩)) | ((go_at_call 49; refine (count_any _ _).mono ?_; rintro e w' ⟨rfl, rfl⟩)) | ((go_at_call 48; refine (snear _ _ _ _).mono ?_; rintro e w' ⟨rfl, rfl⟩)))
              · go_ret2
                exact ⟨ret_ii' (HY2.out.1 (by assumption)).1 (HY2.out.1 (by assumption)).2, rfl⟩
              · go_ret2
                have h2 : 1048576 ≤ nearS b f s := by simp [countB] at hc; omega
                exact ⟨ret_ii' (HY2.out.2.1 h2).1 (HY2.out.2.1 h2).2, rfl⟩
            · obtain ⟨c1, c2⟩ : 0 ≤ nearS b f s ∧ nearS b f s < 1048576 := by simpa [countB] using hc
              go_enter Try.func22, Try.ntmps22
              go_wp2_with (first | ((go_at_call 47; refine (bits_any _ _).mono ?_; rintro e w' ⟨rfl, rfl⟩)) | ((go_at_call 49; refine (count_any _ _).mono ?_; rintro e w' ⟨rfl, rfl⟩)) | ((go_at_call 48; refine (snear _ _ _ _).mono ?_; rintro e w' ⟨rfl, rfl⟩)))
              go_ret2
              exact ⟨ret_ii' (HY2.out.2.2 c1 c2).1 (HY2.out.2.2 c1 c2).2, rfl⟩
end Go.Proofs.Ytinkllejjilenaa
