/- checksum.Update and its reference. -/
import Derived.Test.YtajbenpekphllaaChecksum
namespace Go.Proofs.Ytajbenpekphllaa
open Go.ChangeShapes Go.WideShapes Go.ChangeAt Go.RowKit

def wordB (x : Int) : Bool := decide (0 ≤ x ∧ x ≤ 65535)
def updB (s f t : Int) : Bool := wordB s && wordB f && wordB t
def updV (s f t : Int) : Int := if updB s f t then 65535 - foldS (65535 - s + 65535 - f + t) else 0
def updE (s f t : Int) : Int := if updB s f t then 0 else 3
theorem wordB_yes {x : Int} (h : wordB x = true) : 0 ≤ x ∧ x ≤ 65535 := by simpa [wordB] using h
theorem wordB_no {x : Int} (h : wordB x = false) : ¬ (0 ≤ x ∧ x ≤ 65535) := by simpa [wordB] using h
theorem wordB_mk {x : Int} (h : 0 ≤ x) (h2 : x ≤ 65535) : wordB x = true := by simp [wordB, h, h2]
theorem ret_ii {a b x y : Int} (h : a = b) (k : x = y) : Ending.returned (.tuple #[.int .i64 a, .int .i64 x]) = .returned (.tuple #[.int .i64 b, .int .i64 y]) := by rw [h, k]

theorem word_any (x : Int) (w : World) :
    Calls Try.prog 37 #[.int .i64 x] w fun e w' => e = .returned (.bool (wordB x)) ∧ w = w' := by
  go_enter Try.func37, Try.ntmps37
  go_wp2
  · go_ret
    exact ⟨ret_bool (by have : 0 ≤ x := by assumption
                        simp [wordB, this]), rfl⟩
  · go_ret
    exact ⟨ret_bool (by have : x < 0 := by assumption
                        simp [wordB]; omega), rfl⟩

theorem update_any (s f t : Int) (w : World) :
    Calls Try.prog 29 #[.int .i64 s, .int .i64 f, .int .i64 t] w fun e w' => e = .returned (.tuple #[.int .i64 (updV s f t), .int .i64 (updE s f t)]) ∧ w = w' := by
  cases h1 : wordB s
  · have H1 := Lib.hid h1
    go_enter Try.func29, Try.ntmps29
    go_wp2_with ((go_at_call 37; refine (word_any _ _).mono ?_; rintro e w' ⟨rfl, rfl⟩))
    go_ret2
    exact ⟨ret_ii (by simp [updV, updB, H1.out]) (by simp [updE, updB, H1.out]), rfl⟩
  · have H1 := Lib.hid h1
    cases h2 : wordB f
    · have H2 := Lib.hid h2
      go_enter Try.func29, Try.ntmps29
      go_wp2_with ((go_at_call 37; refine (word_any _ _).mono ?_; rintro e w' ⟨rfl, rfl⟩))
      go_ret2
      exact ⟨ret_ii (by simp [updV, updB, H2.out]) (by simp [updE, updB, H2.out]), rfl⟩
    · have H2 := Lib.hid h2
      cases h3 : wordB t
      · have H3 := Lib.hid h3
        go_enter Try.func29, Try.ntmps29
        go_wp2_with ((go_at_call 37; refine (word_any _ _).mono ?_; rintro e w' ⟨rfl, rfl⟩))
        go_ret2
        exact ⟨ret_ii (by simp [updV, updB, H3.out]) (by simp [updE, updB, H3.out]), rfl⟩
      · have H3 := Lib.hid h3
        obtain ⟨a1, a2⟩ := wordB_yes h1
        obtain ⟨a3, a4⟩ := wordB_yes h2
        obtain ⟨a5, a6⟩ := wordB_yes h3
        have hr := foldS_rng (65535 - s + 65535 - f + t)
        go_enter Try.func29, Try.ntmps29
        go_wp2_with (first | ((go_at_call 37; refine (word_any _ _).mono ?_; rintro e w' ⟨rfl, rfl⟩)) | ((go_at_call 17; refine (fold_any _ _ (by omega)).mono ?_; rintro e w' ⟨rfl, rfl⟩)))
        go_ret2
        exact ⟨ret_ii (by simp [updV, updB, H1.out, H2.out, H3.out]) (by simp [updE, updB, H1.out, H2.out, H3.out]), rfl⟩

theorem upd_no {s f t : Int} (h : ¬ (0 ≤ s ∧ s ≤ 65535 ∧ 0 ≤ f ∧ f ≤ 65535 ∧ 0 ≤ t ∧ t ≤ 65535)) : 0 = updV s f t ∧ 3 = updE s f t := by
  have : updB s f t = false := by
    cases e : updB s f t
    · rfl
    · simp only [updB, wordB, Bool.and_eq_true, decide_eq_true_eq] at e; omega
  simp [updV, updE, this]
theorem upd_yes {s f t : Int} (h : 0 ≤ s ∧ s ≤ 65535 ∧ 0 ≤ f ∧ f ≤ 65535 ∧ 0 ≤ t ∧ t ≤ 65535) : 65535 - foldS (65535 - s + 65535 - f + t) = updV s f t ∧ 0 = updE s f t := by
  have : updB s f t = true := by
    simp only [updB, wordB, Bool.and_eq_true, decide_eq_true_eq]; omega
  simp [updV, updE, this]

theorem rupdate_any (s f t : Int) (w : World) :
    Calls Try.prog 30 #[.int .i64 s, .int .i64 f, .int .i64 t] w fun e w' => e = .returned (.tuple #[.int .i64 (updV s f t), .int .i64 (updE s f t)]) ∧ w = w' := by
  by_cases h : 0 ≤ s ∧ s ≤ 65535 ∧ 0 ≤ f ∧ f ≤ 65535 ∧ 0 ≤ t ∧ t ≤ 65535
  · obtain ⟨a1, a2, a3, a4, a5, a6⟩ := h
    have hr := foldS_rng (65535 - s + 65535 - f + t)
    have hu := upd_yes ⟨a1, a2, a3, a4, a5, a6⟩
    have HU := Lib.hid hu
    clear hu
    go_enter Try.func30, Try.ntmps30
    go_wp2_with ((go_at_call 31; refine (rfold_any _ _ (by omega)).mono ?_; rintro e w' ⟨rfl, rfl⟩))
    go_ret2
    exact ⟨ret_ii HU.out.1 HU.out.2, rfl⟩
  · have HU := Lib.hid (upd_no h)
    have HH := Lib.hid h
    clear h
    by_cases b1 : s < 0
    · go_enter Try.func30, Try.ntmps30
      go_wp2_with fail
      go_ret2
      exact ⟨ret_ii HU.out.1 HU.out.2, rfl⟩
    · by_cases b2 : 65535 < s
      · go_enter Try.func30, Try.ntmps30
        go_wp2_with fail
        go_ret2
        exact ⟨ret_ii HU.out.1 HU.out.2, rfl⟩
      · by_cases b3 : f < 0
        · go_enter Try.func30, Try.ntmps30
          go_wp2_with fail
          go_ret2
          exact ⟨ret_ii HU.out.1 HU.out.2, rfl⟩
        · by_cases b4 : 65535 < f
          · go_enter Try.func30, Try.ntmps30
            go_wp2_with fail
            go_ret2
            exact ⟨ret_ii HU.out.1 HU.out.2, rfl⟩
          · by_cases b5 : t < 0
            · go_enter Try.func30, Try.ntmps30
              go_wp2_with fail
              go_ret2
              exact ⟨ret_ii HU.out.1 HU.out.2, rfl⟩
            · have b6 : 65535 < t := by have := HH.out; omega
              go_enter Try.func30, Try.ntmps30
              go_wp2_with fail
              go_ret2
              exact ⟨ret_ii HU.out.1 HU.out.2, rfl⟩
end Go.Proofs.Ytajbenpekphllaa
