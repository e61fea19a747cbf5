/- The law LsbBetween: its walk. -/
import Derived.Test.YtinkllejjilenaaLsbLaws
namespace Go.Proofs.Ytinkllejjilenaa
open Go.ChangeShapes Go.WideShapes Go.ChangeAt Go.RowKit

set_option maxHeartbeats 4000000 in
theorem btw_walk (kind n0 n1 n2 n3 : Int) (w : World) (_hk : i64 kind) (h0 : i64 n0) (h1 : i64 n1) (h2 : i64 n2) (h3 : i64 n3) :
    Calls Try.prog 6 #[.int .i64 kind, .agg #[.int .i64 n0, .int .i64 n1, .int .i64 n2, .int .i64 n3]] w fun e w' => e = .returned (.bool true) ∧ Gr w w' := by
  obtain ⟨h0a, h0b⟩ := h0
  obtain ⟨h1a, h1b⟩ := h1
  obtain ⟨h2a, h2b⟩ := h2
  obtain ⟨h3a, h3b⟩ := h3
  have k1 := modF_lo kind 2
  have k2 := modF_hi kind 2 (by omega)
  by_cases c0 : modF kind 2 = 0
  · have hm0 : modF kind 2 = 0 := c0
    have hpick : ∀ w : World, (Instr.index 36 (.agg #[.int .i64 16, .int .i64 32]) (.int .i64 0)).run Try.prog w = .ok (.int .i64 16) w := fun w => run_index_cell (j := 0) w Try.underlying36 (by kernel_rfl) Try.underlying3 (by kernel_rfl) (by decide) rfl
    have m1 := modF_lo n0 10
    have m2 := modF_hi n0 10 (by omega)
    obtain ⟨k, hm⟩ : ∃ k, modF n0 10 = k - 3 := ⟨modF n0 10 + 3, by omega⟩
    have m3 := modF_lo n1 65536
    have m4 := modF_hi n1 65536 (by omega)
    obtain ⟨a, ha⟩ : ∃ a, modF n1 65536 = a := ⟨_, rfl⟩
    rw [hm] at m1 m2
    rw [ha] at m3 m4
    have hpk := two_pow_pos k.toNat
    have hlk : (2 : Int) ^ k.toNat ≤ 4096 := two_pow_le (j := k.toNat) (k := 12) (by omega)
    have m5 := modF_lo n2 (2 ^ k.toNat)
    have m6 := modF_hi n2 (2 ^ k.toNat) (by omega)
    obtain ⟨f, hf⟩ : ∃ f, modF n2 (2 ^ k.toNat) = f := ⟨_, rfl⟩
    rw [hf] at m5 m6
    have m7 := modF_lo n3 (2 * 2 ^ k.toNat)
    have m8 := modF_hi n3 (2 * 2 ^ k.toNat) (by omega)
    obtain ⟨d, hd⟩ : ∃ d, modF n3 (2 * 2 ^ k.toNat) = d := ⟨_, rfl⟩
    rw [hd] at m7 m8
    have hpk2 := two_pow_pos (k - 2).toNat
    have hlk2 : (2 : Int) ^ (k - 2).toNat ≤ 4096 := two_pow_le (j := (k - 2).toNat) (k := 12) (by omega)
    have hl1 := low_in (w := 16) (x := a + f) (by decide)
    have hl2 := low_in (w := 16) (x := a + d - 2 ^ (k - 2).toNat) (by decide)
    have hv : valB 16 (lowS 16 (a + d - 2 ^ (k - 2).toNat)) = true := low_val (by omega) (by omega)
    have hpl : ∀ t, 0 ≤ t → t ≤ f → fitsS 16 [a, lowS 16 (a + f)] k (lowS 16 (a + d - 2 ^ (k - 2).toNat)) = true → _ := fun t h1 h2 h => btw_plain (w := 16) (k := k) (a := a) (f := f) (t := t) (by decide) (by omega) (by omega) (by simp [valB]; omega) m5 m6 h1 h2 hv h
    obtain ⟨b, hb⟩ : ∃ b, lowS 16 (a + f) = b := ⟨_, rfl⟩
    obtain ⟨v, hvv⟩ : ∃ v, lowS 16 (a + d - 2 ^ (k - 2).toNat) = v := ⟨_, rfl⟩
    rw [hb] at hl1 hpl
    rw [hvv] at hl2 hpl
    have HPL := Lib.hid hpl
    have HM0 := Lib.hid hm0
    have HM := Lib.hid hm
    have HA := Lib.hid ha
    have HF := Lib.hid hf
    have HD := Lib.hid hd
    have HB := Lib.hid hb
    have HV := Lib.hid hvv
    clear hm0 hm ha hf hd hb hvv hpl hv k1 k2 c0
    go_enter Try.func6, Try.ntmps6
    go_wp2_with fail
    refine (mod_is HM0.out _ (by omega)).mono ?_
    rintro e w' ⟨rfl, rfl⟩
    go_wp2_with fail
    refine (mod_is HM.out _ (by omega)).mono ?_
    rintro e w' ⟨rfl, rfl⟩
    go_wp2_with fail
    rw [show (3 : Int) + (k - 3) = k from by omega]
    refine (mod_is HA.out _ (by omega)).mono ?_
    rintro e w' ⟨rfl, rfl⟩
    go_wp2_with fail
    refine (mod_is HF.out _ (by omega)).mono ?_
    rintro e w' ⟨rfl, rfl⟩
    go_wp2_with fail
    refine (rlow _ _ _).mono ?_
    rintro e w' ⟨rfl, rfl⟩
    rw [HB.out]
    go_wp2_with fail
    refine (mod_is HD.out _ (by omega)).mono ?_
    rintro e w' ⟨rfl, rfl⟩
    go_wp2_with fail
    refine (rlow _ _ _).mono ?_
    rintro e w' ⟨rfl, rfl⟩
    rw [HV.out]
    obtain ⟨w1, hw1⟩ : ∃ x, x = w.alloc (.cells #[.int .i64 n0, .int .i64 n1, .int .i64 n2, .int .i64 n3] 22) := ⟨_, rfl⟩
    rw [← hw1]
    have HG1 : Gr w w1 := by rw [hw1]; exact Gr.alloc _ _
    have cn0 : w1.cell? ⟨w.heap.size, 0, none⟩ = some (.int .i64 n0) := by rw [hw1, cell_new]; rfl
    have HC0 := Lib.hid cn0
    clear hw1 cn0
    go_wp2_with fail
    refine (fits_any _ _ _ _ [a, b] _ _ _ (rd_two a b _ _ (by constructor <;> omega) (by constructor <;> omega))).mono ?_
    rintro e w' ⟨rfl, rfl⟩
    obtain ⟨w2, hw2⟩ : ∃ x, x = w1.alloc (.cells #[.int .i64 a, .int .i64 b] 3) := ⟨_, rfl⟩
    rw [← hw2]
    have HG2 : Gr w w2 := by rw [hw2]; exact HG1.trans (Gr.alloc _ _)
    have cn0 : w2.cell? ⟨w.heap.size, 0, none⟩ = some (.int .i64 n0) := by rw [hw2]; exact (Gr.alloc _ _).cell HC0.out
    clear hw2
    cases hfit : fitsS 16 [a, b] k v
    · go_wp2_with fail
      refine (awake7 _).mono ?_
      rintro e w4 ⟨rfl, hg4⟩
      have HG4 := Lib.hid hg4
      clear hg4
      go_wp2_with fail
      go_ret
      exact ⟨rfl, HG2.trans HG4.out⟩
    · have HFIT := Lib.hid hfit
      clear hfit
      have t1 := modF_lo (n0.tdiv 16) (f + 1)
      have t2 := modF_hi (n0.tdiv 16) (f + 1) (by omega)
      obtain ⟨t, ht⟩ : ∃ t, modF (n0.tdiv 16) (f + 1) = t := ⟨_, rfl⟩
      rw [ht] at t1 t2
      have hfin := HPL.out t t1 (by omega) HFIT.out
      have hl3 := low_in (w := 16) (x := a + t) (by decide)
      obtain ⟨c, hc⟩ : ∃ c, lowS 16 (a + t) = c := ⟨_, rfl⟩
      rw [hc] at hfin hl3
      have HT := Lib.hid ht
      have HC := Lib.hid hc
      obtain ⟨f1, f2⟩ := hfin
      have HF1 := Lib.hid f1
      clear ht hc f1
      go_wp2_with fail
      refine (mod_is HT.out _ (by omega)).mono ?_
      rintro e w' ⟨rfl, rfl⟩
      go_wp2_with fail
      refine (rlow _ _ _).mono ?_
      rintro e w' ⟨rfl, rfl⟩
      rw [HC.out]
      go_wp2_with fail
      refine (awake7 _).mono ?_
      rintro e w4 ⟨rfl, hg4⟩
      have HG4 := Lib.hid hg4
      clear hg4
      go_wp2_with fail
      refine (fits_any _ _ _ _ _ _ _ _ (rd_one c _ _ (by constructor <;> omega))).mono ?_
      rintro e w' ⟨rfl, rfl⟩
      rw [HF1.out]
      obtain ⟨w5, hw5⟩ : ∃ x, x = w4.alloc (.cells #[.int .i64 c] 3) := ⟨_, rfl⟩
      rw [← hw5]
      have HG5 : Gr w4 w5 := by rw [hw5]; exact Gr.alloc _ _
      clear hw5
      go_wp2_with fail
      refine (least_any _ _ _ _ [a, c, b] _ _ (rd_three a c b _ _ (by constructor <;> omega) (by constructor <;> omega) (by constructor <;> omega))).mono ?_
      rintro e w' ⟨rfl, rfl⟩
      obtain ⟨L, hL⟩ : ∃ L, leastS 16 [a, c, b] v = L := ⟨_, rfl⟩
      rw [hL] at f2
      rw [hL]
      clear hL
      go_wp2_with fail
      go_ret
      exact ⟨rfl, HG2.trans (HG4.out.trans (HG5.trans (Gr.alloc _ _)))⟩
  · have c1 : modF kind 2 = 1 := by omega
    clear c0
    have hm0 : modF kind 2 = 1 := c1
    have hpick : ∀ w : World, (Instr.index 36 (.agg #[.int .i64 16, .int .i64 32]) (.int .i64 1)).run Try.prog w = .ok (.int .i64 32) w := fun w => run_index_cell (j := 1) w Try.underlying36 (by kernel_rfl) Try.underlying3 (by kernel_rfl) (by decide) rfl
    have m1 := modF_lo n0 10
    have m2 := modF_hi n0 10 (by omega)
    obtain ⟨k, hm⟩ : ∃ k, modF n0 10 = k - 3 := ⟨modF n0 10 + 3, by omega⟩
    have m3 := modF_lo n1 4294967296
    have m4 := modF_hi n1 4294967296 (by omega)
    obtain ⟨a, ha⟩ : ∃ a, modF n1 4294967296 = a := ⟨_, rfl⟩
    rw [hm] at m1 m2
    rw [ha] at m3 m4
    have hpk := two_pow_pos k.toNat
    have hlk : (2 : Int) ^ k.toNat ≤ 4096 := two_pow_le (j := k.toNat) (k := 12) (by omega)
    have m5 := modF_lo n2 (2 ^ k.toNat)
    have m6 := modF_hi n2 (2 ^ k.toNat) (by omega)
    obtain ⟨f, hf⟩ : ∃ f, modF n2 (2 ^ k.toNat) = f := ⟨_, rfl⟩
    rw [hf] at m5 m6
    have m7 := modF_lo n3 (2 * 2 ^ k.toNat)
    have m8 := modF_hi n3 (2 * 2 ^ k.toNat) (by omega)
    obtain ⟨d, hd⟩ : ∃ d, modF n3 (2 * 2 ^ k.toNat) = d := ⟨_, rfl⟩
    rw [hd] at m7 m8
    have hpk2 := two_pow_pos (k - 2).toNat
    have hlk2 : (2 : Int) ^ (k - 2).toNat ≤ 4096 := two_pow_le (j := (k - 2).toNat) (k := 12) (by omega)
    have hl1 := low_in (w := 32) (x := a + f) (by decide)
    have hl2 := low_in (w := 32) (x := a + d - 2 ^ (k - 2).toNat) (by decide)
    have hv : valB 32 (lowS 32 (a + d - 2 ^ (k - 2).toNat)) = true := low_val (by omega) (by omega)
    have hpl : ∀ t, 0 ≤ t → t ≤ f → fitsS 32 [a, lowS 32 (a + f)] k (lowS 32 (a + d - 2 ^ (k - 2).toNat)) = true → _ := fun t h1 h2 h => btw_plain (w := 32) (k := k) (a := a) (f := f) (t := t) (by decide) (by omega) (by omega) (by simp [valB]; omega) m5 m6 h1 h2 hv h
    obtain ⟨b, hb⟩ : ∃ b, lowS 32 (a + f) = b := ⟨_, rfl⟩
    obtain ⟨v, hvv⟩ : ∃ v, lowS 32 (a + d - 2 ^ (k - 2).toNat) = v := ⟨_, rfl⟩
    rw [hb] at hl1 hpl
    rw [hvv] at hl2 hpl
    have HPL := Lib.hid hpl
    have HM0 := Lib.hid hm0
    have HM := Lib.hid hm
    have HA := Lib.hid ha
    have HF := Lib.hid hf
    have HD := Lib.hid hd
    have HB := Lib.hid hb
    have HV := Lib.hid hvv
    clear hm0 hm ha hf hd hb hvv hpl hv k1 k2 c1
    go_enter Try.func6, Try.ntmps6
    go_wp2_with fail
    refine (mod_is HM0.out _ (by omega)).mono ?_
    rintro e w' ⟨rfl, rfl⟩
    go_wp2_with fail
    refine (mod_is HM.out _ (by omega)).mono ?_
    rintro e w' ⟨rfl, rfl⟩
    go_wp2_with fail
    rw [show (3 : Int) + (k - 3) = k from by omega]
    refine (mod_is HA.out _ (by omega)).mono ?_
    rintro e w' ⟨rfl, rfl⟩
    go_wp2_with fail
    refine (mod_is HF.out _ (by omega)).mono ?_
    rintro e w' ⟨rfl, rfl⟩
    go_wp2_with fail
    refine (rlow _ _ _).mono ?_
    rintro e w' ⟨rfl, rfl⟩
    rw [HB.out]
    go_wp2_with fail
    refine (mod_is HD.out _ (by omega)).mono ?_
    rintro e w' ⟨rfl, rfl⟩
    go_wp2_with fail
    refine (rlow _ _ _).mono ?_
    rintro e w' ⟨rfl, rfl⟩
    rw [HV.out]
    obtain ⟨w1, hw1⟩ : ∃ x, x = w.alloc (.cells #[.int .i64 n0, .int .i64 n1, .int .i64 n2, .int .i64 n3] 22) := ⟨_, rfl⟩
    rw [← hw1]
    have HG1 : Gr w w1 := by rw [hw1]; exact Gr.alloc _ _
    have cn0 : w1.cell? ⟨w.heap.size, 0, none⟩ = some (.int .i64 n0) := by rw [hw1, cell_new]; rfl
    have HC0 := Lib.hid cn0
    clear hw1 cn0
    go_wp2_with fail
    refine (fits_any _ _ _ _ [a, b] _ _ _ (rd_two a b _ _ (by constructor <;> omega) (by constructor <;> omega))).mono ?_
    rintro e w' ⟨rfl, rfl⟩
    obtain ⟨w2, hw2⟩ : ∃ x, x = w1.alloc (.cells #[.int .i64 a, .int .i64 b] 3) := ⟨_, rfl⟩
    rw [← hw2]
    have HG2 : Gr w w2 := by rw [hw2]; exact HG1.trans (Gr.alloc _ _)
    have cn0 : w2.cell? ⟨w.heap.size, 0, none⟩ = some (.int .i64 n0) := by rw [hw2]; exact (Gr.alloc _ _).cell HC0.out
    clear hw2
    cases hfit : fitsS 32 [a, b] k v
    · go_wp2_with fail
      refine (awake7 _).mono ?_
      rintro e w4 ⟨rfl, hg4⟩
      have HG4 := Lib.hid hg4
      clear hg4
      go_wp2_with fail
      go_ret
      exact ⟨rfl, HG2.trans HG4.out⟩
    · have HFIT := Lib.hid hfit
      clear hfit
      have t1 := modF_lo (n0.tdiv 16) (f + 1)
      have t2 := modF_hi (n0.tdiv 16) (f + 1) (by omega)
      obtain ⟨t, ht⟩ : ∃ t, modF (n0.tdiv 16) (f + 1) = t := ⟨_, rfl⟩
      rw [ht] at t1 t2
      have hfin := HPL.out t t1 (by omega) HFIT.out
      have hl3 := low_in (w := 32) (x := a + t) (by decide)
      obtain ⟨c, hc⟩ : ∃ c, lowS 32 (a + t) = c := ⟨_, rfl⟩
      rw [hc] at hfin hl3
      have HT := Lib.hid ht
      have HC := Lib.hid hc
      obtain ⟨f1, f2⟩ := hfin
      have HF1 := Lib.hid f1
      clear ht hc f1
      go_wp2_with fail
      refine (mod_is HT.out _ (by omega)).mono ?_
      rintro e w' ⟨rfl, rfl⟩
      go_wp2_with fail
      refine (rlow _ _ _).mono ?_
      rintro e w' ⟨rfl, rfl⟩
      rw [HC.out]
      go_wp2_with fail
      refine (awake7 _).mono ?_
      rintro e w4 ⟨rfl, hg4⟩
      have HG4 := Lib.hid hg4
      clear hg4
      go_wp2_with fail
      refine (fits_any _ _ _ _ _ _ _ _ (rd_one c _ _ (by constructor <;> omega))).mono ?_
      rintro e w' ⟨rfl, rfl⟩
      rw [HF1.out]
      obtain ⟨w5, hw5⟩ : ∃ x, x = w4.alloc (.cells #[.int .i64 c] 3) := ⟨_, rfl⟩
      rw [← hw5]
      have HG5 : Gr w4 w5 := by rw [hw5]; exact Gr.alloc _ _
      clear hw5
      go_wp2_with fail
      refine (least_any _ _ _ _ [a, c, b] _ _ (rd_three a c b _ _ (by constructor <;> omega) (by constructor <;> omega) (by constructor <;> omega))).mono ?_
      rintro e w' ⟨rfl, rfl⟩
      obtain ⟨L, hL⟩ : ∃ L, leastS 32 [a, c, b] v = L := ⟨_, rfl⟩
      rw [hL] at f2
      rw [hL]
      clear hL
      go_wp2_with fail
      go_ret
      exact ⟨rfl, HG2.trans (HG4.out.trans (HG5.trans (Gr.alloc _ _)))⟩
theorem btw_fit (kind n0 n1 n2 n3 : Int) (w : World) (hk : i64 kind) (h0 : i64 n0) (h1 : i64 n1) (h2 : i64 n2) (h3 : i64 n3) :
    Calls Try.prog 6 #[.int .i64 kind, .agg #[.int .i64 n0, .int .i64 n1, .int .i64 n2, .int .i64 n3]] w fun e w' => e = .returned (.bool true) ∧ Below w.heap.size w w' :=
  (btw_walk kind n0 n1 n2 n3 w hk h0 h1 h2 h3).mono fun _ _ ⟨he, hg⟩ => ⟨he, Below.of_none hg⟩
end Go.Proofs.Ytinkllejjilenaa
