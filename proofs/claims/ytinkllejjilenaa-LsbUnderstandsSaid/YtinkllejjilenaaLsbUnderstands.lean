/- The law LsbUnderstands: its walk. -/
import Derived.Test.YtinkllejjilenaaLsbLaws
namespace Go.Proofs.Ytinkllejjilenaa
open Go.ChangeShapes Go.WideShapes Go.ChangeAt Go.RowKit

theorem mod_is {n m r : Int} (h : modF n m = r) (w : World) (hm : m ≤ 9223372036854775807) :
    Calls Try.prog 12 #[.int .i64 n, .int .i64 m] w fun e w' => e = .returned (.int .i64 r) ∧ w = w' := h ▸ mod_any n m w hm
theorem low_in {w x : Int} (hw : knownB w = true) : 0 ≤ lowS w x ∧ lowS w x < 4294967296 := by
  have hx := known_rng hw
  exact val_rng hx.2 (low_val (by omega) hx.2)
theorem rd_one {w : World} (x : Int) (e : TypeId) (fz : Nat × Nat) (h : i64 x) : Rd .i64 (w.alloc (.cells #[.int .i64 x] e fz)) (some ⟨w.heap.size, 0, none⟩) 1 [x] :=
  rd_new [x] e fz 1 rfl (by simp [maxLen]) (by intro y hy; simp at hy; subst hy; exact WalkArith.wf_i64 h)

set_option maxHeartbeats 4000000 in
theorem und_walk (kind reference n0 n1 : Int) (w : World) (_hk : i64 kind) (_hr : i64 reference) (h0 : i64 n0) (h1 : i64 n1) :
    Calls Try.prog 4 #[.int .i64 kind, .int .i64 reference, .agg #[.int .i64 n0, .int .i64 n1]] w fun e w' => e = .returned (.bool true) ∧ Gr w w' := by
  obtain ⟨h0a, h0b⟩ := h0
  obtain ⟨h1a, h1b⟩ := h1
  have k1 := modF_lo kind 3
  have k2 := modF_hi kind 3 (by omega)
  by_cases c0 : modF kind 3 = 0
  · have hm0 : modF kind 3 = 0 := c0
    have hpick : ∀ w : World, (Instr.index 25 (.agg #[.int .i64 8, .int .i64 16, .int .i64 32]) (.int .i64 0)).run Try.prog w = .ok (.int .i64 8) w := fun w => run_index_cell (j := 0) w Try.underlying25 (by kernel_rfl) Try.underlying3 (by kernel_rfl) (by decide) rfl
    have m1 := modF_lo n0 5
    have m2 := modF_hi n0 5 (by omega)
    obtain ⟨k, hm⟩ : ∃ k, modF n0 5 = k - 3 := ⟨modF n0 5 + 3, by omega⟩
    have m3 := modF_lo reference 256
    have m4 := modF_hi reference 256 (by omega)
    obtain ⟨r, hr⟩ : ∃ r, modF reference 256 = r := ⟨_, rfl⟩
    rw [hm] at m1 m2
    rw [hr] at m3 m4
    have hpk := two_pow_pos k.toNat
    have hlk : (2 : Int) ^ k.toNat ≤ 4294967296 := two_pow_le (j := k.toNat) (k := 32) (by omega)
    have m5 := modF_lo n1 (2 ^ k.toNat)
    have m6 := modF_hi n1 (2 ^ k.toNat) (by omega)
    obtain ⟨o, ho⟩ : ∃ o, modF n1 (2 ^ k.toNat) = o := ⟨_, rfl⟩
    rw [ho] at m5 m6
    have hof := off_rng (k := k)
    have hl1 := low_in (w := 8) (x := r - offS k + o) (by decide)
    have hu := und_plain (w := 8) (k := k) (r := r) (o := o) (by decide) (by omega) (by omega) (by simp [valB]; omega) m5 m6
    obtain ⟨u1, u2, u3, u4⟩ := hu
    obtain ⟨I, hI⟩ : ∃ I, lowS 8 (r - offS k + o) = I := ⟨_, rfl⟩
    rw [hI] at hl1 u1 u2 u3 u4
    have U1 := Lib.hid u1
    have U2 := Lib.hid u2
    have U3 := Lib.hid u3
    have U4 := Lib.hid u4
    have HI := Lib.hid hI
    have HM0 := Lib.hid hm0
    have HM := Lib.hid hm
    have HR := Lib.hid hr
    have HO := Lib.hid ho
    clear u1 u2 u3 u4 hI hm0 hm hr ho k1 k2 c0
    go_enter Try.func4, Try.ntmps4
    go_wp2_with fail
    refine (mod_is HM0.out _ (by omega)).mono ?_
    rintro e w' ⟨rfl, rfl⟩
    go_wp2_with fail
    refine (mod_is HM.out _ (by omega)).mono ?_
    rintro e w' ⟨rfl, rfl⟩
    go_wp2_with fail
    rw [show (3 : Int) + (k - 3) = k from by omega]
    refine (mod_is HR.out _ (by omega)).mono ?_
    rintro e w' ⟨rfl, rfl⟩
    go_wp2_with fail
    refine (mod_is HO.out _ (by omega)).mono ?_
    rintro e w' ⟨rfl, rfl⟩
    go_wp2_with ((go_at_call 16; refine (offset_any _ _).mono ?_; rintro e w' ⟨rfl, rfl⟩))
    refine (rlow _ _ _).mono ?_
    rintro e w' ⟨rfl, rfl⟩
    rw [HI.out]
    go_wp2_with ((go_at_call 13; refine (rlow _ _ _).mono ?_; rintro e w' ⟨rfl, rfl⟩))
    refine (decode_any _ _ _ _ _).mono ?_
    rintro e w' ⟨rfl, rfl⟩
    rw [U1.out, U2.out]
    go_wp2_with fail
    refine (awake7 _).mono ?_
    rintro e w4 ⟨rfl, hg4⟩
    have HG4 := Lib.hid hg4
    clear hg4
    go_wp2_with fail
    refine (fits_any _ _ _ _ _ _ _ _ (rd_one r _ _ (by constructor <;> omega))).mono ?_
    rintro e w' ⟨rfl, rfl⟩
    rw [U3.out]
    obtain ⟨w5, hw5⟩ : ∃ x, x = w4.alloc (.cells #[.int .i64 r] 3) := ⟨_, rfl⟩
    rw [← hw5]
    have HG5 : Gr w4 w5 := by rw [hw5]; exact Gr.alloc _ _
    clear hw5
    go_wp2_with fail
    refine (fits_any _ _ _ _ _ _ _ _ (rd_one r _ _ (by constructor <;> omega))).mono ?_
    rintro e w' ⟨rfl, rfl⟩
    rw [U4.out]
    go_wp2_with fail
    go_ret
    exact ⟨rfl, (Gr.alloc w _).trans (HG4.out.trans (HG5.trans (Gr.alloc _ _)))⟩
  · by_cases c1 : modF kind 3 = 1
    · clear c0
      have hm0 : modF kind 3 = 1 := c1
      have hpick : ∀ w : World, (Instr.index 25 (.agg #[.int .i64 8, .int .i64 16, .int .i64 32]) (.int .i64 1)).run Try.prog w = .ok (.int .i64 16) w := fun w => run_index_cell (j := 1) w Try.underlying25 (by kernel_rfl) Try.underlying3 (by kernel_rfl) (by decide) rfl
      have m1 := modF_lo n0 13
      have m2 := modF_hi n0 13 (by omega)
      obtain ⟨k, hm⟩ : ∃ k, modF n0 13 = k - 3 := ⟨modF n0 13 + 3, by omega⟩
      have m3 := modF_lo reference 65536
      have m4 := modF_hi reference 65536 (by omega)
      obtain ⟨r, hr⟩ : ∃ r, modF reference 65536 = r := ⟨_, rfl⟩
      rw [hm] at m1 m2
      rw [hr] at m3 m4
      have hpk := two_pow_pos k.toNat
      have hlk : (2 : Int) ^ k.toNat ≤ 4294967296 := two_pow_le (j := k.toNat) (k := 32) (by omega)
      have m5 := modF_lo n1 (2 ^ k.toNat)
      have m6 := modF_hi n1 (2 ^ k.toNat) (by omega)
      obtain ⟨o, ho⟩ : ∃ o, modF n1 (2 ^ k.toNat) = o := ⟨_, rfl⟩
      rw [ho] at m5 m6
      have hof := off_rng (k := k)
      have hl1 := low_in (w := 16) (x := r - offS k + o) (by decide)
      have hu := und_plain (w := 16) (k := k) (r := r) (o := o) (by decide) (by omega) (by omega) (by simp [valB]; omega) m5 m6
      obtain ⟨u1, u2, u3, u4⟩ := hu
      obtain ⟨I, hI⟩ : ∃ I, lowS 16 (r - offS k + o) = I := ⟨_, rfl⟩
      rw [hI] at hl1 u1 u2 u3 u4
      have U1 := Lib.hid u1
      have U2 := Lib.hid u2
      have U3 := Lib.hid u3
      have U4 := Lib.hid u4
      have HI := Lib.hid hI
      have HM0 := Lib.hid hm0
      have HM := Lib.hid hm
      have HR := Lib.hid hr
      have HO := Lib.hid ho
      clear u1 u2 u3 u4 hI hm0 hm hr ho k1 k2 c1
      go_enter Try.func4, Try.ntmps4
      go_wp2_with fail
      refine (mod_is HM0.out _ (by omega)).mono ?_
      rintro e w' ⟨rfl, rfl⟩
      go_wp2_with fail
      refine (mod_is HM.out _ (by omega)).mono ?_
      rintro e w' ⟨rfl, rfl⟩
      go_wp2_with fail
      rw [show (3 : Int) + (k - 3) = k from by omega]
      refine (mod_is HR.out _ (by omega)).mono ?_
      rintro e w' ⟨rfl, rfl⟩
      go_wp2_with fail
      refine (mod_is HO.out _ (by omega)).mono ?_
      rintro e w' ⟨rfl, rfl⟩
      go_wp2_with ((go_at_call 16; refine (offset_any _ _).mono ?_; rintro e w' ⟨rfl, rfl⟩))
      refine (rlow _ _ _).mono ?_
      rintro e w' ⟨rfl, rfl⟩
      rw [HI.out]
      go_wp2_with ((go_at_call 13; refine (rlow _ _ _).mono ?_; rintro e w' ⟨rfl, rfl⟩))
      refine (decode_any _ _ _ _ _).mono ?_
      rintro e w' ⟨rfl, rfl⟩
      rw [U1.out, U2.out]
      go_wp2_with fail
      refine (awake7 _).mono ?_
      rintro e w4 ⟨rfl, hg4⟩
      have HG4 := Lib.hid hg4
      clear hg4
      go_wp2_with fail
      refine (fits_any _ _ _ _ _ _ _ _ (rd_one r _ _ (by constructor <;> omega))).mono ?_
      rintro e w' ⟨rfl, rfl⟩
      rw [U3.out]
      obtain ⟨w5, hw5⟩ : ∃ x, x = w4.alloc (.cells #[.int .i64 r] 3) := ⟨_, rfl⟩
      rw [← hw5]
      have HG5 : Gr w4 w5 := by rw [hw5]; exact Gr.alloc _ _
      clear hw5
      go_wp2_with fail
      refine (fits_any _ _ _ _ _ _ _ _ (rd_one r _ _ (by constructor <;> omega))).mono ?_
      rintro e w' ⟨rfl, rfl⟩
      rw [U4.out]
      go_wp2_with fail
      go_ret
      exact ⟨rfl, (Gr.alloc w _).trans (HG4.out.trans (HG5.trans (Gr.alloc _ _)))⟩
    · have c2 : modF kind 3 = 2 := by omega
      clear c0 c1
      have hm0 : modF kind 3 = 2 := c2
      have hpick : ∀ w : World, (Instr.index 25 (.agg #[.int .i64 8, .int .i64 16, .int .i64 32]) (.int .i64 2)).run Try.prog w = .ok (.int .i64 32) w := fun w => run_index_cell (j := 2) w Try.underlying25 (by kernel_rfl) Try.underlying3 (by kernel_rfl) (by decide) rfl
      have m1 := modF_lo n0 29
      have m2 := modF_hi n0 29 (by omega)
      obtain ⟨k, hm⟩ : ∃ k, modF n0 29 = k - 3 := ⟨modF n0 29 + 3, by omega⟩
      have m3 := modF_lo reference 4294967296
      have m4 := modF_hi reference 4294967296 (by omega)
      obtain ⟨r, hr⟩ : ∃ r, modF reference 4294967296 = r := ⟨_, rfl⟩
      rw [hm] at m1 m2
      rw [hr] at m3 m4
      have hpk := two_pow_pos k.toNat
      have hlk : (2 : Int) ^ k.toNat ≤ 4294967296 := two_pow_le (j := k.toNat) (k := 32) (by omega)
      have m5 := modF_lo n1 (2 ^ k.toNat)
      have m6 := modF_hi n1 (2 ^ k.toNat) (by omega)
      obtain ⟨o, ho⟩ : ∃ o, modF n1 (2 ^ k.toNat) = o := ⟨_, rfl⟩
      rw [ho] at m5 m6
      have hof := off_rng (k := k)
      have hl1 := low_in (w := 32) (x := r - offS k + o) (by decide)
      have hu := und_plain (w := 32) (k := k) (r := r) (o := o) (by decide) (by omega) (by omega) (by simp [valB]; omega) m5 m6
      obtain ⟨u1, u2, u3, u4⟩ := hu
      obtain ⟨I, hI⟩ : ∃ I, lowS 32 (r - offS k + o) = I := ⟨_, rfl⟩
      rw [hI] at hl1 u1 u2 u3 u4
      have U1 := Lib.hid u1
      have U2 := Lib.hid u2
      have U3 := Lib.hid u3
      have U4 := Lib.hid u4
      have HI := Lib.hid hI
      have HM0 := Lib.hid hm0
      have HM := Lib.hid hm
      have HR := Lib.hid hr
      have HO := Lib.hid ho
      clear u1 u2 u3 u4 hI hm0 hm hr ho k1 k2 c2
      go_enter Try.func4, Try.ntmps4
      go_wp2_with fail
      refine (mod_is HM0.out _ (by omega)).mono ?_
      rintro e w' ⟨rfl, rfl⟩
      go_wp2_with fail
      refine (mod_is HM.out _ (by omega)).mono ?_
      rintro e w' ⟨rfl, rfl⟩
      go_wp2_with fail
      rw [show (3 : Int) + (k - 3) = k from by omega]
      refine (mod_is HR.out _ (by omega)).mono ?_
      rintro e w' ⟨rfl, rfl⟩
      go_wp2_with fail
      refine (mod_is HO.out _ (by omega)).mono ?_
      rintro e w' ⟨rfl, rfl⟩
      go_wp2_with ((go_at_call 16; refine (offset_any _ _).mono ?_; rintro e w' ⟨rfl, rfl⟩))
      refine (rlow _ _ _).mono ?_
      rintro e w' ⟨rfl, rfl⟩
      rw [HI.out]
      go_wp2_with ((go_at_call 13; refine (rlow _ _ _).mono ?_; rintro e w' ⟨rfl, rfl⟩))
      refine (decode_any _ _ _ _ _).mono ?_
      rintro e w' ⟨rfl, rfl⟩
      rw [U1.out, U2.out]
      go_wp2_with fail
      refine (awake7 _).mono ?_
      rintro e w4 ⟨rfl, hg4⟩
      have HG4 := Lib.hid hg4
      clear hg4
      go_wp2_with fail
      refine (fits_any _ _ _ _ _ _ _ _ (rd_one r _ _ (by constructor <;> omega))).mono ?_
      rintro e w' ⟨rfl, rfl⟩
      rw [U3.out]
      obtain ⟨w5, hw5⟩ : ∃ x, x = w4.alloc (.cells #[.int .i64 r] 3) := ⟨_, rfl⟩
      rw [← hw5]
      have HG5 : Gr w4 w5 := by rw [hw5]; exact Gr.alloc _ _
      clear hw5
      go_wp2_with fail
      refine (fits_any _ _ _ _ _ _ _ _ (rd_one r _ _ (by constructor <;> omega))).mono ?_
      rintro e w' ⟨rfl, rfl⟩
      rw [U4.out]
      go_wp2_with fail
      go_ret
      exact ⟨rfl, (Gr.alloc w _).trans (HG4.out.trans (HG5.trans (Gr.alloc _ _)))⟩
theorem und_fit (kind reference n0 n1 : Int) (w : World) (hk : i64 kind) (hr : i64 reference) (h0 : i64 n0) (h1 : i64 n1) :
    Calls Try.prog 4 #[.int .i64 kind, .int .i64 reference, .agg #[.int .i64 n0, .int .i64 n1]] w fun e w' => e = .returned (.bool true) ∧ Below w.heap.size w w' :=
  (und_walk kind reference n0 n1 w hk hr h0 h1).mono fun _ _ ⟨he, hg⟩ => ⟨he, Below.of_none hg⟩
end Go.Proofs.Ytinkllejjilenaa
