/- The law CheckExact: its walk. -/
import Derived.Test.YtcdfljgpddafoaaDoorCheckLaws
import Derived.Test.YtcdfljgpddafoaaDoorLaid
namespace Go.Proofs.YtcdfljgpddafoaaDoor
open Go.ChangeShapes Go.WideShapes Go.ChangeAt Go.RowKit
open Crc

theorem i64_kind {k : Int} (h : isKind k) : i64 k := by constructor <;> (rcases h with h | h | h | h | h <;> omega)
set_option maxRecDepth 100000 in
set_option maxHeartbeats 2000000 in
theorem exact03 (kind reg : Int) (a : Option Addr) (len cap : Nat) (xs : List Int) (w : World) (hl : LaidIn w) (hk : i64 kind) (hreg : i64 reg) (hr : Rd .u8 w a len xs) (hL : len ≤ 2000) :
    Calls Tryd.prog 3 #[.int .i64 kind, .int .i64 reg, .slice a len cap] w fun e w' => e = .returned (.bool true) ∧ Gr w w' := by
  have hw := width_kind kind
  obtain ⟨k, hkw⟩ : ∃ k, widthV kind = k := ⟨_, rfl⟩
  rw [hkw] at hw
  have hk1 : 1 ≤ k ∧ k ≤ 24 := by rcases hw with h | h | h | h | h <;> omega
  obtain ⟨k1, k2⟩ := hk1
  have hp := two_pow_62 (k := k.toNat) (by omega)
  have hp0 := two_pow_pos k.toNat
  have m1 := modF_lo reg (2 ^ k.toNat)
  have m2 := modF_hi reg (2 ^ k.toNat) (by omega)
  obtain ⟨r2, hr2⟩ : ∃ r2, modF reg (2 ^ k.toNat) = r2 := ⟨_, rfl⟩
  rw [hr2] at m1 m2
  obtain ⟨v1, hv1⟩ : ∃ v, sumV kind xs = v := ⟨_, rfl⟩
  obtain ⟨e1, he1⟩ : ∃ v, sumE kind = v := ⟨_, rfl⟩
  obtain ⟨v2, hv2⟩ : ∃ v, nextV kind reg xs = v := ⟨_, rfl⟩
  obtain ⟨e2, he2⟩ : ∃ v, nextE kind reg = v := ⟨_, rfl⟩
  obtain ⟨v3, hv3⟩ : ∃ v, nextV k r2 xs = v := ⟨_, rfl⟩
  obtain ⟨e3, he3⟩ : ∃ v, nextE k r2 = v := ⟨_, rfl⟩
  obtain ⟨v4, hv4⟩ : ∃ v, sumV k xs = v := ⟨_, rfl⟩
  obtain ⟨e4, he4⟩ : ∃ v, sumE k = v := ⟨_, rfl⟩
  have HV1 := Lib.hid hv1
  have HE1 := Lib.hid he1
  have HV2 := Lib.hid hv2
  have HE2 := Lib.hid he2
  have HV3 := Lib.hid hv3
  have HE3 := Lib.hid he3
  have HV4 := Lib.hid hv4
  have HE4 := Lib.hid he4
  have HKW := Lib.hid hkw
  have HR2 := Lib.hid hr2
  have HW := Lib.hid hw
  have HLA := Lib.hid hl
  have HK := Lib.hid hk
  have HRG := Lib.hid hreg
  have HR := Lib.hid hr
  have HR2I := Lib.hid (show i64 r2 by constructor <;> omega)
  have HG := Lib.hid (Gr.refl w)
  clear hv1 he1 hv2 he2 hv3 he3 hv4 he4 hkw hr2 hw hl hk hreg hr
  go_enter Tryd.func3, Tryd.ntmps3
  go_wp2_with fail
  refine (width_any kind w).mono ?_
  rw [HKW.out]
  rintro e w' ⟨rfl, rfl⟩
  go_wp2_with fail
  refine (sum_is HV1.out HE1.out a len cap _ (HLA.out.kept HG.out) HK.out (HR.out.kept HG.out)).mono ?_
  rintro e w' ⟨rfl, hg⟩
  have HG2 := Lib.hid (HG.out.trans hg)
  clear HG hg
  have HG := Lib.hid HG2.out
  clear HG2
  go_wp2_with fail
  refine (rsum_is HV1.out HE1.out a len cap _ (HR.out.kept HG.out)).mono ?_
  rintro e w' ⟨rfl, hg⟩
  have HG2 := Lib.hid (HG.out.trans hg)
  clear HG hg
  have HG := Lib.hid HG2.out
  clear HG2
  go_wp2_with fail
  refine (next_is HV2.out HE2.out a len cap _ (HLA.out.kept HG.out) HK.out (HR.out.kept HG.out) HRG.out).mono ?_
  rintro e w' ⟨rfl, hg⟩
  have HG2 := Lib.hid (HG.out.trans hg)
  clear HG hg
  have HG := Lib.hid HG2.out
  clear HG2
  go_wp2_with fail
  refine (rnext_is HV2.out HE2.out a len cap _ (HR.out.kept HG.out) HRG.out).mono ?_
  rintro e w' ⟨rfl, hg⟩
  have HG2 := Lib.hid (HG.out.trans hg)
  clear HG hg
  have HG := Lib.hid HG2.out
  clear HG2
  go_wp2_with fail
  refine (modc HR2.out (by omega) _).mono ?_
  rintro e w' ⟨rfl, rfl⟩
  go_wp2_with fail
  refine (next_is HV3.out HE3.out a len cap _ (HLA.out.kept HG.out) (i64_kind HW.out) (HR.out.kept HG.out) HR2I.out).mono ?_
  rintro e w' ⟨rfl, hg⟩
  have HG2 := Lib.hid (HG.out.trans hg)
  clear HG hg
  have HG := Lib.hid HG2.out
  clear HG2
  go_wp2_with fail
  refine (modc HR2.out (by omega) _).mono ?_
  rintro e w' ⟨rfl, rfl⟩
  go_wp2_with fail
  refine (rnext_is HV3.out HE3.out a len cap _ (HR.out.kept HG.out) HR2I.out).mono ?_
  rintro e w' ⟨rfl, hg⟩
  have HG2 := Lib.hid (HG.out.trans hg)
  clear HG hg
  have HG := Lib.hid HG2.out
  clear HG2
  go_wp2_with fail
  refine (sum_is HV4.out HE4.out a len cap _ (HLA.out.kept HG.out) (i64_kind HW.out) (HR.out.kept HG.out)).mono ?_
  rintro e w' ⟨rfl, hg⟩
  have HG2 := Lib.hid (HG.out.trans hg)
  clear HG hg
  have HG := Lib.hid HG2.out
  clear HG2
  go_wp2_with fail
  refine (rsum_is HV4.out HE4.out a len cap _ (HR.out.kept HG.out)).mono ?_
  rintro e w' ⟨rfl, hg⟩
  have HG2 := Lib.hid (HG.out.trans hg)
  clear HG hg
  have HG := Lib.hid HG2.out
  clear HG2
  go_wp2_with fail
  refine (awake03 _ (HLA.out.kept HG.out)).mono ?_
  rintro e w' ⟨rfl, hg⟩
  have HG2 := Lib.hid (HG.out.trans hg)
  clear HG hg
  have HG := Lib.hid HG2.out
  clear HG2
  go_wp2_with fail
  go_ret
  exact ⟨rfl, HG.out⟩
theorem exact03_no (kind reg : Int) (a : Option Addr) (len cap : Nat) (w : World) (hl : LaidIn w) (hL : 2000 < len) (hm : len ≤ 9223372036854775807) :
    Calls Tryd.prog 3 #[.int .i64 kind, .int .i64 reg, .slice a len cap] w fun e w' => e = .returned (.bool true) ∧ Gr w w' := by
  have HLA := Lib.hid hl
  clear hl
  go_enter Tryd.func3, Tryd.ntmps3
  go_wp2_with fail
  refine (awake03 _ HLA.out).mono ?_
  rintro e w1 ⟨rfl, hg⟩
  have HG := Lib.hid hg
  clear hg
  go_wp2_with fail
  go_ret
  exact ⟨rfl, HG.out⟩
theorem exact03_fit (kind reg : Int) (a : Option Addr) (len cap : Nat) (xs : List Int) (w : World) (hl : LaidIn w) (hk : i64 kind) (hreg : i64 reg) (hr : Rd .u8 w a len xs) (_hc : len ≤ cap) (_hL : len ≤ 140737488351232) :
    Calls Tryd.prog 3 #[.int .i64 kind, .int .i64 reg, .slice a len cap] w fun e w' => e = .returned (.bool true) ∧ Below w.heap.size w w' := by
  have key : Calls Tryd.prog 3 #[.int .i64 kind, .int .i64 reg, .slice a len cap] w fun e w' => e = .returned (.bool true) ∧ Gr w w' := by
    by_cases h : len ≤ 2000
    · exact exact03 kind reg a len cap xs w hl hk hreg hr h
    · exact exact03_no kind reg a len cap w hl (by omega) (by omega)
  exact key.mono fun _ _ ⟨he, hg⟩ => ⟨he, Below.of_none hg⟩
end Go.Proofs.YtcdfljgpddafoaaDoor
