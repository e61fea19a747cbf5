/- The law CheckBursts: its walk. -/
import Derived.Test.YtcdfljgpddafoaaDoorCheckLinear
import Derived.Test.YtcdfljgpddafoaaDoorBurstPlain
import Derived.Deep.Cut
namespace Go.Proofs.YtcdfljgpddafoaaDoor
open Go.ChangeShapes Go.WideShapes Go.ChangeAt Go.RowKit
open Crc

def BurstRel (w0 : World) (g len ca : Nat) (xs : List Int) (B fr kn : Nat) (ch i : Value) (wr : World) : Prop :=
  ∃ (j : Nat) (ys : List Int), j ≤ kn ∧ i = .int .i64 j ∧ ch = .bool (chB B fr (8 * len) j) ∧ OwnI w0.heap.size 5 .u8 wr (some ⟨g, 0, none⟩) len ca ys ∧ Turned xs B fr j ys ∧ Gr w0 wr
theorem shr_128 (m : Nat) (h : m ≤ 7) : (128 : Int) / 2 ^ m = ((2 ^ (7 - m) : Nat) : Int) := by
  have : ∀ m : Fin 8, (128 : Int) / 2 ^ m.val = ((2 ^ (7 - m.val) : Nat) : Int) := by decide
  exact this ⟨m, by omega⟩
theorem burst_bit (B i : Nat) : bits .and .i64 ((B : Int) / 2 ^ i) 1 = ((B / 2 ^ i % 2 : Nat) : Int) := by
  rw [and_one, pow_nat]; norm_cast
set_option maxRecDepth 100000 in
set_option maxHeartbeats 2000000 in
theorem bursts_walk (kind : Int) (a : Option Addr) (len cap : Nat) (xs : List Int) (x0 x1 : Int) (w : World) (hl : LaidIn w) (hr : Rd .u8 w a len xs) (hL1 : 1 ≤ len) (hL2 : len ≤ 500) :
    Calls Tryd.prog 6 #[.int .i64 kind, .slice a len cap, .agg #[.int .i64 x0, .int .i64 x1]] w fun e w' => e = .returned (.bool true) ∧ Gr w w' := by
  have hw := width_kind kind
  obtain ⟨k, hkw⟩ : ∃ k, widthV kind = k := ⟨_, rfl⟩
  rw [hkw] at hw
  have hk1 : 1 ≤ k ∧ k ≤ 24 := by rcases hw with h | h | h | h | h <;> omega
  have hk3 : 3 ≤ k := by rcases hw with h | h | h | h | h <;> omega
  obtain ⟨k1, k2⟩ := hk1
  have hp := two_pow_62 (k := k.toNat) (by omega)
  have hp4 : (2 : Int) ^ 1 ≤ 2 ^ k.toNat := two_pow_le (by omega)
  have hp00 : (2 : Int) ^ 1 = 2 := rfl
  rw [hp00] at hp4
  obtain ⟨kn, hkn⟩ : ∃ kn, k.toNat = kn := ⟨_, rfl⟩
  have f1 := modF_lo x0 (8 * (len : Int))
  have f2 := modF_hi x0 (8 * (len : Int)) (by omega)
  obtain ⟨fr, hfr⟩ : ∃ fr : Nat, modF x0 (8 * (len : Int)) = fr := ⟨(modF x0 (8 * (len : Int))).toNat, by omega⟩
  rw [hfr] at f2
  have m1 := modF_lo x1 (2 ^ k.toNat - 1)
  have m2 := modF_hi x1 (2 ^ k.toNat - 1) (by omega)
  obtain ⟨d, hd⟩ : ∃ d : Nat, modF x1 (2 ^ k.toNat - 1) = d := ⟨(modF x1 (2 ^ k.toNat - 1)).toNat, by omega⟩
  rw [hd] at m2
  have hdl : 1 + (d : Int) < 2 ^ k.toNat := by omega
  obtain ⟨B, hB⟩ : ∃ B : Nat, 1 + (d : Int) = B := ⟨1 + d, by push_cast; rfl⟩
  obtain ⟨v1, hv1⟩ : ∃ v, regN k (Crc.top k) xs = v := ⟨_, rfl⟩
  have hrl := hr.1
  have HKW := Lib.hid hkw
  have HW := Lib.hid hw
  have HKN := Lib.hid hkn
  have HFR := Lib.hid hfr
  have HD := Lib.hid hd
  have HDL := Lib.hid hdl
  have HB := Lib.hid hB
  have HV1 := Lib.hid hv1
  have HLA := Lib.hid hl
  have HR := Lib.hid hr
  have HRL := Lib.hid hrl
  have hp0 := two_pow_pos k.toNat
  have c0 : ∀ w1, Gr (w.alloc (.cells #[.int .i64 x0, .int .i64 x1] 33)) w1 → w1.cell? ⟨w.heap.size, 0, none⟩ = some (.int .i64 x0) := fun w1 h => h.cell (by rw [cell_new]; rfl)
  have c1 : ∀ w1, Gr (w.alloc (.cells #[.int .i64 x0, .int .i64 x1] 33)) w1 → w1.cell? ⟨w.heap.size, 1, none⟩ = some (.int .i64 x1) := fun w1 h => h.cell (by rw [cell_new]; rfl)
  have C0 := Lib.hid c0
  have C1 := Lib.hid c1
  have fr2 : fr < 8 * len := by omega
  clear hkw hw hkn hfr hd hB hv1 hl hr hrl f1 m1 m2 hp4 hp00 c0 c1 hdl f2
  have hl0 : ((len : Int) == 0) = false := by simp; omega
  go_enter Tryd.func6, Tryd.ntmps6
  go_wp2_with fail
  refine (width_any kind _).mono ?_
  rw [HKW.out]
  rintro e w' ⟨rfl, rfl⟩
  clear hl0
  have q0 := C0.out _ (Gr.refl _)
  have q1 := C1.out _ (Gr.refl _)
  obtain ⟨w0, hw0⟩ : ∃ w0 : World, w0 = w.alloc (.cells #[.int .i64 x0, .int .i64 x1] 33) := ⟨_, rfl⟩
  rw [← hw0] at q0 q1
  rw [← hw0]
  have HG := Lib.hid (show Gr w w0 by rw [hw0]; exact Gr.alloc _ _)
  clear hw0
  go_wp2_with fail
  refine (modc HFR.out (by omega) _).mono ?_
  rintro e w' ⟨rfl, rfl⟩
  go_wp2_with fail
  refine (modc HD.out (by omega) _).mono ?_
  rintro e w' ⟨rfl, rfl⟩
  have hdl := HDL.out
  go_upto_region 6 with (fail)
  rw [HB.out]
  clear hdl q0 q1
  obtain ⟨a2, c2, w2, hrun2, ho2, hg2, hf2⟩ := app_u8_nil w0.heap.size w0 a len cap xs (HR.out.kept HG.out) (by omega) (Nat.le_refl _)
  obtain ⟨g, rfl, hgB, -, -, -⟩ := ho2.some (by omega)
  have HR2 := Lib.hid hrun2
  have HO2 := Lib.hid ho2
  have HG2 := Lib.hid hg2
  clear hrun2 ho2 hg2 hf2
  go_wp2_with (at_builtin; refine wpList_app rfl _ _ _ rfl rfl rfl HR2.out ?_)
  rw [HKN.out] at hp hp0
  have hkk : k = (kn : Int) := by have := HKN.out; omega
  have HKK := Lib.hid hkk
  have kn24 : kn ≤ 24 := by omega
  clear hkk
  go_loopw [11, 12] (fun ch i wr => BurstRel w0 g len c2 xs B fr kn ch i wr) (fun _ i _ => kn - (intOf i).toNat)
  case atStart => exact ⟨0, xs, by omega, rfl, rfl, HO2.out, turned_zero _ _ _, HG2.out⟩
  case round =>
    clear HO2 HG2 HR2
    obtain ⟨j, ys, hj, rfl, rfl, ho, ht, hg⟩ := hrel
    have HO := Lib.hid ho
    have HT := Lib.hid ht
    have HGR := Lib.hid hg
    clear ho ht hg
    obtain ⟨E, hE⟩ : ∃ E, chB B fr (8 * len) j = E := ⟨_, rfl⟩
    have hcs := chB_succ B fr (8 * len) j
    rw [hE] at hcs
    rw [hE]
    have HE := Lib.hid hE
    have HCS := Lib.hid hcs
    clear hE hcs
    by_cases hlt : j < kn
    · have hltk : (j : Int) < k := by have := HKK.out; omega
      have hbb := burst_bit B j
      by_cases hb1 : B / 2 ^ j % 2 = 1
      · rw [hb1] at hbb
        have hbt : (bits .and .i64 ((B : Int) / 2 ^ j) 1 == 1) = true := by rw [hbb]; rfl
        by_cases hfj : fr + j < 8 * len
        · obtain ⟨q, hq⟩ : ∃ q : Nat, (fr + j) / 8 = q := ⟨_, rfl⟩
          obtain ⟨m, hm⟩ : ∃ m : Nat, (fr + j) % 8 = m := ⟨_, rfl⟩
          have hq2 : ((fr : Int) + (j : Int)) / 8 = (q : Int) := by omega
          have hm2 : ((fr : Int) + (j : Int)) % 8 = (m : Int) := by omega
          have hql : q < len := by omega
          have hm7 : m ≤ 7 := by omega
          have hfl := turned_flip HT.out hb1 (by rw [HRL.out]; exact hfj)
          rw [hq, hm] at hfl
          obtain ⟨cq, fq⟩ := HO.out.at q hql
          have hyb := u8_rng (HO.out.wf (ys[q]?.getD 0) (by have := HO.out.len; rw [List.getElem?_eq_getElem (by omega)]; exact List.getElem_mem _))
          obtain ⟨y, hy⟩ : ∃ y, ys[q]?.getD 0 = y := ⟨_, rfl⟩
          rw [hy] at hfl hyb cq
          obtain ⟨y1, y2⟩ := hyb
          have h128 := shr_128 m hm7
          have hpm : 2 ^ (7 - m) ≤ 128 := by have := Nat.pow_le_pow_right (n := 2) (by omega) (show 7 - m ≤ 7 by omega); exact this
          have hpi : (0 : Int) ≤ ((2 ^ (7 - m) : Nat) : Int) ∧ ((2 ^ (7 - m) : Nat) : Int) ≤ 255 := by
            generalize 2 ^ (7 - m) = z at hpm
            omega
          have hxr : bits .xor .u8 y (128 / 2 ^ m) = xorI y ((2 ^ (7 - m) : Nat) : Int) := by rw [h128]; exact xor_u8 y1 y2 hpi.1 hpi.2
          rw [← hxr] at hfl
          have hwf : (Lit.int .u8 (bits .xor .u8 y (128 / 2 ^ m))).wf = true := by
            rw [hxr]
            have h : y.toNat ^^^ 2 ^ (7 - m) < 2 ^ 8 := Nat.xor_lt_two_pow (by omega) (by omega)
            unfold xorI
            rw [Int.toNat_natCast]
            generalize y.toNat ^^^ 2 ^ (7 - m) = z at h
            exact WalkArith.wf_u8 (by constructor <;> omega)
          have HFL := Lib.hid hfl
          have HWF := Lib.hid hwf
          have HC2 := Lib.hid (show (E || (decide (B / 2 ^ j % 2 = 1) && decide (fr + j < 8 * len))) = true by rw [decide_eq_true hb1, decide_eq_true hfj]; simp)
          clear hfl hy h128 hxr hwf hbb hq hm hpm hpi
          go_wp2_with fail
          go_roundw
          case rel => exact ⟨j + 1, _, by omega, by go_num, by rw [HCS.out, HC2.out], HO.out.set q _ HWF.out, HFL.out, grown_set HGR.out (a := ⟨g, q, none⟩) hgB _⟩
          case measure => (simp [intOf] <;> omega)
        · have hts := turned_same HT.out (.inr (by rw [HRL.out]; omega))
          have HTS := Lib.hid hts
          have HC2 := Lib.hid (show (E || (decide (B / 2 ^ j % 2 = 1) && decide (fr + j < 8 * len))) = E by rw [decide_eq_false hfj]; simp)
          clear hts hbb
          go_wp2_with fail
          go_roundw
          case rel => exact ⟨j + 1, _, by omega, by go_num, by rw [HCS.out, HC2.out], HO.out, HTS.out, HGR.out⟩
          case measure => (simp [intOf] <;> omega)
      · have hb0 : B / 2 ^ j % 2 = 0 := by omega
        rw [hb0] at hbb
        have hbt : (bits .and .i64 ((B : Int) / 2 ^ j) 1 == 1) = false := by rw [hbb]; rfl
        have hts := turned_same HT.out (.inl hb0)
        have HTS := Lib.hid hts
        have HC2 := Lib.hid (show (E || (decide (B / 2 ^ j % 2 = 1) && decide (fr + j < 8 * len))) = E by rw [decide_eq_false hb1]; simp)
        clear hts hbb hb0 hb1
        go_wp2_with fail
        go_roundw
        case rel => exact ⟨j + 1, _, by omega, by go_num, by rw [HCS.out, HC2.out], HO.out, HTS.out, HGR.out⟩
        case measure => (simp [intOf] <;> omega)
    · obtain rfl : j = kn := by omega
      have hnk : ¬ (j : Int) < k := by have := HKK.out; omega
      have hte := turned_end HW.out (by rw [HRL.out]; exact fr2) (by rw [HKN.out]; exact HT.out) (Crc.top k) (top_lt k)
      rw [HRL.out, HKN.out, HE.out, HV1.out] at hte
      obtain ⟨v2, hv2⟩ : ∃ v, regN k (Crc.top k) ys = v := ⟨_, rfl⟩
      rw [hv2] at hte
      have hEE : ((v1 : Int) != (v2 : Int)) = E := by
        cases E
        · have := hte.2 rfl
          subst this; simp
        · have h2 : v1 ≠ v2 := fun e => by have := hte.1 e; cases this
          simp; omega
      have HEE := Lib.hid hEE
      have HV2 := Lib.hid hv2
      have HRY := Lib.hid HO.out.rd
      have HG3 := Lib.hid (HG.out.trans HGR.out)
      clear hte hv2 hEE HG
      have HG := Lib.hid HG3.out
      clear HG3
      go_wp2_with fail
      refine (sum_go HV1.out HW.out a len cap wr (HLA.out.kept HG.out) (HR.out.kept HG.out)).mono ?_
      rintro e w7 ⟨rfl, hg7⟩
      have HG7 := Lib.hid hg7
      clear hg7
      go_wp2_with fail
      refine (sum_go HV2.out HW.out _ len c2 w7 (HLA.out.kept (HG.out.trans HG7.out)) (HRY.out.kept HG7.out)).mono ?_
      rintro e w8 ⟨rfl, hg8⟩
      have HG8 := Lib.hid (HG.out.trans (HG7.out.trans hg8))
      clear hg8
      go_wp2_with fail
      refine (awake03 _ (HLA.out.kept HG8.out)).mono ?_
      rintro e w9 ⟨rfl, hg9⟩
      have HG9 := Lib.hid (HG8.out.trans hg9)
      have hee := HEE.out
      clear hg9
      cases E
      · go_wp2_with fail
        go_ret
        exact ⟨rfl, HG9.out⟩
      · go_wp2_with fail
        go_ret
        exact ⟨rfl, HG9.out⟩
theorem bursts_no (kind : Int) (a : Option Addr) (len cap : Nat) (x0 x1 : Int) (w : World) (hl : LaidIn w) (hL : len = 0 ∨ 500 < len) (h1 : len ≤ 140737488351232) :
    Calls Tryd.prog 6 #[.int .i64 kind, .slice a len cap, .agg #[.int .i64 x0, .int .i64 x1]] w fun e w' => e = .returned (.bool true) ∧ Gr w w' := by
  have HLA := Lib.hid hl
  clear hl
  rcases hL with rfl | h
  · go_enter Tryd.func6, Tryd.ntmps6
    go_wp2_with fail
    refine (awake03 _ (HLA.out.kept (Gr.alloc _ _))).mono ?_
    rintro e w1 ⟨rfl, hg⟩
    have HG := Lib.hid ((Gr.alloc _ _).trans hg)
    clear hg
    go_wp2_with fail
    go_ret
    exact ⟨rfl, HG.out⟩
  · have hl0 : ((len : Int) == 0) = false := by simp; omega
    go_enter Tryd.func6, Tryd.ntmps6
    go_wp2_with fail
    refine (awake03 _ (HLA.out.kept (Gr.alloc _ _))).mono ?_
    rintro e w1 ⟨rfl, hg⟩
    have HG := Lib.hid ((Gr.alloc _ _).trans hg)
    clear hg
    go_wp2_with fail
    go_ret
    exact ⟨rfl, HG.out⟩
theorem bursts_fit (kind : Int) (a : Option Addr) (len cap : Nat) (xs : List Int) (x0 x1 : Int) (w : World) (hl : LaidIn w) (_hk : i64 kind) (hr : Rd .u8 w a len xs) (_hc : len ≤ cap) (hL : len ≤ 140737488351232) (_h0 : i64 x0) (_h1 : i64 x1) :
    Calls Tryd.prog 6 #[.int .i64 kind, .slice a len cap, .agg #[.int .i64 x0, .int .i64 x1]] w fun e w' => e = .returned (.bool true) ∧ Below w.heap.size w w' := by
  have key : Calls Tryd.prog 6 #[.int .i64 kind, .slice a len cap, .agg #[.int .i64 x0, .int .i64 x1]] w fun e w' => e = .returned (.bool true) ∧ Gr w w' := by
    by_cases h : len = 0 ∨ 500 < len
    · exact bursts_no kind a len cap x0 x1 w hl h hL
    · exact bursts_walk kind a len cap xs x0 x1 w hl hr (by omega) (by omega)
  exact key.mono fun _ _ ⟨he, hg⟩ => ⟨he, Below.of_none hg⟩
end Go.Proofs.YtcdfljgpddafoaaDoor
