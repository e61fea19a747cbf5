/- Layer 03 (check): contracts of the reference's functions; the sanity check. -/
import Derived.Test.YtcleegibdcphiaaDoorCheckA
namespace Go.Proofs.YtcleegibdcphiaaDoor
open Go.ChangeShapes Go.WideShapes Go.ChangeAt Go.RowKit
open Crc

theorem and_one8 {x : Int} (h0 : 0 ≤ x) (h1 : x ≤ 255) : bits .and .u8 x 1 = x % 2 := by
  obtain ⟨n, rfl⟩ : ∃ n : Nat, x = n := ⟨x.toNat, by omega⟩
  have hn : n < 256 := by omega
  have : ∀ m : Fin 256, bits .and .u8 (m.val : Int) 1 = (m.val : Int) % 2 := by decide +kernel
  exact this ⟨n, hn⟩
theorem rbit_test {R k i : Nat} {x : Int} (h1 : 1 ≤ k) (hR : R < 2 ^ k) (hx : 0 ≤ x) (hx2 : x ≤ 255) : (bits .and .i64 ((R : Int) / 2 ^ (k - 1)) 1 != wrap64 (bits .and .u8 (x / 2 ^ i) 1)) = !decide (R / 2 ^ (k - 1) = x.toNat / 2 ^ i % 2) := by
  have ht := top_bit h1 hR
  obtain ⟨c, rfl⟩ : ∃ c : Nat, x = c := ⟨x.toNat, by omega⟩
  have e0 : (c : Int) / ((2 ^ i : Nat) : Int) = ((c / 2 ^ i : Nat) : Int) := by norm_cast
  have e3 : c / 2 ^ i ≤ c := Nat.div_le_self _ _
  rw [pow_nat, pow_nat, e0, and_one]
  generalize hf : c / 2 ^ i = f at e3
  have ew : wrap64 ((f : Int) % 2) = (f : Int) % 2 := by unfold wrap64; omega
  rw [and_one8 (by omega) (by omega), ew, Int.toNat_natCast]
  rw [hf]
  have e1 : (R : Int) / ((2 ^ (k - 1) : Nat) : Int) = ((R / 2 ^ (k - 1) : Nat) : Int) := by norm_cast
  rw [e1]
  generalize R / 2 ^ (k - 1) = d at ht
  rw [Bool.eq_iff_iff]
  simp only [bne_iff_ne, ne_eq, Bool.not_eq_eq_eq_not, Bool.not_true, decide_eq_false_iff_not]
  omega
theorem rnext_go (kind reg : Int) (r0 : Nat) (a : Option Addr) (len cap : Nat) (xs : List Int) (w : World) (hk : isKind kind) (hr : Rd .u8 w a len xs) (h0 : reg = (r0 : Nat)) (h1 : r0 < 2 ^ kind.toNat) :
    Calls Tryd.prog 76 #[.int .i64 kind, .int .i64 reg, .slice a len cap] w fun e w' => e = .returned (.tuple #[.int .i64 (regN kind r0 xs), .int .i64 0]) ∧ Gr w w' := by
  subst h0
  have hk1 : 1 ≤ kind ∧ kind ≤ 24 := by rcases hk with h | h | h | h | h <;> omega
  obtain ⟨k1, k2⟩ := hk1
  have hp := two_pow_62 (k := kind.toNat) (by omega)
  have hm := hr.2.2.1
  simp only [maxLen] at hm
  have hkk := kind_of hk
  obtain ⟨kn, hkn⟩ : ∃ kn, kind.toNat = kn := ⟨_, rfl⟩
  have hpv : 0 < polyV kind ∧ polyV kind < 16777216 := by rcases hk with rfl | rfl | rfl | rfl | rfl <;> decide
  obtain ⟨V, hV⟩ : ∃ V, polyV kind = V := ⟨_, rfl⟩
  have hreg : regN kind r0 xs = feed kn V.toNat r0 (bitsI xs) := by unfold regN; rw [hkn, hV]
  rw [hV] at hpv hkk
  rw [hreg]
  rw [hkn] at hkk h1 hp
  obtain ⟨p, hpp⟩ : ∃ p : Nat, V = p := ⟨V.toNat, by omega⟩
  have hvp : V.toNat = p := by omega
  rw [hvp] at hkk
  rw [hvp]
  obtain ⟨v1, v2⟩ := hpv
  have hv0 : (V == 0) = false := by simp; omega
  have hrl := hr.1
  have h1i : (r0 : Int) < 2 ^ kn := by rw [pow_nat]; exact_mod_cast h1
  have kn1 : 1 ≤ kn := by omega
  have kn2 : kn ≤ 24 := by omega
  have HKN := Lib.hid hkn
  have HVP := Lib.hid hpp
  have HV := Lib.hid hV
  have HR := Lib.hid hr
  have HRL := Lib.hid hrl
  have HKK := Lib.hid hkk
  have HF := Lib.hid (fun l => feed_lt (k := kn) hkk.lt l r0 h1)
  clear hV hr hk hreg hkn hpp hvp hrl hkk h1
  rw [← HKN.out] at h1i hp
  go_enter Tryd.func76, Tryd.ntmps76
  go_wp2_with fail
  refine (rpoly_any kind w).mono ?_
  rw [HV.out]
  rintro e w' ⟨rfl, rfl⟩
  go_wp2_with fail
  clear hv0
  rw [HKN.out] at h1i hp
  go_loopw [1, 9, 10, 11] (fun r t _ _ wr => OutRel kn p r0 len xs w r t wr) (fun _ t _ _ _ => len - (intOf t).toNat)
  case atStart => exact ⟨0, by omega, rfl, by simp [bitsI, feed], Gr.refl _⟩
  case round =>
    obtain ⟨q, hq, rfl, rfl, hg⟩ := hrel
    have HG := Lib.hid hg
    clear hg
    by_cases hlt : q < len
    · obtain ⟨b, off, ea, _, hc⟩ := HR.out.some (by omega)
      subst ea
      have htb := take_bits xs q (by rw [HRL.out]; exact hlt)
      have hxb := u8_rng (HR.out.2.1 (xs[q]?.getD 0) (by have := HRL.out; rw [List.getElem?_eq_getElem (by omega)]; exact List.getElem_mem _))
      obtain ⟨x, hx⟩ : ∃ x, xs[q]?.getD 0 = x := ⟨_, rfl⟩
      have ck : ∀ u, Gr w u → u.cell? ⟨b, off + q, none⟩ = some (.int .u8 x) := fun u h => by rw [← hx]; exact h.cell (hc q hlt)
      rw [hx] at htb hxb
      obtain ⟨x1, x2⟩ := hxb
      have HTB := Lib.hid htb
      have HCK := Lib.hid ck
      obtain ⟨R0, hR0⟩ : ∃ R0, feed kn p r0 (bitsI (xs.take q)) = R0 := ⟨_, rfl⟩
      have hR0l := HF.out (bitsI (xs.take q))
      rw [hR0] at hR0l
      rw [hR0]
      have HR0 := Lib.hid hR0
      have HF0 := Lib.hid (fun l => feed_lt (k := kn) HKK.out.lt l R0 hR0l)
      clear hc hx htb hR0 hR0l ck
      go_wp2_with fail
      obtain ⟨wo, rfl⟩ : ∃ wo : World, wo = wr := ⟨_, rfl⟩
      go_loopw [1, 10, 11] (fun r i _ wr => InRel kn p R0 x w r i wr) (fun _ i _ _ => (intOf i + 1).toNat)
      case atStart => exact ⟨0, by omega, rfl, by simp [feed], HG.out⟩
      case round =>
        clear HG
        obtain ⟨j, hj, rfl, rfl, hg⟩ := hrel
        have HG := Lib.hid hg
        have ck := HCK.out wr hg
        clear hg
        obtain ⟨R, hR⟩ : ∃ R, feed kn p R0 ((bits8 x.toNat).take j) = R := ⟨_, rfl⟩
        have hRl := HF0.out ((bits8 x.toNat).take j)
        rw [hR] at hRl
        rw [hR]
        have hRi : (R : Int) < 2 ^ kn := by rw [pow_nat]; exact_mod_cast hRl
        have HRR := Lib.hid hR
        by_cases hj8 : j < 8
        · obtain ⟨i, hi⟩ : ∃ i : Nat, 7 - (j : Int) = i := ⟨7 - j, by omega⟩
          have hi7 : i ≤ 7 := by omega
          have hbt := bits8_at x.toNat i j (by omega)
          have htest := rbit_test (i := i) kn1 hRl x1 x2
          have hgo := stp_go (b := x.toNat / 2 ^ i % 2) HVP.out kn1 kn2 hRl HKK.out.lt
          have hstep : feed kn p R0 ((bits8 x.toNat).take (j + 1)) = stp kn p R (x.toNat / 2 ^ i % 2) := by rw [hbt, feed_one, hR]
          rw [hi]
          have HI := Lib.hid hi
          have HSTEP := Lib.hid hstep
          rw [← HKN.out] at htest hgo hRi hp
          by_cases hbit : R / 2 ^ (kn - 1) = x.toNat / 2 ^ i % 2
          · rw [HKN.out] at htest hgo
            rw [if_pos hbit] at hgo
            rw [decide_eq_true hbit] at htest
            rw [← HKN.out] at htest hgo
            have HGO := Lib.hid hgo
            have hb0 := htest
            simp only [Bool.not_true] at hb0
            clear hi hbt htest hgo hbit hR hstep hRl
            go_wp2_with fail
            rw [HGO.out]
            go_roundw
            case rel => exact ⟨j + 1, by omega, by have := HI.out; congr 1; omega, by rw [HSTEP.out, HKN.out], HG.out⟩
            case measure => (simp [intOf] <;> omega)
          · rw [HKN.out] at htest hgo
            rw [if_neg hbit] at hgo
            rw [decide_eq_false hbit] at htest
            rw [← HKN.out] at htest hgo
            have HGO := Lib.hid hgo
            have hb0 := htest
            simp only [Bool.not_false] at hb0
            clear hi hbt htest hgo hbit hR hstep hRl
            go_wp2_with fail
            rw [HGO.out]
            go_roundw
            case rel => exact ⟨j + 1, by omega, by have := HI.out; congr 1; omega, by rw [HSTEP.out, HKN.out], HG.out⟩
            case measure => (simp [intOf] <;> omega)
        · obtain rfl : j = 8 := by omega
          go_wp2_with fail
          go_roundw
          case rel => exact ⟨q + 1, by omega, by go_num, by rw [HTB.out, feed_append, HR0.out]; exact congrArg (fun n : Nat => Value.int .i64 n) HRR.out.symm, HG.out⟩
          case measure => (simp [intOf] <;> omega)
    · obtain rfl : q = len := by omega
      rw [List.take_of_length_le (by rw [HRL.out]; exact Nat.le_refl _)]
      go_wp2_with fail
      go_ret2
      exact ⟨rfl, HG.out⟩
theorem rnext_any (kind reg : Int) (a : Option Addr) (len cap : Nat) (xs : List Int) (w : World) (hr : Rd .u8 w a len xs) (hreg : i64 reg) :
    Calls Tryd.prog 76 #[.int .i64 kind, .int .i64 reg, .slice a len cap] w fun e w' => e = .returned (.tuple #[.int .i64 (nextV kind reg xs), .int .i64 (nextE kind reg)]) ∧ Gr w w' := by
  by_cases h : isKind kind
  · by_cases h2 : 0 ≤ reg ∧ reg < 2 ^ kind.toNat
    · obtain ⟨r0, rfl⟩ : ∃ r0 : Nat, reg = r0 := ⟨reg.toNat, by omega⟩
      have hlt : r0 < 2 ^ kind.toNat := by have := h2.2; rw [pow_nat] at this; exact_mod_cast this
      have hv : nextV kind r0 xs = (regN kind r0 xs : Nat) := by unfold nextV; rw [if_pos ⟨h, h2⟩, Int.toNat_natCast]
      have he : nextE kind r0 = 0 := by unfold nextE; rw [if_pos h, if_pos h2]
      rw [hv, he]
      exact rnext_go kind _ r0 a len cap xs w h hr rfl hlt
    · have hv : nextV kind reg xs = 0 := by unfold nextV; rw [if_neg (fun x => h2 x.2)]
      have he : nextE kind reg = 3 := by unfold nextE; rw [if_pos h, if_neg h2]
      rw [hv, he]
      have hk1 : 1 ≤ kind ∧ kind ≤ 24 := by rcases h with h | h | h | h | h <;> omega
      obtain ⟨k1, k2⟩ := hk1
      have hp := two_pow_62 (k := kind.toNat) (by omega)
      have hp0 := two_pow_pos kind.toNat
      obtain ⟨r1, r2⟩ := hreg
      have hvn := polyV_yes h
      obtain ⟨V, hV⟩ : ∃ V, polyV kind = V := ⟨_, rfl⟩
      rw [hV] at hvn
      have hv0 : (V == 0) = false := by simp; omega
      have HV := Lib.hid hV
      have h3 : reg < 0 ∨ 2 ^ kind.toNat ≤ reg := by omega
      clear hv he h h2 hr hV hvn
      rcases h3 with h3 | h3
      all_goals
        go_enter Tryd.func76, Tryd.ntmps76
        go_wp2_with fail
        refine (rpoly_any kind w).mono ?_
        rw [HV.out]
        rintro e w' ⟨rfl, rfl⟩
        go_wp2_with fail
        go_ret2
        exact ⟨rfl, Gr.refl _⟩
  · have hv : nextV kind reg xs = 0 := by unfold nextV; rw [if_neg (fun x => h x.1)]
    have he : nextE kind reg = 7 := by unfold nextE; rw [if_neg h]
    rw [hv, he]
    have hvn := polyV_no h
    have HV := Lib.hid hvn
    clear hv he h hr hvn
    go_enter Tryd.func76, Tryd.ntmps76
    go_wp2_with fail
    refine (rpoly_any kind w).mono ?_
    rw [HV.out]
    rintro e w' ⟨rfl, rfl⟩
    go_wp2_with fail
    go_ret2
    exact ⟨rfl, Gr.refl _⟩
theorem rsum_any (kind : Int) (a : Option Addr) (len cap : Nat) (xs : List Int) (w : World) (hr : Rd .u8 w a len xs) :
    Calls Tryd.prog 71 #[.int .i64 kind, .slice a len cap] w fun e w' => e = .returned (.tuple #[.int .i64 (sumV kind xs), .int .i64 (sumE kind)]) ∧ Gr w w' := by
  have HR := Lib.hid hr
  by_cases h : isKind kind
  · have hv : sumV kind xs = (regN kind (Crc.top kind) xs : Nat) := by unfold sumV; rw [if_pos h]
    have he : sumE kind = 0 := by unfold sumE; rw [if_pos h]
    rw [hv, he]
    have hk1 : 1 ≤ kind ∧ kind ≤ 24 := by rcases h with h | h | h | h | h <;> omega
    obtain ⟨k1, k2⟩ := hk1
    have hp := two_pow_62 (k := kind.toNat) (by omega)
    have hp0 := two_pow_pos kind.toNat
    have HKI := Lib.hid h
    have hvn := polyV_yes h
    obtain ⟨V, hV⟩ : ∃ V, polyV kind = V := ⟨_, rfl⟩
    rw [hV] at hvn
    have hv0 : (V == 0) = false := by simp; omega
    have HV := Lib.hid hV
    clear hv he h hr hV hvn
    go_enter Tryd.func71, Tryd.ntmps71
    go_wp2_with fail
    refine (rpoly_any kind w).mono ?_
    rw [HV.out]
    rintro e w' ⟨rfl, rfl⟩
    go_wp2_with fail
    refine (rnext_go kind _ (Crc.top kind) a len cap xs w HKI.out HR.out (top_int kind) (top_lt kind)).mono ?_
    rintro e w' ⟨rfl, hg⟩
    have HG := Lib.hid hg
    clear hg
    go_wp2_with fail
    go_ret2
    exact ⟨rfl, HG.out⟩
  · have hv : sumV kind xs = 0 := by unfold sumV; rw [if_neg h]
    have he : sumE kind = 7 := by unfold sumE; rw [if_neg h]
    rw [hv, he]
    have hvn := polyV_no h
    have HV := Lib.hid hvn
    clear hv he h hr hvn
    go_enter Tryd.func71, Tryd.ntmps71
    go_wp2_with fail
    refine (rpoly_any kind w).mono ?_
    rw [HV.out]
    rintro e w' ⟨rfl, rfl⟩
    go_wp2_with fail
    go_ret2
    exact ⟨rfl, Gr.refl _⟩
end Go.Proofs.YtcleegibdcphiaaDoor
