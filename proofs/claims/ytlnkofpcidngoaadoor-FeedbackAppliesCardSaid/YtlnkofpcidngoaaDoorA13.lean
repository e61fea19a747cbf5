/- Several texts in one. -/
import Derived.Test.YtlnkofpcidngoaaDoorA0
import Derived.Test.YtlnkofpcidngoaaDoorA12
import Derived.Test.YtlnkofpcidngoaaDoorA1
import Derived.Deep.Cut
/- Layer 03 (check): contracts of the program's functions. -/
namespace Go.Proofs.YtlnkofpcidngoaaDoor
open Go.ChangeShapes Go.WideShapes Go.ChangeAt Go.RowKit
open Crc
def LaidIn (w : World) : Prop := ∃ bm : Nat, w.cell? ⟨0, 0, none⟩ = some (.map (some bm)) ∧ ∀ w', Gr w w' → ∀ k : Int, i64 k → (Instr.lookup 120 (.map (some bm)) (.int .i64 k) true).run Tryd.prog w' = .ok (.tuple #[.int .i64 (polyV k), .bool (decide (isKind k))]) w'
theorem LaidIn.kept {w w' : World} (h : LaidIn w) (hg : Gr w w') : LaidIn w' := by
 obtain ⟨bm, hc, hl⟩ := h
 exact ⟨bm, hg.cell hc, fun u hu => hl u (hg.trans hu)⟩
set_option maxRecDepth 20000 in
set_option maxHeartbeats 2000000 in
theorem poly_any (kind : Int) (w : World) (hl : LaidIn w) (hk : i64 kind) : Calls Tryd.prog 80 #[.int .i64 kind] w fun e w' => e = .returned (.tuple #[.int .i64 (polyV kind), .bool (decide (isKind kind))]) ∧ w = w' := by
 obtain ⟨bm, hc, hl⟩ := hl
 have hrun := hl w (Gr.refl w) kind hk
 clear hl
 obtain ⟨K, hK⟩ : ∃ K, decide (isKind kind) = K := ⟨_, rfl⟩
 obtain ⟨V, hV⟩ : ∃ V, polyV kind = V := ⟨_, rfl⟩
 rw [hK, hV] at hrun
 rw [hK, hV]
 clear hK hV
 go_enter Tryd.func80, Tryd.ntmps80
 go_wp2
 go_ret2
 exact ⟨rfl, rfl⟩
set_option maxRecDepth 20000 in
set_option maxHeartbeats 2000000 in
theorem rpoly_any (kind : Int) (w : World) : Calls Tryd.prog 78 #[.int .i64 kind] w fun e w' => e = .returned (.int .i64 (polyV kind)) ∧ w = w' := by
 by_cases hk : isKind kind
 ·rcases hk with rfl | rfl | rfl | rfl | rfl
  all_goals
   go_enter Tryd.func78, Tryd.ntmps78
   go_wp2
   go_ret
   exact ⟨rfl, rfl⟩
 ·have hv := polyV_no hk
  unfold isKind at hk
  have HV := zqd hv
  have h3 : (kind == 3) = false := by simp; omega
  have h7 : (kind == 7) = false := by simp; omega
  have h8 : (kind == 8) = false := by simp; omega
  have h16 : (kind == 16) = false := by simp; omega
  have h24 : (kind == 24) = false := by simp; omega
  clear hv hk
  go_enter Tryd.func78, Tryd.ntmps78
  go_wp2
  go_ret
  exact ⟨ret_i64 HV.out.symm, rfl⟩
/-! ### One bit -/
theorem and_one (x : Int) : bits .and .i64 x 1 = x % 2 := by
 have := and_mask x (k := 1) (by omega)
 exact this
theorem xor_bits {a b : Int} (ha : a = 0 ∨ a = 1) (hb : b = 0 ∨ b = 1) : bits .xor .i64 a b = if a = b then 0 else 1 := by
 rcases ha with rfl | rfl <;> rcases hb with rfl | rfl <;> decide +kernel
theorem pow_nat (k : Nat) : ((2 : Int) ^ k) = ((2 ^ k : Nat) : Int) := by push_cast; rfl
theorem top_bit {R k : Nat} (h1 : 1 ≤ k) (h : R < 2 ^ k) : R / 2 ^ (k - 1) = 0 ∨ R / 2 ^ (k - 1) = 1 := by
 have h2 := half2 h1
 have h3 : R / 2 ^ (k - 1) < 2 := by rw [Nat.div_lt_iff_lt_mul (Nat.two_pow_pos _)]; omega
 generalize R / 2 ^ (k - 1) = d at h3
 omega
theorem dbl_mask {R k : Nat} (hk : k ≤ 24) : bits .and .i64 ((R : Int) * 2) (2 ^ k - 1) = ((2 * R % 2 ^ k : Nat) : Int) := by
 have hw : (R : Int) * 2 = ((2 * R : Nat) : Int) := by push_cast; omega
 rw [hw, and_mask _ (by omega), pow_nat]
 norm_cast
theorem stp_go {R k p b : Nat} {V : Int} (hV : V = (p : Nat)) (h1 : 1 ≤ k) (hk : k ≤ 24) (hR : R < 2 ^ k) (hp : p < 2 ^ k) :
  (if R / 2 ^ (k - 1) = b then bits .and .i64 ((R : Int) * 2) (2 ^ k - 1) else bits .xor .i64 (bits .and .i64 ((R : Int) * 2) (2 ^ k - 1)) V) = ((stp k p R b : Nat) : Int) := by
 have ht := top_bit h1 hR
 have hm : R / 2 ^ (k - 1) % 2 = R / 2 ^ (k - 1) := by omega
 have hpw : (2 : Nat) ^ k ≤ 2 ^ 24 := Nat.pow_le_pow_right (by omega) hk
 have hp2 : (2 : Nat) ^ 24 = 16777216 := by decide
 have hlt : 2 * R % 2 ^ k < 2 ^ k := Nat.mod_lt _ (Nat.two_pow_pos k)
 rw [dbl_mask hk]
 unfold stp
 rw [hm]
 by_cases h : R / 2 ^ (k - 1) = b
 ·rw [if_pos h, if_pos h, Nat.xor_zero]
 ·rw [if_neg h, if_neg h, hV]
  generalize 2 * R % 2 ^ k = d at hlt
  rw [xor_nn (by omega) (by omega) (by omega) (by omega)]
  simp only [Int.toNat_natCast]
theorem bits8_at (c i j : Nat) (h : i + j = 7) : (bits8 c).take (j + 1) = (bits8 c).take j ++ [c / 2 ^ i % 2] := by
 have hj : j = 0 ∨ j = 1 ∨ j = 2 ∨ j = 3 ∨ j = 4 ∨ j = 5 ∨ j = 6 ∨ j = 7 := by omega
 rcases hj with rfl | rfl | rfl | rfl | rfl | rfl | rfl | rfl
 ·obtain rfl : i = 7 := by omega
  rfl
 ·obtain rfl : i = 6 := by omega
  rfl
 ·obtain rfl : i = 5 := by omega
  rfl
 ·obtain rfl : i = 4 := by omega
  rfl
 ·obtain rfl : i = 3 := by omega
  rfl
 ·obtain rfl : i = 2 := by omega
  rfl
 ·obtain rfl : i = 1 := by omega
  rfl
 ·obtain rfl : i = 0 := by omega
  simp [bits8]
theorem feed_one (k p r : Nat) (l : List Nat) (b : Nat) : feed k p r (l ++ [b]) = stp k p (feed k p r l) b := by rw [feed_append]; rfl
theorem u8_rng {x : Int} (h : (Lit.int .u8 x).wf = true) : 0 ≤ x ∧ x ≤ 255 := bounds_u8 h
def InRel (kn p r0 : Nat) (x : Int) (w : World) (r i : Value) (wr : World) : Prop := ∃ j : Nat, j ≤ 8 ∧ i = .int .i64 (7 - (j : Int)) ∧ r = .int .i64 (feed kn p r0 ((bits8 x.toNat).take j) : Nat) ∧ Gr w wr
def OutRel (kn p r0 len : Nat) (xs : List Int) (w : World) (r t : Value) (wr : World) : Prop := ∃ q : Nat, q ≤ len ∧ t = .int .i64 q ∧ r = .int .i64 (feed kn p r0 (bitsI (xs.take q)) : Nat) ∧ Gr w wr
theorem take_bits (xs : List Int) (q : Nat) (h : q < xs.length) : bitsI (xs.take (q + 1)) = bitsI (xs.take q) ++ bits8 (xs[q]?.getD 0).toNat := by
 rw [List.take_add_one, List.getElem?_eq_getElem h, bitsI_append]
 simp [bitsI]
theorem bit_test {R k i : Nat} {x : Int} (h1 : 1 ≤ k) (hR : R < 2 ^ k) (hx : 0 ≤ x) : bits .xor .i64 ((R : Int) / 2 ^ (k - 1)) (bits .and .i64 (x / 2 ^ i) 1) = if R / 2 ^ (k - 1) = x.toNat / 2 ^ i % 2 then 0 else 1 := by
 have ht := top_bit h1 hR
 obtain ⟨c, rfl⟩ : ∃ c : Nat, x = c := ⟨x.toNat, by omega⟩
 rw [and_one, pow_nat, pow_nat]
 have e1 : (R : Int) / ((2 ^ (k - 1) : Nat) : Int) = ((R / 2 ^ (k - 1) : Nat) : Int) := by norm_cast
 have e2 : (c : Int) / ((2 ^ i : Nat) : Int) % 2 = ((c / 2 ^ i % 2 : Nat) : Int) := by norm_cast
 rw [e1, e2, xor_bits (by omega) (by omega)]
 simp only [Int.toNat_natCast]
 split <;> split <;> omega
set_option maxRecDepth 20000 in
set_option maxHeartbeats 2000000 in
theorem next_go (kind reg : Int) (r0 : Nat) (a : Option Addr) (len cap : Nat) (xs : List Int) (w : World) (hl : LaidIn w) (hk : isKind kind) (hr : Rd .u8 w a len xs) (h0 : reg = (r0 : Nat)) (h1 : r0 < 2 ^ kind.toNat) :
  Calls Tryd.prog 81 #[.int .i64 kind, .int .i64 reg, .slice a len cap] w fun e w' => e = .returned (.tuple #[.int .i64 (regN kind r0 xs), .int .i64 0]) ∧ Gr w w' := by
 subst h0
 have hk1 : 1 ≤ kind ∧ kind ≤ 24 := by rcases hk with h | h | h | h | h <;> omega
 obtain ⟨k1, k2⟩ := hk1
 have hp := two_pow_62 (k := kind.toNat) (by omega)
 have hm := hr.2.2.1
 simp only [maxLen] at hm
 have hkk := kind_of hk
 obtain ⟨kn, hkn⟩ : ∃ kn, kind.toNat = kn := ⟨_, rfl⟩
 have hpv : 0 ≤ polyV kind ∧ polyV kind < 16777216 := by rcases hk with rfl | rfl | rfl | rfl | rfl <;> decide
 obtain ⟨V, hV⟩ : ∃ V, polyV kind = V := ⟨_, rfl⟩
 have hreg : regN kind r0 xs = feed kn V.toNat r0 (bitsI xs) := by unfold regN; rw [hkn, hV]
 rw [hV] at hpv hkk
 rw [hreg]
 rw [hkn] at hkk h1 hp
 obtain ⟨p, hpp⟩ : ∃ p : Nat, V = p := ⟨V.toNat, by omega⟩
 have hvp : V.toNat = p := by omega
 rw [hvp] at hkk
 rw [hvp]
 obtain ⟨v1, v2⟩ := hpv
 have hrl := hr.1
 have h1i : (r0 : Int) < 2 ^ kn := by rw [pow_nat]; exact_mod_cast h1
 have kn1 : 1 ≤ kn := by omega
 have kn2 : kn ≤ 24 := by omega
 have HKN := zqd hkn
 have HVP := zqd hpp
 have HV := zqd hV
 have HR := zqd hr
 have HRL := zqd hrl
 have HKK := zqd hkk
 have HLT := zqd h1
 have hkd : decide (isKind kind) = true := decide_eq_true hk
 have HKD := zqd hkd
 have HLA := zqd hl
 have HF := zqd (fun l => feed_lt (k := kn) hkk.lt l r0 h1)
 clear hV hr hkd hk hl hreg hkn hpp hvp hrl hkk h1
 rw [← HKN.out] at h1i hp
 go_enter Tryd.func81, Tryd.ntmps81
 go_wp2_with fail
 refine (poly_any kind w HLA.out (by constructor <;> omega)).mono ?_
 rw [HV.out, HKD.out]
 rintro e w' ⟨rfl, rfl⟩
 go_wp2_with fail
 rw [HKN.out] at h1i hp
 go_loopw [1, 11, 12, 13, 33] (fun r _ _ _ t wr => OutRel kn p r0 len xs w r t wr) (fun _ _ _ _ t _ => len - (intOf t).toNat)
 case atStart => exact ⟨0, by omega, rfl, by simp [bitsI, feed], Gr.refl _⟩
 case round =>
  obtain ⟨q, hq, rfl, rfl, hg⟩ := hrel
  have HG := zqd hg
  clear hg
  by_cases hlt : q < len
  ·obtain ⟨b, off, ea, _, hc⟩ := HR.out.some (by omega)
   subst ea
   have ck := HG.out.cell (hc q hlt)
   have htb := take_bits xs q (by rw [HRL.out]; exact hlt)
   have hxb := u8_rng (HR.out.2.1 (xs[q]?.getD 0) (by have := HRL.out; rw [List.getElem?_eq_getElem (by omega)]; exact List.getElem_mem _))
   obtain ⟨x, hx⟩ : ∃ x, xs[q]?.getD 0 = x := ⟨_, rfl⟩
   rw [hx] at ck htb hxb
   obtain ⟨x1, x2⟩ := hxb
   have HTB := zqd htb
   obtain ⟨R0, hR0⟩ : ∃ R0, feed kn p r0 (bitsI (xs.take q)) = R0 := ⟨_, rfl⟩
   have hR0l := HF.out (bitsI (xs.take q))
   rw [hR0] at hR0l
   rw [hR0]
   have HR0 := zqd hR0
   have HR0L := zqd hR0l
   have HF0 := zqd (fun l => feed_lt (k := kn) HKK.out.lt l R0 hR0l)
   clear hc hx htb hR0 hR0l
   go_wp2_with fail
   clear ck
   obtain ⟨wo, rfl⟩ : ∃ wo : World, wo = wr := ⟨_, rfl⟩
   go_loopw [1, 12, 13] (fun r i _ wr => InRel kn p R0 x w r i wr) (fun _ i _ _ => (intOf i + 1).toNat)
   case atStart => exact ⟨0, by omega, rfl, by simp [feed], HG.out⟩
   case round =>
    clear HG
    obtain ⟨j, hj, rfl, rfl, hg⟩ := hrel
    have HG := zqd hg
    clear hg
    obtain ⟨R, hR⟩ : ∃ R, feed kn p R0 ((bits8 x.toNat).take j) = R := ⟨_, rfl⟩
    have hRl := HF0.out ((bits8 x.toNat).take j)
    rw [hR] at hRl
    rw [hR]
    have hRi : (R : Int) < 2 ^ kn := by rw [pow_nat]; exact_mod_cast hRl
    have HRR := zqd hR
    by_cases hj8 : j < 8
    ·obtain ⟨i, hi⟩ : ∃ i : Nat, 7 - (j : Int) = i := ⟨7 - j, by omega⟩
     have hi7 : i ≤ 7 := by omega
     have hbt := bits8_at x.toNat i j (by omega)
     have htest := bit_test (i := i) kn1 hRl x1
     have hgo := stp_go (b := x.toNat / 2 ^ i % 2) HVP.out kn1 kn2 hRl HKK.out.lt
     have hstep : feed kn p R0 ((bits8 x.toNat).take (j + 1)) = stp kn p R (x.toNat / 2 ^ i % 2) := by rw [hbt, feed_one, hR]
     rw [hi]
     have HI := zqd hi
     have HSTEP := zqd hstep
     rw [← HKN.out] at htest hgo hRi hp
     by_cases hbit : R / 2 ^ (kn - 1) = x.toNat / 2 ^ i % 2
     ·rw [HKN.out, if_pos hbit] at htest hgo
      rw [← HKN.out] at htest hgo
      have HGO := zqd hgo
      have hb0 : (bits .xor .i64 ((R : Int) / 2 ^ (kind.toNat - 1)) (bits .and .i64 (x / 2 ^ i) 1) == 1) = false := by rw [htest]; rfl
      clear hi hbt htest hgo hbit hR hstep hRl
      go_wp2_with fail
      refine Sched.wp_region_sched 11 [] [] (by kernel_rfl) (by kernel_rfl) ?_
      simp only [List.take_succ_cons, List.take_zero, List.drop_succ_cons, List.drop_zero]
      repeat (first | ((first | (refine Sched.walk1_no rfl rfl (fun K hK => ?_)) | (refine Sched.walk1_gr rfl rfl rfl (fun K hK => ?_); apply Exists.intro; refine ⟨fun w1 hw1 => ?_, ?_⟩; (focus (go_simp; (try go_ints); (try (simp only [IntWalk.iteOmega]; go_simp)); first | done | (with_reducible rfl) | (with_reducible exact ⟨rfl, rfl⟩))))); simp only [Act.put, zqa, zqb, zqc]; refine hK _ ?_; clear hK K))
      refine Sched.walk1_nil ?_
      intro wq hwq
      dsimp only [Sched.EndN, List.nil_append, List.cons_append, Act.put]
      (try simp only [zqa, zqb, zqc])
      repeat (first | (refine Sched.walk2_no rfl (fun K hK => ?_); simp only [Act.put, zqa, zqb, zqc]; refine hK _ ?_; clear hK K) | (refine Sched.walk2_go rfl (fun K hK => ?_); go_simp; (try go_ints); (try (simp only [IntWalk.iteOmega]; go_simp)); (refine hK _ _ ?_; clear hK K)))
      refine Sched.walk2_nil ?_
      have HW := zqd hwq
      clear hwq
      go_wp2_with fail
      rw [HGO.out]
      go_roundw
      case rel => exact ⟨j + 1, by omega, by have := HI.out; congr 1; omega, by rw [HSTEP.out, HKN.out], HG.out.trans HW.out⟩
      case measure => (simp [intOf] <;> omega)
     ·rw [HKN.out, if_neg hbit] at htest hgo
      rw [← HKN.out] at htest hgo
      have HGO := zqd hgo
      have hb0 : (bits .xor .i64 ((R : Int) / 2 ^ (kind.toNat - 1)) (bits .and .i64 (x / 2 ^ i) 1) == 1) = true := by rw [htest]; rfl
      clear hi hbt htest hgo hbit hR hstep hRl
      go_wp2_with fail
      refine Sched.wp_region_sched 11 [] [] (by kernel_rfl) (by kernel_rfl) ?_
      simp only [List.take_succ_cons, List.take_zero, List.drop_succ_cons, List.drop_zero]
      repeat (first | ((first | (refine Sched.walk1_no rfl rfl (fun K hK => ?_)) | (refine Sched.walk1_gr rfl rfl rfl (fun K hK => ?_); apply Exists.intro; refine ⟨fun w1 hw1 => ?_, ?_⟩; (focus (go_simp; (try go_ints); (try (simp only [IntWalk.iteOmega]; go_simp)); first | done | (with_reducible rfl) | (with_reducible exact ⟨rfl, rfl⟩))))); simp only [Act.put, zqa, zqb, zqc]; refine hK _ ?_; clear hK K))
      refine Sched.walk1_nil ?_
      intro wq hwq
      dsimp only [Sched.EndN, List.nil_append, List.cons_append, Act.put]
      (try simp only [zqa, zqb, zqc])
      repeat (first | (refine Sched.walk2_no rfl (fun K hK => ?_); simp only [Act.put, zqa, zqb, zqc]; refine hK _ ?_; clear hK K) | (refine Sched.walk2_go rfl (fun K hK => ?_); go_simp; (try go_ints); (try (simp only [IntWalk.iteOmega]; go_simp)); (refine hK _ _ ?_; clear hK K)))
      refine Sched.walk2_nil ?_
      have HW := zqd hwq
      clear hwq
      go_wp2_with fail
      rw [HGO.out]
      go_roundw
      case rel => exact ⟨j + 1, by omega, by have := HI.out; congr 1; omega, by rw [HSTEP.out, HKN.out], HG.out.trans HW.out⟩
      case measure => (simp [intOf] <;> omega)
    ·obtain rfl : j = 8 := by omega
     go_wp2_with fail
     go_roundw
     case rel => exact ⟨q + 1, by omega, by go_num, by rw [HTB.out, feed_append, HR0.out]; exact congrArg (fun n : Nat => Value.int .i64 n) HRR.out.symm, HG.out⟩
     case measure => (simp [intOf] <;> omega)
  ·obtain rfl : q = len := by omega
   rw [List.take_of_length_le (by rw [HRL.out]; exact Nat.le_refl _)]
   go_wp2_with fail
   go_ret2
   exact ⟨rfl, HG.out⟩
def sumE (kind : Int) : Int := if isKind kind then 0 else 7
def sumV (kind : Int) (xs : List Int) : Int := if isKind kind then (regN kind (Crc.top kind) xs : Nat) else 0
theorem top_int (kind : Int) : (2 : Int) ^ kind.toNat - 1 = (Crc.top kind : Nat) := by
 unfold Crc.top
 have := Nat.two_pow_pos kind.toNat
 rw [pow_nat]
 omega
set_option maxRecDepth 20000 in
set_option maxHeartbeats 2000000 in
theorem csum_any (kind : Int) (a : Option Addr) (len cap : Nat) (xs : List Int) (w : World) (hl : LaidIn w) (hk : i64 kind) (hr : Rd .u8 w a len xs) :
  Calls Tryd.prog 53 #[.int .i64 kind, .slice a len cap] w fun e w' => e = .returned (.tuple #[.int .i64 (sumV kind xs), .int .i64 (sumE kind)]) ∧ Gr w w' := by
 have HLA := zqd hl
 have HK := zqd hk
 have HR := zqd hr
 by_cases h : isKind kind
 ·have hv : sumV kind xs = (regN kind (Crc.top kind) xs : Nat) := by unfold sumV; rw [if_pos h]
  have he : sumE kind = 0 := by unfold sumE; rw [if_pos h]
  rw [hv, he]
  have hk1 : 1 ≤ kind ∧ kind ≤ 24 := by rcases h with h | h | h | h | h <;> omega
  obtain ⟨k1, k2⟩ := hk1
  have hp := two_pow_62 (k := kind.toNat) (by omega)
  have hp0 := two_pow_pos kind.toNat
  have HKD := zqd (decide_eq_true h)
  have HKI := zqd h
  obtain ⟨V, hV⟩ : ∃ V, polyV kind = V := ⟨_, rfl⟩
  have HV := zqd hV
  clear hv he h hl hr hk hV
  go_enter Tryd.func53, Tryd.ntmps53
  go_wp2_with fail
  refine (poly_any kind w HLA.out HK.out).mono ?_
  rw [HV.out, HKD.out]
  rintro e w' ⟨rfl, rfl⟩
  go_wp2_with fail
  refine (next_go kind _ (Crc.top kind) a len cap xs w HLA.out HKI.out HR.out (top_int kind) (top_lt kind)).mono ?_
  rintro e w' ⟨rfl, hg⟩
  have HG := zqd hg
  clear hg
  go_wp2_with fail
  go_ret2
  exact ⟨rfl, HG.out⟩
 ·have hv : sumV kind xs = 0 := by unfold sumV; rw [if_neg h]
  have he : sumE kind = 7 := by unfold sumE; rw [if_neg h]
  rw [hv, he]
  have HKD := zqd (decide_eq_false h)
  obtain ⟨V, hV⟩ : ∃ V, polyV kind = V := ⟨_, rfl⟩
  have HV := zqd hV
  clear hv he h hl hr hk hV
  go_enter Tryd.func53, Tryd.ntmps53
  go_wp2_with fail
  refine (poly_any kind w HLA.out HK.out).mono ?_
  rw [HV.out, HKD.out]
  rintro e w' ⟨rfl, rfl⟩
  go_wp2_with fail
  go_ret2
  exact ⟨rfl, Gr.refl _⟩
end Go.Proofs.YtlnkofpcidngoaaDoor
/- Layer 03 (check): contracts of the reference's functions; the sanity check. -/
namespace Go.Proofs.YtlnkofpcidngoaaDoor
open Go.ChangeShapes Go.WideShapes Go.ChangeAt Go.RowKit
open Crc
theorem and_one8 {x : Int} (h0 : 0 ≤ x) (h1 : x ≤ 255) : bits .and .u8 x 1 = x % 2 := by
 obtain ⟨n, rfl⟩ : ∃ n : Nat, x = n := ⟨x.toNat, by omega⟩
 have hn : n < 256 := by omega
 have : ∀ m : Fin 256, bits .and .u8 (m.val : Int) 1 = (m.val : Int) % 2 := by decide +kernel
 exact this ⟨n, hn⟩
theorem rbit_test {R k i : Nat} {x : Int} (h1 : 1 ≤ k) (hR : R < 2 ^ k) (hx : 0 ≤ x) (hx2 : x ≤ 255) : (bits .and .i64 ((R : Int) / 2 ^ (k - 1)) 1 != wrap64 (bits .and .u8 (x / 2 ^ i) 1)) = !decide (R / 2 ^ (k - 1) = x.toNat / 2 ^ i % 2) := by
 have ht := top_bit h1 hR
 obtain ⟨c, rfl⟩ : ∃ c : Nat, x = c := ⟨x.toNat, by omega⟩
 have e0 : (c : Int) / ((2 ^ i : Nat) : Int) = ((c / 2 ^ i : Nat) : Int) := by norm_cast
 have e3 : c / 2 ^ i ≤ c := Nat.div_le_self _ _
 rw [pow_nat, pow_nat, e0, and_one]
 generalize hf : c / 2 ^ i = f at e3
 have ew : wrap64 ((f : Int) % 2) = (f : Int) % 2 := by unfold wrap64; omega
 rw [and_one8 (by omega) (by omega), ew, Int.toNat_natCast]
 rw [hf]
 have e1 : (R : Int) / ((2 ^ (k - 1) : Nat) : Int) = ((R / 2 ^ (k - 1) : Nat) : Int) := by norm_cast
 rw [e1]
 generalize R / 2 ^ (k - 1) = d at ht
 rw [Bool.eq_iff_iff]
 simp only [bne_iff_ne, ne_eq, Bool.not_eq_eq_eq_not, Bool.not_true, decide_eq_false_iff_not]
 omega
set_option maxRecDepth 20000 in
set_option maxHeartbeats 2000000 in
theorem rnext_go (kind reg : Int) (r0 : Nat) (a : Option Addr) (len cap : Nat) (xs : List Int) (w : World) (hk : isKind kind) (hr : Rd .u8 w a len xs) (h0 : reg = (r0 : Nat)) (h1 : r0 < 2 ^ kind.toNat) :
  Calls Tryd.prog 79 #[.int .i64 kind, .int .i64 reg, .slice a len cap] w fun e w' => e = .returned (.tuple #[.int .i64 (regN kind r0 xs), .int .i64 0]) ∧ Gr w w' := by
 subst h0
 have hk1 : 1 ≤ kind ∧ kind ≤ 24 := by rcases hk with h | h | h | h | h <;> omega
 obtain ⟨k1, k2⟩ := hk1
 have hp := two_pow_62 (k := kind.toNat) (by omega)
 have hm := hr.2.2.1
 simp only [maxLen] at hm
 have hkk := kind_of hk
 obtain ⟨kn, hkn⟩ : ∃ kn, kind.toNat = kn := ⟨_, rfl⟩
 have hpv : 0 < polyV kind ∧ polyV kind < 16777216 := by rcases hk with rfl | rfl | rfl | rfl | rfl <;> decide
 obtain ⟨V, hV⟩ : ∃ V, polyV kind = V := ⟨_, rfl⟩
 have hreg : regN kind r0 xs = feed kn V.toNat r0 (bitsI xs) := by unfold regN; rw [hkn, hV]
 rw [hV] at hpv hkk
 rw [hreg]
 rw [hkn] at hkk h1 hp
 obtain ⟨p, hpp⟩ : ∃ p : Nat, V = p := ⟨V.toNat, by omega⟩
 have hvp : V.toNat = p := by omega
 rw [hvp] at hkk
 rw [hvp]
 obtain ⟨v1, v2⟩ := hpv
 have hv0 : (V == 0) = false := by simp; omega
 have hrl := hr.1
 have h1i : (r0 : Int) < 2 ^ kn := by rw [pow_nat]; exact_mod_cast h1
 have kn1 : 1 ≤ kn := by omega
 have kn2 : kn ≤ 24 := by omega
 have HKN := zqd hkn
 have HVP := zqd hpp
 have HV := zqd hV
 have HR := zqd hr
 have HRL := zqd hrl
 have HKK := zqd hkk
 have HF := zqd (fun l => feed_lt (k := kn) hkk.lt l r0 h1)
 clear hV hr hk hreg hkn hpp hvp hrl hkk h1
 rw [← HKN.out] at h1i hp
 go_enter Tryd.func79, Tryd.ntmps79
 go_wp2_with fail
 refine (rpoly_any kind w).mono ?_
 rw [HV.out]
 rintro e w' ⟨rfl, rfl⟩
 go_wp2_with fail
 clear hv0
 rw [HKN.out] at h1i hp
 go_loopw [1, 9, 10, 11] (fun r t _ _ wr => OutRel kn p r0 len xs w r t wr) (fun _ t _ _ _ => len - (intOf t).toNat)
 case atStart => exact ⟨0, by omega, rfl, by simp [bitsI, feed], Gr.refl _⟩
 case round =>
  obtain ⟨q, hq, rfl, rfl, hg⟩ := hrel
  have HG := zqd hg
  clear hg
  by_cases hlt : q < len
  ·obtain ⟨b, off, ea, _, hc⟩ := HR.out.some (by omega)
   subst ea
   have htb := take_bits xs q (by rw [HRL.out]; exact hlt)
   have hxb := u8_rng (HR.out.2.1 (xs[q]?.getD 0) (by have := HRL.out; rw [List.getElem?_eq_getElem (by omega)]; exact List.getElem_mem _))
   obtain ⟨x, hx⟩ : ∃ x, xs[q]?.getD 0 = x := ⟨_, rfl⟩
   have ck : ∀ u, Gr w u → u.cell? ⟨b, off + q, none⟩ = some (.int .u8 x) := fun u h => by rw [← hx]; exact h.cell (hc q hlt)
   rw [hx] at htb hxb
   obtain ⟨x1, x2⟩ := hxb
   have HTB := zqd htb
   have HCK := zqd ck
   obtain ⟨R0, hR0⟩ : ∃ R0, feed kn p r0 (bitsI (xs.take q)) = R0 := ⟨_, rfl⟩
   have hR0l := HF.out (bitsI (xs.take q))
   rw [hR0] at hR0l
   rw [hR0]
   have HR0 := zqd hR0
   have HF0 := zqd (fun l => feed_lt (k := kn) HKK.out.lt l R0 hR0l)
   clear hc hx htb hR0 hR0l ck
   go_wp2_with fail
   obtain ⟨wo, rfl⟩ : ∃ wo : World, wo = wr := ⟨_, rfl⟩
   go_loopw [1, 10, 11] (fun r i _ wr => InRel kn p R0 x w r i wr) (fun _ i _ _ => (intOf i + 1).toNat)
   case atStart => exact ⟨0, by omega, rfl, by simp [feed], HG.out⟩
   case round =>
    clear HG
    obtain ⟨j, hj, rfl, rfl, hg⟩ := hrel
    have HG := zqd hg
    have ck := HCK.out wr hg
    clear hg
    obtain ⟨R, hR⟩ : ∃ R, feed kn p R0 ((bits8 x.toNat).take j) = R := ⟨_, rfl⟩
    have hRl := HF0.out ((bits8 x.toNat).take j)
    rw [hR] at hRl
    rw [hR]
    have hRi : (R : Int) < 2 ^ kn := by rw [pow_nat]; exact_mod_cast hRl
    have HRR := zqd hR
    by_cases hj8 : j < 8
    ·obtain ⟨i, hi⟩ : ∃ i : Nat, 7 - (j : Int) = i := ⟨7 - j, by omega⟩
     have hi7 : i ≤ 7 := by omega
     have hbt := bits8_at x.toNat i j (by omega)
     have htest := rbit_test (i := i) kn1 hRl x1 x2
     have hgo := stp_go (b := x.toNat / 2 ^ i % 2) HVP.out kn1 kn2 hRl HKK.out.lt
     have hstep : feed kn p R0 ((bits8 x.toNat).take (j + 1)) = stp kn p R (x.toNat / 2 ^ i % 2) := by rw [hbt, feed_one, hR]
     rw [hi]
     have HI := zqd hi
     have HSTEP := zqd hstep
     rw [← HKN.out] at htest hgo hRi hp
     by_cases hbit : R / 2 ^ (kn - 1) = x.toNat / 2 ^ i % 2
     ·rw [HKN.out] at htest hgo
      rw [if_pos hbit] at hgo
      rw [decide_eq_true hbit] at htest
      rw [← HKN.out] at htest hgo
      have HGO := zqd hgo
      have hb0 := htest
      simp only [Bool.not_true] at hb0
      clear hi hbt htest hgo hbit hR hstep hRl
      go_wp2_with fail
      rw [HGO.out]
      go_roundw
      case rel => exact ⟨j + 1, by omega, by have := HI.out; congr 1; omega, by rw [HSTEP.out, HKN.out], HG.out⟩
      case measure => (simp [intOf] <;> omega)
     ·rw [HKN.out] at htest hgo
      rw [if_neg hbit] at hgo
      rw [decide_eq_false hbit] at htest
      rw [← HKN.out] at htest hgo
      have HGO := zqd hgo
      have hb0 := htest
      simp only [Bool.not_false] at hb0
      clear hi hbt htest hgo hbit hR hstep hRl
      go_wp2_with fail
      rw [HGO.out]
      go_roundw
      case rel => exact ⟨j + 1, by omega, by have := HI.out; congr 1; omega, by rw [HSTEP.out, HKN.out], HG.out⟩
      case measure => (simp [intOf] <;> omega)
    ·obtain rfl : j = 8 := by omega
     go_wp2_with fail
     go_roundw
     case rel => exact ⟨q + 1, by omega, by go_num, by rw [HTB.out, feed_append, HR0.out]; exact congrArg (fun n : Nat => Value.int .i64 n) HRR.out.symm, HG.out⟩
     case measure => (simp [intOf] <;> omega)
  ·obtain rfl : q = len := by omega
   rw [List.take_of_length_le (by rw [HRL.out]; exact Nat.le_refl _)]
   go_wp2_with fail
   go_ret2
   exact ⟨rfl, HG.out⟩
set_option maxRecDepth 20000 in
set_option maxHeartbeats 2000000 in
theorem rcsum_any (kind : Int) (a : Option Addr) (len cap : Nat) (xs : List Int) (w : World) (hr : Rd .u8 w a len xs) :
  Calls Tryd.prog 52 #[.int .i64 kind, .slice a len cap] w fun e w' => e = .returned (.tuple #[.int .i64 (sumV kind xs), .int .i64 (sumE kind)]) ∧ Gr w w' := by
 have HR := zqd hr
 by_cases h : isKind kind
 ·have hv : sumV kind xs = (regN kind (Crc.top kind) xs : Nat) := by unfold sumV; rw [if_pos h]
  have he : sumE kind = 0 := by unfold sumE; rw [if_pos h]
  rw [hv, he]
  have hk1 : 1 ≤ kind ∧ kind ≤ 24 := by rcases h with h | h | h | h | h <;> omega
  obtain ⟨k1, k2⟩ := hk1
  have hp := two_pow_62 (k := kind.toNat) (by omega)
  have hp0 := two_pow_pos kind.toNat
  have HKI := zqd h
  have hvn := polyV_yes h
  obtain ⟨V, hV⟩ : ∃ V, polyV kind = V := ⟨_, rfl⟩
  rw [hV] at hvn
  have hv0 : (V == 0) = false := by simp; omega
  have HV := zqd hV
  clear hv he h hr hV hvn
  go_enter Tryd.func52, Tryd.ntmps52
  go_wp2_with fail
  refine (rpoly_any kind w).mono ?_
  rw [HV.out]
  rintro e w' ⟨rfl, rfl⟩
  go_wp2_with fail
  refine (rnext_go kind _ (Crc.top kind) a len cap xs w HKI.out HR.out (top_int kind) (top_lt kind)).mono ?_
  rintro e w' ⟨rfl, hg⟩
  have HG := zqd hg
  clear hg
  go_wp2_with fail
  go_ret2
  exact ⟨rfl, HG.out⟩
 ·have hv : sumV kind xs = 0 := by unfold sumV; rw [if_neg h]
  have he : sumE kind = 7 := by unfold sumE; rw [if_neg h]
  rw [hv, he]
  have hvn := polyV_no h
  have HV := zqd hvn
  clear hv he h hr hvn
  go_enter Tryd.func52, Tryd.ntmps52
  go_wp2_with fail
  refine (rpoly_any kind w).mono ?_
  rw [HV.out]
  rintro e w' ⟨rfl, rfl⟩
  go_wp2_with fail
  go_ret2
  exact ⟨rfl, Gr.refl _⟩
end Go.Proofs.YtlnkofpcidngoaaDoor
