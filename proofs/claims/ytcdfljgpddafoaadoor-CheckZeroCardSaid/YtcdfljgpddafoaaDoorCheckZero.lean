/- The law CheckZero: its walk. -/
import Derived.Test.YtcdfljgpddafoaaDoorCheckGoesOn
import Derived.Deep.Cut
namespace Go.Proofs.YtcdfljgpddafoaaDoor
open Go.ChangeShapes Go.WideShapes Go.ChangeAt Go.RowKit
open Crc


def byteAt (v i : Nat) : Int := ((v / 2 ^ i % 256 : Nat) : Int)
def tailB (k v j : Nat) : List Int := (List.range j).map fun t => byteAt v (k - 8 - 8 * t)
theorem tailB_succ (k v j : Nat) : tailB k v (j + 1) = tailB k v j ++ [byteAt v (k - 8 - 8 * j)] := by
  simp [tailB, List.range_succ]
theorem at0 (u : Nat) : (byteAt u 0).toNat = u % 256 := by unfold byteAt; rw [Int.toNat_natCast, Nat.pow_zero, Nat.div_one]
theorem at8 (u : Nat) : (byteAt u 8).toNat = u / 256 % 256 := by unfold byteAt; rw [Int.toNat_natCast]
theorem at16 (u : Nat) : (byteAt u 16).toNat = u / 65536 % 256 := by unfold byteAt; rw [Int.toNat_natCast]
theorem tail8 (u : Nat) : tailB 8 u 1 = [byteAt u 0] := by simp [tailB, List.range_succ]
theorem tail16 (u : Nat) : tailB 16 u 2 = [byteAt u 8, byteAt u 0] := by simp [tailB, List.range_succ]
theorem tail24 (u : Nat) : tailB 24 u 3 = [byteAt u 16, byteAt u 8, byteAt u 0] := by simp [tailB, List.range_succ]
theorem tail_val {k m u : Nat} (hk : k = 8 * m) (hm : m = 1 ∨ m = 2 ∨ m = 3) (hu : u < 2 ^ k) : (bitsI (tailB k u m)).length = k ∧ val (bitsI (tailB k u m)) = u := by
  have hnil : bitsI [] = [] := rfl
  rcases hm with rfl | rfl | rfl
  · obtain rfl : k = 8 := by omega
    have e : (2 : Nat) ^ 8 = 256 := by decide
    rw [e] at hu
    rw [tail8, bitsI_cons, hnil, List.append_nil, at0, val_bits8 _ (by omega), bits8_len]
    omega
  · obtain rfl : k = 16 := by omega
    have e : (2 : Nat) ^ 16 = 65536 := by decide
    have e8 : (2 : Nat) ^ 8 = 256 := by decide
    rw [e] at hu
    rw [tail16, bitsI_cons, bitsI_cons, hnil, List.append_nil, at0, at8, val_append, val_bits8 _ (by omega), val_bits8 _ (by omega), List.length_append, bits8_len, bits8_len, e8]
    omega
  · obtain rfl : k = 24 := by omega
    have e : (2 : Nat) ^ 24 = 16777216 := by decide
    have e8 : (2 : Nat) ^ 8 = 256 := by decide
    have e16 : (2 : Nat) ^ (8 + 8) = 65536 := by decide
    rw [e] at hu
    rw [tail24, bitsI_cons, bitsI_cons, bitsI_cons, hnil, List.append_nil, at0, at8, at16, val_append, val_append, val_bits8 _ (by omega), val_bits8 _ (by omega), val_bits8 _ (by omega), List.length_append, List.length_append, bits8_len, bits8_len, bits8_len, e8, e16]
    omega
theorem tail_own {k : Int} (hk : isKind k) {m : Nat} (hkm : k = 8 * (m : Int)) (hm : m = 1 ∨ m = 2 ∨ m = 3) (xs : List Int) (u : Nat) (hu : u < 2 ^ k.toNat) : regN k (Crc.top k) (xs ++ tailB k.toNat u m) = 0 ↔ u = regN k (Crc.top k) xs := by
  obtain ⟨h1, h2⟩ := tail_val (k := k.toNat) (m := m) (by omega) hm hu
  rw [regN_append]
  unfold regN
  have hr : feed k.toNat (polyV k).toNat (Crc.top k) (bitsI xs) < 2 ^ k.toNat := feed_lt (kind_of hk).lt _ _ (top_lt k)
  rw [feed_own (kind_of hk) _ hr _ (bitsI_bits _) h1, h2]
def ZeroRel (w0 : World) (k m : Nat) (xs : List Int) (len v u : Nat) (s t i : Value) (wr : World) : Prop :=
  ∃ (a1 : Option Addr) (c1 : Nat) (a2 : Option Addr) (c2 j : Nat), j ≤ m ∧ s = .slice a1 (len + j) c1 ∧ t = .slice a2 (len + j) c2 ∧ i = .int .i64 ((k : Int) - 8 - 8 * (j : Int)) ∧ OwnI w0.heap.size 5 .u8 wr a1 (len + j) c1 (xs ++ tailB k v j) ∧ OwnI w0.heap.size 5 .u8 wr a2 (len + j) c2 (xs ++ tailB k u j) ∧ Apart (.slice a1 (len + j) c1) (.slice a2 (len + j) c2) ∧ Gr w0 wr
theorem own_lt {B : Nat} {e : TypeId} {k : IntKind} {w : World} {a : Option Addr} {n cap : Nat} {xs : List Int} (h : OwnI B e k w a n cap xs) : ∀ g, (Value.slice a n cap).ownBlock = some g → g < w.heap.size := fun g hg => (h.below g hg).2
theorem rd_byte {w : World} (x : Int) (e : TypeId) (fz : Nat × Nat) (h0 : 0 ≤ x) (h1 : x ≤ 255) : Rd .u8 (w.alloc (.cells #[.int .u8 x] e fz)) (some ⟨w.heap.size, 0, none⟩) 1 [x] :=
  rd_new [x] e fz 1 rfl (by simp [maxLen]) (by intro y hy; simp at hy; subst hy; exact WalkArith.wf_u8 (by constructor <;> omega))
set_option maxRecDepth 100000 in
set_option maxHeartbeats 2000000 in
theorem zero_walk (kind : Int) (a : Option Addr) (len cap : Nat) (xs : List Int) (other : Int) (w : World) (hl : LaidIn w) (hr : Rd .u8 w a len xs) (hL : len ≤ 1000) (q : Nat) (k : Int) (hq : modF kind 3 = (q : Int))
    (hpick : ∀ u : World, (Instr.index 35 (.agg #[.int .i64 8, .int .i64 16, .int .i64 24]) (.int .i64 (q : Int))).run Tryd.prog u = .ok (.int .i64 k) u) (m : Nat) (hkm : k = 8 * (m : Int)) (hm : m = 1 ∨ m = 2 ∨ m = 3) :
    Calls Tryd.prog 7 #[.int .i64 kind, .slice a len cap, .int .i64 other] w fun e w' => e = .returned (.bool true) ∧ Gr w w' := by
  have hk : isKind k := by unfold isKind; omega
  have hp := two_pow_62 (k := k.toNat) (by omega)
  have hp0 : (2 : Int) ^ 1 ≤ 2 ^ k.toNat := two_pow_le (by omega)
  have hp00 : (2 : Int) ^ 1 = 2 := rfl
  rw [hp00] at hp0
  obtain ⟨v, hv⟩ : ∃ v, regN k (Crc.top k) xs = v := ⟨_, rfl⟩
  have hvl : v < 2 ^ k.toNat := by rw [← hv]; exact regN_lt hk (top_lt k) xs
  have m1 := modF_lo other (2 ^ k.toNat - 1)
  have m2 := modF_hi other (2 ^ k.toNat - 1) (by omega)
  obtain ⟨d, hd⟩ : ∃ d : Nat, modF other (2 ^ k.toNat - 1) = d := ⟨(modF other (2 ^ k.toNat - 1)).toNat, by omega⟩
  rw [hd] at m2
  have hdl : 1 + d < 2 ^ k.toNat := by have h := pow_nat k.toNat; omega
  obtain ⟨u, hu⟩ : ∃ u, v ^^^ (1 + d) = u := ⟨_, rfl⟩
  have hul : u < 2 ^ k.toNat := by rw [← hu]; exact Nat.xor_lt_two_pow hvl hdl
  have huv : u ≠ v := by
    intro e
    rw [← hu] at e
    have h2 : v ^^^ (v ^^^ (1 + d)) = v ^^^ v := by rw [e]
    rw [← Nat.xor_assoc, Nat.xor_self, Nat.zero_xor] at h2
    omega
  have hpw : (2 : Nat) ^ k.toNat ≤ 2 ^ 24 := Nat.pow_le_pow_right (by omega) (by omega)
  have hp2 : (2 : Nat) ^ 24 = 16777216 := by decide
  have hxx : bits .xor .i64 (v : Int) (1 + (d : Int)) = (u : Int) := by
    have e : (1 + (d : Int)) = ((1 + d : Nat) : Int) := by push_cast; rfl
    rw [e, xor_nn (by omega) (by omega) (by omega) (by omega)]
    simp only [Int.toNat_natCast]
    rw [hu]
  obtain ⟨p1, hp1⟩ : ∃ p, regN k (Crc.top k) (xs ++ tailB k.toNat v m) = p := ⟨_, rfl⟩
  obtain ⟨p2, hp2'⟩ : ∃ p, regN k (Crc.top k) (xs ++ tailB k.toNat u m) = p := ⟨_, rfl⟩
  have hpz : p1 = 0 := by rw [← hp1]; exact (tail_own hk hkm hm xs v hvl).2 hv.symm
  have hpn : p2 ≠ 0 := by rw [← hp2']; intro e; exact huv (((tail_own hk hkm hm xs u hul).1 e).trans hv)
  subst hpz
  have hpn2 : ((p2 : Int) != 0) = true := by simp; omega
  have HV := Lib.hid hv
  have HD := Lib.hid hd
  have HP1 := Lib.hid hp1
  have HP2 := Lib.hid hp2'
  have HPN := Lib.hid hpn2
  have HXX := Lib.hid hxx
  have HK := Lib.hid hk
  have HKM := Lib.hid hkm
  have HQ := Lib.hid hq
  have HLA := Lib.hid hl
  have HR := Lib.hid hr
  have HG := Lib.hid (Gr.refl w)
  have k1 : 8 ≤ k := by omega
  have k2 : k ≤ 24 := by omega
  have HVL := Lib.hid hvl
  have HUL := Lib.hid hul
  have HDL := Lib.hid hdl
  have HM := Lib.hid hm
  clear hv hd hp1 hp2' hpn hpn2 hxx hk hkm hq hl hr m1 m2 hdl hul huv hpw hp2 hu hvl hp00 hm hp0
  have hp0 := two_pow_pos k.toNat
  go_enter Tryd.func7, Tryd.ntmps7
  go_wp2_with fail
  refine (modc HQ.out (by omega) w).mono ?_
  rintro e w' ⟨rfl, rfl⟩
  go_wp2_with fail
  refine (sum_go HV.out HK.out a len cap _ (HLA.out.kept HG.out) (HR.out.kept HG.out)).mono ?_
  rintro e w' ⟨rfl, hg⟩
  have HG2 := Lib.hid (HG.out.trans hg)
  clear HG hg
  have HG := Lib.hid HG2.out
  clear HG2
  go_wp2_with fail
  refine (awake03 _ (HLA.out.kept HG.out)).mono ?_
  rintro e w' ⟨rfl, hg⟩
  have HG2 := Lib.hid (HG.out.trans hg)
  clear HG hg
  have HG := Lib.hid HG2.out
  clear HG2
  go_wp2_with fail
  refine (modc HD.out (by omega) _).mono ?_
  rintro e w' ⟨rfl, rfl⟩
  have hdb : 1 + (d : Int) < 2 ^ k.toNat := by have h := pow_nat k.toNat; have := HDL.out; omega
  obtain ⟨w0, rfl⟩ : ∃ w0 : World, w0 = w' := ⟨_, rfl⟩
  go_upto_region 8 with (fail)
  rw [HXX.out]
  clear hdb
  obtain ⟨a1, c1, w1, hrun1, ho1, hg1, hf1⟩ := app_u8_nil w0.heap.size w0 a len cap xs (HR.out.kept HG.out) (by omega) (Nat.le_refl _)
  obtain ⟨a2, c2, w2, hrun2, ho2, hg2, hf2⟩ := app_u8_nil w0.heap.size w1 a len cap xs ((HR.out.kept HG.out).kept hg1) (by omega) hg1.size
  have hap : Apart (.slice a1 len c1) (.slice a2 len c2) := (Apart.nil (.slice a1 len c1) 0).symm.grow hf2 (own_lt ho1)
  have HO1 := Lib.hid (ho1.stay hg2)
  have HO2 := Lib.hid ho2
  have HAP := Lib.hid hap
  have HG2 := Lib.hid (hg1.trans hg2)
  have HR1 := Lib.hid hrun1
  have HR2 := Lib.hid hrun2
  clear hrun1 hrun2 ho1 ho2 hg1 hg2 hf1 hf2 hap
  have tok1 : True := trivial
  go_wp2_with (first | (at_builtin; have _t := tok1; refine wpList_app rfl _ _ _ rfl rfl rfl HR1.out ?_; clear _t tok1) | (at_builtin; refine wpList_app rfl _ _ _ rfl rfl rfl HR2.out ?_))
  go_loopw [11, 12, 13] (fun s t i wr => ZeroRel w0 k.toNat m xs len v u s t i wr) (fun _ _ i _ => (intOf i + 8).toNat)
  case atStart => exact ⟨a1, c1, a2, c2, 0, by omega, rfl, rfl, by congr 1; omega, by simpa [tailB] using HO1.out, by simpa [tailB] using HO2.out, HAP.out, HG2.out⟩
  case round =>
    clear HR1 HR2 HO1 HO2 HAP HG2
    obtain ⟨a1, c1, a2, c2, j, hj, rfl, rfl, rfl, ho1, ho2, hap, hg⟩ := hrel
    have HO1 := Lib.hid ho1
    have HO2 := Lib.hid ho2
    have HAP := Lib.hid hap
    have HGR := Lib.hid hg
    clear ho1 ho2 hap hg
    have hm3 : m ≤ 3 := by have := HM.out; omega
    by_cases hlt : j < m
    · obtain ⟨i, hi⟩ : ∃ i : Nat, (k.toNat : Int) - 8 - 8 * (j : Int) = i := ⟨k.toNat - 8 - 8 * j, by have := HKM.out; omega⟩
      have hi16 : i ≤ 16 := by omega
      have hi2 : k.toNat - 8 - 8 * j = i := by omega
      rw [hi]
      have HI := Lib.hid hi
      have HI2 := Lib.hid hi2
      clear hi hi2
      have bv : (v : Int) / 2 ^ i % 256 = byteAt v i := by rw [pow_nat]; unfold byteAt; norm_cast
      have bu : (u : Int) / 2 ^ i % 256 = byteAt u i := by rw [pow_nat]; unfold byteAt; norm_cast
      have hs1 := tailB_succ k.toNat v j
      have hs2 := tailB_succ k.toNat u j
      rw [HI2.out, ← bv] at hs1
      rw [HI2.out, ← bu] at hs2
      have hrd1 := rd_byte (w := wr) ((v : Int) / 2 ^ i % 256) 5 (0, 0) (by omega) (by omega)
      obtain ⟨a5, c5, w5, hrun5, ho5, hg5, hf5⟩ := app_u8 w0.heap.size (wr.alloc (.cells #[.int .u8 ((v : Int) / 2 ^ i % 256)] 5)) a1 (len + j) c1 _ (HO1.out.stay (World.grownBy_alloc _ _ _)) (some ⟨wr.heap.size, 0, none⟩) 1 1 _ hrd1 (by omega) (by have := HGR.out.size; simp; omega)
      have hg15 : Gr w0 w5 := grown_own (grownBy_alloc HGR.out _) (HO1.out.stay (World.grownBy_alloc _ _ _)) (Nat.le_refl _) hg5
      have ho25 := (HO2.out.stay (World.grownBy_alloc wr (.cells #[.int .u8 ((v : Int) / 2 ^ i % 256)] 5) none)).kept hg5 HAP.out.symm.ne
      have hap5 := HAP.out.symm.grow hf5 (own_lt (HO2.out.stay (World.grownBy_alloc wr (.cells #[.int .u8 ((v : Int) / 2 ^ i % 256)] 5) none)))
      have hrd2 := rd_byte (w := w5) ((u : Int) / 2 ^ i % 256) 5 (0, 0) (by omega) (by omega)
      obtain ⟨a6, c6, w6, hrun6, ho6, hg6, hf6⟩ := app_u8 w0.heap.size (w5.alloc (.cells #[.int .u8 ((u : Int) / 2 ^ i % 256)] 5)) a2 (len + j) c2 _ (ho25.stay (World.grownBy_alloc _ _ _)) (some ⟨w5.heap.size, 0, none⟩) 1 1 _ hrd2 (by omega) (by have := hg15.size; simp; omega)
      have HG6 := Lib.hid (show Gr w0 w6 from grown_own (grownBy_alloc hg15 _) (ho25.stay (World.grownBy_alloc _ _ _)) (Nat.le_refl _) hg6)
      have HO16 := Lib.hid ((ho5.stay (World.grownBy_alloc w5 (.cells #[.int .u8 ((u : Int) / 2 ^ i % 256)] 5) none)).kept hg6 hap5.symm.ne)
      have HAP6 := Lib.hid (hap5.symm.grow hf6 (own_lt (ho5.stay (World.grownBy_alloc w5 (.cells #[.int .u8 ((u : Int) / 2 ^ i % 256)] 5) none))))
      rw [List.append_assoc, ← hs2] at ho6
      have HO6 := Lib.hid ho6
      have HR5 := Lib.hid hrun5
      have HR6 := Lib.hid hrun6
      have HS1 := Lib.hid hs1
      clear bv bu hs1 hs2 hrd1 hrun5 ho5 hg5 hf5 hg15 ho25 hap5 hrd2 hrun6 ho6 hg6 hf6
      have tok2 : True := trivial
      go_wp2_with (first | (at_builtin; have _t := tok2; refine wpList_app rfl _ _ _ rfl rfl rfl HR5.out ?_; clear _t tok2) | (at_builtin; refine wpList_app rfl _ _ _ rfl rfl rfl HR6.out ?_))
      go_roundw
      case rel => exact ⟨a5, c5, a6, c6, j + 1, by omega, rfl, rfl, by have := HI.out; congr 1; omega, by have := HO16.out; rw [List.append_assoc, ← HS1.out] at this; exact this, HO6.out, HAP6.out, HG6.out⟩
      case measure => (simp [intOf] <;> omega)
    · obtain rfl : j = m := by omega
      have hneg : (k.toNat : Int) - 8 - 8 * (j : Int) = -8 := by have := HKM.out; omega
      rw [hneg]
      have HN := Lib.hid hneg
      clear hneg
      have HRX := Lib.hid HO1.out.rd
      have HRY := Lib.hid HO2.out.rd
      have HG0 := Lib.hid (HG.out.trans HGR.out)
      clear HG HO1 HO2
      have HG := Lib.hid HG0.out
      clear HG0
      have HGS := Lib.hid (Gr.refl wr)
      go_wp2_with fail
      refine (sum_go HP1.out HK.out a1 (len + j) c1 wr (HLA.out.kept HG.out) HRX.out).mono ?_
      rintro e w7 ⟨rfl, hg7⟩
      have HG7 := Lib.hid hg7
      clear hg7
      go_wp2_with fail
      refine (sum_go HP2.out HK.out a2 (len + j) c2 w7 (HLA.out.kept (HG.out.trans HG7.out)) (HRY.out.kept HG7.out)).mono ?_
      rintro e w8 ⟨rfl, hg8⟩
      have HG8 := Lib.hid (HG.out.trans (HG7.out.trans hg8))
      have hpn := HPN.out
      clear hg8
      go_wp2_with fail
      go_ret
      exact ⟨rfl, HG8.out⟩
theorem zero_no (kind : Int) (a : Option Addr) (len cap : Nat) (other : Int) (w : World) (hl : LaidIn w) (hL : 1000 < len) (h1 : len ≤ 140737488351232) :
    Calls Tryd.prog 7 #[.int .i64 kind, .slice a len cap, .int .i64 other] w fun e w' => e = .returned (.bool true) ∧ Gr w w' := by
  have HLA := Lib.hid hl
  clear hl
  go_enter Tryd.func7, Tryd.ntmps7
  go_wp2_with fail
  refine (awake03 _ HLA.out).mono ?_
  rintro e w1 ⟨rfl, hg⟩
  have HG := Lib.hid hg
  clear hg
  go_wp2_with fail
  go_ret
  exact ⟨rfl, HG.out⟩
theorem zero_fit (kind : Int) (a : Option Addr) (len cap : Nat) (xs : List Int) (other : Int) (w : World) (hl : LaidIn w) (_hk : i64 kind) (hr : Rd .u8 w a len xs) (_hc : len ≤ cap) (hL : len ≤ 140737488351232) (_ho : i64 other) :
    Calls Tryd.prog 7 #[.int .i64 kind, .slice a len cap, .int .i64 other] w fun e w' => e = .returned (.bool true) ∧ Below w.heap.size w w' := by
  have key : Calls Tryd.prog 7 #[.int .i64 kind, .slice a len cap, .int .i64 other] w fun e w' => e = .returned (.bool true) ∧ Gr w w' := by
    by_cases h : len ≤ 1000
    · have hx : ∀ (q : Nat) (k : Int) (m : Nat), modF kind 3 = (q : Int) → q < 3 → #[Value.int .i64 8, Value.int .i64 16, Value.int .i64 24][q]? = some (.int .i64 k) → k = 8 * (m : Int) → (m = 1 ∨ m = 2 ∨ m = 3) → Calls Tryd.prog 7 #[.int .i64 kind, .slice a len cap, .int .i64 other] w fun e w' => e = .returned (.bool true) ∧ Gr w w' :=
        fun q k m hq h3 hget hkm hm => zero_walk kind a len cap xs other w hl hr h q k hq (fun u => run_index_cell (j := q) u Tryd.underlying35 (by kernel_rfl) Tryd.underlying3 (by kernel_rfl) h3 hget) m hkm hm
      have h1 := modF_lo kind 3
      have h2 := modF_hi kind 3 (by omega)
      have h3 : modF kind 3 = 0 ∨ modF kind 3 = 1 ∨ modF kind 3 = 2 := by omega
      rcases h3 with h3 | h3 | h3
      · exact hx 0 8 1 h3 (by omega) rfl rfl (by omega)
      · exact hx 1 16 2 h3 (by omega) rfl rfl (by omega)
      · exact hx 2 24 3 h3 (by omega) rfl rfl (by omega)
    · exact zero_no kind a len cap other w hl (by omega) hL
  exact key.mono fun _ _ ⟨he, hg⟩ => ⟨he, Below.of_none hg⟩
end Go.Proofs.YtcdfljgpddafoaaDoor
