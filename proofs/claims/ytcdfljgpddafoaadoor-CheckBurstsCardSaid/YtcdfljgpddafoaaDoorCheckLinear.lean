/- The law CheckLinear: its walk. -/
import Derived.Test.YtcdfljgpddafoaaDoorCheckGoesOn
import Derived.Deep.Cut
namespace Go.Proofs.YtcdfljgpddafoaaDoor
open Go.ChangeShapes Go.WideShapes Go.ChangeAt Go.RowKit
open Crc

theorem xor_u8 {x y : Int} (hx : 0 ≤ x) (hx1 : x ≤ 255) (hy : 0 ≤ y) (hy1 : y ≤ 255) : bits .xor .u8 x y = xorI x y := by
  have e : ∀ z : Int, 0 ≤ z → z ≤ 255 → (BitVec.ofInt 8 z).toNat = z.toNat := by
    intro z h0 h1
    rw [BitVec.toNat_ofInt]
    congr 1
    have : ((2 ^ 8 : Nat) : Int) = 256 := by decide
    rw [this]; omega
  show IntKind.u8.wrap (((BitVec.ofInt 8 x) ^^^ (BitVec.ofInt 8 y)).toNat : Int) = _
  rw [BitVec.toNat_xor, e x hx hx1, e y hy hy1]
  have h : x.toNat ^^^ y.toNat < 2 ^ 8 := Nat.xor_lt_two_pow (by omega) (by omega)
  unfold xorI
  generalize x.toNat ^^^ y.toNat = z at h
  unfold IntKind.wrap
  simp [IntKind.bits, IntKind.signed]
  omega
theorem take_zip (f : Int → Int → Int) (xs ys : List Int) (j : Nat) (h1 : j < xs.length) (h2 : j < ys.length) : (List.zipWith f xs ys).take (j + 1) = (List.zipWith f xs ys).take j ++ [f (xs[j]?.getD 0) (ys[j]?.getD 0)] := by
  rw [List.take_add_one, List.getElem?_zipWith, List.getElem?_eq_getElem h1, List.getElem?_eq_getElem h2]
  rfl
def XorRel (w0 : World) (n : Nat) (zs : List Int) (s i : Value) (wr : World) : Prop :=
  ∃ (a' : Option Addr) (cap' j : Nat), j ≤ n ∧ s = .slice a' j cap' ∧ i = .int .i64 j ∧ OwnI w0.heap.size 5 .u8 wr a' j cap' (zs.take j) ∧ Gr w0 wr
set_option maxRecDepth 100000 in
set_option maxHeartbeats 2000000 in
theorem linear03 (kind : Int) (a : Option Addr) (la ca : Nat) (b : Option Addr) (lb cb : Nat) (xs ys : List Int) (w : World) (hl : LaidIn w) (ha : Rd .u8 w a la xs) (hb : Rd .u8 w b lb ys) (hca : la ≤ ca) (hcb : lb ≤ cb) (n : Nat) (hn : min (min (la : Int) lb) 500 = n) :
    Calls Tryd.prog 5 #[.int .i64 kind, .slice a la ca, .slice b lb cb] w fun e w' => e = .returned (.bool true) ∧ Gr w w' := by
  have hna : n ≤ la := by omega
  have hnb : n ≤ lb := by omega
  have hn2 : n ≤ 500 := by omega
  have hla : la ≤ 9223372036854775807 := by have := ha.2.2.1; simp only [maxLen] at this; omega
  have hlb : lb ≤ 9223372036854775807 := by have := hb.2.2.1; simp only [maxLen] at this; omega
  have ha2 := ha.take n hna
  have hb2 := hb.take n hnb
  obtain ⟨X, hX⟩ : ∃ X, xs.take n = X := ⟨_, rfl⟩
  obtain ⟨Y, hY⟩ : ∃ Y, ys.take n = Y := ⟨_, rfl⟩
  rw [hX] at ha2
  rw [hY] at hb2
  obtain ⟨Z, hZ⟩ : ∃ Z, List.zipWith xorI X Y = Z := ⟨_, rfl⟩
  have hZl : Z.length = n := by rw [← hZ]; simp [ha2.1, hb2.1]
  have hzs : ∀ j, j < n → Z.take (j + 1) = Z.take j ++ [xorI (X[j]?.getD 0) (Y[j]?.getD 0)] := fun j hj => by rw [← hZ]; exact take_zip _ _ _ j (by rw [ha2.1]; exact hj) (by rw [hb2.1]; exact hj)
  have hw := width_kind kind
  obtain ⟨k, hkw⟩ : ∃ k, widthV kind = k := ⟨_, rfl⟩
  rw [hkw] at hw
  obtain ⟨v1, hv1⟩ : ∃ v, regN k (Crc.top k) X = v := ⟨_, rfl⟩
  obtain ⟨v2, hv2⟩ : ∃ v, regN k (Crc.top k) Y = v := ⟨_, rfl⟩
  have hl1 : v1 < 2 ^ k.toNat := by rw [← hv1]; exact regN_lt hw (top_lt k) X
  have hl2 : v2 < 2 ^ k.toNat := by rw [← hv2]; exact regN_lt hw (top_lt k) Y
  have hv3 : regN k 0 Z = v1 ^^^ v2 := by
    have := regN_lin k (Crc.top k) (Crc.top k) X Y (by rw [ha2.1, hb2.1])
    rw [Nat.xor_self, hZ, hv1, hv2] at this
    exact this
  have hk24 : k ≤ 24 := by rcases hw with h | h | h | h | h <;> omega
  have hpw : (2 : Nat) ^ k.toNat ≤ 2 ^ 24 := Nat.pow_le_pow_right (by omega) (by omega)
  have hp2 : (2 : Nat) ^ 24 = 16777216 := by decide
  obtain ⟨v3, hv3e⟩ : ∃ v, v1 ^^^ v2 = v := ⟨_, rfl⟩
  rw [hv3e] at hv3
  have hxx : (bits .xor .i64 (v1 : Int) (v2 : Int) == (v3 : Int)) = true := by rw [xor_nn (by omega) (by omega) (by omega) (by omega)]; simp [hv3e]
  have HA := Lib.hid ha2
  have HB := Lib.hid hb2
  have HZL := Lib.hid hZl
  have HZS := Lib.hid hzs
  have HKW := Lib.hid hkw
  have HW := Lib.hid hw
  have HV1 := Lib.hid hv1
  have HV2 := Lib.hid hv2
  have HV3 := Lib.hid hv3
  have HXX := Lib.hid hxx
  have HLA := Lib.hid hl
  have h0lt : 0 < 2 ^ k.toNat := Nat.two_pow_pos _
  have H0 := Lib.hid h0lt
  clear ha hb ha2 hb2 hX hY hZ hZl hzs hkw hw hv1 hv2 hv3 hv3e hxx hl1 hl2 hk24 hpw hp2 h0lt hl
  go_enter Tryd.func5, Tryd.ntmps5
  go_upto_region 1 with (fail)
  go_cut [7] from 17 (fun s wc => s = .int .i64 n ∧ wc = w)
  case first =>
    go_wp2_with fail
    all_goals (go_meet; exact ⟨by congr 1; omega, rfl⟩)
  case rest =>
    obtain ⟨rfl, rfl⟩ := hcut
    clear hn
    obtain ⟨w0, rfl⟩ : ∃ w0 : World, w0 = wc := ⟨_, rfl⟩
    go_wp2_with fail
    go_region
    go_wp2_with fail
    obtain ⟨wq, hwq⟩ : ∃ wq : World, wq = w0.drew := ⟨_, rfl⟩
    have HG0 := Lib.hid (show Gr w0 wq by rw [hwq]; exact grownBy_drew (Gr.refl _))
    rw [← hwq]
    clear hwq
    refine (width_any kind wq).mono ?_
    rw [HKW.out]
    rintro e w' ⟨rfl, rfl⟩
    go_wp2_with fail
    obtain ⟨w1, rfl⟩ : ∃ w1 : World, w1 = wq := ⟨_, rfl⟩
    go_loopw [9, 10] (fun s i wr => XorRel w1 n Z s i wr) (fun _ i _ => n - (intOf i).toNat)
    case atStart => exact ⟨none, 0, 0, by omega, rfl, rfl, OwnI.nil _ _ _ _, Gr.refl _⟩
    case round =>
      obtain ⟨a', cap', j, hj, rfl, rfl, ho, hg⟩ := hrel
      have HO := Lib.hid ho
      have HG := Lib.hid hg
      clear ho hg
      by_cases hlt : j < n
      · obtain ⟨b1, o1, e1, -, hc1⟩ := HA.out.some (by omega)
        subst e1
        obtain ⟨b2, o2, e2, -, hc2⟩ := HB.out.some (by omega)
        subst e2
        have hzs := HZS.out j hlt
        have hxb := u8_rng (HA.out.2.1 (X[j]?.getD 0) (by have := HA.out.1; rw [List.getElem?_eq_getElem (by omega)]; exact List.getElem_mem _))
        have hyb := u8_rng (HB.out.2.1 (Y[j]?.getD 0) (by have := HB.out.1; rw [List.getElem?_eq_getElem (by omega)]; exact List.getElem_mem _))
        obtain ⟨x, hx⟩ : ∃ x, X[j]?.getD 0 = x := ⟨_, rfl⟩
        obtain ⟨y, hy⟩ : ∃ y, Y[j]?.getD 0 = y := ⟨_, rfl⟩
        have q1 : ∀ u, Gr wr u → u.cell? ⟨b1, o1 + j, none⟩ = some (.int .u8 x) := fun u h => by rw [← hx]; exact ((HG0.out.trans HG.out).trans h).cell (hc1 j hlt)
        have q2 : ∀ u, Gr wr u → u.cell? ⟨b2, o2 + j, none⟩ = some (.int .u8 y) := fun u h => by rw [← hy]; exact ((HG0.out.trans HG.out).trans h).cell (hc2 j hlt)
        rw [hx] at hxb hzs
        rw [hy] at hyb hzs
        rw [← xor_u8 hxb.1 hxb.2 hyb.1 hyb.2] at hzs
        have hzw : (Lit.int .u8 (bits .xor .u8 x y)).wf = true := by
          rw [xor_u8 hxb.1 hxb.2 hyb.1 hyb.2]
          have h : x.toNat ^^^ y.toNat < 2 ^ 8 := Nat.xor_lt_two_pow (by omega) (by omega)
          unfold xorI
          exact WalkArith.wf_u8 (by constructor <;> omega)
        have HZS2 := Lib.hid hzs
        have HZW := Lib.hid hzw
        clear hx hy hc1 hc2 hzs hzw hxb hyb
        go_wp2_with fail
        refine Sched.wp_region_sched 11 [] [10] (by kernel_rfl) (by kernel_rfl) ?_
        simp only [List.take_succ_cons, List.take_zero, List.drop_succ_cons, List.drop_zero]
        repeat (first | (refine Sched.walk1_no rfl rfl (fun K hK => ?_); simp only [Act.put, List.setIfInBounds_toArray, List.set_cons_zero, List.set_cons_succ]; refine hK _ ?_; clear hK K) | (refine Sched.walk1_gr rfl rfl rfl (fun K hK => ?_); apply Exists.intro; refine ⟨fun w1 hw1 => ?_, ?_⟩; (focus (go_simp; (try go_ints); (try (simp only [IntWalk.iteOmega]; go_simp)); first | done | fail | (with_reducible rfl) | (with_reducible exact ⟨rfl, rfl⟩))); simp only [Act.put, List.setIfInBounds_toArray, List.set_cons_zero, List.set_cons_succ]; refine hK _ ?_; clear hK K) | (refine Sched.walk1_pure rfl rfl rfl (fun K hK => ?_); apply Exists.intro; refine ⟨fun w1 => ?_, ?_⟩; (focus (go_simp; (try go_ints); (try (simp only [IntWalk.iteOmega]; go_simp)); first | done | (with_reducible rfl) | (with_reducible exact ⟨rfl, rfl⟩))); simp only [Act.put, List.setIfInBounds_toArray, List.set_cons_zero, List.set_cons_succ]; refine hK _ ?_; clear hK K) | (refine Sched.walk1_box rfl rfl ?_; apply Exists.intro; refine ⟨fun w1 hw1 => ?_, ?_⟩; (focus (go_simp; exact ⟨Gr.alloc _ _, rfl, by simp, heap_alloc_new _ _⟩))))
        refine Sched.walk1_new (NOne .u8 5 (bits .xor .u8 x y)) rfl rfl (NRow1.stable _ _) (fun u hu => ?_) ?_
        · go_simp
          exact ⟨Gr.alloc _ _, rfl, by simp, heap_alloc_new _ _⟩
        refine Sched.walk1_nil ?_
        intro wq hwq
        dsimp only [Sched.EndN]
        rintro lo hi v hnew hlo - - -
        obtain ⟨rfl, hrd⟩ := hnew.rd HZW.out
        obtain ⟨a5, c5, w5, hrun5, ho5, hg5, hf5⟩ := app_u8 w1.heap.size wq a' j cap' _ (HO.out.stay hwq) _ 1 1 _ hrd (by omega) (Nat.le_trans HG.out.size hwq.size)
        rw [← HZS2.out] at ho5
        have HO5 := Lib.hid ho5
        have HG5 := Lib.hid (grown_own (HG.out.trans hwq) (HO.out.stay hwq) (Nat.le_refl _) hg5)
        clear hnew hrd ho5 hg5 hf5 hwq q1 q2
        dsimp only [Sched.EndN, List.nil_append, List.cons_append, Act.put]
        (try simp only [List.setIfInBounds_toArray, List.set_cons_zero, List.set_cons_succ])
        refine Sched.walk2_app rfl _ _ _ rfl rfl rfl hrun5 ?_
        clear hrun5
        dsimp only [Sched.EndN, List.nil_append, List.cons_append, Act.put]
        (try simp only [List.setIfInBounds_toArray, List.set_cons_zero, List.set_cons_succ])
        repeat (first | (refine Sched.walk2_no rfl (fun K hK => ?_); simp only [Act.put, List.setIfInBounds_toArray, List.set_cons_zero, List.set_cons_succ]; refine hK _ ?_; clear hK K) | (refine Sched.walk2_go rfl (fun K hK => ?_); go_simp; (try go_ints); (try (simp only [IntWalk.iteOmega]; go_simp)); first | (refine hK _ _ ?_; clear hK K) | fail))
        refine Sched.walk2_nil ?_
        go_wp2_with fail
        go_roundw
        case rel => exact ⟨a5, c5, j + 1, by omega, rfl, rfl, HO5.out, HG5.out⟩
        case measure => (simp [intOf] <;> omega)
      · obtain rfl : j = n := by omega
        have ho := HO.out
        rw [List.take_of_length_le (by rw [HZL.out]; exact Nat.le_refl _)] at ho
        have HO1 := Lib.hid ho
        have HG1 := Lib.hid (HG0.out.trans HG.out)
        clear ho HO HG HG0
        have HG := Lib.hid HG1.out
        have HZ1 := Lib.hid HO1.out.rd
        have HGS := Lib.hid (Gr.refl wr)
        clear HG1
        go_wp2_with fail
        refine (sum_go HV1.out HW.out a j ca _ (HLA.out.kept HG.out) (HA.out.kept HG.out)).mono ?_
        rintro e w' ⟨rfl, hg⟩
        have HG2 := Lib.hid (HG.out.trans hg)
        have HGS2 := Lib.hid (HGS.out.trans hg)
        clear HG HGS hg
        have HG := Lib.hid HG2.out
        have HGS := Lib.hid HGS2.out
        clear HG2 HGS2
        go_wp2_with fail
        refine (sum_go HV2.out HW.out b j cb _ (HLA.out.kept HG.out) (HB.out.kept HG.out)).mono ?_
        rintro e w' ⟨rfl, hg⟩
        have HG2 := Lib.hid (HG.out.trans hg)
        have HGS2 := Lib.hid (HGS.out.trans hg)
        clear HG HGS hg
        have HG := Lib.hid HG2.out
        have HGS := Lib.hid HGS2.out
        clear HG2 HGS2
        go_wp2_with fail
        refine (next_on HV3.out rfl H0.out HW.out _ j _ _ (HLA.out.kept HG.out) (HZ1.out.kept HGS.out)).mono ?_
        rintro e w' ⟨rfl, hg⟩
        have HG2 := Lib.hid (HG.out.trans hg)
        have HGS2 := Lib.hid (HGS.out.trans hg)
        clear HG HGS hg
        have HG := Lib.hid HG2.out
        have HGS := Lib.hid HGS2.out
        clear HG2 HGS2
        have hxx := HXX.out
        go_wp2_with fail
        refine (awake03 _ (HLA.out.kept HG.out)).mono ?_
        rintro e w' ⟨rfl, hg⟩
        have HG2 := Lib.hid (HG.out.trans hg)
        have HGS2 := Lib.hid (HGS.out.trans hg)
        clear HG HGS hg
        have HG := Lib.hid HG2.out
        have HGS := Lib.hid HGS2.out
        clear HG2 HGS2
        go_wp2_with fail
        go_ret
        exact ⟨rfl, HG.out⟩
theorem linear03_fit (kind : Int) (a : Option Addr) (la ca : Nat) (xs : List Int) (b : Option Addr) (lb cb : Nat) (ys : List Int) (w : World) (hl : LaidIn w) (_hk : i64 kind) (ha : Rd .u8 w a la xs) (hca : la ≤ ca) (_hLa : la ≤ 140737488351232) (hb : Rd .u8 w b lb ys) (hcb : lb ≤ cb) (_hLb : lb ≤ 140737488351232) :
    Calls Tryd.prog 5 #[.int .i64 kind, .slice a la ca, .slice b lb cb] w fun e w' => e = .returned (.bool true) ∧ Below w.heap.size w w' :=
  (linear03 kind a la ca b lb cb xs ys w hl ha hb hca hcb (min (min la lb) 500) (by omega)).mono fun _ _ ⟨he, hg⟩ => ⟨he, Below.of_none hg⟩
end Go.Proofs.YtcdfljgpddafoaaDoor
