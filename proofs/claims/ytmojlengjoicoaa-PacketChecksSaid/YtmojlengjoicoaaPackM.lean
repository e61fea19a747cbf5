/- Layer 05 (packet): PacketParsesMade, PacketBuildsMade. -/
import Derived.Test.YtmojlengjoicoaaPackJ
import Derived.Test.YtmojlengjoicoaaPackK
import Derived.Test.YtmojlengjoicoaaFlowO
import Derived.Test.YtmojlengjoicoaaFlowT
namespace Go.Proofs.Ytmojlengjoicoaa
open Go.ChangeShapes Go.WideShapes Go.ChangeAt Go.RowKit

theorem buildF_len (h : Hdr) (ys : List Int) : (buildF h ys).2.length ≤ 1500 := by
  unfold buildF
  split
  · split
    · simp
    · show (bldL (headL h ++ ys)).length ≤ 1500
      rw [bldL_len]; omega
  · simp
/-- What lies between the rolled dice and w. -/
theorem grown_dice {w w1 w2 : World} {p : Nat} (h : Gr w w1) (hp : w.heap.size ≤ p) (hg : w1.grownBy w2 (some p)) : Gr w w2 := grownBy_trans h hg (.inr (.inr ⟨p, rfl, hp⟩))
set_option maxRecDepth 100000 in
set_option maxHeartbeats 2000000 in
theorem parsesmade_any (a : Option Addr) (len cap : Nat) (ts : List Int) (w : World) (hr : Rd .i64 w a len ts) (hL : len * 8 ≤ 140737488351232) : Calls Try.prog 9 #[.slice a len cap] w fun e w' => e = .returned (.bool true) ∧ Gr w w' := by
  by_cases hlt : len ≤ 400
  rotate_left
  · have hd : decide (len ≤ 400) = false := decide_eq_false hlt
    have HD := Lib.hid hd
    clear hd hlt
    go_enter Try.func9, Try.ntmps9
    go_wp2_with fail
    refine (light_any a len cap w (by omega)).mono ?_
    rintro e w' ⟨rfl, rfl⟩
    rw [HD.out]
    go_wp2_with fail
    refine (awake05 w).mono ?_
    rintro e w1 ⟨rfl, hg1⟩
    have HG1 := Lib.hid hg1
    clear hg1
    go_wp2_with fail
    go_ret
    exact ⟨rfl, HG1.out⟩
  have hd : decide (len ≤ 400) = true := decide_eq_true hlt
  have HD := Lib.hid hd
  have HR := Lib.hid hr
  clear hd hlt hr
  go_enter Try.func9, Try.ntmps9
  go_wp2_with fail
  refine (light_any a len cap w (by omega)).mono ?_
  rintro e w' ⟨rfl, rfl⟩
  rw [HD.out]
  go_wp2_with fail
  refine (roll_any a len cap ts w HR.out).mono ?_
  rintro e w1 ⟨p, rfl, hd1, hg1, hp1⟩
  have HD1 := Lib.hid hd1
  have HG1 := Lib.hid hg1
  have HP := Lib.hid hp1
  clear hd1 hg1 hp1
  go_wp2_with fail
  refine (next_any p 4 _ HD1.out (by omega) (by omega)).mono ?_
  rintro e w2 ⟨fl, rfl, fl1, fl2, hd2, hg2⟩
  have HD2 := Lib.hid hd2
  have HG2 := Lib.hid (grown_dice HG1.out HP.out hg2)
  clear hd2 hg2 HD1 HG1
  go_wp2_with fail
  refine (header_any p fl _ HD2.out (by omega) (by omega)).mono ?_
  rintro e w3 ⟨h, rfl, hmd, hd3, hg3⟩
  have HMV := Lib.hid (made_valid hmd (by omega) (by omega))
  have HMO := Lib.hid (made_ok hmd (by omega) (by omega))
  have HD3 := Lib.hid hd3
  have HG3 := Lib.hid (grown_dice HG2.out HP.out hg3)
  clear hd3 hg3 HD2 HG2 hmd
  go_wp2_with fail
  refine (bytes_any p 30 30 _ rfl HD3.out (by omega)).mono ?_
  rintro e w4 ⟨a4, n4, c4, ys, rfl, hn4, hb4⟩
  have HB4 := Lib.hid hb4
  have HG4 := Lib.hid (grown_dice HG3.out HP.out hb4.2.2.1)
  clear hb4 HD3 HG3
  go_wp2_with fail
  refine (rbuild_any h a4 n4 c4 ys w4 HB4.out.2.1.rd (by omega)).mono ?_
  rintro e w5 ⟨a5, n5, c5, rfl, hn5, hb5⟩
  have hlen := buildF_len h ys
  rw [← hn5] at hlen
  obtain ⟨R, hR⟩ : ∃ R, buildF h ys = R := ⟨_, rfl⟩
  rw [hR] at hb5 ⊢
  have HB5 := Lib.hid (show DieB w4 p a5 n5 c5 R.2 w5 from ⟨HB4.out.1.kept hb5.2 (by simp), hb5.1, grown_weak hb5.2 _, Nat.lt_of_lt_of_le HB4.out.2.2.2 HB4.out.2.2.1.size⟩)
  have HG5 := Lib.hid (HG4.out.trans hb5.2)
  have HC5 := Lib.hid hb5.1.le_cap
  clear hb5 hn5 hR HB4
  go_wp2_with fail
  refine (one_any p 2 _ HB5.out.1 (by omega) (by omega)).mono ?_
  rintro e w6 ⟨b, rfl, hd6, hg6⟩
  have HB6 := Lib.hid (HB5.out.dice hd6 hg6)
  have HG6 := Lib.hid (grown_dice HG5.out HP.out hg6)
  clear hd6 hg6 HB5 HG5
  cases b
  · go_wp2_with fail
    refine (parses_any a5 n5 c5 R.2 w6 HB6.out.2.1.rd HC5.out (by omega)).mono ?_
    rintro e w7 ⟨rfl, hg7⟩
    have HG7 := Lib.hid (HG6.out.trans hg7)
    clear hg7
    go_wp2_with fail
    go_ret
    exact ⟨rfl, HG7.out⟩
  · go_wp2_with fail
    refine (spoil_any p a5 n5 c5 R.2 w6 HB6.out.1 HB6.out.2.1.rd (by omega)).mono ?_
    rintro e w7 ⟨a7, n7, c7, zs, rfl, hn7, hb7⟩
    have HB7 := Lib.hid hb7
    have HG7 := Lib.hid (grown_dice HG6.out HP.out hb7.2.2.1)
    clear hb7 HG6 HB6
    go_wp2_with fail
    refine (parses_any a7 n7 c7 zs w7 HB7.out.2.1.rd HB7.out.2.1.le_cap (by omega)).mono ?_
    rintro e w8 ⟨rfl, hg8⟩
    have HG8 := Lib.hid (HG7.out.trans hg8)
    clear hg8
    go_wp2_with fail
    go_ret
    exact ⟨rfl, HG8.out⟩
theorem parsesmade_fit (a : Option Addr) (len cap : Nat) (ts : List Int) (w : World) (hr : Rd .i64 w a len ts) (_hc : len ≤ cap) (hL : len * 8 ≤ 140737488351232) : Calls Try.prog 9 #[.slice a len cap] w fun e w' => e = .returned (.bool true) ∧ Below w.heap.size w w' :=
  (parsesmade_any a len cap ts w hr hL).mono fun _ _ ⟨h, hg⟩ => ⟨h, Below.of_none hg⟩
theorem fill_is (L : Nat) (LI s : Int) (w : World) (hL : LI = L) (h : L ≤ 1000000) (hs : i64 s) : Calls Try.prog 52 #[.int .i64 LI, .int .i64 s] w (FillPost L w) := hL ▸ fill_any L s w h hs
set_option maxRecDepth 100000 in
set_option maxHeartbeats 2000000 in
theorem buildsmade_any (a : Option Addr) (len cap : Nat) (ts : List Int) (size : Int) (w : World) (hr : Rd .i64 w a len ts) (hL : len * 8 ≤ 140737488351232) (hsz : i64 size) : Calls Try.prog 12 #[.slice a len cap, .int .i64 size] w fun e w' => e = .returned (.bool true) ∧ Gr w w' := by
  have HSZ := Lib.hid hsz
  clear hsz
  by_cases hlt : len ≤ 400
  rotate_left
  · have hd : decide (len ≤ 400) = false := decide_eq_false hlt
    have HD := Lib.hid hd
    clear hd hlt
    go_enter Try.func12, Try.ntmps12
    go_wp2_with fail
    refine (light_any a len cap w (by omega)).mono ?_
    rintro e w' ⟨rfl, rfl⟩
    rw [HD.out]
    go_wp2_with fail
    refine (awake05 w).mono ?_
    rintro e w1 ⟨rfl, hg1⟩
    have HG1 := Lib.hid hg1
    clear hg1
    go_wp2_with fail
    go_ret
    exact ⟨rfl, HG1.out⟩
  have hd : decide (len ≤ 400) = true := decide_eq_true hlt
  have HD := Lib.hid hd
  have HR := Lib.hid hr
  clear hd hlt hr
  go_enter Try.func12, Try.ntmps12
  go_wp2_with fail
  refine (light_any a len cap w (by omega)).mono ?_
  rintro e w' ⟨rfl, rfl⟩
  rw [HD.out]
  go_wp2_with fail
  refine (roll_any a len cap ts w HR.out).mono ?_
  rintro e w1 ⟨p, rfl, hd1, hg1, hp1⟩
  have HD1 := Lib.hid hd1
  have HG1 := Lib.hid hg1
  have HP := Lib.hid hp1
  clear hd1 hg1 hp1
  go_wp2_with fail
  refine (next_any p 4 _ HD1.out (by omega) (by omega)).mono ?_
  rintro e w2 ⟨fl, rfl, fl1, fl2, hd2, hg2⟩
  have HD2 := Lib.hid hd2
  have HG2 := Lib.hid (grown_dice HG1.out HP.out hg2)
  clear hd2 hg2 HD1 HG1
  go_wp2_with fail
  refine (header_any p fl _ HD2.out (by omega) (by omega)).mono ?_
  rintro e w3 ⟨h, rfl, hmd, hd3, hg3⟩
  have HMV := Lib.hid (made_valid hmd (by omega) (by omega))
  have HMO := Lib.hid (made_ok hmd (by omega) (by omega))
  have HD3 := Lib.hid hd3
  have HG3 := Lib.hid (grown_dice HG2.out HP.out hg3)
  clear hd3 hg3 HD2 HG2 hmd
  go_upto_region 5 with (fail)
  obtain ⟨w4, hw4⟩ : ∃ y, y = w3.alloc (.cells (HCells h).toArray 29) := ⟨_, rfl⟩
  have hb4 : HBlk w3.heap.size h w4 := by rw [hw4]; exact heap_alloc_new _ _
  have hg4 : Gr w3 w4 := by rw [hw4]; exact Gr.alloc _ _
  simp only [HCells] at hw4
  rw [← hw4]
  obtain ⟨g, hg⟩ : ∃ g, w3.heap.size = g := ⟨_, rfl⟩
  have hpg : p < g := by rw [← hg]; exact HD3.out.lt
  have hwg : w.heap.size ≤ g := by rw [← hg]; exact HG3.out.size
  rw [hg] at hb4 ⊢
  have HB4 := Lib.hid hb4
  have HG4 := Lib.hid (HG3.out.trans hg4)
  have HD4 := Lib.hid (HD3.out.kept hg4 (by simp))
  clear hw4 hb4 hg4 HD3 HG3 hg
  go_wp2_with fail
  refine (one_any p 3 _ HD4.out (by omega) (by omega)).mono ?_
  rintro e w5 ⟨b, rfl, hd5', hg5⟩
  have HB5 := Lib.hid (HB4.out.dice hg5 (by omega))
  have HG5 := Lib.hid (grown_dice HG4.out HP.out hg5)
  have HD5 := Lib.hid hd5'
  clear hd5' hg5 HB4 HG4 HD4
  cases b
  · go_wp2_with fail
    refine (bytes_any p 40 40 _ rfl (HD5).out (by omega)).mono ?_
    rintro e w10 ⟨a10, n10, c10, ys, rfl, hn10, hb10⟩
    have HB10 := Lib.hid hb10
    have HH10 := Lib.hid ((HB5).out.dice hb10.2.2.1 (by omega))
    have HG10 := Lib.hid (grown_dice (HG5).out HP.out hb10.2.2.1)
    clear hb10
    go_wp2_with fail
    refine (one_any p 4 _ HB10.out.1 (by omega) (by omega)).mono ?_
    rintro e w11 ⟨b11, rfl, hd11, hg11⟩
    have HB11 := Lib.hid (HB10.out.dice hd11 hg11)
    have HH11 := Lib.hid (HH10.out.dice hg11 (by omega))
    have HG11 := Lib.hid (grown_dice HG10.out HP.out hg11)
    clear hd11 hg11 HB10 HH10 HG10
    cases b11
    · have hbx := HH11.out
      unfold HBlk at hbx
      have HBX := Lib.hid hbx
      clear hbx
      go_wp2_with (refine wpList_load_w rfl 29 _ rfl g rfl 29 _ _ _ HBX.out Try.underlying29 rfl (by kernel_rfl) ?_)
      refine (builds_any h a10 n10 c10 ys w11 (HMO.out) HB11.out.2.1.rd (by omega)).mono ?_
      rintro e w12 ⟨rfl, hg12⟩
      have HG12 := Lib.hid (HG11.out.trans hg12)
      clear hg12
      go_wp2_with fail
      go_ret
      exact ⟨rfl, HG12.out⟩
    · go_wp2_with fail
      refine (mod_any _ _ _ (by omega)).mono ?_
      rintro e w' ⟨rfl, rfl⟩
      obtain ⟨v, hv⟩ : ∃ v, modF size 24 = v := ⟨_, rfl⟩
      have v1 := modF_lo size 24
      have v2 := modF_hi size 24 (by omega)
      rw [hv] at v1 v2 ⊢
      clear hv
      obtain ⟨k, rfl⟩ : ∃ n : Nat, v = n := ⟨v.toNat, by omega⟩
      go_wp2_with fail
      refine (fill_is (1455 + k) _ size _ (by omega) (by omega) HSZ.out).mono ?_
      rintro e w12 ⟨a12, c12, zs, rfl, hb12⟩
      have HB12 := Lib.hid hb12
      have hbx := HH11.out.kept hb12.2
      unfold HBlk at hbx
      have HBX := Lib.hid hbx
      have HG12 := Lib.hid (HG11.out.trans hb12.2)
      clear hb12 hbx
      go_wp2_with (refine wpList_load_w rfl 29 _ rfl g rfl 29 _ _ _ HBX.out Try.underlying29 rfl (by kernel_rfl) ?_)
      refine (builds_any h a12 _ c12 zs w12 (HMO.out) HB12.out.1.rd (by omega)).mono ?_
      rintro e w13 ⟨rfl, hg13⟩
      have HG13 := Lib.hid (HG12.out.trans hg13)
      clear hg13
      go_wp2_with fail
      go_ret
      exact ⟨rfl, HG13.out⟩
  · have hbx := HB5.out
    unfold HBlk at hbx
    have HBX := Lib.hid hbx
    clear hbx
    go_wp2_with (refine wpList_load_w rfl 29 _ rfl g rfl 29 _ _ _ HBX.out Try.underlying29 rfl (by kernel_rfl) ?_)
    refine (odd_any p h w5 HD5.out HMO.out).mono ?_
    rintro e w6 ⟨r, rfl, hor, hd6, hg6⟩
    have hb6 := HB5.out.dice hg6 (by omega)
    have hthr := hb6.there
    have hbe := hb6.put r
    have hge := grown_setCells_new (grown_dice HG5.out HP.out hg6) (g := g) hwg (HCells r) 0
    have hde : Die (w6.setCells g 0 (HCells r)) p := hd6.kept (grown_setCells g _ 0 w6) (fun g' e => by injection e with e; omega)
    obtain ⟨w7, hw7⟩ : ∃ y, y = w6.setCells g 0 (HCells r).toArray.toList := ⟨_, rfl⟩
    have HB7 := Lib.hid (show HBlk g r w7 by rw [hw7]; exact hbe)
    have HTH := Lib.hid hthr
    have HG7 := Lib.hid (show Gr w w7 by rw [hw7]; exact hge)
    have HD7 := Lib.hid (show Die w7 p by rw [hw7]; exact hde)
    have HW7 := Lib.hid hw7
    have HOR := Lib.hid hor
    clear hb6 hthr hbe hge hde hw7 hor hd6 hg6 HB5 HG5 HD5 HBX
    go_upto_region 7 with (refine wpList_store_mid rfl 29 _ _ rfl g 0 (HCells r).toArray rfl rfl HTH.out (by kernel_rfl) (hcells_one _) ?_; rw [← HW7.out])
    clear HTH HW7
    go_wp2_with fail
    refine (bytes_any p 40 40 _ rfl (HD7).out (by omega)).mono ?_
    rintro e w10 ⟨a10, n10, c10, ys, rfl, hn10, hb10⟩
    have HB10 := Lib.hid hb10
    have HH10 := Lib.hid ((HB7).out.dice hb10.2.2.1 (by omega))
    have HG10 := Lib.hid (grown_dice (HG7).out HP.out hb10.2.2.1)
    clear hb10
    go_wp2_with fail
    refine (one_any p 4 _ HB10.out.1 (by omega) (by omega)).mono ?_
    rintro e w11 ⟨b11, rfl, hd11, hg11⟩
    have HB11 := Lib.hid (HB10.out.dice hd11 hg11)
    have HH11 := Lib.hid (HH10.out.dice hg11 (by omega))
    have HG11 := Lib.hid (grown_dice HG10.out HP.out hg11)
    clear hd11 hg11 HB10 HH10 HG10
    cases b11
    · have hbx := HH11.out
      unfold HBlk at hbx
      have HBX := Lib.hid hbx
      clear hbx
      go_wp2_with (refine wpList_load_w rfl 29 _ rfl g rfl 29 _ _ _ HBX.out Try.underlying29 rfl (by kernel_rfl) ?_)
      refine (builds_any r a10 n10 c10 ys w11 (HOR.out) HB11.out.2.1.rd (by omega)).mono ?_
      rintro e w12 ⟨rfl, hg12⟩
      have HG12 := Lib.hid (HG11.out.trans hg12)
      clear hg12
      go_wp2_with fail
      go_ret
      exact ⟨rfl, HG12.out⟩
    · go_wp2_with fail
      refine (mod_any _ _ _ (by omega)).mono ?_
      rintro e w' ⟨rfl, rfl⟩
      obtain ⟨v, hv⟩ : ∃ v, modF size 24 = v := ⟨_, rfl⟩
      have v1 := modF_lo size 24
      have v2 := modF_hi size 24 (by omega)
      rw [hv] at v1 v2 ⊢
      clear hv
      obtain ⟨k, rfl⟩ : ∃ n : Nat, v = n := ⟨v.toNat, by omega⟩
      go_wp2_with fail
      refine (fill_is (1455 + k) _ size _ (by omega) (by omega) HSZ.out).mono ?_
      rintro e w12 ⟨a12, c12, zs, rfl, hb12⟩
      have HB12 := Lib.hid hb12
      have hbx := HH11.out.kept hb12.2
      unfold HBlk at hbx
      have HBX := Lib.hid hbx
      have HG12 := Lib.hid (HG11.out.trans hb12.2)
      clear hb12 hbx
      go_wp2_with (refine wpList_load_w rfl 29 _ rfl g rfl 29 _ _ _ HBX.out Try.underlying29 rfl (by kernel_rfl) ?_)
      refine (builds_any r a12 _ c12 zs w12 (HOR.out) HB12.out.1.rd (by omega)).mono ?_
      rintro e w13 ⟨rfl, hg13⟩
      have HG13 := Lib.hid (HG12.out.trans hg13)
      clear hg13
      go_wp2_with fail
      go_ret
      exact ⟨rfl, HG13.out⟩
theorem buildsmade_fit (a : Option Addr) (len cap : Nat) (ts : List Int) (size : Int) (w : World) (hr : Rd .i64 w a len ts) (_hc : len ≤ cap) (hL : len * 8 ≤ 140737488351232) (hsz : i64 size) : Calls Try.prog 12 #[.slice a len cap, .int .i64 size] w fun e w' => e = .returned (.bool true) ∧ Below w.heap.size w w' :=
  (buildsmade_any a len cap ts size w hr hL hsz).mono fun _ _ ⟨h, hg⟩ => ⟨h, Below.of_none hg⟩
end Go.Proofs.Ytmojlengjoicoaa
