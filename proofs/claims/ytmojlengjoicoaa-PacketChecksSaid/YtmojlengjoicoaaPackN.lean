/- Layer 05 (packet): PacketReturns. -/
import Derived.Test.YtmojlengjoicoaaPackM
namespace Go.Proofs.Ytmojlengjoicoaa
open Go.ChangeShapes Go.WideShapes Go.ChangeAt Go.RowKit

theorem valid_ok {h : Hdr} (hv : validH h = true) : HOk h := by
  obtain ⟨hk, v1, v2, v3, v4, v5, v6, v7, v8, v9, v10, v11⟩ := valid_all hv
  rcases hk with hk | hk
  · have hz := v10 hk
    refine ⟨?_, ?_, ?_, ?_, ?_, ?_, ?_, ?_, ?_, ?_, ?_, ?_, ?_, ?_, ?_⟩ <;> (constructor <;> omega)
  · have hz := v11 hk
    refine ⟨?_, ?_, ?_, ?_, ?_, ?_, ?_, ?_, ?_, ?_, ?_, ?_, ?_, ?_, ?_⟩ <;> (constructor <;> omega)
theorem parseF_len (bs : List Int) : (parseF bs).2.1.length ≤ bs.length := by
  unfold parseF
  split
  · simp
  · split
    · simp
    · simp
set_option maxRecDepth 100000 in
set_option maxHeartbeats 4000000 in
theorem returns_any (a : Option Addr) (len cap : Nat) (ts : List Int) (w : World) (hr : Rd .i64 w a len ts) (hL : len * 8 ≤ 140737488351232) : Calls Try.prog 10 #[.slice a len cap] w fun e w' => e = .returned (.bool true) ∧ Gr w w' := by
  by_cases hlt : len ≤ 400
  rotate_left
  · have hd : decide (len ≤ 400) = false := decide_eq_false hlt
    have HD := Lib.hid hd
    clear hd hlt
    go_enter Try.func10, Try.ntmps10
    go_wp2_with fail
    refine (light_any a len cap w (by omega)).mono ?_
    rintro e w' ⟨rfl, rfl⟩
    rw [HD.out]
    go_wp2_with fail
    refine (awake05 w).mono ?_
    rintro e w1 ⟨rfl, hg1⟩
    have HG1 := Lib.hid hg1
    clear hg1
    go_wp2_with fail
    go_ret
    exact ⟨rfl, HG1.out⟩
  have hd : decide (len ≤ 400) = true := decide_eq_true hlt
  have HD := Lib.hid hd
  have HR := Lib.hid hr
  clear hd hlt hr
  go_enter Try.func10, Try.ntmps10
  go_wp2_with fail
  refine (light_any a len cap w (by omega)).mono ?_
  rintro e w' ⟨rfl, rfl⟩
  rw [HD.out]
  go_wp2_with fail
  refine (roll_any a len cap ts w HR.out).mono ?_
  rintro e w1 ⟨p, rfl, hd1, hg1, hp1⟩
  have HD1 := Lib.hid hd1
  have HG1 := Lib.hid hg1
  have HP := Lib.hid hp1
  clear hd1 hg1 hp1
  go_wp2_with fail
  refine (next_any p 4 _ HD1.out (by omega) (by omega)).mono ?_
  rintro e w2 ⟨fl, rfl, fl1, fl2, hd2, hg2⟩
  have HD2 := Lib.hid hd2
  have HG2 := Lib.hid (grown_dice HG1.out HP.out hg2)
  clear hd2 hg2 HD1 HG1
  go_wp2_with fail
  refine (header_any p fl _ HD2.out (by omega) (by omega)).mono ?_
  rintro e w3 ⟨h, rfl, hmd, hd3, hg3⟩
  have HMV := Lib.hid (made_valid hmd (by omega) (by omega))
  have HMO := Lib.hid (made_ok hmd (by omega) (by omega))
  have HD3 := Lib.hid hd3
  have HG3 := Lib.hid (grown_dice HG2.out HP.out hg3)
  clear hd3 hg3 HD2 HG2 hmd
  -- the payload, and the header's block
  go_wp2_with fail
  refine (bytes_any p 30 30 _ rfl HD3.out (by omega)).mono ?_
  rintro e w4 ⟨a4, n4, c4, ys, rfl, hn4, hb4⟩
  have HR4 := Lib.hid hb4.2.1.rd
  have HG4 := Lib.hid (grown_dice HG3.out HP.out hb4.2.2.1)
  clear hb4 HD3 HG3
  go_upto_region 5 with (fail)
  obtain ⟨w5, hw5⟩ : ∃ y, y = w4.alloc (.cells (HCells h).toArray 29) := ⟨_, rfl⟩
  obtain ⟨g, hg⟩ : ∃ g, w4.heap.size = g := ⟨_, rfl⟩
  have hb5 : HBlk g h w5 := by rw [hw5, ← hg]; exact heap_alloc_new _ _
  have hg5 : Gr w4 w5 := by rw [hw5]; exact Gr.alloc _ _
  have hwg : w.heap.size ≤ g := by rw [← hg]; exact HG4.out.size
  simp only [HCells] at hw5
  rw [← hw5, hg]
  have HB5 := Lib.hid hb5
  have HG5 := Lib.hid (HG4.out.trans hg5)
  have HR5 := Lib.hid (HR4.out.kept hg5)
  have HLY := Lib.hid HR4.out.len
  have HYB := Lib.hid HR4.out.bytes
  have hl40 : (headL h ++ ys).length ≤ 1500 := by rw [List.length_append, headL_len, HLY.out]; split <;> omega
  have HL40 := Lib.hid hl40
  have HA4 := Lib.hid (fun (b off : Nat) (h0 : 0 < n4) (he : a4 = some ⟨b, off, none⟩) => show b < g by
    obtain ⟨b', off', e, hb, _⟩ := HR4.out.some h0
    rw [he] at e
    injection e with e
    injection e with e1 e2
    omega)
  clear hw5 hb5 hg5 HR4 HG4 hg hl40
  obtain ⟨b1, b2, b3, b4⟩ := build_parse HMV.out HYB.out HL40.out
  obtain ⟨bs, hbs⟩ : ∃ bs, bldL (headL h ++ ys) = bs := ⟨_, rfl⟩
  have hbf := buildF_yes HMV.out HL40.out
  have hbl := bldL_len h ys
  have hlx : (headL h ++ ys).length ≤ 1500 := HL40.out
  rw [hbs] at b1 b2 b3 b4 hbf hbl
  obtain ⟨q, hq⟩ : ∃ q, parseH bs = q := ⟨_, rfl⟩
  obtain ⟨zs, hzs⟩ : ∃ zs, bs.drop (parseN bs) = zs := ⟨_, rfl⟩
  rw [hq, hzs] at b1 b2 b4
  have hqo : HOk q := valid_ok (by rw [← hq]; exact b3)
  have HBF := Lib.hid hbf
  have HBP := Lib.hid b1
  have HBB := Lib.hid b2
  have HWAY := Lib.hid b4
  have HQO := Lib.hid hqo
  have HLB := Lib.hid (show bs.length ≤ 1500 by rw [hbl]; exact hlx)
  clear b1 b2 b3 b4 hbs hbf hbl hlx hq hzs hqo
  have hbx := (HB5).out
  unfold HBlk at hbx
  have HBX := Lib.hid hbx
  clear hbx
  go_wp2_with (refine wpList_load_w rfl 29 _ rfl g rfl 29 _ _ _ HBX.out Try.underlying29 rfl (by kernel_rfl) ?_)
  clear HBX
  refine (build_is HBF.out a4 n4 c4 w5 HMO.out HR5.out (by omega)).mono ?_
  rintro e w6 ⟨a6, n6, c6, rfl, hn6, hc6, hr6, hg6⟩
  have hn6' : n6 ≤ 1500 := by rw [hn6]; exact HLB.out
  have HB6 := Lib.hid (HB5.out.kept hg6)
  have HG6 := Lib.hid (HG5.out.trans hg6)
  have HY6 := Lib.hid (HR5.out.kept hg6)
  have HX6 := Lib.hid hr6
  clear hn6 hr6 hg6 HB5 HG5 HR5
  dsimp only
  go_wp2_with fail
  refine (parse_is HBP.out a6 n6 c6 w6 HX6.out hc6 (by omega)).mono ?_
  rintro e w7 ⟨a7, n7, c7, rfl, hn7, hr7, hg7⟩
  have hn7' : n7 ≤ 1500 := by
    have h1 : zs.length ≤ 1500 := by
      have h2 := parseF_len bs
      rw [HBP.out] at h2
      have h3 := HLB.out
      exact Nat.le_trans h2 h3
    rw [hn7]; exact h1
  have HB7 := Lib.hid (HB6.out.kept hg7)
  have HG7 := Lib.hid (HG6.out.trans hg7)
  have HY7 := Lib.hid (HY6.out.kept hg7)
  have HX7 := Lib.hid (HX6.out.kept hg7)
  have HZ7 := Lib.hid (show Rd .u8 w7 a7 n7 zs from hr7)
  clear hn7 hr7 hg7 HB6 HG6 HY6 HX6
  dsimp only
  go_upto_region 7 with (fail)
  obtain ⟨w8, hw8⟩ : ∃ y, y = w7.alloc (.cells (HCells q).toArray 29) := ⟨_, rfl⟩
  obtain ⟨g2, hg2⟩ : ∃ g, w7.heap.size = g := ⟨_, rfl⟩
  have hb8 : HBlk g2 q w8 := by rw [hw8, ← hg2]; exact heap_alloc_new _ _
  have hg8 : Gr w7 w8 := by rw [hw8]; exact Gr.alloc _ _
  simp only [HCells] at hw8
  rw [← hw8, hg2]
  have HB8 := Lib.hid (HB7.out.kept hg8)
  have HQ8 := Lib.hid hb8
  have HG8 := Lib.hid (HG7.out.trans hg8)
  have HY8 := Lib.hid (HY7.out.kept hg8)
  have HX8 := Lib.hid (HX7.out.kept hg8)
  have HZ8 := Lib.hid (HZ7.out.kept hg8)
  clear hw8 hb8 hg8 hg2 HB7 HG7 HY7 HX7 HZ7
  have hbx := (HQ8).out
  unfold HBlk at hbx
  have HBX := Lib.hid hbx
  clear hbx
  go_wp2_with (refine wpList_load_w rfl 29 _ rfl g2 rfl 29 _ _ _ HBX.out Try.underlying29 rfl (by kernel_rfl) ?_)
  clear HBX
  refine (build_is HBB.out a7 n7 c7 w8 HQO.out HZ8.out (by omega)).mono ?_
  rintro e w9 ⟨a9, n9, c9, rfl, -, -, hr9, hg9⟩
  have HB9 := Lib.hid (HB8.out.kept hg9)
  have HQ9 := Lib.hid (HQ8.out.kept hg9)
  have HG9 := Lib.hid (HG8.out.trans hg9)
  have HY9 := Lib.hid (HY8.out.kept hg9)
  have HX9 := Lib.hid (HX8.out.kept hg9)
  have HZ9 := Lib.hid (HZ8.out.kept hg9)
  have HW9 := Lib.hid (show Rd .u8 w9 a9 n9 bs from hr9)
  clear hr9 hg9 HB8 HQ8 HG8 HY8 HX8 HZ8
  dsimp only
  go_wp2_with fail
  refine (awake05 w9).mono ?_
  rintro e w10 ⟨rfl, hg10⟩
  have HB10 := Lib.hid (HB9.out.kept hg10)
  have HQ10 := Lib.hid (HQ9.out.kept hg10)
  have HG10 := Lib.hid (HG9.out.trans hg10)
  have HY10 := Lib.hid (HY9.out.kept hg10)
  have HX10 := Lib.hid (HX9.out.kept hg10)
  have HZ10 := Lib.hid (HZ9.out.kept hg10)
  have HW10 := Lib.hid (HW9.out.kept hg10)
  clear hg10 HB9 HQ9 HG9 HY9 HX9 HZ9 HW9
  go_wp2_with fail
  refine (bsame_is (decide_eq_true rfl) w10 HX10.out HW10.out).mono ?_
  rintro e w' ⟨rfl, rfl⟩
  have c0 := HB10.out.at 0 rfl
  by_cases hC : h.kind = 1 ∧ 12 ≤ ys.length ∧ ys[0]?.getD 0 = 128
  · obtain ⟨hk, h12, hy0⟩ := hC
    have hkb : (h.kind == 1) = true := by simpa using hk
    have hn12 : 12 ≤ n4 := by rw [← HLY.out]; exact h12
    obtain ⟨b0, o0, ea, -, hcc⟩ := HY10.out.some (by omega)
    subst ea
    have cy := hcc 0 (by omega)
    rw [hy0, Nat.add_zero] at cy
    clear hk h12 hy0 hcc
    go_wp2_with fail
    go_ret
    exact ⟨rfl, HG10.out⟩
  · have hqz : q = h ∧ zs = ys := by
      rcases HWAY.out with h1 | h1
      · exact absurd h1 hC
      · exact h1
    obtain ⟨rfl, rfl⟩ := hqz
    have he : ∀ u : World, (binOp .eql 29 (HVal q) (HVal q)).run Try.prog u = .ok (.bool true) u := fun u => by
      rw [run_eqH, show eqH q q = true by simp [eqH]]
    have hbx := HB10.out
    have hqx := HQ10.out
    unfold HBlk at hbx hqx
    have HBX := Lib.hid hbx
    have HQX := Lib.hid hqx
    clear hbx hqx
    by_cases hk : q.kind = 1
    · have hkb : (q.kind == 1) = true := by simpa using hk
      by_cases h12 : 12 ≤ n4
      · have hy0 : ¬ zs[0]?.getD 0 = 128 := fun h => hC ⟨hk, by rw [HLY.out]; exact h12, h⟩
        obtain ⟨y, hy⟩ : ∃ y, zs[0]?.getD 0 = y := ⟨_, rfl⟩
        rw [hy] at hy0
        have hyb : (y == 128) = false := by simpa using hy0
        have cy : ∃ b0 o0, a4 = some ⟨b0, o0, none⟩ ∧ w10.cell? ⟨b0, o0, none⟩ = some (.int .u8 y) := by
          obtain ⟨b0, o0, ea, -, hcc⟩ := HY10.out.some (by omega)
          refine ⟨b0, o0, ea, ?_⟩
          have := hcc 0 (by omega)
          rwa [hy, Nat.add_zero] at this
        obtain ⟨b0, o0, rfl, cy⟩ := cy
        clear hk hC hy0 hy
        go_wp2_with (first | (refine wpList_load_w rfl 29 _ rfl g rfl 29 _ _ _ HBX.out Try.underlying29 rfl (by kernel_rfl) ?_) | (refine wpList_load_w rfl 29 _ rfl g2 rfl 29 _ _ _ HQX.out Try.underlying29 rfl (by kernel_rfl) ?_))
        refine (bsame_is (decide_eq_true rfl) w10 HY10.out HZ10.out).mono ?_
        rintro e w' ⟨rfl, rfl⟩
        go_wp2_with fail
        go_ret
        exact ⟨rfl, HG10.out⟩
      · have h12' : n4 < 12 := by omega
        clear hk hC
        go_wp2_with (first | (refine wpList_load_w rfl 29 _ rfl g rfl 29 _ _ _ HBX.out Try.underlying29 rfl (by kernel_rfl) ?_) | (refine wpList_load_w rfl 29 _ rfl g2 rfl 29 _ _ _ HQX.out Try.underlying29 rfl (by kernel_rfl) ?_))
        refine (bsame_is (decide_eq_true rfl) w10 HY10.out HZ10.out).mono ?_
        rintro e w' ⟨rfl, rfl⟩
        go_wp2_with fail
        go_ret
        exact ⟨rfl, HG10.out⟩
    · have hkb : (q.kind == 1) = false := by simpa using hk
      clear hk hC
      go_wp2_with (first | (refine wpList_load_w rfl 29 _ rfl g rfl 29 _ _ _ HBX.out Try.underlying29 rfl (by kernel_rfl) ?_) | (refine wpList_load_w rfl 29 _ rfl g2 rfl 29 _ _ _ HQX.out Try.underlying29 rfl (by kernel_rfl) ?_))
      refine (bsame_is (decide_eq_true rfl) w10 HY10.out HZ10.out).mono ?_
      rintro e w' ⟨rfl, rfl⟩
      go_wp2_with fail
      go_ret
      exact ⟨rfl, HG10.out⟩
theorem returns_fit (a : Option Addr) (len cap : Nat) (ts : List Int) (w : World) (hr : Rd .i64 w a len ts) (_hc : len ≤ cap) (hL : len * 8 ≤ 140737488351232) : Calls Try.prog 10 #[.slice a len cap] w fun e w' => e = .returned (.bool true) ∧ Below w.heap.size w w' :=
  (returns_any a len cap ts w hr hL).mono fun _ _ ⟨h, hg⟩ => ⟨h, Below.of_none hg⟩
end Go.Proofs.Ytmojlengjoicoaa
