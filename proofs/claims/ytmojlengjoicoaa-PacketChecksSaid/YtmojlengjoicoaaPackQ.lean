/- Layer 05 (packet): PacketChecks. -/
import Derived.Test.YtmojlengjoicoaaPackN
namespace Go.Proofs.Ytmojlengjoicoaa
open Go.ChangeShapes Go.WideShapes Go.ChangeAt Go.RowKit

theorem setChk_valid {h : Hdr} (hv : validH h = true) {u : Int} (h0 : 0 ≤ u) (h1 : u ≤ 65535) : validH (setChk h u) = true := by
  have hu : inB u 65535 = true := by simp [inB, h0, h1]
  simp only [validH, commonB, Bool.and_eq_true] at hv ⊢
  obtain ⟨hk, ⟨⟨⟨⟨⟨⟨⟨⟨a1, a2⟩, a3⟩, a4⟩, a5⟩, a6⟩, a7⟩, a8⟩, a9⟩, hr⟩ := hv
  exact ⟨hk, ⟨⟨⟨⟨⟨⟨⟨⟨a1, a2⟩, a3⟩, a4⟩, a5⟩, hu⟩, a7⟩, a8⟩, a9⟩, hr⟩
theorem setChk_tail (h : Hdr) (u : Int) : tailL (setChk h u) = tailL h := rfl
theorem setChk_sum (h : Hdr) (u n : Int) : sumOf (setChk h u) n = sumOf h n := rfl
theorem setChk_len (h : Hdr) (u : Int) : (headL (setChk h u)).length = (headL h).length := by rw [headL_len, headL_len]; rfl
/-- Only the two bytes of the check differ. -/
theorem zero26_ex (h : Hdr) (u n s : Int) (r : List Int) : zero26 (ex (setChk h u) n s r) = zero26 (ex h n s r) := rfl
theorem pseudo_ex (h : Hdr) (u n s : Int) (r : List Int) : pseudoL (ex (setChk h u) n s r) = pseudoL (ex h n s r) := rfl
theorem fold_sum {W A u : Int} (h0 : 0 ≤ W) (hA : foldS W = A) (hu : u = if 65535 - A = 0 then 65535 else 65535 - A) : foldS (W + u) = 65535 ∧ 1 ≤ u ∧ u ≤ 65535 := by
  have hr := foldS_rng W
  rw [hA] at hr
  unfold foldS at hA
  split at hu
  · split at hA
    · omega
    · refine ⟨?_, by omega, by omega⟩
      unfold foldS; rw [if_neg (by omega)]; omega
  · refine ⟨?_, by omega, by omega⟩
    unfold foldS; rw [if_neg (by omega)]
    split at hA <;> omega
theorem words_check (h : Hdr) (n s u : Int) (r : List Int) (h0 : 0 ≤ u) (h1 : u ≤ 65535) : words ((ex (setChk h u) n s r).drop 20) = words ((zero26 (ex h n s r)).drop 20) + u := by
  show words (h.fport / 256 % 256 :: h.fport % 256 :: h.tport / 256 % 256 :: h.tport % 256 :: (n - 20) / 256 % 256 :: (n - 20) % 256 :: u / 256 % 256 :: u % 256 :: r) =
    words (h.fport / 256 % 256 :: h.fport % 256 :: h.tport / 256 % 256 :: h.tport % 256 :: (n - 20) / 256 % 256 :: (n - 20) % 256 :: 0 :: 0 :: r) + u
  simp only [words]
  omega
/-- With the right checksum of UDP the whole sums up to 0. -/
theorem udp_zero {h : Hdr} {ys : List Int} (hb : bytesOk (bldL (headL h ++ ys))) {u : Int} (hu : u = udpS (bldL (headL h ++ ys))) :
    addS 0 (pseudoL (bldL (headL (setChk h u) ++ ys)) ++ (bldL (headL (setChk h u) ++ ys)).drop 20) = 65535 ∧ 1 ≤ u ∧ u ≤ 65535 := by
  have e1 := buildF_ex (h := h) ys
  have e2 := buildF_ex (h := setChk h u) ys
  rw [setChk_tail, setChk_sum] at e2
  generalize hn : (28 + ((tailL h ++ ys).length : Int)) = n at e1 e2
  generalize sumOf h n = s at e1 e2
  generalize tailL h ++ ys = r at e1 e2 hn
  rw [e1] at hb hu
  rw [e2, pseudo_ex]
  have hl : 28 ≤ (ex h n s r).length := by rw [ex_len]; omega
  have hpl := pseudoL_len hl
  have hpb := pseudoL_bytes hb
  have hzb : bytesOk ((zero26 (ex h n s r)).drop 20) := fun x hx => zero26_bytes hb x (List.mem_of_mem_drop hx)
  obtain ⟨W, hW⟩ : ∃ W, words (pseudoL (ex h n s r) ++ (zero26 (ex h n s r)).drop 20) = W := ⟨_, rfl⟩
  have hW0 : 0 ≤ W := by rw [← hW]; exact (words_rng _ (by
    intro x hx
    rcases List.mem_append.1 hx with hx | hx
    · exact hpb x hx
    · exact hzb x hx)).1
  have hA : addS (addS 0 (pseudoL (ex h n s r))) ((zero26 (ex h n s r)).drop 20) = foldS W := by
    rw [parts_lawP 0 _ _ (by rw [hpl]) hpb hzb, addS, hW, show foldS 0 = 0 from rfl, Int.zero_add]
  rw [udpS_eq, hA] at hu
  obtain ⟨k1, k2, k3⟩ := fold_sum hW0 rfl hu
  refine ⟨?_, k2, k3⟩
  rw [addS, show foldS 0 = 0 from rfl, Int.zero_add, words_appendP _ _ (by rw [hpl]), words_check h n s u r (by omega) k3, ← Int.add_assoc, ← words_appendP _ _ (by rw [hpl]), hW]
  exact k1
theorem bldL_bytes {h : Hdr} (hv : validH h = true) {ys : List Int} (hb : bytesOk ys) : bytesOk (bldL (headL h ++ ys)) := by
  have ht := tail_bytes hv
  obtain ⟨_, v1, v2, _, _, _, _, v7, _, _, _, _⟩ := valid_all hv
  rw [buildF_ex]
  intro x hx
  simp only [ex, List.mem_cons] at hx
  rcases hx with rfl | rfl | rfl | rfl | rfl | rfl | rfl | rfl | rfl | rfl | rfl | rfl | rfl | rfl | rfl | rfl | rfl | rfl | rfl | rfl | rfl | rfl | rfl | rfl | rfl | rfl | rfl | rfl | hx
  all_goals first | omega | skip
  rcases List.mem_append.1 hx with hx | hx
  · exact ht x hx
  · exact hb x hx
theorem flip8 : ∀ n : Fin 256, ∀ r : Fin 8, (bits .xor .u8 (n.val : Int) (128 / 2 ^ r.val) = n.val + 2 ^ (7 - r.val)) ∨ (bits .xor .u8 (n.val : Int) (128 / 2 ^ r.val) + 2 ^ (7 - r.val) = n.val) := by decide +kernel
theorem flip_val {y : Int} {r : Nat} (h0 : 0 ≤ y) (h1 : y ≤ 255) (hr : r < 8) : bits .xor .u8 y (128 / 2 ^ r) = y + 2 ^ (7 - r) ∨ bits .xor .u8 y (128 / 2 ^ r) + 2 ^ (7 - r) = y := by
  have h := flip8 ⟨y.toNat, by omega⟩ ⟨r, hr⟩
  rw [show (((⟨y.toNat, by omega⟩ : Fin 256)).val : Int) = y by simp; omega] at h
  exact h
set_option maxRecDepth 100000 in
set_option maxHeartbeats 4000000 in
theorem checks_any (a : Option Addr) (len cap : Nat) (ts : List Int) (bit : Int) (w : World) (hr : Rd .i64 w a len ts) (hL : len * 8 ≤ 140737488351232) : Calls Try.prog 13 #[.slice a len cap, .int .i64 bit] w fun e w' => e = .returned (.bool true) ∧ Gr w w' := by
  by_cases hlt : len ≤ 400
  rotate_left
  · have hd : decide (len ≤ 400) = false := decide_eq_false hlt
    have HD := Lib.hid hd
    clear hd hlt
    go_enter Try.func13, Try.ntmps13
    go_wp2_with fail
    refine (light_any a len cap w (by omega)).mono ?_
    rintro e w' ⟨rfl, rfl⟩
    rw [HD.out]
    go_wp2_with fail
    refine (awake05 w).mono ?_
    rintro e w1 ⟨rfl, hg1⟩
    have HG1 := Lib.hid hg1
    clear hg1
    go_wp2_with fail
    go_ret
    exact ⟨rfl, HG1.out⟩
  have hd : decide (len ≤ 400) = true := decide_eq_true hlt
  have HD := Lib.hid hd
  have HR := Lib.hid hr
  clear hd hlt hr
  go_enter Try.func13, Try.ntmps13
  go_wp2_with fail
  refine (light_any a len cap w (by omega)).mono ?_
  rintro e w' ⟨rfl, rfl⟩
  rw [HD.out]
  go_wp2_with fail
  refine (roll_any a len cap ts w HR.out).mono ?_
  rintro e w1 ⟨p, rfl, hd1, hg1, hp1⟩
  have HD1 := Lib.hid hd1
  have HG1 := Lib.hid hg1
  have HP := Lib.hid hp1
  clear hd1 hg1 hp1
  go_wp2_with fail
  refine (next_any p 4 _ HD1.out (by omega) (by omega)).mono ?_
  rintro e w2 ⟨fl, rfl, fl1, fl2, hd2, hg2⟩
  have HD2 := Lib.hid hd2
  have HG2 := Lib.hid (grown_dice HG1.out HP.out hg2)
  clear hd2 hg2 HD1 HG1
  go_wp2_with fail
  refine (header_any p fl _ HD2.out (by omega) (by omega)).mono ?_
  rintro e w3 ⟨h, rfl, hmd, hd3, hg3⟩
  have HMV := Lib.hid (made_valid hmd (by omega) (by omega))
  have HMO := Lib.hid (made_ok hmd (by omega) (by omega))
  have HD3 := Lib.hid hd3
  have HG3 := Lib.hid (grown_dice HG2.out HP.out hg3)
  clear hd3 hg3 HD2 HG2 hmd
  -- the payload, and the header's block
  go_wp2_with fail
  refine (bytes_any p 30 30 _ rfl HD3.out (by omega)).mono ?_
  rintro e w4 ⟨a4, n4, c4, ys, rfl, hn4, hb4⟩
  have HR4 := Lib.hid hb4.2.1.rd
  have HG4 := Lib.hid (grown_dice HG3.out HP.out hb4.2.2.1)
  clear hb4 HD3 HG3
  go_upto_region 5 with (fail)
  obtain ⟨w5, hw5⟩ : ∃ y, y = w4.alloc (.cells (HCells h).toArray 29) := ⟨_, rfl⟩
  obtain ⟨g, hg⟩ : ∃ g, w4.heap.size = g := ⟨_, rfl⟩
  have hb5 : HBlk g h w5 := by rw [hw5, ← hg]; exact heap_alloc_new _ _
  have hg5 : Gr w4 w5 := by rw [hw5]; exact Gr.alloc _ _
  have hwg : w.heap.size ≤ g := by rw [← hg]; exact HG4.out.size
  simp only [HCells] at hw5
  rw [← hw5, hg]
  have HB5 := Lib.hid hb5
  have HG5 := Lib.hid (HG4.out.trans hg5)
  have HR5 := Lib.hid (HR4.out.kept hg5)
  have HLY := Lib.hid HR4.out.len
  have HYB := Lib.hid HR4.out.bytes
  have hl40 : (headL h ++ ys).length ≤ 1500 := by rw [List.length_append, headL_len, HLY.out]; split <;> omega
  have HL40 := Lib.hid hl40
  have HA4 := Lib.hid (fun (b off : Nat) (h0 : 0 < n4) (he : a4 = some ⟨b, off, none⟩) => show b < g by
    obtain ⟨b', off', e, hb, _⟩ := HR4.out.some h0
    rw [he] at e
    injection e with e
    injection e with e1 e2
    omega)
  clear hw5 hb5 hg5 HR4 HG4 hg hl40
  obtain ⟨u, hu⟩ : ∃ u, udpS (bldL (headL h ++ ys)) = u := ⟨_, rfl⟩
  have hbf := buildF_yes HMV.out HL40.out
  have huf : udpF h ys = (u, 0) := by rw [udpF_yes hbf rfl, hu]
  obtain ⟨us, u1, u2⟩ := udp_zero (h := h) (ys := ys) (bldL_bytes HMV.out HYB.out) hu.symm
  obtain ⟨k, hk⟩ : ∃ k, setChk h u = k := ⟨_, rfl⟩
  rw [hk] at us
  have hkv : validH k = true := by rw [← hk]; exact setChk_valid HMV.out (by omega) u2
  have hkl : (headL k ++ ys).length ≤ 1500 := by
    have := HL40.out
    rw [List.length_append] at this ⊢
    rw [← hk, setChk_len]; exact this
  have hk28 : 28 ≤ (headL k ++ ys).length := by rw [List.length_append, headL_len]; split <;> omega
  have HUF := Lib.hid huf
  have HUS := Lib.hid us
  have HK := Lib.hid hk
  have HKV := Lib.hid hkv
  have HKL := Lib.hid hkl
  have HK28 := Lib.hid hk28
  clear huf hu hbf us hk hkv hkl hk28
  have hbx := (HB5).out
  unfold HBlk at hbx
  have HBX := Lib.hid hbx
  clear hbx
  go_wp2_with (refine wpList_load_w rfl 29 _ rfl g rfl 29 _ _ _ HBX.out Try.underlying29 rfl (by kernel_rfl) ?_)
  clear HBX
  refine (udp_is HUF.out a4 n4 c4 w5 HMO.out HR5.out (by omega)).mono ?_
  rintro e w6 ⟨rfl, hg6⟩
  have HB6 := Lib.hid (HB5.out.kept hg6)
  have HG6 := Lib.hid (HG5.out.trans hg6)
  have HR6 := Lib.hid (HR5.out.kept hg6)
  have c9 := HB6.out.at 9 rfl
  have f9 := HB6.out.fz 9
  clear hg6 HB5 HG5 HR5
  dsimp only
  go_upto_region 7 with (fail)
  obtain ⟨w7, hw7⟩ : ∃ y, y = w6.setCell ⟨g, 9, none⟩ (.int .i64 u) := ⟨_, rfl⟩
  have HB7 := Lib.hid (show HBlk g k w7 by rw [hw7, ← HK.out]; exact HB6.out.set 9 (.int .i64 u) rfl)
  have HG7 := Lib.hid (show Gr w w7 by rw [hw7]; exact grown_set HG6.out (a := ⟨g, 9, none⟩) hwg _)
  have HR7 := Lib.hid (show Rd .u8 w7 a4 n4 ys by
    rw [hw7]
    exact rd_keptBut HR6.out (grown_setAt w6 g 9 _) (fun b off h0 he h => by have := HA4.out b off h0 he; injection h with h; omega))
  first | rw [← hw7] | (go_show; fail)
  clear hw7 c9 f9 HB6 HG6 HR6 HA4
  have hbx := (HB7).out
  unfold HBlk at hbx
  have HBX := Lib.hid hbx
  clear hbx
  go_wp2_with (refine wpList_load_w rfl 29 _ rfl g rfl 29 _ _ _ HBX.out Try.underlying29 rfl (by kernel_rfl) ?_)
  clear HBX
  refine (build_any k a4 n4 c4 ys w7 (valid_ok HKV.out) HR7.out (by omega)).mono ?_
  rw [buildF_yes HKV.out HKL.out]
  rintro e w8 ⟨a8, n8, c8, rfl, hn8, hb8⟩
  obtain ⟨xs, hxs⟩ : ∃ xs, bldL (headL k ++ ys) = xs := ⟨_, rfl⟩
  have hus := HUS.out
  have hfs := fun i j v hi hj hx => flip_seen HKV.out ys i j v hi hj HKL.out hx
  have hps0 := fun (d : Nat) (hd : (d : Int) + 20 = ((headL k ++ ys).length : Int)) (h3 : d ≤ 65535) => pseudo_built k ys d hd (by omega) (by omega)
  have hbl := bldL_len k ys
  dsimp only at hn8 hb8
  rw [hxs] at hn8 hb8 hus hfs hps0 hbl
  have hl28 : 28 ≤ n8 := by rw [hn8, hbl]; exact HK28.out
  have hl15 : n8 ≤ 1500 := by rw [hn8, hbl]; exact HKL.out
  obtain ⟨g3, hg3, _⟩ := hb8.1.some (by omega)
  subst hg3
  have hc8 : n8 ≤ c8 := hb8.1.le_cap
  have h2 : BytI w (some ⟨g3, 0, none⟩) n8 c8 xs w8 := ⟨hb8.1.weak HG7.out.size, HG7.out.trans hb8.2⟩
  obtain ⟨d, hd⟩ : ∃ d : Nat, n8 = d + 20 := ⟨n8 - 20, by omega⟩
  subst hd
  have hps := hps0 d (by rw [← hbl, ← hn8]; omega) (by omega)
  have HPS := Lib.hid hps
  have HUS2 := Lib.hid hus
  have HFS := Lib.hid hfs
  have H8 := Lib.hid h2
  clear hn8 hb8 hus hfs hps0 hbl hps h2 hxs HB7 HG7 HR7 HUS HK HKV HKL HK28
  go_wp2_with fail
  refine (awake05 w8).mono ?_
  rintro e w9 ⟨rfl, hg9⟩
  have h2 := H8.out.gr hg9
  have H9 := Lib.hid h2
  clear hg9 H8
  have h12 : 12 < c8 := by omega
  have h20 : 20 < c8 := by omega
  have hne12 : ¬ c8 = 12 := by omega
  have hne20 : ¬ c8 = 20 := by omega
  have hrd := rd_take (rd_at h2.1.rd 12 (by omega) h12) 8 (by omega)
  obtain ⟨a10, c10, w10, hrun4, ho4, hg4, _⟩ := app_u8_nil w9.heap.size w9 (some ⟨g3, 12, none⟩) 8 (c8 - 12) _ hrd (by omega) (Nat.le_refl _)
  have HRUN4 := Lib.hid hrun4
  have HRD20 := Lib.hid ((rd_at h2.1.rd 20 (by omega) h20).kept hg4)
  have H4 := Lib.hid (show BytI w a10 8 c10 ((xs.drop 12).take 8) w10 from ⟨ho4.weak h2.2.size, h2.2.trans hg4⟩)
  have HB10 := Lib.hid (h2.gr hg4)
  have HNE4 := Lib.hid (fun (g' : Nat) (he : (Value.slice a10 8 c10).ownBlock = some g') => show g3 < g' by
    have := (ho4.below g' he).1
    have := (h2.1.below g3 rfl).2
    omega)
  clear h2 hrd hrun4 ho4 hg4 H9
  have hrd2 := rd_new (k := .u8) (w := w10) [0, 17, (d : Int) / 256, (d : Int) % 256] 5 (0, 0) 4 rfl (by simp [maxLen]) (by
    intro z hz
    simp only [List.mem_cons, List.not_mem_nil, or_false] at hz
    rcases hz with rfl | rfl | rfl | rfl <;> exact WalkArith.wf_u8 (by omega))
  have hal : Gr w10 (w10.alloc (.cells ([0, 17, (d : Int) / 256, (d : Int) % 256].map (Value.int .u8)).toArray 5)) := Gr.alloc _ _
  have h4a := H4.out.gr hal
  obtain ⟨a11, c11, w11, hrun5, ho5, hg5, hf5⟩ := app_u8 w.heap.size _ a10 8 c10 _ h4a.1 (some ⟨w10.heap.size, 0, none⟩) 4 4 _ hrd2 (by omega) h4a.2.size
  have hglt : g3 < w10.heap.size := (HB10.out.1.below g3 rfl).2
  have hr205 := rd_keptBut (HRD20.out.kept hal) hg5 (fun b off _ e he => by
    have := HNE4.out b he.symm
    injection e with e
    injection e with e
    omega)
  have hne5 : ∀ g', (Value.slice a11 (8 + 4) c11).ownBlock = some g' → g3 < g' := by
    intro g' he
    rcases hf5 with h | ⟨g2, h, hg2⟩
    · rw [h] at he; exact HNE4.out g' he
    · rw [h] at he; injection he with he; simp at hg2; omega
  have hb11 : OwnI w.heap.size 5 .u8 w11 (some ⟨g3, 0, none⟩) (d + 20) c8 xs := (HB10.out.1.stay hal).kept hg5 (by
    cases hv : (Value.slice a10 8 c10).ownBlock with
    | none => right; simp [Value.ownBlock]
    | some g' => right; have := HNE4.out g' hv; show some g3 ≠ some g'; simp; omega)
  rw [HPS.out] at ho5
  have h5 := h4a.turn ho5 hg5
  simp only [List.map_cons, List.map_nil] at hrun5
  have HRUN5 := Lib.hid hrun5
  obtain ⟨a12, c12, w12, hrun6, ho6, hg6, hf6⟩ := app_u8 w.heap.size w11 a11 12 c11 _ h5.1 (some ⟨g3, 20, none⟩) d (c8 - 20) _ (by have := hr205; rwa [show d + 20 - 20 = d by omega] at this) (by omega) h5.2.size
  have hb6 := h5.turn ho6 hg6
  have hg3lt : g3 < w11.heap.size := (hb11.below g3 rfl).2
  have hb12 : OwnI w.heap.size 5 .u8 w12 (some ⟨g3, 0, none⟩) (d + 20) c8 xs := hb11.kept hg6 (by
    cases hv : (Value.slice a11 12 c11).ownBlock with
    | none => right; simp [Value.ownBlock]
    | some g' => right; have := hne5 g' hv; show some g3 ≠ some g'; simp; omega)
  have hne6 : (Value.slice a12 (12 + d) c12).ownBlock = none ∨ (Value.slice a12 (12 + d) c12).ownBlock ≠ some g3 := by
    right
    rcases hf6 with h | ⟨g2, h, hg2⟩
    · rw [h]; intro he; have := hne5 g3 he; omega
    · rw [h]; intro he; injection he with he; omega
  have HRUN6 := Lib.hid hrun6
  have HX12 := Lib.hid hb6
  have HB12 := Lib.hid hb12
  have HNE6 := Lib.hid hne6
  clear hrun5 hrun6 hb6 h5 hne5 hr205 hglt ho5 hg5 hf5 h4a hal hrd2 HPS HRD20 HNE4 ho6 hg6 hf6 hb11 hb12 hg3lt hne6 HB10 H4
  have hdd : d + 20 - 20 = d := by omega
  have tok1 : True := trivial
  go_upto_region 12 with (first | (at_builtin; have _t := tok1; refine wpList_app rfl _ _ _ rfl rfl rfl HRUN4.out ?_; clear _t tok1) | (at_builtin; refine wpList_app rfl _ _ _ rfl rfl rfl HRUN5.out ?_))
  clear HRUN4 HRUN5
  go_upto_region 13 with (at_builtin; refine wpList_app rfl _ _ _ rfl rfl rfl HRUN6.out ?_)
  clear HRUN6
  go_wp2_with fail
  refine (mod_any _ _ _ (by omega)).mono ?_
  rintro e w' ⟨rfl, rfl⟩
  obtain ⟨v, hv⟩ : ∃ v, modF bit 160 = v := ⟨_, rfl⟩
  have v1 := modF_lo bit 160
  have v2 := modF_hi bit 160 (by omega)
  rw [hv] at v1 v2 ⊢
  clear hv
  obtain ⟨q, hq⟩ : ∃ n : Nat, v / 8 = n := ⟨(v / 8).toNat, by omega⟩
  obtain ⟨r, hr⟩ : ∃ n : Nat, v % 8 = n := ⟨(v % 8).toNat, by omega⟩
  have hq20 : q < 20 := by omega
  have hr8 : r < 8 := by omega
  have hqd : q < d + 20 := by omega
  obtain ⟨y, hy⟩ : ∃ y, xs[q]?.getD 0 = y := ⟨_, rfl⟩
  obtain ⟨x1, f1⟩ := HB12.out.at q hqd
  rw [hy] at x1
  have hyb : 0 ≤ y ∧ y ≤ 255 := by rw [← hy]; exact getD_byte HB12.out.rd.bytes q
  obtain ⟨y0, y255⟩ := hyb
  have HY := Lib.hid hy
  clear hy
  go_upto_region 15 with (fail)
  obtain ⟨z, hz⟩ : ∃ z, bits .xor .u8 y (128 / 2 ^ r) = z := ⟨_, rfl⟩
  have hfl := flip_val y0 y255 hr8
  rw [hz] at hfl
  have hzw : (Lit.int .u8 z).wf = true := by rw [← hz]; exact wf_bits _ _ _ _
  have hx4 := HFS.out q (7 - r) z hq20 (by omega) (by rw [HY.out]; exact hfl)
  obtain ⟨w13, hw13⟩ : ∃ y, y = w12.setCell ⟨g3, q, none⟩ (.int .u8 z) := ⟨_, rfl⟩
  have HB13 := Lib.hid (show OwnI w.heap.size 5 .u8 w13 (some ⟨g3, 0, none⟩) (d + 20) c8 (xs.set q z) by rw [hw13]; exact HB12.out.set q z hzw)
  have HX13 := Lib.hid (show BytI w a12 (12 + d) c12 (pseudoL xs ++ xs.drop 20) w13 by
    rw [hw13]
    exact ⟨HX12.out.1.kept (grown_setAt w12 g3 q _) HNE6.out, grown_set HX12.out.2 (a := ⟨g3, q, none⟩) (HB12.out.below g3 rfl).1 _⟩)
  rw [hz]
  first | rw [← hw13] | (go_show; fail)
  obtain ⟨P, Y, E, hF⟩ : ∃ P Y E, parseF (xs.set q z) = (P, Y, E) := ⟨_, _, _, rfl⟩
  obtain rfl : E = 4 := by rw [hF] at hx4; exact hx4
  have HPF := Lib.hid hF
  clear hw13 hz hfl hzw hx4 hF HB12 HX12 HNE6 x1 f1 HFS HY y0 y255
  go_wp2_with fail
  refine (parse_is HPF.out _ (d + 20) c8 w13 HB13.out.rd hc8 (by omega)).mono ?_
  rintro e w14 ⟨a14, n14, c14, rfl, -, -, hg14⟩
  have HX14 := Lib.hid (HX13.out.gr hg14)
  clear hg14 HX13 HB13
  dsimp only
  go_upto_region 16 with (fail)
  obtain ⟨w15, hw15⟩ : ∃ y, y = w14.alloc (.cells (HCells P).toArray 29) := ⟨_, rfl⟩
  have hg15 : Gr w14 w15 := by rw [hw15]; exact Gr.alloc _ _
  simp only [HCells] at hw15
  first | rw [← hw15] | (go_show; fail)
  have HX15 := Lib.hid (HX14.out.gr hg15)
  clear hw15 hg15 HX14
  go_wp2_with fail
  refine (rsum_is HUS2.out w15 HX15.out.1.rd (by omega)).mono ?_
  rintro e w' ⟨rfl, rfl⟩
  go_wp2_with fail
  go_ret
  exact ⟨rfl, HX15.out.2⟩
theorem checks_fit (a : Option Addr) (len cap : Nat) (ts : List Int) (bit : Int) (w : World) (hr : Rd .i64 w a len ts) (_hc : len ≤ cap) (hL : len * 8 ≤ 140737488351232) (_hb : i64 bit) : Calls Try.prog 13 #[.slice a len cap, .int .i64 bit] w fun e w' => e = .returned (.bool true) ∧ Below w.heap.size w w' :=
  (checks_any a len cap ts bit w hr hL).mono fun _ _ ⟨h, hg⟩ => ⟨h, Below.of_none hg⟩
end Go.Proofs.Ytmojlengjoicoaa
