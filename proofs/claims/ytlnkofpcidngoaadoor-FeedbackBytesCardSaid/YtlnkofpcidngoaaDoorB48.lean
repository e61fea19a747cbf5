import Derived.Test.YtlnkofpcidngoaaDoorB0
import Derived.Test.YtlnkofpcidngoaaDoorB45
import Derived.Test.YtlnkofpcidngoaaDoorB46
import Derived.Test.YtlnkofpcidngoaaDoorB47
import Derived.Deep.CutRange
namespace Go.Proofs.YtlnkofpcidngoaaDoor
open Go.ChangeShapes Go.WideShapes Go.ChangeAt Go.RowKit
open Crc
theorem run_neqF2 (a b c : Int) (u : World) : (binOp .neq 26 (.agg #[.int .i64 a, .int .i64 b, .int .i64 c]) (.agg #[.int .i64 a, .int .i64 b, .int .i64 c])).run Tryd.prog u = .ok (.bool false) u := run_neqF a b c u
theorem encF_len (c k n : Int) : (encF c k n).1.length ≤ 5 := by
 unfold encF
 split
 · have := encL_len c k n
   simp only [List.length_append, List.length_cons, List.length_nil]
   omega
 · simp
def TwoL (gl gm : Nat) (j : Nat) (w : World) : Prop := ∃ (c k n : Int) (a : Option Addr) (len cap : Nat) (xs : List Int), w.rangeAt gl (j * 3) [.int .i64 c, .int .i64 k, .int .i64 n] ∧ w.cell? ⟨gm, j, none⟩ = some (.slice a len cap) ∧ Rd .u8 w a len xs ∧ len ≤ cap ∧ len ≤ 140737488351232
theorem TwoL.kept {gl gm j : Nat} {w w' : World} (h : TwoL gl gm j w) (hg : Gr w w') : TwoL gl gm j w' := by
 obtain ⟨c, k, n, a, len, cap, xs, h1, h2, h3, h4⟩ := h
 exact ⟨c, k, n, a, len, cap, xs, range_gr h1 hg, hg.cell h2, h3.kept hg, h4⟩
theorem gr_die {w w1 w2 : World} {p : Nat} (h : Gr w w1) (k : w1.grownBy w2 (some p)) (hp : w.heap.size ≤ p) : Gr w w2 := grownBy_trans h k (.inr (.inr ⟨p, rfl, hp⟩))
def YRel (p : Nat) (w6 : World) (v : Value) (wc : World) : Prop := ∃ (a : Option Addr) (n c : Nat) (xs : List Int), v = .slice a n c ∧ Rd .u8 wc a n xs ∧ n ≤ c ∧ n ≤ 100 ∧ Die wc p ∧ w6.grownBy wc (some p)
set_option maxRecDepth 100000 in
set_option maxHeartbeats 4000000 in
theorem bytes_walk (fc fk fn : Int) (b : Option Addr) (bl bc : Nat) (xs : List Int) (t : Option Addr) (tl tc : Nat) (ts : List Int) (w : World) (hlaid : LaidIn w) (_h1 : i64 fc) (_h2 : i64 fk) (_h3 : i64 fn) (hb : Rd .u8 w b bl xs) (hbc : bl ≤ bc) (hbl : bl ≤ 140737488351232) (ht : Rd .i64 w t tl ts) :
   Calls Tryd.prog 5 #[FVal fc fk fn, .slice b bl bc, .slice t tl tc] w fun e w' => e = .returned (.bool true) ∧ Gr w w' := by
 have HLA := zqd hlaid
 have HB := zqd hb
 have HT := zqd ht
 have htl : tl ≤ 9223372036854775807 := by have := ht.2.2.1; simp only [maxLen] at this; omega
 clear hlaid hb ht
 go_enter Tryd.func5, Tryd.ntmps5
 go_upto_region 1 with (fail)
 obtain ⟨w1, hw1⟩ : ∃ y, y = w.alloc (.cells #[.int .i64 fc, .int .i64 fk, .int .i64 fn] 26) := ⟨_, rfl⟩
 have HF1 := zqd (show CBlk w.heap.size 26 [.int .i64 fc, .int .i64 fk, .int .i64 fn] w1 by rw [hw1]; exact CBlk.new _ _ _)
 have HG1 := zqd (show Gr w w1 by rw [hw1]; exact Gr.alloc _ _)
 rw [← hw1]
 clear hw1
 go_wp2_with fail
 refine (light_any t tl tc w1 htl).mono ?_
 rintro e w' ⟨rfl, rfl⟩
 by_cases hli : tl ≤ 400
 rotate_left
 · have hlb : decide (tl ≤ 400) = false := decide_eq_false hli
   go_wp2_with fail
   refine (awake11 w1 (laid_gr HLA.out HG1.out)).mono ?_
   rintro e w9 ⟨rfl, hg9⟩
   have HG9 := zqd (HG1.out.trans hg9)
   clear hg9
   go_wp2_with fail
   go_ret
   exact ⟨rfl, HG9.out⟩
 have hlb : decide (tl ≤ 400) = true := decide_eq_true hli
 go_wp2_with fail
 refine (roll_any t tl tc ts w1 (HT.out.kept HG1.out)).mono ?_
 rintro e w2 ⟨p, rfl, hd2, hg2, hp⟩
 have HD2 := zqd hd2
 have HG2 := zqd (HG1.out.trans hg2)
 have HP1 := zqd hp
 have HF2 := zqd (HF1.out.kept hg2)
 have HP := zqd (show w.heap.size ≤ p by have := HG1.out.size; omega)
 have HPW := zqd (show w.heap.size < p by have := HF1.out.lt; omega)
 have HFX := HF2
 clear hd2 hg2 hp HF1 HG1 hlb
 go_wp2_with fail
 refine (next_any p 18 w2 (HD2).out (by omega) (by omega)).mono ?_
 rintro e w3 ⟨v1, rfl, hv0, hv1, hdd, hgg⟩
 have HG3 := zqd (gr_die (HG2).out hgg HP.out)
 have hff := HFX.out.but hgg (by intro e; injection e with e; have := HPW.out; omega)
 have HFX := zqd hff
 clear hff
 have HD3 := zqd hdd
 clear hgg hdd
 go_wp2_with fail
 refine (next_any p 5 w3 (HD3).out (by omega) (by omega)).mono ?_
 rintro e w4 ⟨v2, rfl, hv0, hv1, hdd, hgg⟩
 have HG4 := zqd (gr_die (HG3).out hgg HP.out)
 have hff := HFX.out.but hgg (by intro e; injection e with e; have := HPW.out; omega)
 have HFX := zqd hff
 clear hff
 have HD4 := zqd hdd
 clear hgg hdd
 go_wp2_with fail
 refine (next_any p 65538 w4 (HD4).out (by omega) (by omega)).mono ?_
 rintro e w5 ⟨v3, rfl, hv0, hv1, hdd, hgg⟩
 have HG5 := zqd (gr_die (HG4).out hgg HP.out)
 have hff := HFX.out.but hgg (by intro e; injection e with e; have := HPW.out; omega)
 have HFX := zqd hff
 clear hff
 have HD5 := zqd hdd
 clear hgg hdd
 obtain ⟨wz, hwz⟩ : ∃ y, y = w5.alloc (.cells #[.int .i64 0, .int .i64 0, .int .i64 0] 26) := ⟨_, rfl⟩
 have HZZ := zqd (show CBlk w5.heap.size 26 [.int .i64 0, .int .i64 0, .int .i64 0] wz by rw [hwz]; exact CBlk.new _ _ _)
 have HGZ := zqd (show Gr w5 wz by rw [hwz]; exact Gr.alloc _ _)
 go_upto_region 5 with (first | rw [← hwz]; refine cblk_store rfl 26 _ _ rfl w5.heap.size [.int .i64 (v1 - 1), .int .i64 (v2 - 1), .int .i64 (v3 - 1)] HZZ.out rfl rfl rfl (by kernel_rfl) rfl ?_; intro w6 hb9 he9; have HX6 := zqd hb9; have HE6 := zqd (show Gr w5 w6 by rw [← he9]; exact gr_setCells HGZ.out (Nat.le_refl _) _ _); clear hb9 he9)
 obtain ⟨g8, hg8⟩ : ∃ g, w5.heap.size = g := ⟨_, rfl⟩
 rw [hg8] at HX6
 rw [hg8]
 have HD6 := zqd (HD5.out.kept HE6.out (by simp))
 have HG6 := zqd (HG5.out.trans HE6.out)
 have hwp : w.heap.size < p := HPW.out
 have hp8 : p < g8 := by have := HD5.out.lt; omega
 have HF6 := zqd (show CBlk w.heap.size 26 [.int .i64 fc, .int .i64 fk, .int .i64 fn] w6 from HFX.out.kept HE6.out)
 clear hwz HZZ HGZ hg8 HD5 HG5 HE6
 go_wp2_with fail
 refine (next_any p 16 _ HD6.out (by omega) (by omega)).mono ?_
 rintro e w7 ⟨u1, rfl, hu10, hu11, hd7, hg7⟩
 have HD7 := zqd hd7
 have HG7 := zqd hg7
 clear hd7 hg7
 go_wp2_with fail
 refine (next_any p 3 _ HD7.out (by omega) (by omega)).mono ?_
 rintro e w8 ⟨u2, rfl, hu20, hu21, hd8, hg8⟩
 have HD8 := zqd hd8
 have HG8 := zqd (grown_trans' HG7.out hg8)
 clear hd8 hg8
 go_wp2_with fail
 refine (next_any p 65536 _ HD8.out (by omega) (by omega)).mono ?_
 rintro e w9 ⟨u3, rfl, hu30, hu31, hd9, hg9⟩
 have HD9 := zqd hd9
 have HG9 := zqd (grown_trans' HG8.out hg9)
 clear hd9 hg9
 go_wp2_with fail
 have hre := rencode_any u1 u2 u3 w9
 have hel := encF_len u1 u2 u3
 obtain ⟨⟨LY, EY⟩, hFY⟩ : ∃ F, encF u1 u2 u3 = F := ⟨_, rfl⟩
 rw [hFY] at hre hel
 clear hFY
 refine hre.mono ?_
 clear hre
 rintro e w10 ⟨ya, yn, yc, rfl, hoy, hgy⟩
 have hyn : yn ≤ 5 := by have h1 : LY.length = yn := hoy.len; have h2 : LY.length ≤ 5 := hel; omega
 have HYF := zqd (show ∀ b off, ya = some ⟨b, off, none⟩ → p < b from fun b off e => by have h1 := (own_blockG hoy.row e).2.2.1; have h2 := HD9.out.lt; omega)
 have hyc : yn ≤ yc := owni_cap hoy
 have HY10 := zqd hoy.rd
 have HD10 := zqd (HD9.out.kept hgy (by simp))
 have HG10 := zqd (grown_trans' HG9.out (grown_weak hgy _))
 clear hoy hgy
 go_wp2_with fail
 refine (one_any p 2 _ HD10.out (by omega) (by omega)).mono ?_
 rintro e w11 ⟨b2, rfl, hd11, hg11⟩
 have HY11 := zqd (rd_keptBut HY10.out hg11 (fun b off _ e e2 => by have := HYF.out b off e; injection e2 with e2; omega))
 have HD11 := zqd hd11
 have HG11 := zqd (grown_trans' HG10.out hg11)
 clear hd11 hg11 HY10 HD10 HG10 HD9 HG9 HD8 HG8 HD7 HG7
 go_upto_if 50 with (fail)
 go_cut [9] from 51 to 53 (fun v wc => YRel p w6 v wc)
 case first =>
   cases b2
   · go_wp2_with fail
     go_meet
     exact ⟨ya, yn, yc, LY, rfl, HY11.out, hyc, by omega, HD11.out, HG11.out⟩
   · go_wp2_with fail
     refine (spoil_any p ya yn yc LY w11 HD11.out HY11.out (by omega)).mono ?_
     rintro e w12 ⟨za, zn, zc, zx, rfl, hzn, hdb⟩
     have HDB := zqd hdb
     clear hdb
     go_wp2_with fail
     go_meet
     exact ⟨za, zn, zc, zx, rfl, HDB.out.2.1.rd, owni_cap HDB.out.2.1, by omega, HDB.out.1, grown_trans' HG11.out HDB.out.2.2.1⟩
 obtain ⟨za, zn, zc, zx, rfl, hz1, hz2, hz3, hz4, hz5⟩ := hcut
 obtain ⟨w12, hw12⟩ : ∃ y, y = wc := ⟨_, rfl⟩
 rw [← hw12] at hz1 hz4 hz5 ⊢
 have HZ := zqd hz1
 have HF12 := zqd (HF6.out.but hz5 (by intro e; injection e with e; omega))
 have HX12 := zqd (HX6.out.but hz5 (by intro e; injection e with e; omega))
 have HG12 := zqd (gr_die HG6.out hz5 HP.out)
 clear hw12 hz1 hz4 hz5 HF6 HX6 HG6 HD6 HY11 HD11 HG11 wc
 go_upto_region 9 with (first | (refine cblk_load rfl 26 _ rfl w.heap.size rfl HF12.out Tryd.underlying26 rfl (by kernel_rfl) ?_) | (refine cblk_load rfl 26 _ rfl g8 rfl HX12.out Tryd.underlying26 rfl (by kernel_rfl) ?_))
 obtain ⟨wL, hwL⟩ : ∃ y, y = (w12.alloc (.cells [.int .i64 fc, .int .i64 fk, .int .i64 fn, .int .i64 (v1 - 1), .int .i64 (v2 - 1), .int .i64 (v3 - 1)].toArray 59)).alloc (.cells [Value.slice b bl bc, .slice za zn zc].toArray 60) := ⟨_, rfl⟩
 have hl1 : CBlk w12.heap.size 59 [.int .i64 fc, .int .i64 fk, .int .i64 fn, .int .i64 (v1 - 1), .int .i64 (v2 - 1), .int .i64 (v3 - 1)] wL := by rw [hwL]; exact (CBlk.new _ _ _).kept (Gr.alloc _ _)
 have hl2 : CBlk (w12.heap.size + 1) 60 [Value.slice b bl bc, .slice za zn zc] wL := by rw [hwL]; exact heap_two _ _ _
 have hgL : Gr w12 wL := by rw [hwL]; exact (Gr.alloc _ _).trans (Gr.alloc _ _)
 first | rw [← hwL] | (go_show; fail)
 have HGL := zqd (HG12.out.trans hgL)
 have HTW := zqd (show ∀ j : Nat, j < 2 → TwoL w12.heap.size (w12.heap.size + 1) j wL from fun j hj => by
   have h01 : j = 0 ∨ j = 1 := by omega
   rcases h01 with rfl | rfl
   · exact ⟨fc, fk, fn, b, bl, bc, xs, hl1.rng 0 _ (by
       intro q v hq
       rcases q with _ | _ | _ | q
       all_goals first | exact hq | (simp at hq)), hl2.at 0 rfl, HB.out.kept HGL.out, hbc, hbl⟩
   · exact ⟨v1 - 1, v2 - 1, v3 - 1, za, zn, zc, zx, hl1.rng 3 _ (by
       intro q v hq
       rcases q with _ | _ | _ | q
       all_goals first | exact hq | (simp at hq)), hl2.at 1 rfl, HZ.out.kept hgL, hz2, by omega⟩)
 clear hwL hl1 hl2 hgL HF12 HX12 HG12 HZ
 obtain ⟨gl, hgl⟩ : ∃ g, w12.heap.size = g := ⟨_, rfl⟩
 obtain ⟨gm, hgm⟩ : ∃ g, gl + 1 = g := ⟨_, rfl⟩
 rw [hgl] at HTW ⊢
 rw [hgm] at HTW ⊢
 clear hgl hgm
 go_wp2_with fail
 go_loopw [13] (fun i wr => ∃ j : Nat, j ≤ 2 ∧ i = .int .i64 j ∧ Gr wL wr) (fun i _ => 2 - (intOf i).toNat)
 case atStart => exact ⟨0, by omega, rfl, Gr.refl _⟩
 case round =>
   obtain ⟨j, hj, rfl, hgr⟩ := hrel
   have HGR := zqd hgr
   clear hgr
   by_cases hlt : j < 2
   rotate_left
   · go_wp2_with fail
     refine (awake11 wr (laid_gr HLA.out (HGL.out.trans HGR.out))).mono ?_
     rintro e w9 ⟨rfl, hg9⟩
     have HG9 := zqd ((HGL.out.trans HGR.out).trans hg9)
     clear hg9
     go_wp2_with fail
     go_ret
     exact ⟨rfl, HG9.out⟩
   obtain ⟨c, k, n, a, len, cap, ys, h1, h2, h3, h4, h5⟩ := (HTW.out j hlt).kept HGR.out
   have H1 := zqd h1
   have H2 := zqd h2
   have H3 := zqd h3
   clear h1 h2 h3
   obtain ⟨⟨LF, EF⟩, hF⟩ : ∃ F, encF c k n = F := ⟨_, rfl⟩
   obtain ⟨⟨d1, d2, d3, ED⟩, hD⟩ : ∃ F, decF ys = F := ⟨_, rfl⟩
   have HF := zqd hF
   have HD := zqd hD
   clear hF hD
   go_wp2_with (refine rng_load rfl 26 _ rfl gl (j * 3) rfl [.int .i64 c, .int .i64 k, .int .i64 n] H1.out Tryd.underlying26 rfl (by kernel_rfl) ?_)
   have he1 := encode_any c k n wr (laid_gr HLA.out (HGL.out.trans HGR.out))
   rw [HF.out] at he1
   refine he1.mono ?_
   clear he1
   rintro e w1 ⟨pa, pn, pc, rfl, hop, hg1⟩
   have HP1 := zqd hop.rd
   have HG1 := zqd hg1
   have H11 := zqd (range_gr H1.out hg1)
   clear hop hg1
   go_wp2_with (refine rng_load rfl 26 _ rfl gl (j * 3) rfl [.int .i64 c, .int .i64 k, .int .i64 n] H11.out Tryd.underlying26 rfl (by kernel_rfl) ?_)
   have he2 := rencode_any c k n w1
   rw [HF.out] at he2
   refine he2.mono ?_
   clear he2
   rintro e w2 ⟨qa, qn, qc, rfl, hoq, hg2⟩
   have HQ2 := zqd hoq.rd
   have HP2 := zqd (HP1.out.kept hg2)
   have HG2 := zqd (HG1.out.trans hg2)
   clear hoq hg2
   have hc2 := HG2.out.cell H2.out
   go_wp2_with fail
   clear hc2
   have hd1 := decode_any a len cap ys w2 (laid_gr HLA.out ((HGL.out.trans HGR.out).trans HG2.out)) (H3.out.kept HG2.out) h4 h5
   rw [HD.out] at hd1
   refine hd1.mono ?_
   clear hd1
   rintro e w3 ⟨he, hg3⟩
   obtain rfl : e = .returned (.tuple #[FVal d1 d2 d3, .int .i64 ED]) := he
   have HG3 := zqd hg3
   clear hg3
   obtain ⟨wz, hwz⟩ : ∃ y, y = (w3).alloc (.cells #[.int .i64 0, .int .i64 0, .int .i64 0] 26) := ⟨_, rfl⟩
   have HZZ := zqd (show CBlk (w3).heap.size 26 [.int .i64 0, .int .i64 0, .int .i64 0] wz by rw [hwz]; exact CBlk.new _ _ _)
   have HGZ := zqd (show Gr (w3) wz by rw [hwz]; exact Gr.alloc _ _)
   go_upto_region 15 with (first | rw [← hwz]; refine cblk_store rfl 26 _ _ rfl (w3).heap.size [.int .i64 d1, .int .i64 d2, .int .i64 d3] HZZ.out rfl rfl rfl (by kernel_rfl) rfl ?_; intro w4 hb9 he9; have HU4 := zqd hb9; have HE4 := zqd (show Gr (w3) w4 by rw [← he9]; exact gr_setCells HGZ.out (Nat.le_refl _) _ _); clear hb9 he9)
   obtain ⟨gu, hgg⟩ : ∃ g, (w3).heap.size = g := ⟨_, rfl⟩
   rw [hgg] at HU4
   rw [hgg]
   have HSZgu := zqd hgg
   clear hwz HZZ HGZ hgg
   have HG4 := zqd (HG2.out.trans (HG3.out.trans HE4.out))
   have hc4 := HG4.out.cell H2.out
   go_wp2_with fail
   clear hc4
   have hd2 := rfdecode_any a len cap ys w4 (H3.out.kept HG4.out) h4 h5
   rw [HD.out] at hd2
   refine hd2.mono ?_
   clear hd2
   rintro e w5 ⟨he, hg5⟩
   obtain rfl : e = .returned (.tuple #[FVal d1 d2 d3, .int .i64 ED]) := he
   have HG5 := zqd hg5
   clear hg5
   obtain ⟨wz, hwz⟩ : ∃ y, y = (w5).alloc (.cells #[.int .i64 0, .int .i64 0, .int .i64 0] 26) := ⟨_, rfl⟩
   have HZZ := zqd (show CBlk (w5).heap.size 26 [.int .i64 0, .int .i64 0, .int .i64 0] wz by rw [hwz]; exact CBlk.new _ _ _)
   have HGZ := zqd (show Gr (w5) wz by rw [hwz]; exact Gr.alloc _ _)
   go_upto_region 16 with (first | rw [← hwz]; refine cblk_store rfl 26 _ _ rfl (w5).heap.size [.int .i64 d1, .int .i64 d2, .int .i64 d3] HZZ.out rfl rfl rfl (by kernel_rfl) rfl ?_; intro w6x hb9 he9; have HV6 := zqd hb9; have HE6 := zqd (show Gr (w5) w6x by rw [← he9]; exact gr_setCells HGZ.out (Nat.le_refl _) _ _); clear hb9 he9)
   obtain ⟨gv, hgg⟩ : ∃ g, (w5).heap.size = g := ⟨_, rfl⟩
   rw [hgg] at HV6
   rw [hgg]
   have HSZgv := zqd hgg
   clear hwz HZZ HGZ hgg
   have HG46 := zqd (HG5.out.trans HE6.out)
   have HU6 := zqd (HU4.out.kept HG46.out)
   have HG6 := zqd (HG4.out.trans HG46.out)
   have HP6 := zqd (HP2.out.kept (HG3.out.trans (HE4.out.trans HG46.out)))
   have HQ6 := zqd (HQ2.out.kept (HG3.out.trans (HE4.out.trans HG46.out)))
   have he1 : (EF != EF) = false := by simp
   have he2 : (ED != ED) = false := by simp
   have hnf : ∀ u, (binOp .neq 26 (.agg #[.int .i64 d1, .int .i64 d2, .int .i64 d3]) (.agg #[.int .i64 d1, .int .i64 d2, .int .i64 d3])).run Tryd.prog u = .ok (.bool false) u := fun u => run_neqF2 d1 d2 d3 u
   go_wp2_with fail
   refine (bsame_is (E := true) (by simp) w6x HP6.out HQ6.out).mono ?_
   rintro e w' ⟨rfl, rfl⟩
   go_wp2_with (first | (refine cblk_load rfl 26 _ rfl gu rfl HU6.out Tryd.underlying26 rfl (by kernel_rfl) ?_) | (refine cblk_load rfl 26 _ rfl gv rfl HV6.out Tryd.underlying26 rfl (by kernel_rfl) ?_))
   go_roundw
   case rel => exact ⟨j + 1, by omega, by go_num, HGR.out.trans HG6.out⟩
   case measure => (simp [intOf] <;> omega)
theorem bytes_fit (xs : List Int) (b : Option Addr) (bl bc : Nat) (ys : List Int) (t : Option Addr) (tl tc : Nat) (ts : List Int) (w : World) (hl : LaidIn w) (l0 : xs.length = 3) (b0 : ∀ x ∈ xs, i64 x) (hb : Rd .u8 w b bl ys) (hbc : bl ≤ bc) (hbl : bl ≤ 140737488351232) (ht : Rd .i64 w t tl ts) (_htc : tl ≤ tc) (_htl : tl * 8 ≤ 140737488351232) :
   Calls Tryd.prog 5 #[.agg (xs.map (Value.int .i64)).toArray, .slice b bl bc, .slice t tl tc] w fun e w' => e = .returned (.bool true) ∧ Below w.heap.size w w' := by
 match xs, l0, b0 with
 | [c, k, n], _, b0 => exact (bytes_walk c k n b bl bc ys t tl tc ts w hl (b0 c (by simp)) (b0 k (by simp)) (b0 n (by simp)) hb hbc hbl ht).mono fun _ _ ⟨he, hg⟩ => ⟨he, Below.of_none hg⟩
end Go.Proofs.YtlnkofpcidngoaaDoor
