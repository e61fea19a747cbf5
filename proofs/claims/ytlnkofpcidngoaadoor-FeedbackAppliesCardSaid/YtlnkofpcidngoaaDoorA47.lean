/- Layer 11 (feedback): what Apply returns, for any compressor and feedback, and behind some packets. -/
import Derived.Test.YtlnkofpcidngoaaDoorA0
import Derived.Test.YtlnkofpcidngoaaDoorA39
import Derived.Test.YtlnkofpcidngoaaDoorA46
import Derived.Test.YtlnkofpcidngoaaDoorA45
import Derived.Test.YtlnkofpcidngoaaDoorA24
import Derived.Test.YtlnkofpcidngoaaDoorA34
import Derived.Test.YtlnkofpcidngoaaDoorA15
import Derived.Deep.CutRange
namespace Go.Proofs.YtlnkofpcidngoaaDoor
open Go.ChangeShapes Go.WideShapes Go.ChangeAt Go.RowKit
set_option maxRecDepth 100000 in
set_option maxHeartbeats 4000000 in
theorem applies_walk (mo wi : Int) (a0 : Option Addr) (n0 c0 : Nat) (L1 : List Snd) (fc fk fn : Int) (t : Option Addr) (tl tc : Nat) (ts : List Int) (w : World) (hlaid : LaidIn w) (hr : RdC w a0 n0 c0 L1) (ht : Rd .i64 w t tl ts) :
  Calls Tryd.prog 3 #[CVal mo wi a0 n0 c0, FVal fc fk fn, .slice t tl tc] w fun e w' => e = .returned (.bool true) ∧ Gr w w' := by
 have HLA := zqd hlaid
 have HT := zqd ht
 have HRC := zqd hr
 have htl : tl ≤ 9223372036854775807 := by have := ht.2.2.1; simp only [maxLen] at this; omega
 have hn0 : n0 ≤ 9223372036854775807 := by have := hr.2.2.1; have := hr.2.1; simp only [maxLen] at *; omega
 clear hlaid ht hr
 go_enter Tryd.func3, Tryd.ntmps3
 go_upto_region 1 with (fail)
 obtain ⟨w1, hw1⟩ : ∃ y, y = (w.alloc (.cells #[.int .i64 mo, .int .i64 wi, .slice a0 n0 c0] 24)).alloc (.cells #[.int .i64 fc, .int .i64 fk, .int .i64 fn] 26) := ⟨_, rfl⟩
 obtain ⟨gc, hgc⟩ : ∃ y, w.heap.size = y := ⟨_, rfl⟩
 obtain ⟨gf, hgf⟩ : ∃ y, w.heap.size + 1 = y := ⟨_, rfl⟩
 have HC1 := zqd (show CBlk gc 24 [.int .i64 mo, .int .i64 wi, .slice a0 n0 c0] w1 by rw [hw1, ← hgc]; exact (CBlk.new _ _ _).kept (Gr.alloc _ _))
 have HF1 := zqd (show CBlk gf 26 [.int .i64 fc, .int .i64 fk, .int .i64 fn] w1 by rw [hw1, ← hgf]; exact heap_two _ _ _)
 have HG1 := zqd (show Gr w w1 by rw [hw1]; exact (Gr.alloc _ _).trans (Gr.alloc _ _))
 rw [← hw1, hgf, hgc]
 have HRC1 := zqd (HRC.out.kept HG1.out)
 have HT1 := zqd (HT.out.kept HG1.out)
 have HLA1 := zqd (laid_gr HLA.out HG1.out)
 clear hw1 hgc hgf HRC HT HLA
 generalize CVal mo wi a0 n0 c0 = V0
 generalize FVal fc fk fn = V1
 go_wp2_with fail
 refine (light_any t tl tc w1 htl).mono ?_
 rintro e w' ⟨rfl, rfl⟩
 have x2 := HC1.out.at 2 rfl
 by_cases hli : tl ≤ 400
 rotate_left
 ·have hlb : decide (tl ≤ 400) = false := decide_eq_false hli
  go_wp2_with fail
  refine (awake11 w1 HLA1.out).mono ?_
  rintro e w9 ⟨rfl, hg9⟩
  have HG9 := zqd (HG1.out.trans hg9)
  clear hg9
  go_wp2_with fail
  go_ret
  exact ⟨rfl, HG9.out⟩
 have hlb : decide (tl ≤ 400) = true := decide_eq_true hli
 by_cases hn20 : n0 ≤ 20
 rotate_left
 ·have hnb : decide (20 < (n0 : Int)) = true := decide_eq_true (by omega)
  clear hli
  go_wp2_with fail
  refine (awake11 w1 HLA1.out).mono ?_
  rintro e w9 ⟨rfl, hg9⟩
  have HG9 := zqd (HG1.out.trans hg9)
  clear hg9
  go_wp2_with fail
  go_ret
  exact ⟨rfl, HG9.out⟩
 have hnb : decide (20 < (n0 : Int)) = false := decide_eq_false (by omega)
 clear hli
 go_wp2_with fail
 refine (roll_any t tl tc ts w1 HT1.out).mono ?_
 rintro e w2 ⟨p, rfl, hd2, hg2, hpw⟩
 have HD2 := zqd hd2
 have HG2 := zqd hg2
 have hp2 := hd2.lt
 clear hd2 hg2 hlb hnb x2
 go_wp2_with fail
 refine (next_any p 3 _ HD2.out (by omega) (by omega)).mono ?_
 rintro e w3a ⟨v1, rfl, hu0, hu1, hd3, hg3⟩
 have HD3 := zqd hd3
 have HG3 := zqd (gr_die HG2.out hg3 hpw)
 have hs3 := hg3.size
 clear hd3 hg3
 obtain ⟨mode, hmode⟩ : ∃ m, 1 + v1 = m := ⟨_, rfl⟩
 go_wp2_with fail
 refine (next_any p 5 _ HD3.out (by omega) (by omega)).mono ?_
 rintro e w3 ⟨v0, rfl, hv0, hv1, hd3, hg3⟩
 have HD3 := zqd hd3
 have HG3 := zqd (gr_die HG3.out hg3 hpw)
 have hs3b := hg3.size
 clear hd3 hg3
 obtain ⟨W, hW⟩ : ∃ m, 1 + v0 = m := ⟨_, rfl⟩
 have hsh : shapedB mode W = true := by simp [shapedB]; omega
 go_wp2_with fail
 have HSH := zqd hsh
 clear hmode hW hsh
 refine (new2_any mode W w3 HSH.out).mono ?_
 rintro e w4 ⟨a4, c4, rfl, hr4, hg4, hab4⟩
 have HR4 := zqd hr4
 have HD4 := zqd (HD3.out.kept hg4 (by simp))
 have HG4 := zqd (HG3.out.trans hg4)
 have HAW := zqd (show AwayC w4.heap.size p a4 L0 from ⟨fun b off e => by
  have h1 := hab4 b off e
  obtain ⟨b9, o9, e9, hb9, -⟩ := hr4.row (by omega)
  rw [e] at e9
  injection e9 with e9
  injection e9 with e9
  exact ⟨by omega, by omega⟩, fun s hs b off e => by rw [List.eq_of_mem_replicate hs] at e; cases e⟩)
 have hs4 := hg4.size
 clear hr4 hg4 hab4
 obtain ⟨wz, hwz⟩ : ∃ y, y = w4.alloc (.cells #[.int .i64 0, .int .i64 0, .slice none 0 0] 24) := ⟨_, rfl⟩
 have HZZ := zqd (show CBlk w4.heap.size 24 [.int .i64 0, .int .i64 0, .slice none 0 0] wz by rw [hwz]; exact CBlk.new _ _ _)
 have HGZ := zqd (show Gr w4 wz by rw [hwz]; exact Gr.alloc _ _)
 go_upto_region 5 with (with_reducible refine at_store 24 ?_; rw [← hwz]; refine cblk_store rfl 24 _ _ rfl w4.heap.size [.int .i64 mode, .int .i64 W, .slice a4 16 c4] HZZ.out rfl rfl rfl (by kernel_rfl) rfl ?_; intro w5 hb9 he9; have HC5 := zqd hb9; have HE5 := zqd (show Gr w4 w5 by rw [← he9]; exact gr_setCells HGZ.out (Nat.le_refl _) _ _); clear hb9 he9)
 obtain ⟨gC, hgC⟩ : ∃ g, w4.heap.size = g := ⟨_, rfl⟩
 rw [hgC] at HC5 HAW
 rw [hgC]
 have HR5 := zqd (HR4.out.kept HE5.out)
 have HD5 := zqd (HD4.out.kept HE5.out (by simp))
 have HG5 := zqd (HG4.out.trans HE5.out)
 have hpg : p < gC := by have := HD4.out.lt; omega
 have hgp : gC ≠ p := by omega
 have hgw : w1.heap.size ≤ gC := by have := HG4.out.size; omega
 clear hwz HZZ HGZ hgC HE5 HR4 HD4 HG4 HD2 HG2 HD3 HG3 hs4 hs3 hs3b
 go_wp2_with fail
 refine (one_any p 2 _ HD5.out (by omega) (by omega)).mono ?_
 rintro e w6 ⟨bb, rfl, hd6, hg6⟩
 have HC6 := zqd (HC5.out.but hg6 (by simpa using hgp))
 have HR6 := zqd (rdc_away HR5.out HAW.out hg6 (.inr rfl))
 have HD6 := zqd hd6
 have HG6 := zqd (gr_die HG5.out hg6 hpw)
 clear hd6 hg6 HC5 HR5 HD5 HG5
 go_wp2_with fail
 refine (packets_any p 30 bb w6 HD6.out (by omega) (by omega)).mono ?_
 rintro e w7 ⟨al, nl, cl, ss, rfl, hnl, hrp, hd7, hg7⟩
 obtain ⟨B, hB⟩ : ∃ B, w6.heap.size = B := ⟨_, rfl⟩
 rw [hB] at hrp
 have hpB : p < B := by have := HD6.out.lt; omega
 have hgB : gC < B := by have := HC6.out.lt; omega
 have HK7 := zqd (show KpSt mode W w1 gC p B al nl ss w7 from ⟨a4, c4, L0, HC6.out.but hg7 (by simpa using hgp), rdc_away HR6.out HAW.out hg7 (.inr rfl), valid_L0 HSH.out, HAW.out, hrp, hd7, gr_die HG6.out hg7 hpw⟩)
 clear hB hrp hd7 hg7 HC6 HR6 HD6 HG6 HAW
 go_wp2_with fail
 go_loopw [11] (fun v wr => KpRel mode W w1 gC p B al nl ss v wr) (fun v _ => nl - (intOf v).toNat)
 case atStart => exact ⟨0, by omega, rfl, HK7.out⟩
 case round =>
  obtain ⟨j, hj, rfl, hst⟩ := hrel
  have HK8 := zqd hst
  clear hst HK7
  by_cases hlt : j < nl
  rotate_left
  ·obtain ⟨a, c, L, h1, h2, h3, h4, h5, h6, h7⟩ := HK8.out
   have HX8 := zqd h1
   have HRX8 := zqd h2
   have HC8 := zqd (HC1.out.kept h7)
   have HF8 := zqd (HF1.out.kept h7)
   have HRC8 := zqd (HRC1.out.kept h7)
   have HG8 := zqd h7
   clear h1 h2 h3 h4 h5 h6 h7 HK8
   obtain ⟨E, hE⟩ : ∃ E, apE mo wi L1 fc fk fn = E := ⟨_, rfl⟩
   obtain ⟨PL, hPL⟩ : ∃ E, apL mo wi L1 fc fk fn = E := ⟨_, rfl⟩
   obtain ⟨D, hD⟩ : ∃ E, apE mode W L fc fk fn = E := ⟨_, rfl⟩
   obtain ⟨QL, hQL⟩ : ∃ E, apL mode W L fc fk fn = E := ⟨_, rfl⟩
   have HE := zqd hE
   have HPL := zqd hPL
   have HD := zqd hD
   have HQL := zqd hQL
   clear hE hPL hD hQL
   obtain ⟨mE, hmE⟩ : ∃ x, apM E mo = x := ⟨_, rfl⟩
   obtain ⟨wE, hwE⟩ : ∃ x, apM E wi = x := ⟨_, rfl⟩
   obtain ⟨mD, hmD⟩ : ∃ x, apM D mode = x := ⟨_, rfl⟩
   obtain ⟨wD, hwD⟩ : ∃ x, apM D W = x := ⟨_, rfl⟩
   go_wp2_with (first | (with_reducible refine at_load 24 ?_; refine cblk_load rfl 24 _ rfl gc rfl (HC8).out Tryd.underlying24 rfl (by kernel_rfl) ?_) | (with_reducible refine at_load 26 ?_; refine cblk_load rfl 26 _ rfl gf rfl (HF8).out Tryd.underlying26 rfl (by kernel_rfl) ?_))
   refine (ap1_any HE.out HPL.out wr HRC8.out).mono ?_
   rintro e u1 ⟨pa, pn, pc, PM, rfl, hr1, hm1, hn1, hs1, hab1, h161, hg1⟩
   obtain ⟨wz, hwz⟩ : ∃ y, y = (u1).alloc (.cells #[.int .i64 0, .int .i64 0, .slice none 0 0] 24) := ⟨_, rfl⟩
   have HZZ := zqd (show CBlk (u1).heap.size 24 [.int .i64 0, .int .i64 0, .slice none 0 0] wz by rw [hwz]; exact CBlk.new _ _ _)
   have HGZ := zqd (show Gr (u1) wz by rw [hwz]; exact Gr.alloc _ _)
   have HG0 := zqd hg1
   have HR0 := zqd hr1
   have MA1 := zqd hm1
   have NA1 := zqd hn1
   have SA1 := zqd hs1
   have BA1 := zqd hab1
   have XA1 := zqd h161
   clear hg1 hr1 hm1 hn1 hs1 hab1 h161
   go_upto_region 22 with (with_reducible refine at_store 24 ?_; rw [← hwz]; refine cblk_store rfl 24 _ _ rfl (u1).heap.size [.int .i64 _, .int .i64 _, .slice pa pn pc] HZZ.out rfl rfl rfl (by kernel_rfl) rfl ?_; intro w11 hb9 he9; have HXA := zqd hb9; have HE0 := zqd (show Gr (u1) w11 by rw [← he9]; exact gr_setCells HGZ.out (Nat.le_refl _) _ _); clear hb9 he9)
   obtain ⟨g1, hgX⟩ : ∃ g, (u1).heap.size = g := ⟨_, rfl⟩
   rw [hgX] at HXA
   rw [hgX]
   have GA1 := zqd (HG0.out.trans HE0.out)
   have RA1 := zqd (HR0.out.kept HE0.out)
   clear hwz HZZ HGZ hgX HG0 HR0 HE0
   have HC11 := zqd (HC8.out.kept GA1.out)
   have HF11 := zqd (HF8.out.kept GA1.out)
   have HRC11 := zqd (HRC8.out.kept GA1.out)
   go_wp2_with (first | (with_reducible refine at_load 24 ?_; refine cblk_load rfl 24 _ rfl gc rfl (HC11).out Tryd.underlying24 rfl (by kernel_rfl) ?_) | (with_reducible refine at_load 26 ?_; refine cblk_load rfl 26 _ rfl gf rfl (HF11).out Tryd.underlying26 rfl (by kernel_rfl) ?_))
   refine (ap2_any HE.out HPL.out w11 HRC11.out).mono ?_
   rintro e u2 ⟨qa, qn, qc, QM, rfl, hr1, hm1, hn1, hs1, hab1, h161, hg1⟩
   obtain ⟨wz, hwz⟩ : ∃ y, y = (u2).alloc (.cells #[.int .i64 0, .int .i64 0, .slice none 0 0] 24) := ⟨_, rfl⟩
   have HZZ := zqd (show CBlk (u2).heap.size 24 [.int .i64 0, .int .i64 0, .slice none 0 0] wz by rw [hwz]; exact CBlk.new _ _ _)
   have HGZ := zqd (show Gr (u2) wz by rw [hwz]; exact Gr.alloc _ _)
   have HG0 := zqd hg1
   have HR0 := zqd hr1
   have MA2 := zqd hm1
   have NA2 := zqd hn1
   have SA2 := zqd hs1
   have BA2 := zqd hab1
   have XA2 := zqd h161
   clear hg1 hr1 hm1 hn1 hs1 hab1 h161
   go_upto_region 23 with (with_reducible refine at_store 24 ?_; rw [← hwz]; refine cblk_store rfl 24 _ _ rfl (u2).heap.size [.int .i64 _, .int .i64 _, .slice qa qn qc] HZZ.out rfl rfl rfl (by kernel_rfl) rfl ?_; intro w12 hb9 he9; have HXB := zqd hb9; have HE0 := zqd (show Gr (u2) w12 by rw [← he9]; exact gr_setCells HGZ.out (Nat.le_refl _) _ _); clear hb9 he9)
   obtain ⟨g2, hgX⟩ : ∃ g, (u2).heap.size = g := ⟨_, rfl⟩
   rw [hgX] at HXB
   rw [hgX]
   have GA2 := zqd (HG0.out.trans HE0.out)
   have RA2 := zqd (HR0.out.kept HE0.out)
   clear hwz HZZ HGZ hgX HG0 HR0 HE0
   have HX12 := zqd (HX8.out.kept (GA1.out.trans GA2.out))
   have HRX12 := zqd (HRX8.out.kept (GA1.out.trans GA2.out))
   have HF12 := zqd (HF11.out.kept GA2.out)
   go_wp2_with (first | (with_reducible refine at_load 24 ?_; refine cblk_load rfl 24 _ rfl gC rfl (HX12).out Tryd.underlying24 rfl (by kernel_rfl) ?_) | (with_reducible refine at_load 26 ?_; refine cblk_load rfl 26 _ rfl gf rfl (HF12).out Tryd.underlying26 rfl (by kernel_rfl) ?_))
   refine (ap1_any HD.out HQL.out w12 HRX12.out).mono ?_
   rintro e u3 ⟨ra, rn, rc, RM, rfl, hr1, hm1, hn1, hs1, hab1, h161, hg1⟩
   obtain ⟨wz, hwz⟩ : ∃ y, y = (u3).alloc (.cells #[.int .i64 0, .int .i64 0, .slice none 0 0] 24) := ⟨_, rfl⟩
   have HZZ := zqd (show CBlk (u3).heap.size 24 [.int .i64 0, .int .i64 0, .slice none 0 0] wz by rw [hwz]; exact CBlk.new _ _ _)
   have HGZ := zqd (show Gr (u3) wz by rw [hwz]; exact Gr.alloc _ _)
   have HG0 := zqd hg1
   have HR0 := zqd hr1
   have MA3 := zqd hm1
   have NA3 := zqd hn1
   have SA3 := zqd hs1
   have BA3 := zqd hab1
   have XA3 := zqd h161
   clear hg1 hr1 hm1 hn1 hs1 hab1 h161
   go_upto_region 24 with (with_reducible refine at_store 24 ?_; rw [← hwz]; refine cblk_store rfl 24 _ _ rfl (u3).heap.size [.int .i64 _, .int .i64 _, .slice ra rn rc] HZZ.out rfl rfl rfl (by kernel_rfl) rfl ?_; intro w13 hb9 he9; have HXC := zqd hb9; have HE0 := zqd (show Gr (u3) w13 by rw [← he9]; exact gr_setCells HGZ.out (Nat.le_refl _) _ _); clear hb9 he9)
   obtain ⟨g3, hgX⟩ : ∃ g, (u3).heap.size = g := ⟨_, rfl⟩
   rw [hgX] at HXC
   rw [hgX]
   have GA3 := zqd (HG0.out.trans HE0.out)
   have RA3 := zqd (HR0.out.kept HE0.out)
   clear hwz HZZ HGZ hgX HG0 HR0 HE0
   have HX13 := zqd (HX12.out.kept GA3.out)
   have HRX13 := zqd (HRX12.out.kept GA3.out)
   have HF13 := zqd (HF12.out.kept GA3.out)
   go_wp2_with (first | (with_reducible refine at_load 24 ?_; refine cblk_load rfl 24 _ rfl gC rfl (HX13).out Tryd.underlying24 rfl (by kernel_rfl) ?_) | (with_reducible refine at_load 26 ?_; refine cblk_load rfl 26 _ rfl gf rfl (HF13).out Tryd.underlying26 rfl (by kernel_rfl) ?_))
   refine (ap2_any HD.out HQL.out w13 HRX13.out).mono ?_
   rintro e u4 ⟨sa, sn, sc, SM, rfl, hr1, hm1, hn1, hs1, hab1, h161, hg1⟩
   obtain ⟨wz, hwz⟩ : ∃ y, y = (u4).alloc (.cells #[.int .i64 0, .int .i64 0, .slice none 0 0] 24) := ⟨_, rfl⟩
   have HZZ := zqd (show CBlk (u4).heap.size 24 [.int .i64 0, .int .i64 0, .slice none 0 0] wz by rw [hwz]; exact CBlk.new _ _ _)
   have HGZ := zqd (show Gr (u4) wz by rw [hwz]; exact Gr.alloc _ _)
   have HG0 := zqd hg1
   have HR0 := zqd hr1
   have MA4 := zqd hm1
   have NA4 := zqd hn1
   have SA4 := zqd hs1
   have BA4 := zqd hab1
   have XA4 := zqd h161
   clear hg1 hr1 hm1 hn1 hs1 hab1 h161
   go_upto_region 25 with (with_reducible refine at_store 24 ?_; rw [← hwz]; refine cblk_store rfl 24 _ _ rfl (u4).heap.size [.int .i64 _, .int .i64 _, .slice sa sn sc] HZZ.out rfl rfl rfl (by kernel_rfl) rfl ?_; intro w14 hb9 he9; have HXD := zqd hb9; have HE0 := zqd (show Gr (u4) w14 by rw [← he9]; exact gr_setCells HGZ.out (Nat.le_refl _) _ _); clear hb9 he9)
   obtain ⟨g4, hgX⟩ : ∃ g, (u4).heap.size = g := ⟨_, rfl⟩
   rw [hgX] at HXD
   rw [hgX]
   have GA4 := zqd (HG0.out.trans HE0.out)
   have RA4 := zqd (HR0.out.kept HE0.out)
   clear hwz HZZ HGZ hgX HG0 HR0 HE0
   have HG14 := zqd (HG8.out.trans (GA1.out.trans (GA2.out.trans (GA3.out.trans GA4.out))))
   go_wp2_with fail
   refine (awake11 w14 (laid_gr HLA1.out HG14.out)).mono ?_
   rintro e w15 ⟨rfl, hg15⟩
   have HP15 := zqd (HXA.out.kept (GA2.out.trans (GA3.out.trans (GA4.out.trans hg15))))
   have HQ15 := zqd (HXB.out.kept (GA3.out.trans (GA4.out.trans hg15)))
   have HR15 := zqd (HXC.out.kept (GA4.out.trans hg15))
   have HS15 := zqd (HXD.out.kept hg15)
   have RP15 := zqd (RA1.out.kept (GA2.out.trans (GA3.out.trans (GA4.out.trans hg15))))
   have RQ15 := zqd (RA2.out.kept (GA3.out.trans (GA4.out.trans hg15)))
   have RR15 := zqd (RA3.out.kept (GA4.out.trans hg15))
   have RS15 := zqd (RA4.out.kept hg15)
   have HG15 := zqd (HG14.out.trans hg15)
   clear hg15 GA1 GA2 GA3 GA4 HXA HXB HXC HXD RA1 RA2 RA3 RA4 HC8 HF8 HRC8 HC11 HF11 HRC11 HX12 HRX12 HF12 HX13 HRX13 HF13 HX8 HRX8 hmE hwE hmD hwD
   have e1 : (E == E) = true := by simp
   have e2 : (D == D) = true := by simp
   go_wp2_with (with_reducible refine at_load 24 ?_; first | refine cblk_load rfl 24 _ rfl g1 rfl HP15.out Tryd.underlying24 rfl (by kernel_rfl) ?_ | refine cblk_load rfl 24 _ rfl g2 rfl HQ15.out Tryd.underlying24 rfl (by kernel_rfl) ?_)
   refine (ap_same w15 RP15.out RQ15.out MA1.out MA2.out NA1.out SA1.out).mono ?_
   rintro e w16 ⟨rfl, hg16⟩
   have HR16 := zqd (HR15.out.kept hg16)
   have HS16 := zqd (HS15.out.kept hg16)
   have RR16 := zqd (RR15.out.kept hg16)
   have RS16 := zqd (RS15.out.kept hg16)
   have HG16 := zqd (HG15.out.trans hg16)
   clear hg16
   go_wp2_with (with_reducible refine at_load 24 ?_; first | refine cblk_load rfl 24 _ rfl g3 rfl HR16.out Tryd.underlying24 rfl (by kernel_rfl) ?_ | refine cblk_load rfl 24 _ rfl g4 rfl HS16.out Tryd.underlying24 rfl (by kernel_rfl) ?_)
   refine (ap_same w16 RR16.out RS16.out MA3.out MA4.out NA3.out SA3.out).mono ?_
   rintro e w17 ⟨rfl, hg17⟩
   have HG17 := zqd (HG1.out.trans (HG16.out.trans hg17))
   clear hg17
   go_wp2_with fail
   go_ret
   exact ⟨rfl, HG17.out⟩
  ·obtain ⟨a, c, L, h1, h2, h3, h4, h5, h6, h7⟩ := HK8.out
   obtain ⟨bq, oq, s, hal, -, hcell, hok, xs, hrd⟩ := h5.at hlt
   have HC := zqd h1
   have HR := zqd h2
   have HV := zqd h3
   have HL := zqd h5
   have HD := zqd h6
   have HG := zqd h7
   have HAL := zqd hal
   have HCE := zqd hcell
   have HOK := zqd hok
   have HRD := zqd hrd
   have hlc := h1.lt
   have hlp := h6.lt
   clear h1 h2 h3 h4 h5 h6 h7 hal hcell hok hrd
   go_upto_region 9 with (fail)
   go_cut [] from 58 to 67 (fun wc => KpSt mode W w1 gC p B al nl ss wc)
   case first =>
    have hal := HAL.out
    subst hal
    have hcl : ∀ u, Gr wr u → u.cell? ⟨bq, oq + j, none⟩ = some (.slice s.a s.n s.c) := fun u hu => hu.cell HCE.out
    refine SchedT.wp_region_sched (fun _ => True) [] [] [5, 6, 7, 8, 9, 10] false (fun _ _ => trivial) (by kernel_rfl) (by kernel_rfl) ?_
    repeat (first | ((with_reducible refine Sched2.walk1_ord ?_ ?_); (focus rfl)) | ((first | ((with_reducible refine Sched2.walk1_no ?_ ?_ ?_ (fun K hK => ?_)); (focus rfl); (focus rfl); (focus rfl)) | ((with_reducible refine Sched2.walk1_gr ?_ ?_ ?_ ?_ (fun K hK => ?_)); (focus rfl); (focus rfl); (focus rfl); (focus rfl); apply Exists.intro; refine ⟨fun w1 hw1 => ?_, ?_⟩; (focus (go_simp; (try go_ints); (try (simp only [IntWalk.iteOmega]; go_simp)); first | done | (with_reducible rfl) | (with_reducible exact ⟨rfl, rfl⟩))))); simp only [Act.put, zqa, zqb, zqc]; refine hK _ ?_; clear hK K))
    (with_reducible refine Sched2.walk1_gr ?_ ?_ ?_ ?_ (fun K hK => ?_)); (focus rfl); (focus rfl); (focus rfl); (focus rfl)
    refine ⟨CVal mode W a 16 c, fun w1 hw1 => Sched2.gq_load_mid 24 _ rfl gC 0 rfl [.int .i64 mode, .int .i64 W, .slice a 16 c] _ (CBlk.rng (HC.out.kept hw1) 0 _ (fun j v hv => by rw [Nat.zero_add]; exact hv)) Tryd.underlying24 rfl (by kernel_rfl), ?_⟩
    simp only [Act.put, zqa, zqb, zqc]
    refine hK _ ?_
    clear hK K
    repeat (first | ((with_reducible refine Sched2.walk1_ord ?_ ?_); (focus rfl)) | ((first | ((with_reducible refine Sched2.walk1_no ?_ ?_ ?_ (fun K hK => ?_)); (focus rfl); (focus rfl); (focus rfl)) | ((with_reducible refine Sched2.walk1_gr ?_ ?_ ?_ ?_ (fun K hK => ?_)); (focus rfl); (focus rfl); (focus rfl); (focus rfl); apply Exists.intro; refine ⟨fun w1 hw1 => ?_, ?_⟩; (focus (go_simp; (try go_ints); (try (simp only [IntWalk.iteOmega]; go_simp)); first | done | (with_reducible rfl) | (with_reducible exact ⟨rfl, rfl⟩))))); simp only [Act.put, zqa, zqb, zqc]; refine hK _ ?_; clear hK K))
    (with_reducible refine Sched2.walk1_nil ?_)
    intro wq hwq
    dsimp only [Sched.EndN, List.nil_append, List.cons_append, Act.put, List.length_cons, List.length_nil]
    (try simp only [zqa, zqb, zqc])
    have HCq := zqd (HC.out.kept hwq)
    have HRq := zqd (HR.out.kept hwq)
    have HLq := zqd (HL.out.kept hwq)
    have HDq := zqd (HD.out.kept hwq (by simp))
    have HGq := zqd (HG.out.trans hwq)
    have HRDq := zqd (HRD.out.kept hwq)
    have hsq := hwq.size
    clear hwq hcl
    refine SchedT.node [5] (by kernel_rfl) ?_
    refine ⟨?_, trivial⟩
    refine SchedT.go _ rfl rfl rfl (fun K hK => ?_)
    go_simp
    go_at_call 14
    refine (compress_any mode W a 16 c L s.a s.n s.c xs wq HRq.out HV.out HRDq.out HOK.out.1 HOK.out.2.1 HOK.out.2.2).mono ?_
    rintro e w5 ⟨a5, c5, M5, b5, n5, k5, s5, rfl, hc5, hv5, _, _, _, hg5, hab, _⟩
    have HB5 := zqd (HCq.out.kept hg5)
    have HC5 := zqd hc5
    have HV5 := zqd hv5
    have HAW5 := zqd (hab.away (g := gC) (p := p) (by omega) (by omega))
    have HL5 := zqd (HLq.out.kept hg5)
    have HD5 := zqd (HDq.out.kept hg5 (by simp))
    have HG5 := zqd (HGq.out.trans hg5)
    clear hc5 hv5 hg5 hab
    have HFIN := zqd (show ∀ w9, CBlk gC 24 [.int .i64 mode, .int .i64 W, .slice a5 16 c5] w9 → w5.setCells gC 0 [.int .i64 mode, .int .i64 W, .slice a5 16 c5] = w9 → KpSt mode W w1 gC p B _ nl ss w9 from fun w9 hb9 he9 => by
     have hgc9 : w5.grownBy w9 (some gC) := by rw [← he9]; exact grown_setCells gC _ 0 w5
     exact ⟨a5, c5, M5, hb9, rdc_away HC5.out HAW5.out hgc9 (.inl rfl), HV5.out, HAW5.out, HL5.out.but hgc9 hgB, HD5.out.kept hgc9 (fun g e => by injection e with e; omega), gr_die HG5.out hgc9 hgw⟩)
    refine ⟨_, rfl, ?_⟩
    refine hK _ _ (.inr trivial) ?_
    clear hK K
    (try dsimp only [Act.put])
    (try simp only [List.setIfInBounds_toArray])
    (try simp only [List.set_cons_zero, List.set_cons_succ])
    refine SchedT.node [6] (by kernel_rfl) ?_
    refine ⟨?_, trivial⟩
    refine SchedT.go _ rfl rfl rfl (fun K hK => ?_)
    go_simp
    refine hK _ _ (.inr trivial) ?_
    clear hK K
    (try dsimp only [Act.put])
    (try simp only [List.setIfInBounds_toArray])
    (try simp only [List.set_cons_zero, List.set_cons_succ])
    refine SchedT.node [7, 8, 9] (by kernel_rfl) ?_
    refine ⟨?_, ?_, ?_, trivial⟩
    ·refine SchedT.go _ rfl rfl rfl (fun K hK => ?_)
     go_simp
     refine hK _ _ (.inr trivial) ?_
     clear hK K
     (try dsimp only [Act.put])
     (try simp only [List.setIfInBounds_toArray])
     (try simp only [List.set_cons_zero, List.set_cons_succ])
     refine SchedT.node [8, 9, 10] (by kernel_rfl) ?_
     refine ⟨?_, ?_, ?_, trivial⟩
     ·refine SchedT.go _ rfl rfl rfl (fun K hK => ?_)
      go_simp
      refine hK _ _ (.inr trivial) ?_
      clear hK K
      (try dsimp only [Act.put])
      (try simp only [List.setIfInBounds_toArray])
      (try simp only [List.set_cons_zero, List.set_cons_succ])
      refine SchedT.node [9, 10] (by kernel_rfl) ?_
      refine ⟨?_, ?_, trivial⟩
      ·refine SchedT.go _ rfl rfl rfl (fun K hK => ?_)
       go_simp
       refine hK _ _ (.inr trivial) ?_
       clear hK K
       (try dsimp only [Act.put])
       (try simp only [List.setIfInBounds_toArray])
       (try simp only [List.set_cons_zero, List.set_cons_succ])
       refine SchedT.node [10] (by kernel_rfl) ?_
       refine ⟨?_, trivial⟩
       refine SchedT.go _ rfl rfl rfl (fun K hK => ?_)
       refine cblk_tstore 24 _ _ rfl gC [.int .i64 mode, .int .i64 W, .slice a5 16 c5] HB5.out rfl rfl rfl (by kernel_rfl) rfl ?_
       intro w9 hb9 he9
       have HST := zqd (HFIN.out w9 hb9 he9)
       clear hb9 he9
       refine hK _ _ (.inr trivial) ?_
       clear hK K
       (try dsimp only [Act.put])
       (try simp only [List.setIfInBounds_toArray])
       (try simp only [List.set_cons_zero, List.set_cons_succ])
       refine SchedT.nil ?_
       go_wp2_with fail
       go_meet
       exact HST.out
      ·refine SchedT.go _ rfl rfl rfl (fun K hK => ?_)
       refine cblk_tstore 24 _ _ rfl gC [.int .i64 mode, .int .i64 W, .slice a5 16 c5] HB5.out rfl rfl rfl (by kernel_rfl) rfl ?_
       intro w9 hb9 he9
       have HST := zqd (HFIN.out w9 hb9 he9)
       clear hb9 he9
       refine hK _ _ (.inr trivial) ?_
       clear hK K
       (try dsimp only [Act.put])
       (try simp only [List.setIfInBounds_toArray])
       (try simp only [List.set_cons_zero, List.set_cons_succ])
       refine SchedT.node [9] (by kernel_rfl) ?_
       refine ⟨?_, trivial⟩
       refine SchedT.go _ rfl rfl rfl (fun K hK => ?_)
       go_simp
       refine hK _ _ (.inr trivial) ?_
       clear hK K
       (try dsimp only [Act.put])
       (try simp only [List.setIfInBounds_toArray])
       (try simp only [List.set_cons_zero, List.set_cons_succ])
       refine SchedT.nil ?_
       go_wp2_with fail
       go_meet
       exact HST.out
     ·refine SchedT.go _ rfl rfl rfl (fun K hK => ?_)
      go_simp
      refine hK _ _ (.inr trivial) ?_
      clear hK K
      (try dsimp only [Act.put])
      (try simp only [List.setIfInBounds_toArray])
      (try simp only [List.set_cons_zero, List.set_cons_succ])
      refine SchedT.node [8, 10] (by kernel_rfl) ?_
      refine ⟨?_, ?_, trivial⟩
      ·refine SchedT.go _ rfl rfl rfl (fun K hK => ?_)
       go_simp
       refine hK _ _ (.inr trivial) ?_
       clear hK K
       (try dsimp only [Act.put])
       (try simp only [List.setIfInBounds_toArray])
       (try simp only [List.set_cons_zero, List.set_cons_succ])
       refine SchedT.node [10] (by kernel_rfl) ?_
       refine ⟨?_, trivial⟩
       refine SchedT.go _ rfl rfl rfl (fun K hK => ?_)
       refine cblk_tstore 24 _ _ rfl gC [.int .i64 mode, .int .i64 W, .slice a5 16 c5] HB5.out rfl rfl rfl (by kernel_rfl) rfl ?_
       intro w9 hb9 he9
       have HST := zqd (HFIN.out w9 hb9 he9)
       clear hb9 he9
       refine hK _ _ (.inr trivial) ?_
       clear hK K
       (try dsimp only [Act.put])
       (try simp only [List.setIfInBounds_toArray])
       (try simp only [List.set_cons_zero, List.set_cons_succ])
       refine SchedT.nil ?_
       go_wp2_with fail
       go_meet
       exact HST.out
      ·refine SchedT.go _ rfl rfl rfl (fun K hK => ?_)
       refine cblk_tstore 24 _ _ rfl gC [.int .i64 mode, .int .i64 W, .slice a5 16 c5] HB5.out rfl rfl rfl (by kernel_rfl) rfl ?_
       intro w9 hb9 he9
       have HST := zqd (HFIN.out w9 hb9 he9)
       clear hb9 he9
       refine hK _ _ (.inr trivial) ?_
       clear hK K
       (try dsimp only [Act.put])
       (try simp only [List.setIfInBounds_toArray])
       (try simp only [List.set_cons_zero, List.set_cons_succ])
       refine SchedT.node [8] (by kernel_rfl) ?_
       refine ⟨?_, trivial⟩
       refine SchedT.go _ rfl rfl rfl (fun K hK => ?_)
       go_simp
       refine hK _ _ (.inr trivial) ?_
       clear hK K
       (try dsimp only [Act.put])
       (try simp only [List.setIfInBounds_toArray])
       (try simp only [List.set_cons_zero, List.set_cons_succ])
       refine SchedT.nil ?_
       go_wp2_with fail
       go_meet
       exact HST.out
     ·refine SchedT.go _ rfl rfl rfl (fun K hK => ?_)
      refine cblk_tstore 24 _ _ rfl gC [.int .i64 mode, .int .i64 W, .slice a5 16 c5] HB5.out rfl rfl rfl (by kernel_rfl) rfl ?_
      intro w9 hb9 he9
      have HST := zqd (HFIN.out w9 hb9 he9)
      clear hb9 he9
      refine hK _ _ (.inr trivial) ?_
      clear hK K
      (try dsimp only [Act.put])
      (try simp only [List.setIfInBounds_toArray])
      (try simp only [List.set_cons_zero, List.set_cons_succ])
      refine SchedT.node [8, 9] (by kernel_rfl) ?_
      refine ⟨?_, ?_, trivial⟩
      ·refine SchedT.go _ rfl rfl rfl (fun K hK => ?_)
       go_simp
       refine hK _ _ (.inr trivial) ?_
       clear hK K
       (try dsimp only [Act.put])
       (try simp only [List.setIfInBounds_toArray])
       (try simp only [List.set_cons_zero, List.set_cons_succ])
       refine SchedT.node [9] (by kernel_rfl) ?_
       refine ⟨?_, trivial⟩
       refine SchedT.go _ rfl rfl rfl (fun K hK => ?_)
       go_simp
       refine hK _ _ (.inr trivial) ?_
       clear hK K
       (try dsimp only [Act.put])
       (try simp only [List.setIfInBounds_toArray])
       (try simp only [List.set_cons_zero, List.set_cons_succ])
       refine SchedT.nil ?_
       go_wp2_with fail
       go_meet
       exact HST.out
      ·refine SchedT.go _ rfl rfl rfl (fun K hK => ?_)
       go_simp
       refine hK _ _ (.inr trivial) ?_
       clear hK K
       (try dsimp only [Act.put])
       (try simp only [List.setIfInBounds_toArray])
       (try simp only [List.set_cons_zero, List.set_cons_succ])
       refine SchedT.node [8] (by kernel_rfl) ?_
       refine ⟨?_, trivial⟩
       refine SchedT.go _ rfl rfl rfl (fun K hK => ?_)
       go_simp
       refine hK _ _ (.inr trivial) ?_
       clear hK K
       (try dsimp only [Act.put])
       (try simp only [List.setIfInBounds_toArray])
       (try simp only [List.set_cons_zero, List.set_cons_succ])
       refine SchedT.nil ?_
       go_wp2_with fail
       go_meet
       exact HST.out
    ·refine SchedT.go _ rfl rfl rfl (fun K hK => ?_)
     go_simp
     refine hK _ _ (.inr trivial) ?_
     clear hK K
     (try dsimp only [Act.put])
     (try simp only [List.setIfInBounds_toArray])
     (try simp only [List.set_cons_zero, List.set_cons_succ])
     refine SchedT.node [7, 9] (by kernel_rfl) ?_
     refine ⟨?_, ?_, trivial⟩
     ·refine SchedT.go _ rfl rfl rfl (fun K hK => ?_)
      go_simp
      refine hK _ _ (.inr trivial) ?_
      clear hK K
      (try dsimp only [Act.put])
      (try simp only [List.setIfInBounds_toArray])
      (try simp only [List.set_cons_zero, List.set_cons_succ])
      refine SchedT.node [9, 10] (by kernel_rfl) ?_
      refine ⟨?_, ?_, trivial⟩
      ·refine SchedT.go _ rfl rfl rfl (fun K hK => ?_)
       go_simp
       refine hK _ _ (.inr trivial) ?_
       clear hK K
       (try dsimp only [Act.put])
       (try simp only [List.setIfInBounds_toArray])
       (try simp only [List.set_cons_zero, List.set_cons_succ])
       refine SchedT.node [10] (by kernel_rfl) ?_
       refine ⟨?_, trivial⟩
       refine SchedT.go _ rfl rfl rfl (fun K hK => ?_)
       refine cblk_tstore 24 _ _ rfl gC [.int .i64 mode, .int .i64 W, .slice a5 16 c5] HB5.out rfl rfl rfl (by kernel_rfl) rfl ?_
       intro w9 hb9 he9
       have HST := zqd (HFIN.out w9 hb9 he9)
       clear hb9 he9
       refine hK _ _ (.inr trivial) ?_
       clear hK K
       (try dsimp only [Act.put])
       (try simp only [List.setIfInBounds_toArray])
       (try simp only [List.set_cons_zero, List.set_cons_succ])
       refine SchedT.nil ?_
       go_wp2_with fail
       go_meet
       exact HST.out
      ·refine SchedT.go _ rfl rfl rfl (fun K hK => ?_)
       refine cblk_tstore 24 _ _ rfl gC [.int .i64 mode, .int .i64 W, .slice a5 16 c5] HB5.out rfl rfl rfl (by kernel_rfl) rfl ?_
       intro w9 hb9 he9
       have HST := zqd (HFIN.out w9 hb9 he9)
       clear hb9 he9
       refine hK _ _ (.inr trivial) ?_
       clear hK K
       (try dsimp only [Act.put])
       (try simp only [List.setIfInBounds_toArray])
       (try simp only [List.set_cons_zero, List.set_cons_succ])
       refine SchedT.node [9] (by kernel_rfl) ?_
       refine ⟨?_, trivial⟩
       refine SchedT.go _ rfl rfl rfl (fun K hK => ?_)
       go_simp
       refine hK _ _ (.inr trivial) ?_
       clear hK K
       (try dsimp only [Act.put])
       (try simp only [List.setIfInBounds_toArray])
       (try simp only [List.set_cons_zero, List.set_cons_succ])
       refine SchedT.nil ?_
       go_wp2_with fail
       go_meet
       exact HST.out
     ·refine SchedT.go _ rfl rfl rfl (fun K hK => ?_)
      go_simp
      refine hK _ _ (.inr trivial) ?_
      clear hK K
      (try dsimp only [Act.put])
      (try simp only [List.setIfInBounds_toArray])
      (try simp only [List.set_cons_zero, List.set_cons_succ])
      refine SchedT.node [7] (by kernel_rfl) ?_
      refine ⟨?_, trivial⟩
      refine SchedT.go _ rfl rfl rfl (fun K hK => ?_)
      go_simp
      refine hK _ _ (.inr trivial) ?_
      clear hK K
      (try dsimp only [Act.put])
      (try simp only [List.setIfInBounds_toArray])
      (try simp only [List.set_cons_zero, List.set_cons_succ])
      refine SchedT.node [10] (by kernel_rfl) ?_
      refine ⟨?_, trivial⟩
      refine SchedT.go _ rfl rfl rfl (fun K hK => ?_)
      refine cblk_tstore 24 _ _ rfl gC [.int .i64 mode, .int .i64 W, .slice a5 16 c5] HB5.out rfl rfl rfl (by kernel_rfl) rfl ?_
      intro w9 hb9 he9
      have HST := zqd (HFIN.out w9 hb9 he9)
      clear hb9 he9
      refine hK _ _ (.inr trivial) ?_
      clear hK K
      (try dsimp only [Act.put])
      (try simp only [List.setIfInBounds_toArray])
      (try simp only [List.set_cons_zero, List.set_cons_succ])
      refine SchedT.nil ?_
      go_wp2_with fail
      go_meet
      exact HST.out
    ·refine SchedT.go _ rfl rfl rfl (fun K hK => ?_)
     go_simp
     refine hK _ _ (.inr trivial) ?_
     clear hK K
     (try dsimp only [Act.put])
     (try simp only [List.setIfInBounds_toArray])
     (try simp only [List.set_cons_zero, List.set_cons_succ])
     refine SchedT.node [7, 8] (by kernel_rfl) ?_
     refine ⟨?_, ?_, trivial⟩
     ·refine SchedT.go _ rfl rfl rfl (fun K hK => ?_)
      go_simp
      refine hK _ _ (.inr trivial) ?_
      clear hK K
      (try dsimp only [Act.put])
      (try simp only [List.setIfInBounds_toArray])
      (try simp only [List.set_cons_zero, List.set_cons_succ])
      refine SchedT.node [8, 10] (by kernel_rfl) ?_
      refine ⟨?_, ?_, trivial⟩
      ·refine SchedT.go _ rfl rfl rfl (fun K hK => ?_)
       go_simp
       refine hK _ _ (.inr trivial) ?_
       clear hK K
       (try dsimp only [Act.put])
       (try simp only [List.setIfInBounds_toArray])
       (try simp only [List.set_cons_zero, List.set_cons_succ])
       refine SchedT.node [10] (by kernel_rfl) ?_
       refine ⟨?_, trivial⟩
       refine SchedT.go _ rfl rfl rfl (fun K hK => ?_)
       refine cblk_tstore 24 _ _ rfl gC [.int .i64 mode, .int .i64 W, .slice a5 16 c5] HB5.out rfl rfl rfl (by kernel_rfl) rfl ?_
       intro w9 hb9 he9
       have HST := zqd (HFIN.out w9 hb9 he9)
       clear hb9 he9
       refine hK _ _ (.inr trivial) ?_
       clear hK K
       (try dsimp only [Act.put])
       (try simp only [List.setIfInBounds_toArray])
       (try simp only [List.set_cons_zero, List.set_cons_succ])
       refine SchedT.nil ?_
       go_wp2_with fail
       go_meet
       exact HST.out
      ·refine SchedT.go _ rfl rfl rfl (fun K hK => ?_)
       refine cblk_tstore 24 _ _ rfl gC [.int .i64 mode, .int .i64 W, .slice a5 16 c5] HB5.out rfl rfl rfl (by kernel_rfl) rfl ?_
       intro w9 hb9 he9
       have HST := zqd (HFIN.out w9 hb9 he9)
       clear hb9 he9
       refine hK _ _ (.inr trivial) ?_
       clear hK K
       (try dsimp only [Act.put])
       (try simp only [List.setIfInBounds_toArray])
       (try simp only [List.set_cons_zero, List.set_cons_succ])
       refine SchedT.node [8] (by kernel_rfl) ?_
       refine ⟨?_, trivial⟩
       refine SchedT.go _ rfl rfl rfl (fun K hK => ?_)
       go_simp
       refine hK _ _ (.inr trivial) ?_
       clear hK K
       (try dsimp only [Act.put])
       (try simp only [List.setIfInBounds_toArray])
       (try simp only [List.set_cons_zero, List.set_cons_succ])
       refine SchedT.nil ?_
       go_wp2_with fail
       go_meet
       exact HST.out
     ·refine SchedT.go _ rfl rfl rfl (fun K hK => ?_)
      go_simp
      refine hK _ _ (.inr trivial) ?_
      clear hK K
      (try dsimp only [Act.put])
      (try simp only [List.setIfInBounds_toArray])
      (try simp only [List.set_cons_zero, List.set_cons_succ])
      refine SchedT.node [7] (by kernel_rfl) ?_
      refine ⟨?_, trivial⟩
      refine SchedT.go _ rfl rfl rfl (fun K hK => ?_)
      go_simp
      refine hK _ _ (.inr trivial) ?_
      clear hK K
      (try dsimp only [Act.put])
      (try simp only [List.setIfInBounds_toArray])
      (try simp only [List.set_cons_zero, List.set_cons_succ])
      refine SchedT.node [10] (by kernel_rfl) ?_
      refine ⟨?_, trivial⟩
      refine SchedT.go _ rfl rfl rfl (fun K hK => ?_)
      refine cblk_tstore 24 _ _ rfl gC [.int .i64 mode, .int .i64 W, .slice a5 16 c5] HB5.out rfl rfl rfl (by kernel_rfl) rfl ?_
      intro w9 hb9 he9
      have HST := zqd (HFIN.out w9 hb9 he9)
      clear hb9 he9
      refine hK _ _ (.inr trivial) ?_
      clear hK K
      (try dsimp only [Act.put])
      (try simp only [List.setIfInBounds_toArray])
      (try simp only [List.set_cons_zero, List.set_cons_succ])
      refine SchedT.nil ?_
      go_wp2_with fail
      go_meet
      exact HST.out
   obtain ⟨w10, hw10⟩ : ∃ y, y = wc := ⟨_, rfl⟩
   rw [← hw10] at hcut ⊢
   have HK10 := zqd hcut
   clear hw10 hcut wc HK8 HC HR HV HL HD HG HAL HCE HOK HRD
   go_wp2_with fail
   refine (one_any p 4 w10 (kp_die HK10.out) (by omega) (by omega)).mono ?_
   rintro e w11 ⟨b3, rfl, hd11, hg11⟩
   have HK11 := zqd (HK10.out.dice hd11 hg11 hpB hpw hgp)
   clear hd11 hg11 HK10
   cases b3
   ·go_wp2_with fail
    go_roundw
    case rel => exact ⟨j + 1, by omega, by go_num, HK11.out⟩
    case measure => (simp [intOf] <;> omega)
   go_wp2_with fail
   refine (next_any p 3 w11 (kp_die (HK11).out) (by omega) (by omega)).mono ?_
   rintro e w12 ⟨f1, rfl, hv0, hv1, hdd, hgg⟩
   have HK12 := zqd ((HK11).out.dice hdd hgg hpB hpw hgp)
   clear hgg hdd
   go_wp2_with fail
   refine (next_any p 3 w12 (kp_die (HK12).out) (by omega) (by omega)).mono ?_
   rintro e w13 ⟨f2, rfl, hv0, hv1, hdd, hgg⟩
   have HK13 := zqd ((HK12).out.dice hdd hgg hpB hpw hgp)
   clear hgg hdd
   obtain ⟨k1, rfl⟩ : ∃ k1 : Nat, f1 = k1 := ⟨f1.toNat, by omega⟩
   have hs13 := (kp_die HK13.out).lt
   have hc13 : gC < w13.heap.size := by obtain ⟨_, _, _, h1, _⟩ := HK13.out; exact h1.lt
   obtain ⟨wz, hwz⟩ : ∃ y, y = (w13).alloc (.cells #[.int .i64 0, .int .i64 0, .int .i64 0] 26) := ⟨_, rfl⟩
   have HZZ := zqd (show CBlk (w13).heap.size 26 [.int .i64 0, .int .i64 0, .int .i64 0] wz by rw [hwz]; exact CBlk.new _ _ _)
   have HGZ := zqd (show Gr (w13) wz by rw [hwz]; exact Gr.alloc _ _)
   go_upto_region 12 with (first | rw [← hwz]; refine cblk_store rfl 26 _ _ rfl (w13).heap.size [.int .i64 (k1 : Int), .int .i64 f2, .int .i64 0] HZZ.out rfl rfl rfl (by kernel_rfl) rfl ?_; intro w14 hb9 he9; have HF14 := zqd hb9; have HE14 := zqd (show Gr (w13) w14 by rw [← he9]; exact gr_setCells HGZ.out (Nat.le_refl _) _ _); clear hb9 he9)
   obtain ⟨gF, hgg⟩ : ∃ g, (w13).heap.size = g := ⟨_, rfl⟩
   rw [hgg] at HF14
   rw [hgg]
   have HSZgF := zqd hgg
   clear hwz HZZ HGZ hgg
   have HK14 := zqd (show KpLo mode W w1 gC p B al nl ss gF w14 by rw [← HSZgF.out]; exact HK13.out.lo.gr HE14.out)
   have hpF : p < gF := by have := HSZgF.out; omega
   have hgF : gC < gF := by have := HSZgF.out; omega
   clear HK11 HK12 HK13 HE14
   obtain ⟨a, c, L, ⟨h1, h2, h3, h4, h5, h6, h7⟩, -⟩ := HK14.out
   obtain ⟨bm, om, ham, -, hrow⟩ := h2.row (by omega)
   obtain ⟨s, hs, hrs⟩ := h2.get (i := k1) (by omega)
   have HRS := zqd hrs
   have HAS := zqd (h4.2 s (List.mem_of_getElem? hs))
   have HRG := zqd (hrow k1 s hs)
   have z2 : w14.cell? ⟨gC, 2, none⟩ = some (.slice (some ⟨bm, om, none⟩) 16 c) := by rw [← ham]; exact h1.at 2 rfl
   have z3 : w14.cell? ⟨gF, 0, none⟩ = some (.int .i64 (k1 : Int)) := HF14.out.at 0 rfl
   have hlF := HF14.out.lt
   have hk16 : k1 < 16 := by omega
   have hc16 : 16 ≤ c := h2.2.1
   clear h1 h2 h3 h4 h5 h6 h7 ham hrow hs hrs
   obtain ⟨wz, hwz⟩ : ∃ y, y = w14.alloc (.cells #[.bool false, .int .i64 0, .int .i64 0, .int .i64 0, .int .i64 0, .int .i64 0, .int .i64 0, .int .i64 0, .slice none 0 0] 46) := ⟨_, rfl⟩
   have HZZ := zqd (show CBlk w14.heap.size 46 [.bool false, .int .i64 0, .int .i64 0, .int .i64 0, .int .i64 0, .int .i64 0, .int .i64 0, .int .i64 0, .slice none 0 0] wz by rw [hwz]; exact CBlk.new _ _ _)
   have HGZ := zqd (show Gr w14 wz by rw [hwz]; exact Gr.alloc _ _)
   go_upto_region 13 with (first | (with_reducible refine at_load 46 ?_; refine rng_load rfl 46 _ rfl bm (om + k1 * 9) rfl (SCells s) HRG.out Tryd.underlying46 rfl (by kernel_rfl) ?_) | (with_reducible refine at_store 46 ?_; rw [← hwz]; refine cblk_store rfl 46 _ _ rfl w14.heap.size (SCells s) HZZ.out rfl rfl rfl (by kernel_rfl) rfl ?_; intro w15 hb9 he9; have HS15 := zqd hb9; have HE15 := zqd (show Gr w14 w15 by rw [← he9]; exact gr_setCells HGZ.out (Nat.le_refl _) _ _); clear hb9 he9))
   obtain ⟨gS, hgS⟩ : ∃ g, w14.heap.size = g := ⟨_, rfl⟩
   rw [hgS] at HS15
   rw [hgS]
   have HK15 := zqd (HK14.out.gr HE15.out)
   have HF15 := zqd (HF14.out.kept HE15.out)
   have HRS15 := zqd (HRS.out.kept HE15.out)
   have hFS : gF < gS := by omega
   have y8 : w15.cell? ⟨gS, 8, none⟩ = some (.slice s.a s.n s.c) := HS15.out.at 8 rfl
   clear hwz HZZ HGZ hgS HK14 HF14 HRS HRG HE15 z2 z3 hlF
   obtain ⟨Bn, hBn⟩ : ∃ Bn, decide (0 < s.n) = Bn := ⟨_, rfl⟩
   have HBN := zqd hBn
   go_upto_if 84 with (fail)
   go_cut [] from 85 to 95 (fun wc => ApRel mode W w1 gC p B al nl ss gF k1 f2 wc)
   case first =>
    clear hBn
    cases Bn
    ·go_wp2_with fail
     go_meet
     exact ⟨0, HF15.out, HK15.out.st⟩
    ·have hsn : 0 < s.n := by have := of_decide_eq_true HBN.out; omega
     have hsm : s.n ≤ 9223372036854775807 := by have := HRS15.out.2.2.1; have := HRS15.out.2.1; simp only [maxLen] at *; omega
     have hsc : s.n ≤ s.c := HRS15.out.2.1
     obtain ⟨b1, o1, e1, -, r1⟩ := HRS15.out.row hsn
     have HE1 := zqd e1
     have hb1 := (HAS.out b1 o1 e1).2
     clear r1 y8 e1
     go_upto_region 14 with (fail)
     have y8 : ∀ u, Gr w15 u → u.cell? ⟨gS, 8, none⟩ = some (.slice (some ⟨b1, o1, none⟩) s.n s.c) := fun u hu => by rw [← HE1.out]; exact (HS15.out.kept hu).at 8 rfl
     have HY8 := zqd y8
     refine SchedT.wp_region_sched (fun u => u.cell? ⟨gS, 8, none⟩ = some (.slice (some ⟨b1, o1, none⟩) s.n s.c)) [0, 1] [] [6, 7, 8, 9, 10, 11] false HY8.out (by kernel_rfl) (by kernel_rfl) ?_
     repeat (first | ((with_reducible refine Sched2.walk1_ord ?_ ?_); (focus rfl)) | ((first | ((with_reducible refine Sched2.walk1_no ?_ ?_ ?_ (fun K hK => ?_)); (focus rfl); (focus rfl); (focus rfl)) | ((with_reducible refine Sched2.walk1_gr ?_ ?_ ?_ ?_ (fun K hK => ?_)); (focus rfl); (focus rfl); (focus rfl); (focus rfl); apply Exists.intro; refine ⟨fun w1 hw1 => ?_, ?_⟩; (focus (go_simp; (try go_ints); (try (simp only [IntWalk.iteOmega]; go_simp)); first | done | (exact hw1) | (with_reducible rfl) | (with_reducible exact ⟨rfl, rfl⟩)))) | ((with_reducible refine Sched2.walk1_late ?_ ?_ ?_ ?_ (fun K hK => ?_)); (focus rfl); (focus rfl); (focus rfl); (focus rfl); apply Exists.intro; refine ⟨fun w1 hw1 => ?_, ?_⟩; (focus (go_simp; (try go_ints); (try (simp only [IntWalk.iteOmega]; go_simp)); first | done | (exact hw1) | (with_reducible rfl) | (with_reducible exact ⟨rfl, rfl⟩))))); simp only [Act.put, zqa, zqb, zqc]; refine hK _ ?_; clear hK K))
     (with_reducible refine Sched2.walk1_nil ?_)
     intro wq hwq
     dsimp only [Sched.EndN, List.nil_append, List.cons_append, Act.put, List.length_cons, List.length_nil]
     (try simp only [zqa, zqb, zqc])
     have HSq := zqd (HS15.out.kept hwq)
     have HFq := zqd (HF15.out.kept hwq)
     have HRq := zqd (HRS15.out.kept hwq)
     have HKq := zqd (HK15.out.gr hwq)
     have hlq := HSq.out.lt
     clear hwq y8
     refine SchedT.node [6] (by kernel_rfl) ?_
     refine ⟨?_, trivial⟩
     refine SchedT.go _ rfl rfl rfl (fun K hK => ?_)
     go_simp
     go_at_call 11
     refine (next_any p s.n wq (kp_die HKq.out.st) (by omega) (by omega)).mono ?_
     rintro e w5 ⟨x, rfl, x0, x1, hd5, hg5⟩
     obtain ⟨k, rfl⟩ : ∃ k : Nat, x = k := ⟨x.toNat, by omega⟩
     have HS5 := zqd (HSq.out.but hg5 (by intro e; injection e with e; omega))
     have HF5 := zqd (HFq.out.but hg5 (by intro e; injection e with e; omega))
     have HK5 := zqd (HKq.out.dice hd5 hg5 hpB hpw hgp)
     have HR5 := zqd (rdh_but HRq.out hg5 (fun b off e => by rw [HE1.out] at e; injection e with e; injection e with e; intro e2; injection e2 with e2; omega))
     have hk : k < s.n := by omega
     have I5 : w5.cell? ⟨gS, 8, none⟩ = some (.slice (some ⟨b1, o1, none⟩) s.n s.c) := by rw [← HE1.out]; exact HS5.out.at 8 rfl
     have HI5 := zqd I5
     clear hd5 hg5 x0 x1 I5
     refine ⟨_, rfl, ?_⟩
     refine hK _ _ (.inr HI5.out) ?_
     clear hK K
     (try dsimp only [Act.put])
     (try simp only [List.setIfInBounds_toArray])
     (try simp only [List.set_cons_zero, List.set_cons_succ])
     refine SchedT.node [7] (by kernel_rfl) ?_
     refine ⟨?_, trivial⟩
     refine SchedT.go _ rfl rfl rfl (fun K hK => ?_)
     go_simp
     refine hK _ _ (.inr HI5.out) ?_
     clear hK K
     (try dsimp only [Act.put])
     (try simp only [List.setIfInBounds_toArray])
     (try simp only [List.set_cons_zero, List.set_cons_succ])
     obtain ⟨h, hh, -⟩ := HR5.out.get hk
     have hrg : w5.rangeAt b1 (o1 + k * 15) (HCells h) := by
      obtain ⟨b2, o2, e2, -, r2⟩ := HR5.out.row hsn
      rw [HE1.out] at e2
      injection e2 with e2
      injection e2 with e2 e3
      subst e2 e3
      exact r2 k h hh
     have HRG := zqd hrg
     clear hh hrg
     refine SchedT.node [8] (by kernel_rfl) ?_
     refine ⟨?_, trivial⟩
     refine SchedT.go _ rfl rfl rfl (fun K hK => ?_)
     refine rng_tload HRG.out 49 _ rfl rfl Tryd.underlying49 rfl (by kernel_rfl) ?_
     refine hK _ _ (.inr HI5.out) ?_
     clear hK K
     (try dsimp only [Act.put])
     (try simp only [List.setIfInBounds_toArray])
     (try simp only [List.set_cons_zero, List.set_cons_succ])
     refine SchedT.node [9] (by kernel_rfl) ?_
     refine ⟨?_, trivial⟩
     refine SchedT.go _ rfl rfl rfl (fun K hK => ?_)
     go_simp
     go_at_call 15
     refine (rnum_any h w5).mono ?_
     obtain ⟨y, hy⟩ : ∃ y, numH h = y := ⟨_, rfl⟩
     rw [hy]
     rintro e w6 ⟨rfl, hg6⟩
     have HS6 := zqd (HS5.out.kept hg6)
     have HF6 := zqd (HF5.out.kept hg6)
     have HK6 := zqd (HK5.out.gr hg6)
     have I6 : w6.cell? ⟨gS, 8, none⟩ = some (.slice (some ⟨b1, o1, none⟩) s.n s.c) := by rw [← HE1.out]; exact HS6.out.at 8 rfl
     have HI6 := zqd I6
     clear hy hg6 I6
     refine ⟨_, rfl, ?_⟩
     refine hK _ _ (.inr HI6.out) ?_
     clear hK K
     (try dsimp only [Act.put])
     (try simp only [List.setIfInBounds_toArray])
     (try simp only [List.set_cons_zero, List.set_cons_succ])
     refine SchedT.node [10] (by kernel_rfl) ?_
     refine ⟨?_, trivial⟩
     refine SchedT.go _ rfl rfl rfl (fun K hK => ?_)
     go_simp
     refine hK _ _ (.inr HI6.out) ?_
     clear hK K
     (try dsimp only [Act.put])
     (try simp only [List.setIfInBounds_toArray])
     (try simp only [List.set_cons_zero, List.set_cons_succ])
     refine SchedT.node [11] (by kernel_rfl) ?_
     refine ⟨?_, trivial⟩
     refine SchedT.go _ rfl rfl rfl (fun K hK => ?_)
     have f2c := HF6.out.at 2 rfl
     have f2z := HF6.out.fz 2
     go_simp
     obtain ⟨w9, hw9⟩ : ∃ y9, y9 = w6.setCell ⟨gF, 2, none⟩ (.int .i64 y) := ⟨_, rfl⟩
     first | rw [← hw9] | (go_show; fail)
     have HF9 := zqd (show CBlk gF 26 [.int .i64 (k1 : Int), .int .i64 f2, .int .i64 y] w9 by rw [hw9]; exact HF6.out.set 2 _ rfl)
     have hg9 : w6.grownBy w9 (some gF) := by rw [hw9]; exact grown_setAt _ _ _ _
     have HS9 := zqd (HS6.out.but hg9 (by intro e; injection e with e; omega))
     have HK9 := zqd (HK6.out.own hg9 (by omega) (by omega) (by omega))
     have HI9 := zqd (show w9.cell? ⟨gS, 8, none⟩ = some (.slice (some ⟨b1, o1, none⟩) s.n s.c) by rw [← HE1.out]; exact HS9.out.at 8 rfl)
     clear hw9 hg9 f2c f2z
     refine hK _ _ (.inr HI9.out) ?_
     clear hK K
     (try dsimp only [Act.put])
     (try simp only [List.setIfInBounds_toArray])
     (try simp only [List.set_cons_zero, List.set_cons_succ])
     refine SchedT.nil ?_
     go_wp2_with fail
     go_meet
     exact ⟨y, HF9.out, HK9.out⟩
   have hcut2 := hcut
   clear hcut hBn
   obtain ⟨fn2, hF, a, c, L, h1, h2, h3, h4, h5, h6, h7⟩ := hcut2
   obtain ⟨w20, hw20⟩ : ∃ y, y = wc := ⟨_, rfl⟩
   rw [← hw20] at hF h1 h2 h5 h6 h7 ⊢
   have HF20 := zqd hF
   have HX20 := zqd h1
   have HRX20 := zqd h2
   have HV := zqd h3
   have HK20 := zqd (show KpSt mode W w1 gC p B al nl ss w20 from ⟨a, c, L, h1, h2, h3, h4, h5, h6, h7⟩)
   have HA20 := zqd h4
   have hlc := h1.lt
   have hlp := h6.lt
   clear hw20 hF h1 h2 h3 h4 h5 h6 h7 wc HK15 HF15 HRS15 HS15 HAS HBN hFS
   obtain ⟨E, hE⟩ : ∃ E, apE mode W L k1 f2 fn2 = E := ⟨_, rfl⟩
   obtain ⟨PL, hPL⟩ : ∃ E, apL mode W L k1 f2 fn2 = E := ⟨_, rfl⟩
   have HE := zqd hE
   have HPL := zqd hPL
   clear hE hPL
   obtain ⟨mE, hmE⟩ : ∃ x, apM E mode = x := ⟨_, rfl⟩
   obtain ⟨wE, hwE⟩ : ∃ x, apM E W = x := ⟨_, rfl⟩
   go_wp2_with (first | (with_reducible refine at_load 24 ?_; refine cblk_load rfl 24 _ rfl gC rfl (HX20).out Tryd.underlying24 rfl (by kernel_rfl) ?_) | (with_reducible refine at_load 26 ?_; refine cblk_load rfl 26 _ rfl gF rfl (HF20).out Tryd.underlying26 rfl (by kernel_rfl) ?_))
   refine (ap1_any HE.out HPL.out w20 HRX20.out).mono ?_
   rintro e u1 ⟨pa, pn, pc, PM, rfl, hr1, hm1, hn1, hs1, hab1, h161, hg1⟩
   obtain ⟨wz, hwz⟩ : ∃ y, y = (u1).alloc (.cells #[.int .i64 0, .int .i64 0, .slice none 0 0] 24) := ⟨_, rfl⟩
   have HZZ := zqd (show CBlk (u1).heap.size 24 [.int .i64 0, .int .i64 0, .slice none 0 0] wz by rw [hwz]; exact CBlk.new _ _ _)
   have HGZ := zqd (show Gr (u1) wz by rw [hwz]; exact Gr.alloc _ _)
   have HG0 := zqd hg1
   have HR0 := zqd hr1
   have MA1 := zqd hm1
   have NA1 := zqd hn1
   have SA1 := zqd hs1
   have BA1 := zqd hab1
   have XA1 := zqd h161
   clear hg1 hr1 hm1 hn1 hs1 hab1 h161
   go_upto_region 16 with (with_reducible refine at_store 24 ?_; rw [← hwz]; refine cblk_store rfl 24 _ _ rfl (u1).heap.size [.int .i64 _, .int .i64 _, .slice pa pn pc] HZZ.out rfl rfl rfl (by kernel_rfl) rfl ?_; intro w21 hb9 he9; have HXP := zqd hb9; have HE0 := zqd (show Gr (u1) w21 by rw [← he9]; exact gr_setCells HGZ.out (Nat.le_refl _) _ _); clear hb9 he9)
   obtain ⟨gP, hgX⟩ : ∃ g, (u1).heap.size = g := ⟨_, rfl⟩
   rw [hgX] at HXP
   rw [hgX]
   have GA1 := zqd (HG0.out.trans HE0.out)
   have RA1 := zqd (HR0.out.kept HE0.out)
   clear hwz HZZ HGZ hgX HG0 HR0 HE0
   have HX21 := zqd (HX20.out.kept GA1.out)
   have HF21 := zqd (HF20.out.kept GA1.out)
   have HRX21 := zqd (HRX20.out.kept GA1.out)
   have hlc21 := HX21.out.lt
   have hlp21 : p < w21.heap.size := by have := GA1.out.size; omega
   clear HX20 HF20
   go_wp2_with (first | (with_reducible refine at_load 24 ?_; refine cblk_load rfl 24 _ rfl gC rfl (HX21).out Tryd.underlying24 rfl (by kernel_rfl) ?_) | (with_reducible refine at_load 26 ?_; refine cblk_load rfl 26 _ rfl gF rfl (HF21).out Tryd.underlying26 rfl (by kernel_rfl) ?_))
   refine (ap2_any HE.out HPL.out w21 HRX21.out).mono ?_
   rintro e u2 ⟨qa, qn, qc, QM, rfl, hr1, hm1, hn1, hs1, hab1, h161, hg1⟩
   obtain ⟨wz, hwz⟩ : ∃ y, y = (u2).alloc (.cells #[.int .i64 0, .int .i64 0, .slice none 0 0] 24) := ⟨_, rfl⟩
   have HZZ := zqd (show CBlk (u2).heap.size 24 [.int .i64 0, .int .i64 0, .slice none 0 0] wz by rw [hwz]; exact CBlk.new _ _ _)
   have HGZ := zqd (show Gr (u2) wz by rw [hwz]; exact Gr.alloc _ _)
   have HG0 := zqd hg1
   have HR0 := zqd hr1
   have MA2 := zqd hm1
   have NA2 := zqd hn1
   have SA2 := zqd hs1
   have BA2 := zqd hab1
   have XA2 := zqd h161
   clear hg1 hr1 hm1 hn1 hs1 hab1 h161
   go_upto_region 17 with (with_reducible refine at_store 24 ?_; rw [← hwz]; refine cblk_store rfl 24 _ _ rfl (u2).heap.size [.int .i64 _, .int .i64 _, .slice qa qn qc] HZZ.out rfl rfl rfl (by kernel_rfl) rfl ?_; intro w22 hb9 he9; have HXQ := zqd hb9; have HE0 := zqd (show Gr (u2) w22 by rw [← he9]; exact gr_setCells HGZ.out (Nat.le_refl _) _ _); clear hb9 he9)
   obtain ⟨gQ, hgX⟩ : ∃ g, (u2).heap.size = g := ⟨_, rfl⟩
   rw [hgX] at HXQ
   rw [hgX]
   have GA2 := zqd (HG0.out.trans HE0.out)
   have RA2 := zqd (HR0.out.kept HE0.out)
   clear hwz HZZ HGZ hgX HG0 HR0 HE0
   have HXP22 := zqd (HXP.out.kept GA2.out)
   have HRP22 := zqd (RA1.out.kept GA2.out)
   have HX22 := zqd (HX21.out.kept GA2.out)
   have HK22 := zqd (HK20.out.gr (GA1.out.trans GA2.out))
   have HAQ := zqd (BA2.out.away (g := gC) (p := p) hlc21 hlp21)
   clear HX21 HF21 HRX21 HXP RA1 HK20 GA1 GA2 BA1 BA2
   have HM := zqd (And.intro hmE hwE)
   clear hmE hwE
   have e1 : (E != E) = false := by simp
   go_wp2_with (with_reducible refine at_load 24 ?_; first | refine cblk_load rfl 24 _ rfl gP rfl HXP22.out Tryd.underlying24 rfl (by kernel_rfl) ?_ | refine cblk_load rfl 24 _ rfl gQ rfl HXQ.out Tryd.underlying24 rfl (by kernel_rfl) ?_)
   refine (ap_same w22 HRP22.out RA2.out MA1.out MA2.out NA1.out SA1.out).mono ?_
   rintro e w23 ⟨rfl, hg23⟩
   have HX23 := zqd (HX22.out.kept hg23)
   have HXQ23 := zqd (HXQ.out.kept hg23)
   have HRQ23 := zqd (RA2.out.kept hg23)
   have HK23 := zqd (HK22.out.gr hg23)
   clear hg23 e1 HXP22 HRP22 HX22 HK22 HXQ RA2
   by_cases hE0 : E = 0
   ·have heb : (E == 0) = true := by simpa using hE0
    obtain rfl : qn = 16 := XA2.out hE0
    have hmm := HM.out
    rw [apM, apM, if_pos hE0, if_pos hE0] at hmm
    have HXR := zqd (show CBlk gQ 24 [.int .i64 mode, .int .i64 W, .slice qa 16 qc] w23 by have := HXQ23.out; rw [← hmm.1, ← hmm.2] at this; exact this)
    have HVQ := zqd (apL_ok HV.out (HE.out.trans hE0) (by have := MA2.out; rw [if_pos hE0] at this; rw [this, HPL.out]))
    clear hE0 hmm HXQ23
    go_wp2_with (first | (with_reducible refine at_load 24 ?_; refine cblk_load rfl 24 _ rfl gQ rfl HXR.out Tryd.underlying24 rfl (by kernel_rfl) ?_) | (with_reducible refine at_store 24 ?_; refine cblk_store rfl 24 _ _ rfl gC [.int .i64 mode, .int .i64 W, .slice qa 16 qc] HX23.out rfl rfl rfl (by kernel_rfl) rfl ?_; intro w24 hb9 he9; have HX24 := zqd hb9; have HE24 := zqd (show w23.grownBy w24 (some gC) by rw [← he9]; exact grown_setCells gC _ 0 w23); clear hb9 he9))
    have HK24 := zqd (show KpSt mode W w1 gC p B al nl ss w24 by
     obtain ⟨a9, c9, L9, h1, h2, h3, h4, h5, h6, h7⟩ := HK23.out
     exact ⟨qa, qc, QM, HX24.out, rdc_away HRQ23.out HAQ.out HE24.out (.inl rfl), HVQ.out, HAQ.out, h5.but HE24.out hgB, h6.kept HE24.out (fun g e => by injection e with e; omega), gr_die h7 HE24.out hgw⟩)
    go_roundw
    case rel => exact ⟨j + 1, by omega, by go_num, HK24.out⟩
    case measure => (simp [intOf] <;> omega)
   ·have heb : (E == 0) = false := by simpa using hE0
    clear hE0
    go_wp2_with fail
    go_roundw
    case rel => exact ⟨j + 1, by omega, by go_num, HK23.out⟩
    case measure => (simp [intOf] <;> omega)
theorem applies_fit (mo wi : Int) (a0 : Option Addr) (n0 c0 : Nat) (L1 : List Snd) (fc fk fn : Int) (t : Option Addr) (tl tc : Nat) (ts : List Int) (w : World) (hlaid : LaidIn w) (hr : RdC w a0 n0 c0 L1) (ht : Rd .i64 w t tl ts) (_htc : tl ≤ tc) (_htl : tl * 8 ≤ 140737488351232) :
  Calls Tryd.prog 3 #[CVal mo wi a0 n0 c0, FVal fc fk fn, .slice t tl tc] w fun e w' => e = .returned (.bool true) ∧ Below w.heap.size w w' :=
 (applies_walk mo wi a0 n0 c0 L1 fc fk fn t tl tc ts w hlaid hr ht).mono fun _ _ ⟨he, hg⟩ => ⟨he, Below.of_none hg⟩
end Go.Proofs.YtlnkofpcidngoaaDoor