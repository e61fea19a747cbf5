/- Layer 8 (format), the reference: Encode of a packet in parts that is valid. -/
import Derived.Test.YtlnkofpcidngoaaDoorA0
import Derived.Test.YtlnkofpcidngoaaDoorA18
import Derived.Test.YtlnkofpcidngoaaDoorA23
import Derived.Test.YtlnkofpcidngoaaDoorA24
import Derived.Deep.CutRange
namespace Go.Proofs.YtlnkofpcidngoaaDoor
open Go.ChangeShapes Go.WideShapes Go.ChangeAt Go.RowKit
theorem big_is {f : Int} {B : Bool} (h : (decide (f = 4) || decide (f = 5)) = B) (w : World) : Calls Tryd.prog 66 #[.int .i64 f] w fun e w' => e = .returned (.bool B) ∧ w = w' := h ▸ big_any f w
theorem in_rng {n m : Int} (h : inB n m = true) : 0 ≤ n ∧ n ≤ m := inB_yes h
def Enc8Post (w : World) (e : Ending) (w' : World) : Prop := ∃ a n cap xs, e = .returned (.tuple #[.slice a n cap, .int .i64 0]) ∧ 1 ≤ n ∧ n ≤ 1570 ∧ OwnI w.heap.size 5 .u8 w' a n cap xs ∧ Gr w w'
theorem fld1 {s : Sml} (h : FldOk s) (hf : s.fmt = 1) : (0 ≤ s.num ∧ s.num ≤ 15) ∧ (0 ≤ s.chk ∧ s.chk ≤ 7) := by
 have hn := h.num
 have hc := h.chk
 rw [hf] at hn hc
 exact ⟨in_rng hn, in_rng hc⟩
theorem fld2 {s : Sml} (h : FldOk s) (hf : s.fmt = 2) : (0 ≤ s.num ∧ s.num ≤ 31) ∧ (0 ≤ s.chk ∧ s.chk ≤ 127) ∧ (0 ≤ s.mar ∧ s.mar ≤ 1) := by
 have hn := h.num
 have hc := h.chk
 have hm := h.mar
 rw [hf] at hn hc hm
 refine ⟨in_rng hn, in_rng hc, ?_⟩
 have := in_rng hm
 have h2 : limM 2 s.hd.kind ≤ 1 := by unfold limM; split <;> simp
 omega
theorem fld3 {s : Sml} (h : FldOk s) (hf : s.fmt = 3) : (0 ≤ s.chk ∧ s.chk ≤ 255) ∧ (0 ≤ s.mar ∧ s.mar ≤ 1) := by
 have hc := h.chk
 have hm := h.mar
 rw [hf] at hc hm
 refine ⟨in_rng hc, ?_⟩
 have := in_rng hm
 have h2 : limM 3 s.hd.kind ≤ 1 := by unfold limM; split <;> simp
 omega
set_option maxRecDepth 100000 in
set_option maxHeartbeats 8000000 in
theorem enc8_yes (s : Sml) (ys : List Int) (w : World) (hs : SmlOk s) (hr : Rd .u8 w s.a s.n ys) : Calls Tryd.prog 41 #[MVal s] w (Enc8Post w) := by
 have HS := zqd hs
 have HR := zqd hr
 have hp := hs.pay
 clear hs hr
 go_enter Tryd.func41, Tryd.ntmps41
 go_upto_region 1 with (fail)
 obtain ⟨w1, hw1⟩ : ∃ y, y = w.alloc (.cells (MCells s).toArray 85) := ⟨_, rfl⟩
 have HB1 := zqd (show CBlk w.heap.size 85 (MCells s) w1 by rw [hw1]; exact CBlk.new _ _ _)
 have HG1 := zqd (show Gr w w1 by rw [hw1]; exact Gr.alloc _ _)
 simp only [MCells] at hw1
 rw [← hw1]
 clear hw1
 go_wp2_with (refine cblk_load rfl 85 _ rfl w.heap.size rfl HB1.out Tryd.underlying85 rfl (by kernel_rfl) ?_)
 refine (svalid_yes s w1 HS.out).mono ?_
 rintro e w2 ⟨rfl, hg2⟩
 have H2 := zqd (Buf.one (HB1.out.kept hg2) (HG1.out.trans hg2))
 clear hg2 HB1 HG1
 have c0 := H2.out.at 0 rfl 0 rfl
 obtain ⟨x1, x2⟩ := in_rng HS.out.ctx
 obtain ⟨C, hC⟩ : ∃ C, decide (0 < s.ctx) = C := ⟨_, rfl⟩
 have HCC := zqd hC
 go_upto_if 12 with (fail)
 clear hC
 go_cut [4] from 13 (fun v wc => EBuf w [(w.heap.size, 85, MCells s)] 0 1 v wc)
 case first =>
  cases C
  rotate_left
  ·have hc : 0 < s.ctx := of_decide_eq_true HCC.out
   obtain ⟨a3, c3, w3, hrun, hrl⟩ := (H2).out.lit [224 + s.ctx] 1 1 rfl rfl (by intro z hz; simp only [List.mem_cons, List.not_mem_nil, or_false] at hz; (subst hz; omega)) (by omega) (by omega)
   simp only [List.map_cons, List.map_nil] at hrun
   have HRL := zqd hrun
   have H3 := zqd hrl
   clear hrun hrl
   go_wp2_with (at_builtin; refine wpList_app rfl _ _ _ rfl rfl rfl HRL.out ?_)
   clear HRL
   go_meet
   exact ⟨a3, 1, c3, _, rfl, by omega, by omega, H3.out⟩
  ·go_wp2_with fail
   go_meet
   exact ⟨none, 0, 0, _, rfl, by omega, by omega, H2.out⟩
 case rest =>
  obtain ⟨a, n, cap, xs, rfl, hn0, hn1, hb⟩ := hcut
  have H := zqd hb
  clear c0 H2 hb x1 x2
  have c1 := H.out.at 0 rfl 1 rfl
  have c7 := H.out.at 0 rfl 7 rfl
  obtain ⟨K, hK⟩ : ∃ K, (s.hd.kind == 2) = K := ⟨_, rfl⟩
  have HKK := zqd hK
  go_upto_region 9 with (fail)
  clear hK c7 c1
  have hcc : ∀ u, CBlk w.heap.size 85 (MCells s) u → u.cell? ⟨w.heap.size, 24, none⟩ = some (.int .i64 s.chk) := fun u hu => hu.at 24 rfl
  have HCK := zqd hcc
  clear hcc
  have c2 := H.out.at 0 rfl 2 rfl
  have c4 := H.out.at 0 rfl 4 rfl
  have c24 := H.out.at 0 rfl 24 rfl
  rcases HS.out.way with hF | hB | hR
  ·have hf4 : s.fmt < 4 := by have := hF.fmt; omega
   have HF := zqd hF
   rcases hF.fmt with hf | hf | hf
   ·obtain ⟨⟨n1, n2⟩, ⟨k1, k2⟩⟩ := fld1 hF hf
    have e1 : (s.fmt == 1) = true := by rw [hf]; rfl
    clear hF hf
    obtain ⟨a3, c3, w3, hrun, hrl⟩ := (H).out.lit [8 * s.num + s.chk] 1 (n + 1) rfl rfl (by intro z hz; simp only [List.mem_cons, List.not_mem_nil, or_false] at hz; (subst hz; omega)) (by omega) (by omega)
    simp only [List.map_cons, List.map_nil] at hrun
    have HRL := zqd hrun
    have H3 := zqd hrl
    clear hrun hrl
    go_upto_region 32 with (at_builtin; refine wpList_app rfl _ _ _ rfl rfl rfl HRL.out ?_)
    clear HRL
    have p6 := (H3).out.at 0 rfl 6 rfl
    have p1 := (H3).out.at 0 rfl 1 rfl
    have hbg : (decide (s.fmt = 4) || decide (s.fmt = 5)) = false := by simp; omega
    have HBG := zqd hbg
    clear hbg
    by_cases hu : s.udp = 0
    ·have hub : (s.udp != 0) = false := by simpa using hu
     clear hu
     go_upto_region 36 with (go_at_call 66; ((with_reducible refine (big_is HBG.out _).mono ?_)); rintro e w' ⟨rfl, rfl⟩)
     clear p6 p1 hub
     have c25 := (H3).out.at 0 rfl 25 rfl
     obtain ⟨az, cz, wz, hrunz, hbz⟩ := (H3).out.app s.a s.n s.c ys (n + 1 + s.n) rfl (HR.out.kept (H3).out.gr0) (by omega)
     have HRZ := zqd hrunz
     have HZZ := zqd hbz
     clear hrunz hbz
     go_wp2_with (at_builtin; refine wpList_app rfl _ _ _ rfl rfl rfl HRZ.out ?_)
     go_ret2
     exact ⟨az, _, cz, _, rfl, by omega, by omega, HZZ.out.own, HZZ.out.gr0⟩
    ·have hub : (s.udp != 0) = true := by simpa using hu
     clear hu
     go_wp2_with fail
     refine ((H3).out.put 2 2 (n + 1 + 2) _ rfl rfl (by omega) (by omega)).mono ?_
     rintro e wu ⟨au, cu, rfl, hru⟩
     have HU := zqd hru
     clear hru p6 p1 hub
     have p1 := HU.out.at 0 rfl 1 rfl
     go_upto_region 36 with (go_at_call 66; ((with_reducible refine (big_is HBG.out _).mono ?_)); rintro e w' ⟨rfl, rfl⟩)
     clear p1
     have c25 := (HU).out.at 0 rfl 25 rfl
     obtain ⟨az, cz, wz, hrunz, hbz⟩ := (HU).out.app s.a s.n s.c ys (n + 1 + 2 + s.n) rfl (HR.out.kept (HU).out.gr0) (by omega)
     have HRZ := zqd hrunz
     have HZZ := zqd hbz
     clear hrunz hbz
     go_wp2_with (at_builtin; refine wpList_app rfl _ _ _ rfl rfl rfl HRZ.out ?_)
     go_ret2
     exact ⟨az, _, cz, _, rfl, by omega, by omega, HZZ.out.own, HZZ.out.gr0⟩
   ·obtain ⟨⟨n1, n2⟩, ⟨k1, k2⟩, m1, m2⟩ := fld2 hF hf
    have e1 : (s.fmt == 1) = false := by rw [hf]; rfl
    have e2 : (s.fmt == 2) = true := by rw [hf]; rfl
    clear hF hf
    obtain ⟨a3, c3, w3, hrun, hrl⟩ := (H).out.lit [128 + 32 * s.mar + s.num] 1 (n + 1) rfl rfl (by intro z hz; simp only [List.mem_cons, List.not_mem_nil, or_false] at hz; (subst hz; omega)) (by omega) (by omega)
    simp only [List.map_cons, List.map_nil] at hrun
    have HRL := zqd hrun
    have H3 := zqd hrl
    clear hrun hrl
    go_upto_region 13 with (at_builtin; refine wpList_app rfl _ _ _ rfl rfl rfl HRL.out ?_)
    clear HRL
    clear c2 c4 c24
    cases K
    ·have c24 := H3.out.at 0 rfl 24 rfl
     obtain ⟨a4, c4, w4, hrun, hrl⟩ := (H3).out.lit [s.chk] 1 (n + 2) rfl rfl (by intro z hz; simp only [List.mem_cons, List.not_mem_nil, or_false] at hz; (subst hz; omega)) (by omega) (by omega)
     simp only [List.map_cons, List.map_nil] at hrun
     have HRL := zqd hrun
     have H4 := zqd hrl
     clear hrun hrl
     go_upto_region 32 with (at_builtin; refine wpList_app rfl _ _ _ rfl rfl rfl HRL.out ?_)
     clear HRL
     have p6 := (H4).out.at 0 rfl 6 rfl
     have p1 := (H4).out.at 0 rfl 1 rfl
     have hbg : (decide (s.fmt = 4) || decide (s.fmt = 5)) = false := by simp; omega
     have HBG := zqd hbg
     clear hbg
     by_cases hu : s.udp = 0
     ·have hub : (s.udp != 0) = false := by simpa using hu
      clear hu
      go_upto_region 36 with (go_at_call 66; ((with_reducible refine (big_is HBG.out _).mono ?_)); rintro e w' ⟨rfl, rfl⟩)
      clear p6 p1 hub
      have c25 := (H4).out.at 0 rfl 25 rfl
      obtain ⟨az, cz, wz, hrunz, hbz⟩ := (H4).out.app s.a s.n s.c ys (n + 2 + s.n) rfl (HR.out.kept (H4).out.gr0) (by omega)
      have HRZ := zqd hrunz
      have HZZ := zqd hbz
      clear hrunz hbz
      go_wp2_with (at_builtin; refine wpList_app rfl _ _ _ rfl rfl rfl HRZ.out ?_)
      go_ret2
      exact ⟨az, _, cz, _, rfl, by omega, by omega, HZZ.out.own, HZZ.out.gr0⟩
     ·have hub : (s.udp != 0) = true := by simpa using hu
      clear hu
      go_wp2_with fail
      refine ((H4).out.put 2 2 (n + 2 + 2) _ rfl rfl (by omega) (by omega)).mono ?_
      rintro e wu ⟨au, cu, rfl, hru⟩
      have HU := zqd hru
      clear hru p6 p1 hub
      have p1 := HU.out.at 0 rfl 1 rfl
      go_upto_region 36 with (go_at_call 66; ((with_reducible refine (big_is HBG.out _).mono ?_)); rintro e w' ⟨rfl, rfl⟩)
      clear p1
      have c25 := (HU).out.at 0 rfl 25 rfl
      obtain ⟨az, cz, wz, hrunz, hbz⟩ := (HU).out.app s.a s.n s.c ys (n + 2 + 2 + s.n) rfl (HR.out.kept (HU).out.gr0) (by omega)
      have HRZ := zqd hrunz
      have HZZ := zqd hbz
      clear hrunz hbz
      go_wp2_with (at_builtin; refine wpList_app rfl _ _ _ rfl rfl rfl HRZ.out ?_)
      go_ret2
      exact ⟨az, _, cz, _, rfl, by omega, by omega, HZZ.out.own, HZZ.out.gr0⟩
    ·have c3' := H3.out.at 0 rfl 3 rfl
     go_wp2_with fail
     refine (H3.out.put 2 2 (n + 3) _ rfl rfl (by omega) (by omega)).mono ?_
     rintro e w4 ⟨a4, c4, rfl, hr4⟩
     have H4 := zqd hr4
     clear hr4 c3'
     have c24 := H4.out.at 0 rfl 24 rfl
     obtain ⟨a5, c5, w5, hrun, hrl⟩ := (H4).out.lit [s.chk] 1 (n + 4) rfl rfl (by intro z hz; simp only [List.mem_cons, List.not_mem_nil, or_false] at hz; (subst hz; omega)) (by omega) (by omega)
     simp only [List.map_cons, List.map_nil] at hrun
     have HRL := zqd hrun
     have H5 := zqd hrl
     clear hrun hrl
     go_upto_region 32 with (at_builtin; refine wpList_app rfl _ _ _ rfl rfl rfl HRL.out ?_)
     clear HRL
     have p6 := (H5).out.at 0 rfl 6 rfl
     have p1 := (H5).out.at 0 rfl 1 rfl
     have hbg : (decide (s.fmt = 4) || decide (s.fmt = 5)) = false := by simp; omega
     have HBG := zqd hbg
     clear hbg
     by_cases hu : s.udp = 0
     ·have hub : (s.udp != 0) = false := by simpa using hu
      clear hu
      go_upto_region 36 with (go_at_call 66; ((with_reducible refine (big_is HBG.out _).mono ?_)); rintro e w' ⟨rfl, rfl⟩)
      clear p6 p1 hub
      have c25 := (H5).out.at 0 rfl 25 rfl
      obtain ⟨az, cz, wz, hrunz, hbz⟩ := (H5).out.app s.a s.n s.c ys (n + 4 + s.n) rfl (HR.out.kept (H5).out.gr0) (by omega)
      have HRZ := zqd hrunz
      have HZZ := zqd hbz
      clear hrunz hbz
      go_wp2_with (at_builtin; refine wpList_app rfl _ _ _ rfl rfl rfl HRZ.out ?_)
      go_ret2
      exact ⟨az, _, cz, _, rfl, by omega, by omega, HZZ.out.own, HZZ.out.gr0⟩
     ·have hub : (s.udp != 0) = true := by simpa using hu
      clear hu
      go_wp2_with fail
      refine ((H5).out.put 2 2 (n + 4 + 2) _ rfl rfl (by omega) (by omega)).mono ?_
      rintro e wu ⟨au, cu, rfl, hru⟩
      have HU := zqd hru
      clear hru p6 p1 hub
      have p1 := HU.out.at 0 rfl 1 rfl
      go_upto_region 36 with (go_at_call 66; ((with_reducible refine (big_is HBG.out _).mono ?_)); rintro e w' ⟨rfl, rfl⟩)
      clear p1
      have c25 := (HU).out.at 0 rfl 25 rfl
      obtain ⟨az, cz, wz, hrunz, hbz⟩ := (HU).out.app s.a s.n s.c ys (n + 4 + 2 + s.n) rfl (HR.out.kept (HU).out.gr0) (by omega)
      have HRZ := zqd hrunz
      have HZZ := zqd hbz
      clear hrunz hbz
      go_wp2_with (at_builtin; refine wpList_app rfl _ _ _ rfl rfl rfl HRZ.out ?_)
      go_ret2
      exact ⟨az, _, cz, _, rfl, by omega, by omega, HZZ.out.own, HZZ.out.gr0⟩
   ·obtain ⟨⟨k1, k2⟩, m1, m2⟩ := fld3 hF hf
    have e1 : (s.fmt == 1) = false := by rw [hf]; rfl
    have e2 : (s.fmt == 2) = false := by rw [hf]; rfl
    have e3 : (s.fmt == 3) = true := by rw [hf]; rfl
    clear hF hf
    obtain ⟨a3, c3, w3, hrun, hrl⟩ := (H).out.lit [192 + s.mar] 1 (n + 1) rfl rfl (by intro z hz; simp only [List.mem_cons, List.not_mem_nil, or_false] at hz; (subst hz; omega)) (by omega) (by omega)
    simp only [List.map_cons, List.map_nil] at hrun
    have HRL := zqd hrun
    have H3 := zqd hrl
    clear hrun hrl
    go_upto_region 18 with (at_builtin; refine wpList_app rfl _ _ _ rfl rfl rfl HRL.out ?_)
    clear HRL
    clear c2 c4 c24
    cases K
    ·have c2 := H3.out.at 0 rfl 2 rfl
     go_wp2_with fail
     refine (H3.out.put 2 2 (n + 3) _ rfl rfl (by omega) (by omega)).mono ?_
     rintro e w4 ⟨a4, c4, rfl, hr4⟩
     have H4 := zqd hr4
     clear hr4 c2
     have c24 := H4.out.at 0 rfl 24 rfl
     obtain ⟨a5, c5, w5, hrun, hrl⟩ := (H4).out.lit [s.chk] 1 (n + 4) rfl rfl (by intro z hz; simp only [List.mem_cons, List.not_mem_nil, or_false] at hz; (subst hz; omega)) (by omega) (by omega)
     simp only [List.map_cons, List.map_nil] at hrun
     have HRL := zqd hrun
     have H5 := zqd hrl
     clear hrun hrl
     go_upto_region 32 with (at_builtin; refine wpList_app rfl _ _ _ rfl rfl rfl HRL.out ?_)
     clear HRL
     have p6 := (H5).out.at 0 rfl 6 rfl
     have p1 := (H5).out.at 0 rfl 1 rfl
     have hbg : (decide (s.fmt = 4) || decide (s.fmt = 5)) = false := by simp; omega
     have HBG := zqd hbg
     clear hbg
     by_cases hu : s.udp = 0
     ·have hub : (s.udp != 0) = false := by simpa using hu
      clear hu
      go_upto_region 36 with (go_at_call 66; ((with_reducible refine (big_is HBG.out _).mono ?_)); rintro e w' ⟨rfl, rfl⟩)
      clear p6 p1 hub
      have c25 := (H5).out.at 0 rfl 25 rfl
      obtain ⟨az, cz, wz, hrunz, hbz⟩ := (H5).out.app s.a s.n s.c ys (n + 4 + s.n) rfl (HR.out.kept (H5).out.gr0) (by omega)
      have HRZ := zqd hrunz
      have HZZ := zqd hbz
      clear hrunz hbz
      go_wp2_with (at_builtin; refine wpList_app rfl _ _ _ rfl rfl rfl HRZ.out ?_)
      go_ret2
      exact ⟨az, _, cz, _, rfl, by omega, by omega, HZZ.out.own, HZZ.out.gr0⟩
     ·have hub : (s.udp != 0) = true := by simpa using hu
      clear hu
      go_wp2_with fail
      refine ((H5).out.put 2 2 (n + 4 + 2) _ rfl rfl (by omega) (by omega)).mono ?_
      rintro e wu ⟨au, cu, rfl, hru⟩
      have HU := zqd hru
      clear hru p6 p1 hub
      have p1 := HU.out.at 0 rfl 1 rfl
      go_upto_region 36 with (go_at_call 66; ((with_reducible refine (big_is HBG.out _).mono ?_)); rintro e w' ⟨rfl, rfl⟩)
      clear p1
      have c25 := (HU).out.at 0 rfl 25 rfl
      obtain ⟨az, cz, wz, hrunz, hbz⟩ := (HU).out.app s.a s.n s.c ys (n + 4 + 2 + s.n) rfl (HR.out.kept (HU).out.gr0) (by omega)
      have HRZ := zqd hrunz
      have HZZ := zqd hbz
      clear hrunz hbz
      go_wp2_with (at_builtin; refine wpList_app rfl _ _ _ rfl rfl rfl HRZ.out ?_)
      go_ret2
      exact ⟨az, _, cz, _, rfl, by omega, by omega, HZZ.out.own, HZZ.out.gr0⟩
    ·have hI : ∀ u, Gr w3 u → u.cell? ⟨w.heap.size, 3, none⟩ = some (.int .i64 s.tim) ∧ u.cell? ⟨w.heap.size, 5, none⟩ = some (.int .i64 s.idn) := fun u hu => ⟨(H3.out.gr hu).at 0 rfl 3 rfl, (H3.out.gr hu).at 0 rfl 5 rfl⟩
     have hI1 : ∀ u, Gr w3 u → u.cell? ⟨w.heap.size, 2, none⟩ = some (.int .i64 s.num) := fun u hu => (H3.out.gr hu).at 0 rfl 2 rfl
     go_upto_region 19 with (fail)
     refine Sched2.wp_region_sched (fun u => u.cell? ⟨w.heap.size, 3, none⟩ = some (.int .i64 s.tim) ∧ u.cell? ⟨w.heap.size, 5, none⟩ = some (.int .i64 s.idn)) [4, 5, 7, 8] [] [3, 6, 9, 10] true hI (by kernel_rfl) (by kernel_rfl) ?_
     repeat (first | (refine Sched2.walk1_ord rfl ?_) | ((first | (refine Sched2.walk1_no rfl rfl rfl (fun K hK => ?_)) | (refine Sched2.walk1_gr rfl rfl rfl rfl (fun K hK => ?_); apply Exists.intro; refine ⟨fun w1 hw1 => ?_, ?_⟩; (focus (go_simp; (try go_ints); (try (simp only [IntWalk.iteOmega]; go_simp)); first | done | (with_reducible rfl) | (with_reducible exact ⟨rfl, rfl⟩)))) | (refine Sched2.walk1_late rfl rfl rfl rfl (fun K hK => ?_); apply Exists.intro; refine ⟨fun w1 hw1 => ?_, ?_⟩; (focus (go_simp; (try go_ints); (try (simp only [IntWalk.iteOmega]; go_simp)); first | done | (with_reducible rfl) | (with_reducible exact ⟨rfl, rfl⟩))))); simp only [Act.put, zqa, zqb, zqc]; refine hK _ ?_; clear hK K))
     refine Sched2.walk1_nil ?_
     intro wq hwq
     have HQ := zqd (H3.out.gr hwq)
     clear hwq hI hI1
     dsimp only [Sched.EndN, List.nil_append, List.cons_append, Act.put]
     (try simp only [zqa, zqb, zqc])
     simp only [Sched2.lasts, List.filterMap_cons, List.filterMap_nil, List.getElem?_toArray, List.getElem?_cons_succ, List.getElem?_cons_zero]
     repeat (first | (refine Sched2.walk2_no rfl (fun K hK => ?_); simp only [Act.put, zqa, zqb, zqc]; refine hK _ ?_; clear hK K) | (refine Sched2.walk2_go rfl (fun K hK => ?_); go_simp; (try go_ints); (try (simp only [IntWalk.iteOmega]; go_simp)); first | (refine hK _ _ (by first | exact .inl ⟨rfl, rfl⟩ | exact .inr ((by assumption))) ?_; clear hK K) | (go_at_call 51; ((with_reducible refine (HQ.out.put 1 1 (n + 2) _ rfl rfl (by omega) (by omega)).mono ?_)); rintro e wm ⟨am, cm, rfl, hrm⟩; have HM := zqd hrm; have him : _ ∧ _ := ⟨hrm.at 0 rfl 3 rfl, hrm.at 0 rfl 5 rfl⟩; clear hrm; refine ⟨_, rfl, ?_⟩; refine hK _ _ (.inr him) ?_; clear hK K) | (go_at_call 51; ((with_reducible refine (HM.out.put 4 4 (n + 6) _ rfl rfl (by omega) (by omega)).mono ?_)); rintro e wn ⟨an, cn, rfl, hrn⟩; have HN := zqd hrn; have hin : _ ∧ _ := ⟨hrn.at 0 rfl 3 rfl, hrn.at 0 rfl 5 rfl⟩; clear hrn him; refine ⟨_, rfl, ?_⟩; refine hK _ _ (.inr hin) ?_; clear hK K) | (go_at_call 51; ((with_reducible refine (HN.out.put 2 2 (n + 8) _ rfl rfl (by omega) (by omega)).mono ?_)); rintro e w4 ⟨a4, c4, rfl, hrz⟩; have H4 := zqd hrz; have hiz : _ ∧ _ := ⟨hrz.at 0 rfl 3 rfl, hrz.at 0 rfl 5 rfl⟩; clear hrz hin; refine ⟨_, rfl, ?_⟩; refine hK _ _ (.inr hiz) ?_; clear hK K hiz)))
     refine Sched2.walk2_nil ?_
     have c24 := H4.out.at 0 rfl 24 rfl
     obtain ⟨a5, c5, w5, hrun, hrl⟩ := (H4).out.lit [s.chk] 1 (n + 9) rfl rfl (by intro z hz; simp only [List.mem_cons, List.not_mem_nil, or_false] at hz; (subst hz; omega)) (by omega) (by omega)
     simp only [List.map_cons, List.map_nil] at hrun
     have HRL := zqd hrun
     have H5 := zqd hrl
     clear hrun hrl
     go_upto_region 32 with (at_builtin; refine wpList_app rfl _ _ _ rfl rfl rfl HRL.out ?_)
     clear HRL
     have p6 := (H5).out.at 0 rfl 6 rfl
     have p1 := (H5).out.at 0 rfl 1 rfl
     have hbg : (decide (s.fmt = 4) || decide (s.fmt = 5)) = false := by simp; omega
     have HBG := zqd hbg
     clear hbg
     by_cases hu : s.udp = 0
     ·have hub : (s.udp != 0) = false := by simpa using hu
      clear hu
      go_upto_region 36 with (go_at_call 66; ((with_reducible refine (big_is HBG.out _).mono ?_)); rintro e w' ⟨rfl, rfl⟩)
      clear p6 p1 hub
      have c25 := (H5).out.at 0 rfl 25 rfl
      obtain ⟨az, cz, wz, hrunz, hbz⟩ := (H5).out.app s.a s.n s.c ys (n + 9 + s.n) rfl (HR.out.kept (H5).out.gr0) (by omega)
      have HRZ := zqd hrunz
      have HZZ := zqd hbz
      clear hrunz hbz
      go_wp2_with (at_builtin; refine wpList_app rfl _ _ _ rfl rfl rfl HRZ.out ?_)
      go_ret2
      exact ⟨az, _, cz, _, rfl, by omega, by omega, HZZ.out.own, HZZ.out.gr0⟩
     ·have hub : (s.udp != 0) = true := by simpa using hu
      clear hu
      go_wp2_with fail
      refine ((H5).out.put 2 2 (n + 9 + 2) _ rfl rfl (by omega) (by omega)).mono ?_
      rintro e wu ⟨au, cu, rfl, hru⟩
      have HU := zqd hru
      clear hru p6 p1 hub
      have p1 := HU.out.at 0 rfl 1 rfl
      go_upto_region 36 with (go_at_call 66; ((with_reducible refine (big_is HBG.out _).mono ?_)); rintro e w' ⟨rfl, rfl⟩)
      clear p1
      have c25 := (HU).out.at 0 rfl 25 rfl
      obtain ⟨az, cz, wz, hrunz, hbz⟩ := (HU).out.app s.a s.n s.c ys (n + 9 + 2 + s.n) rfl (HR.out.kept (HU).out.gr0) (by omega)
      have HRZ := zqd hrunz
      have HZZ := zqd hbz
      clear hrunz hbz
      go_wp2_with (at_builtin; refine wpList_app rfl _ _ _ rfl rfl rfl HRZ.out ?_)
      go_ret2
      exact ⟨az, _, cz, _, rfl, by omega, by omega, HZZ.out.own, HZZ.out.gr0⟩
  ·have HBo := zqd hB
   have HUZ := zqd hB.udp
   have HBG := zqd (show (decide (s.fmt = 4) || decide (s.fmt = 5)) = true by have := hB.fmt; simpa using this)
   obtain ⟨k1, k2⟩ := in_rng hB.chk
   have e1 : (s.fmt == 1) = false := by have := hB.fmt; simp; omega
   have e2 : (s.fmt == 2) = false := by have := hB.fmt; simp; omega
   have e3 : (s.fmt == 3) = false := by have := hB.fmt; simp; omega
   clear hB c2 c4 c24
   rcases HBo.out.fmt with hf | hf
   ·have e4 : (s.fmt == 4) = true := by rw [hf]; rfl
    clear hf
    go_upto_region 23 with (fail)
    have hcc := HCK.out
    refine SchedT.wp_region_sched (fun u => CBlk w.heap.size 85 (MCells s) u) [0, 3, 6, 7, 8] [] [1, 2, 4, 5, 9, 10, 11] true (fun u hu => (H.out.gr hu).blk 0 rfl) (by kernel_rfl) (by kernel_rfl) ?_
    repeat (first | ((with_reducible refine Sched2.walk1_ord ?_ ?_); (focus rfl)) | ((first | ((with_reducible refine Sched2.walk1_no ?_ ?_ ?_ (fun K hK => ?_)); (focus rfl); (focus rfl); (focus rfl)) | ((with_reducible refine Sched2.walk1_gr ?_ ?_ ?_ ?_ (fun K hK => ?_)); (focus rfl); (focus rfl); (focus rfl); (focus rfl); apply Exists.intro; refine ⟨fun w1 hw1 => ?_, ?_⟩; (focus (go_simp; (try go_ints); (try (simp only [IntWalk.iteOmega]; go_simp)); first | done | (with_reducible rfl) | (with_reducible exact ⟨rfl, rfl⟩)))) | ((with_reducible refine Sched2.walk1_late ?_ ?_ ?_ ?_ (fun K hK => ?_)); (focus rfl); (focus rfl); (focus rfl); (focus rfl); apply Exists.intro; refine ⟨fun w1 hw1 => ?_, ?_⟩; (focus (go_simp; (try go_ints); (try (simp only [IntWalk.iteOmega]; go_simp)); first | done | (with_reducible rfl) | (with_reducible exact ⟨rfl, rfl⟩))))); simp only [Act.put, zqa, zqb, zqc]; refine hK _ ?_; clear hK K))
    (with_reducible refine Sched2.walk1_late ?_ ?_ ?_ ?_ (fun K hK => ?_)); (focus rfl); (focus rfl); (focus rfl); (focus rfl)
    refine ⟨MVal s, fun w1 hw1 => Sched2.gq_load_mid 85 _ rfl w.heap.size 0 rfl (MCells s) _ (CBlk.rng hw1 0 _ (fun j v hv => by rw [Nat.zero_add]; exact hv)) Tryd.underlying85 rfl (by kernel_rfl), ?_⟩
    simp only [Act.put, zqa, zqb, zqc]
    refine hK _ ?_
    clear hK K
    repeat (first | ((with_reducible refine Sched2.walk1_ord ?_ ?_); (focus rfl)) | ((first | ((with_reducible refine Sched2.walk1_no ?_ ?_ ?_ (fun K hK => ?_)); (focus rfl); (focus rfl); (focus rfl)) | ((with_reducible refine Sched2.walk1_gr ?_ ?_ ?_ ?_ (fun K hK => ?_)); (focus rfl); (focus rfl); (focus rfl); (focus rfl); apply Exists.intro; refine ⟨fun w1 hw1 => ?_, ?_⟩; (focus (go_simp; (try go_ints); (try (simp only [IntWalk.iteOmega]; go_simp)); first | done | (with_reducible rfl) | (with_reducible exact ⟨rfl, rfl⟩)))) | ((with_reducible refine Sched2.walk1_late ?_ ?_ ?_ ?_ (fun K hK => ?_)); (focus rfl); (focus rfl); (focus rfl); (focus rfl); apply Exists.intro; refine ⟨fun w1 hw1 => ?_, ?_⟩; (focus (go_simp; (try go_ints); (try (simp only [IntWalk.iteOmega]; go_simp)); first | done | (with_reducible rfl) | (with_reducible exact ⟨rfl, rfl⟩))))); simp only [Act.put, zqa, zqb, zqc]; refine hK _ ?_; clear hK K))
    (with_reducible refine Sched2.walk1_nil ?_)
    intro wq hwq
    dsimp only [Sched.EndN, List.nil_append, List.cons_append, Act.put, List.length_cons, List.length_nil]
    (try simp only [zqa, zqb, zqc])
    have HQ := zqd (H.out.gr hwq)
    clear hwq hcc
    refine SchedT.node [1, 9] (by kernel_rfl) ?_
    refine ⟨?_, ?_, trivial⟩
    ·refine SchedT.go _ rfl rfl rfl (fun K hK => ?_)
     go_simp
     obtain ⟨waq, hw⟩ : ∃ y, y = (wq).alloc (.cells #[.int .u8 (208)] 5) := ⟨_, rfl⟩
     have HAq := zqd ((HQ).out.add (w' := waq) (g := (wq).heap.size) (t := 5) (cs := [.int .u8 (208)]) (by rw [hw]; exact CBlk.new _ _ _) (by rw [hw]; exact Gr.alloc _ _) (Nat.le_refl _))
     have HGL := zqd (show Gr (wq) waq by rw [hw]; exact Gr.alloc _ _)
     first | rw [← hw] | (go_show; fail)
     clear hw
     refine hK _ _ (.inr (by first | exact (HAq).out.blk 1 rfl | exact (HAq).out.blk 2 rfl | exact (HAq).out.blk 3 rfl)) ?_
     clear hK K
     (try dsimp only [Act.put])
     (try simp only [zqa, zqb, zqc])
     refine SchedT.node [2, 9] (by kernel_rfl) ?_
     refine ⟨?_, ?_, trivial⟩
     ·obtain ⟨abq, cbq, wbq, hrun, hb⟩ := (HAq).out.app (some ⟨(wq).heap.size, 0, none⟩) (1) 1 [208] (n + 1) rfl (by first | exact rd_cblk [208] 1 ((HAq).out.blk 0 rfl) rfl rfl (by omega) (by intro z hz; simp only [List.mem_singleton] at hz; subst hz; omega) | exact rd_cblk [208] 1 ((HAq).out.blk 1 rfl) rfl rfl (by omega) (by intro z hz; simp only [List.mem_singleton] at hz; subst hz; omega) | exact rd_cblk [208] 1 ((HAq).out.blk 2 rfl) rfl rfl (by omega) (by intro z hz; simp only [List.mem_singleton] at hz; subst hz; omega)) (by omega)
      have HBq := zqd hb
      refine SchedT.go _ rfl rfl rfl (fun K hK => ?_)
      refine tq_app _ _ _ rfl rfl rfl hrun ?_
      clear hrun hb
      refine hK _ _ (.inr (by first | exact (HBq).out.blk 0 rfl | exact (HBq).out.blk 1 rfl | exact (HBq).out.blk 2 rfl | exact (HBq).out.blk 3 rfl)) ?_
      clear hK K
      (try dsimp only [Act.put])
      (try simp only [List.setIfInBounds_toArray])
      refine SchedT.node [4, 9] (by kernel_rfl) ?_
      refine ⟨?_, ?_, trivial⟩
      ·refine SchedT.go _ rfl rfl rfl (fun K hK => ?_)
       go_simp
       go_at_call 65
       refine (dynamic_yes s (wbq) HBo.out.hd HBo.out.dyn).mono ?_
       rintro e wcq ⟨daq, dnq, dcq, dxq, rfl, hd1, hd2, hdo, hdg⟩
       have HCq := zqd ((HBq).out.gr hdg)
       have HDq := zqd hdo.rd
       clear hd1 hdo hdg
       refine ⟨_, rfl, ?_⟩
       refine hK _ _ (.inr (by first | exact (HCq).out.blk 0 rfl | exact (HCq).out.blk 1 rfl | exact (HCq).out.blk 2 rfl | exact (HCq).out.blk 3 rfl)) ?_
       clear hK K
       (try dsimp only [Act.put])
       (try simp only [zqa, zqb, zqc])
       refine SchedT.node [5, 9] (by kernel_rfl) ?_
       refine ⟨?_, ?_, trivial⟩
       ·obtain ⟨agq, cgq, wgq, hrun, hb⟩ := (HCq).out.app daq (dnq) dcq dxq (n + 1 + dnq) rfl ((HDq).out) (by omega)
        have HGq := zqd hb
        refine SchedT.go _ rfl rfl rfl (fun K hK => ?_)
        refine tq_app _ _ _ rfl rfl rfl hrun ?_
        clear hrun hb
        refine hK _ _ (.inr (by first | exact (HGq).out.blk 0 rfl | exact (HGq).out.blk 1 rfl | exact (HGq).out.blk 2 rfl | exact (HGq).out.blk 3 rfl)) ?_
        clear hK K
        (try dsimp only [Act.put])
        (try simp only [List.setIfInBounds_toArray])
        refine SchedT.node [9] (by kernel_rfl) ?_
        refine ⟨?_, trivial⟩
        refine SchedT.go _ rfl rfl rfl (fun K hK => ?_)
        go_simp
        obtain ⟨wlq, hw⟩ : ∃ y, y = (wgq).alloc (.cells #[.int .u8 (s.chk)] 5) := ⟨_, rfl⟩
        have HLq := zqd ((HGq).out.add (w' := wlq) (g := (wgq).heap.size) (t := 5) (cs := [.int .u8 (s.chk)]) (by rw [hw]; exact CBlk.new _ _ _) (by rw [hw]; exact Gr.alloc _ _) (Nat.le_refl _))
        have HGL := zqd (show Gr (wgq) wlq by rw [hw]; exact Gr.alloc _ _)
        first | rw [← hw] | (go_show; fail)
        clear hw
        refine hK _ _ (.inr (by first | exact (HLq).out.blk 1 rfl | exact (HLq).out.blk 2 rfl | exact (HLq).out.blk 3 rfl)) ?_
        clear hK K
        (try dsimp only [Act.put])
        (try simp only [zqa, zqb, zqc])
        refine SchedT.node [10] (by kernel_rfl) ?_
        refine ⟨?_, trivial⟩
        obtain ⟨ae, ce, we, hrun, hb⟩ := (HLq).out.app (some ⟨(wgq).heap.size, 0, none⟩) (1) 1 [s.chk] (n + 1 + dnq + 1) rfl (by first | exact rd_cblk [s.chk] 1 ((HLq).out.blk 0 rfl) rfl rfl (by omega) (by intro z hz; simp only [List.mem_singleton] at hz; subst hz; omega) | exact rd_cblk [s.chk] 1 ((HLq).out.blk 1 rfl) rfl rfl (by omega) (by intro z hz; simp only [List.mem_singleton] at hz; subst hz; omega) | exact rd_cblk [s.chk] 1 ((HLq).out.blk 2 rfl) rfl rfl (by omega) (by intro z hz; simp only [List.mem_singleton] at hz; subst hz; omega)) (by omega)
        have HE := zqd hb
        refine SchedT.go _ rfl rfl rfl (fun K hK => ?_)
        refine tq_app _ _ _ rfl rfl rfl hrun ?_
        clear hrun hb
        refine hK _ _ (.inr (by first | exact (HE).out.blk 0 rfl | exact (HE).out.blk 1 rfl | exact (HE).out.blk 2 rfl | exact (HE).out.blk 3 rfl)) ?_
        clear hK K
        (try dsimp only [Act.put])
        (try simp only [List.setIfInBounds_toArray])
        refine SchedT.node [11] (by kernel_rfl) ?_
        refine ⟨?_, trivial⟩
        refine SchedT.go _ rfl rfl rfl (fun K hK => ?_)
        go_simp
        refine hK _ _ (.inl ⟨rfl, rfl⟩) ?_
        clear hK K
        (try dsimp only [Act.put])
        (try simp only [zqa, zqb, zqc])
        refine SchedT.nil ?_
        have HEE := zqd (show Buf w [(w.heap.size, 85, MCells s)] ae (n + 1 + dnq + 1) ce _ we by first | exact HE.out.drop | exact HE.out.drop.drop | exact HE.out.drop.drop.drop)
        clear HE
        have p6 : (we).cell? ⟨w.heap.size, 6, none⟩ = some (.int .i64 0) := by rw [← HUZ.out]; exact (HEE).out.at 0 rfl 6 rfl
        have p1 := (HEE).out.at 0 rfl 1 rfl
        have p16 := (HEE).out.at 0 rfl 16 rfl
        by_cases hu : s.hd.check = 0
        ·have hub : (s.hd.check != 0) = false := by simpa using hu
         clear hu
         go_upto_region 36 with (go_at_call 66; ((with_reducible refine (big_is HBG.out _).mono ?_)); rintro e w' ⟨rfl, rfl⟩)
         clear p6 p1 p16 hub
         have c25 := (HEE).out.at 0 rfl 25 rfl
         obtain ⟨az, cz, wz, hrunz, hbz⟩ := (HEE).out.app s.a s.n s.c ys (n + 1 + dnq + 1 + s.n) rfl (HR.out.kept (HEE).out.gr0) (by omega)
         have HRZ := zqd hrunz
         have HZZ := zqd hbz
         clear hrunz hbz
         go_wp2_with (at_builtin; refine wpList_app rfl _ _ _ rfl rfl rfl HRZ.out ?_)
         go_ret2
         exact ⟨az, _, cz, _, rfl, by omega, by omega, HZZ.out.own, HZZ.out.gr0⟩
        ·have hub : (s.hd.check != 0) = true := by simpa using hu
         clear hu
         go_wp2_with (go_at_call 66; ((with_reducible refine (big_is HBG.out _).mono ?_)); rintro e w' ⟨rfl, rfl⟩)
         refine ((HEE).out.put 2 2 (n + 1 + dnq + 1 + 2) _ rfl rfl (by omega) (by omega)).mono ?_
         rintro e wu ⟨au, cu, rfl, hru⟩
         have HU := zqd hru
         clear hru p6 p1 p16 hub
         have c25 := (HU).out.at 0 rfl 25 rfl
         obtain ⟨az, cz, wz, hrunz, hbz⟩ := (HU).out.app s.a s.n s.c ys (n + 1 + dnq + 1 + 2 + s.n) rfl (HR.out.kept (HU).out.gr0) (by omega)
         have HRZ := zqd hrunz
         have HZZ := zqd hbz
         clear hrunz hbz
         go_wp2_with (at_builtin; refine wpList_app rfl _ _ _ rfl rfl rfl HRZ.out ?_)
         go_ret2
         exact ⟨az, _, cz, _, rfl, by omega, by omega, HZZ.out.own, HZZ.out.gr0⟩
       ·refine SchedT.go _ rfl rfl rfl (fun K hK => ?_)
        go_simp
        obtain ⟨wlq, hw⟩ : ∃ y, y = (wcq).alloc (.cells #[.int .u8 (s.chk)] 5) := ⟨_, rfl⟩
        have HLq := zqd ((HCq).out.add (w' := wlq) (g := (wcq).heap.size) (t := 5) (cs := [.int .u8 (s.chk)]) (by rw [hw]; exact CBlk.new _ _ _) (by rw [hw]; exact Gr.alloc _ _) (Nat.le_refl _))
        have HGL := zqd (show Gr (wcq) wlq by rw [hw]; exact Gr.alloc _ _)
        first | rw [← hw] | (go_show; fail)
        clear hw
        refine hK _ _ (.inr (by first | exact (HLq).out.blk 1 rfl | exact (HLq).out.blk 2 rfl | exact (HLq).out.blk 3 rfl)) ?_
        clear hK K
        (try dsimp only [Act.put])
        (try simp only [zqa, zqb, zqc])
        have HD2 := zqd ((HDq).out.kept HGL.out)
        refine SchedT.node [5] (by kernel_rfl) ?_
        refine ⟨?_, trivial⟩
        obtain ⟨afq, cfq, wfq, hrun, hb⟩ := (HLq).out.app daq (dnq) dcq dxq (n + 1 + dnq) rfl (HD2.out) (by omega)
        have HFq := zqd hb
        refine SchedT.go _ rfl rfl rfl (fun K hK => ?_)
        refine tq_app _ _ _ rfl rfl rfl hrun ?_
        clear hrun hb
        refine hK _ _ (.inr (by first | exact (HFq).out.blk 0 rfl | exact (HFq).out.blk 1 rfl | exact (HFq).out.blk 2 rfl | exact (HFq).out.blk 3 rfl)) ?_
        clear hK K
        (try dsimp only [Act.put])
        (try simp only [List.setIfInBounds_toArray])
        refine SchedT.node [10] (by kernel_rfl) ?_
        refine ⟨?_, trivial⟩
        obtain ⟨ae, ce, we, hrun, hb⟩ := (HFq).out.app (some ⟨(wcq).heap.size, 0, none⟩) (1) 1 [s.chk] (n + 1 + dnq + 1) rfl (by first | exact rd_cblk [s.chk] 1 ((HFq).out.blk 0 rfl) rfl rfl (by omega) (by intro z hz; simp only [List.mem_singleton] at hz; subst hz; omega) | exact rd_cblk [s.chk] 1 ((HFq).out.blk 1 rfl) rfl rfl (by omega) (by intro z hz; simp only [List.mem_singleton] at hz; subst hz; omega) | exact rd_cblk [s.chk] 1 ((HFq).out.blk 2 rfl) rfl rfl (by omega) (by intro z hz; simp only [List.mem_singleton] at hz; subst hz; omega)) (by omega)
        have HE := zqd hb
        refine SchedT.go _ rfl rfl rfl (fun K hK => ?_)
        refine tq_app _ _ _ rfl rfl rfl hrun ?_
        clear hrun hb
        refine hK _ _ (.inr (by first | exact (HE).out.blk 0 rfl | exact (HE).out.blk 1 rfl | exact (HE).out.blk 2 rfl | exact (HE).out.blk 3 rfl)) ?_
        clear hK K
        (try dsimp only [Act.put])
        (try simp only [List.setIfInBounds_toArray])
        refine SchedT.node [11] (by kernel_rfl) ?_
        refine ⟨?_, trivial⟩
        refine SchedT.go _ rfl rfl rfl (fun K hK => ?_)
        go_simp
        refine hK _ _ (.inl ⟨rfl, rfl⟩) ?_
        clear hK K
        (try dsimp only [Act.put])
        (try simp only [zqa, zqb, zqc])
        refine SchedT.nil ?_
        have HEE := zqd (show Buf w [(w.heap.size, 85, MCells s)] ae (n + 1 + dnq + 1) ce _ we by first | exact HE.out.drop | exact HE.out.drop.drop | exact HE.out.drop.drop.drop)
        clear HE
        have p6 : (we).cell? ⟨w.heap.size, 6, none⟩ = some (.int .i64 0) := by rw [← HUZ.out]; exact (HEE).out.at 0 rfl 6 rfl
        have p1 := (HEE).out.at 0 rfl 1 rfl
        have p16 := (HEE).out.at 0 rfl 16 rfl
        by_cases hu : s.hd.check = 0
        ·have hub : (s.hd.check != 0) = false := by simpa using hu
         clear hu
         go_upto_region 36 with (go_at_call 66; ((with_reducible refine (big_is HBG.out _).mono ?_)); rintro e w' ⟨rfl, rfl⟩)
         clear p6 p1 p16 hub
         have c25 := (HEE).out.at 0 rfl 25 rfl
         obtain ⟨az, cz, wz, hrunz, hbz⟩ := (HEE).out.app s.a s.n s.c ys (n + 1 + dnq + 1 + s.n) rfl (HR.out.kept (HEE).out.gr0) (by omega)
         have HRZ := zqd hrunz
         have HZZ := zqd hbz
         clear hrunz hbz
         go_wp2_with (at_builtin; refine wpList_app rfl _ _ _ rfl rfl rfl HRZ.out ?_)
         go_ret2
         exact ⟨az, _, cz, _, rfl, by omega, by omega, HZZ.out.own, HZZ.out.gr0⟩
        ·have hub : (s.hd.check != 0) = true := by simpa using hu
         clear hu
         go_wp2_with (go_at_call 66; ((with_reducible refine (big_is HBG.out _).mono ?_)); rintro e w' ⟨rfl, rfl⟩)
         refine ((HEE).out.put 2 2 (n + 1 + dnq + 1 + 2) _ rfl rfl (by omega) (by omega)).mono ?_
         rintro e wu ⟨au, cu, rfl, hru⟩
         have HU := zqd hru
         clear hru p6 p1 p16 hub
         have c25 := (HU).out.at 0 rfl 25 rfl
         obtain ⟨az, cz, wz, hrunz, hbz⟩ := (HU).out.app s.a s.n s.c ys (n + 1 + dnq + 1 + 2 + s.n) rfl (HR.out.kept (HU).out.gr0) (by omega)
         have HRZ := zqd hrunz
         have HZZ := zqd hbz
         clear hrunz hbz
         go_wp2_with (at_builtin; refine wpList_app rfl _ _ _ rfl rfl rfl HRZ.out ?_)
         go_ret2
         exact ⟨az, _, cz, _, rfl, by omega, by omega, HZZ.out.own, HZZ.out.gr0⟩
      ·refine SchedT.go _ rfl rfl rfl (fun K hK => ?_)
       go_simp
       obtain ⟨wmq, hw⟩ : ∃ y, y = (wbq).alloc (.cells #[.int .u8 (s.chk)] 5) := ⟨_, rfl⟩
       have HMq := zqd ((HBq).out.add (w' := wmq) (g := (wbq).heap.size) (t := 5) (cs := [.int .u8 (s.chk)]) (by rw [hw]; exact CBlk.new _ _ _) (by rw [hw]; exact Gr.alloc _ _) (Nat.le_refl _))
       have HGL := zqd (show Gr (wbq) wmq by rw [hw]; exact Gr.alloc _ _)
       first | rw [← hw] | (go_show; fail)
       clear hw
       refine hK _ _ (.inr (by first | exact (HMq).out.blk 1 rfl | exact (HMq).out.blk 2 rfl | exact (HMq).out.blk 3 rfl)) ?_
       clear hK K
       (try dsimp only [Act.put])
       (try simp only [zqa, zqb, zqc])
       refine SchedT.node [4] (by kernel_rfl) ?_
       refine ⟨?_, trivial⟩
       refine SchedT.go _ rfl rfl rfl (fun K hK => ?_)
       go_simp
       go_at_call 65
       refine (dynamic_yes s (wmq) HBo.out.hd HBo.out.dyn).mono ?_
       rintro e wcq ⟨daq, dnq, dcq, dxq, rfl, hd1, hd2, hdo, hdg⟩
       have HCq := zqd ((HMq).out.gr hdg)
       have HDq := zqd hdo.rd
       clear hd1 hdo hdg
       refine ⟨_, rfl, ?_⟩
       refine hK _ _ (.inr (by first | exact (HCq).out.blk 0 rfl | exact (HCq).out.blk 1 rfl | exact (HCq).out.blk 2 rfl | exact (HCq).out.blk 3 rfl)) ?_
       clear hK K
       (try dsimp only [Act.put])
       (try simp only [zqa, zqb, zqc])
       refine SchedT.node [5] (by kernel_rfl) ?_
       refine ⟨?_, trivial⟩
       obtain ⟨afq, cfq, wfq, hrun, hb⟩ := (HCq).out.app daq (dnq) dcq dxq (n + 1 + dnq) rfl (HDq.out) (by omega)
       have HFq := zqd hb
       refine SchedT.go _ rfl rfl rfl (fun K hK => ?_)
       refine tq_app _ _ _ rfl rfl rfl hrun ?_
       clear hrun hb
       refine hK _ _ (.inr (by first | exact (HFq).out.blk 0 rfl | exact (HFq).out.blk 1 rfl | exact (HFq).out.blk 2 rfl | exact (HFq).out.blk 3 rfl)) ?_
       clear hK K
       (try dsimp only [Act.put])
       (try simp only [List.setIfInBounds_toArray])
       refine SchedT.node [10] (by kernel_rfl) ?_
       refine ⟨?_, trivial⟩
       obtain ⟨ae, ce, we, hrun, hb⟩ := (HFq).out.app (some ⟨(wbq).heap.size, 0, none⟩) (1) 1 [s.chk] (n + 1 + dnq + 1) rfl (by first | exact rd_cblk [s.chk] 1 ((HFq).out.blk 0 rfl) rfl rfl (by omega) (by intro z hz; simp only [List.mem_singleton] at hz; subst hz; omega) | exact rd_cblk [s.chk] 1 ((HFq).out.blk 1 rfl) rfl rfl (by omega) (by intro z hz; simp only [List.mem_singleton] at hz; subst hz; omega) | exact rd_cblk [s.chk] 1 ((HFq).out.blk 2 rfl) rfl rfl (by omega) (by intro z hz; simp only [List.mem_singleton] at hz; subst hz; omega)) (by omega)
       have HE := zqd hb
       refine SchedT.go _ rfl rfl rfl (fun K hK => ?_)
       refine tq_app _ _ _ rfl rfl rfl hrun ?_
       clear hrun hb
       refine hK _ _ (.inr (by first | exact (HE).out.blk 0 rfl | exact (HE).out.blk 1 rfl | exact (HE).out.blk 2 rfl | exact (HE).out.blk 3 rfl)) ?_
       clear hK K
       (try dsimp only [Act.put])
       (try simp only [List.setIfInBounds_toArray])
       refine SchedT.node [11] (by kernel_rfl) ?_
       refine ⟨?_, trivial⟩
       refine SchedT.go _ rfl rfl rfl (fun K hK => ?_)
       go_simp
       refine hK _ _ (.inl ⟨rfl, rfl⟩) ?_
       clear hK K
       (try dsimp only [Act.put])
       (try simp only [zqa, zqb, zqc])
       refine SchedT.nil ?_
       have HEE := zqd (show Buf w [(w.heap.size, 85, MCells s)] ae (n + 1 + dnq + 1) ce _ we by first | exact HE.out.drop | exact HE.out.drop.drop | exact HE.out.drop.drop.drop)
       clear HE
       have p6 : (we).cell? ⟨w.heap.size, 6, none⟩ = some (.int .i64 0) := by rw [← HUZ.out]; exact (HEE).out.at 0 rfl 6 rfl
       have p1 := (HEE).out.at 0 rfl 1 rfl
       have p16 := (HEE).out.at 0 rfl 16 rfl
       by_cases hu : s.hd.check = 0
       ·have hub : (s.hd.check != 0) = false := by simpa using hu
        clear hu
        go_upto_region 36 with (go_at_call 66; ((with_reducible refine (big_is HBG.out _).mono ?_)); rintro e w' ⟨rfl, rfl⟩)
        clear p6 p1 p16 hub
        have c25 := (HEE).out.at 0 rfl 25 rfl
        obtain ⟨az, cz, wz, hrunz, hbz⟩ := (HEE).out.app s.a s.n s.c ys (n + 1 + dnq + 1 + s.n) rfl (HR.out.kept (HEE).out.gr0) (by omega)
        have HRZ := zqd hrunz
        have HZZ := zqd hbz
        clear hrunz hbz
        go_wp2_with (at_builtin; refine wpList_app rfl _ _ _ rfl rfl rfl HRZ.out ?_)
        go_ret2
        exact ⟨az, _, cz, _, rfl, by omega, by omega, HZZ.out.own, HZZ.out.gr0⟩
       ·have hub : (s.hd.check != 0) = true := by simpa using hu
        clear hu
        go_wp2_with (go_at_call 66; ((with_reducible refine (big_is HBG.out _).mono ?_)); rintro e w' ⟨rfl, rfl⟩)
        refine ((HEE).out.put 2 2 (n + 1 + dnq + 1 + 2) _ rfl rfl (by omega) (by omega)).mono ?_
        rintro e wu ⟨au, cu, rfl, hru⟩
        have HU := zqd hru
        clear hru p6 p1 p16 hub
        have c25 := (HU).out.at 0 rfl 25 rfl
        obtain ⟨az, cz, wz, hrunz, hbz⟩ := (HU).out.app s.a s.n s.c ys (n + 1 + dnq + 1 + 2 + s.n) rfl (HR.out.kept (HU).out.gr0) (by omega)
        have HRZ := zqd hrunz
        have HZZ := zqd hbz
        clear hrunz hbz
        go_wp2_with (at_builtin; refine wpList_app rfl _ _ _ rfl rfl rfl HRZ.out ?_)
        go_ret2
        exact ⟨az, _, cz, _, rfl, by omega, by omega, HZZ.out.own, HZZ.out.gr0⟩
     ·refine SchedT.go _ rfl rfl rfl (fun K hK => ?_)
      go_simp
      obtain ⟨wnq, hw⟩ : ∃ y, y = (waq).alloc (.cells #[.int .u8 (s.chk)] 5) := ⟨_, rfl⟩
      have HNq := zqd ((HAq).out.add (w' := wnq) (g := (waq).heap.size) (t := 5) (cs := [.int .u8 (s.chk)]) (by rw [hw]; exact CBlk.new _ _ _) (by rw [hw]; exact Gr.alloc _ _) (Nat.le_refl _))
      have HGL := zqd (show Gr (waq) wnq by rw [hw]; exact Gr.alloc _ _)
      first | rw [← hw] | (go_show; fail)
      clear hw
      refine hK _ _ (.inr (by first | exact (HNq).out.blk 1 rfl | exact (HNq).out.blk 2 rfl | exact (HNq).out.blk 3 rfl)) ?_
      clear hK K
      (try dsimp only [Act.put])
      (try simp only [zqa, zqb, zqc])
      refine SchedT.node [2] (by kernel_rfl) ?_
      refine ⟨?_, trivial⟩
      obtain ⟨abq, cbq, wbq, hrun, hb⟩ := (HNq).out.app (some ⟨(wq).heap.size, 0, none⟩) (1) 1 [208] (n + 1) rfl (by first | exact rd_cblk [208] 1 ((HNq).out.blk 0 rfl) rfl rfl (by omega) (by intro z hz; simp only [List.mem_singleton] at hz; subst hz; omega) | exact rd_cblk [208] 1 ((HNq).out.blk 1 rfl) rfl rfl (by omega) (by intro z hz; simp only [List.mem_singleton] at hz; subst hz; omega) | exact rd_cblk [208] 1 ((HNq).out.blk 2 rfl) rfl rfl (by omega) (by intro z hz; simp only [List.mem_singleton] at hz; subst hz; omega)) (by omega)
      have HBq := zqd hb
      refine SchedT.go _ rfl rfl rfl (fun K hK => ?_)
      refine tq_app _ _ _ rfl rfl rfl hrun ?_
      clear hrun hb
      refine hK _ _ (.inr (by first | exact (HBq).out.blk 0 rfl | exact (HBq).out.blk 1 rfl | exact (HBq).out.blk 2 rfl | exact (HBq).out.blk 3 rfl)) ?_
      clear hK K
      (try dsimp only [Act.put])
      (try simp only [List.setIfInBounds_toArray])
      refine SchedT.node [4] (by kernel_rfl) ?_
      refine ⟨?_, trivial⟩
      refine SchedT.go _ rfl rfl rfl (fun K hK => ?_)
      go_simp
      go_at_call 65
      refine (dynamic_yes s (wbq) HBo.out.hd HBo.out.dyn).mono ?_
      rintro e wcq ⟨daq, dnq, dcq, dxq, rfl, hd1, hd2, hdo, hdg⟩
      have HCq := zqd ((HBq).out.gr hdg)
      have HDq := zqd hdo.rd
      clear hd1 hdo hdg
      refine ⟨_, rfl, ?_⟩
      refine hK _ _ (.inr (by first | exact (HCq).out.blk 0 rfl | exact (HCq).out.blk 1 rfl | exact (HCq).out.blk 2 rfl | exact (HCq).out.blk 3 rfl)) ?_
      clear hK K
      (try dsimp only [Act.put])
      (try simp only [zqa, zqb, zqc])
      refine SchedT.node [5] (by kernel_rfl) ?_
      refine ⟨?_, trivial⟩
      obtain ⟨afq, cfq, wfq, hrun, hb⟩ := (HCq).out.app daq (dnq) dcq dxq (n + 1 + dnq) rfl (HDq.out) (by omega)
      have HFq := zqd hb
      refine SchedT.go _ rfl rfl rfl (fun K hK => ?_)
      refine tq_app _ _ _ rfl rfl rfl hrun ?_
      clear hrun hb
      refine hK _ _ (.inr (by first | exact (HFq).out.blk 0 rfl | exact (HFq).out.blk 1 rfl | exact (HFq).out.blk 2 rfl | exact (HFq).out.blk 3 rfl)) ?_
      clear hK K
      (try dsimp only [Act.put])
      (try simp only [List.setIfInBounds_toArray])
      refine SchedT.node [10] (by kernel_rfl) ?_
      refine ⟨?_, trivial⟩
      obtain ⟨ae, ce, we, hrun, hb⟩ := (HFq).out.app (some ⟨(waq).heap.size, 0, none⟩) (1) 1 [s.chk] (n + 1 + dnq + 1) rfl (by first | exact rd_cblk [s.chk] 1 ((HFq).out.blk 0 rfl) rfl rfl (by omega) (by intro z hz; simp only [List.mem_singleton] at hz; subst hz; omega) | exact rd_cblk [s.chk] 1 ((HFq).out.blk 1 rfl) rfl rfl (by omega) (by intro z hz; simp only [List.mem_singleton] at hz; subst hz; omega) | exact rd_cblk [s.chk] 1 ((HFq).out.blk 2 rfl) rfl rfl (by omega) (by intro z hz; simp only [List.mem_singleton] at hz; subst hz; omega)) (by omega)
      have HE := zqd hb
      refine SchedT.go _ rfl rfl rfl (fun K hK => ?_)
      refine tq_app _ _ _ rfl rfl rfl hrun ?_
      clear hrun hb
      refine hK _ _ (.inr (by first | exact (HE).out.blk 0 rfl | exact (HE).out.blk 1 rfl | exact (HE).out.blk 2 rfl | exact (HE).out.blk 3 rfl)) ?_
      clear hK K
      (try dsimp only [Act.put])
      (try simp only [List.setIfInBounds_toArray])
      refine SchedT.node [11] (by kernel_rfl) ?_
      refine ⟨?_, trivial⟩
      refine SchedT.go _ rfl rfl rfl (fun K hK => ?_)
      go_simp
      refine hK _ _ (.inl ⟨rfl, rfl⟩) ?_
      clear hK K
      (try dsimp only [Act.put])
      (try simp only [zqa, zqb, zqc])
      refine SchedT.nil ?_
      have HEE := zqd (show Buf w [(w.heap.size, 85, MCells s)] ae (n + 1 + dnq + 1) ce _ we by first | exact HE.out.drop | exact HE.out.drop.drop | exact HE.out.drop.drop.drop)
      clear HE
      have p6 : (we).cell? ⟨w.heap.size, 6, none⟩ = some (.int .i64 0) := by rw [← HUZ.out]; exact (HEE).out.at 0 rfl 6 rfl
      have p1 := (HEE).out.at 0 rfl 1 rfl
      have p16 := (HEE).out.at 0 rfl 16 rfl
      by_cases hu : s.hd.check = 0
      ·have hub : (s.hd.check != 0) = false := by simpa using hu
       clear hu
       go_upto_region 36 with (go_at_call 66; ((with_reducible refine (big_is HBG.out _).mono ?_)); rintro e w' ⟨rfl, rfl⟩)
       clear p6 p1 p16 hub
       have c25 := (HEE).out.at 0 rfl 25 rfl
       obtain ⟨az, cz, wz, hrunz, hbz⟩ := (HEE).out.app s.a s.n s.c ys (n + 1 + dnq + 1 + s.n) rfl (HR.out.kept (HEE).out.gr0) (by omega)
       have HRZ := zqd hrunz
       have HZZ := zqd hbz
       clear hrunz hbz
       go_wp2_with (at_builtin; refine wpList_app rfl _ _ _ rfl rfl rfl HRZ.out ?_)
       go_ret2
       exact ⟨az, _, cz, _, rfl, by omega, by omega, HZZ.out.own, HZZ.out.gr0⟩
      ·have hub : (s.hd.check != 0) = true := by simpa using hu
       clear hu
       go_wp2_with (go_at_call 66; ((with_reducible refine (big_is HBG.out _).mono ?_)); rintro e w' ⟨rfl, rfl⟩)
       refine ((HEE).out.put 2 2 (n + 1 + dnq + 1 + 2) _ rfl rfl (by omega) (by omega)).mono ?_
       rintro e wu ⟨au, cu, rfl, hru⟩
       have HU := zqd hru
       clear hru p6 p1 p16 hub
       have c25 := (HU).out.at 0 rfl 25 rfl
       obtain ⟨az, cz, wz, hrunz, hbz⟩ := (HU).out.app s.a s.n s.c ys (n + 1 + dnq + 1 + 2 + s.n) rfl (HR.out.kept (HU).out.gr0) (by omega)
       have HRZ := zqd hrunz
       have HZZ := zqd hbz
       clear hrunz hbz
       go_wp2_with (at_builtin; refine wpList_app rfl _ _ _ rfl rfl rfl HRZ.out ?_)
       go_ret2
       exact ⟨az, _, cz, _, rfl, by omega, by omega, HZZ.out.own, HZZ.out.gr0⟩
    ·refine SchedT.go _ rfl rfl rfl (fun K hK => ?_)
     go_simp
     obtain ⟨woq, hw⟩ : ∃ y, y = (wq).alloc (.cells #[.int .u8 (s.chk)] 5) := ⟨_, rfl⟩
     have HOq := zqd ((HQ).out.add (w' := woq) (g := (wq).heap.size) (t := 5) (cs := [.int .u8 (s.chk)]) (by rw [hw]; exact CBlk.new _ _ _) (by rw [hw]; exact Gr.alloc _ _) (Nat.le_refl _))
     have HGL := zqd (show Gr (wq) woq by rw [hw]; exact Gr.alloc _ _)
     first | rw [← hw] | (go_show; fail)
     clear hw
     refine hK _ _ (.inr (by first | exact (HOq).out.blk 1 rfl | exact (HOq).out.blk 2 rfl | exact (HOq).out.blk 3 rfl)) ?_
     clear hK K
     (try dsimp only [Act.put])
     (try simp only [zqa, zqb, zqc])
     refine SchedT.node [1] (by kernel_rfl) ?_
     refine ⟨?_, trivial⟩
     refine SchedT.go _ rfl rfl rfl (fun K hK => ?_)
     go_simp
     obtain ⟨waq, hw⟩ : ∃ y, y = (woq).alloc (.cells #[.int .u8 (208)] 5) := ⟨_, rfl⟩
     have HAq := zqd ((HOq).out.add (w' := waq) (g := (woq).heap.size) (t := 5) (cs := [.int .u8 (208)]) (by rw [hw]; exact CBlk.new _ _ _) (by rw [hw]; exact Gr.alloc _ _) (Nat.le_refl _))
     have HGL := zqd (show Gr (woq) waq by rw [hw]; exact Gr.alloc _ _)
     first | rw [← hw] | (go_show; fail)
     clear hw
     refine hK _ _ (.inr (by first | exact (HAq).out.blk 1 rfl | exact (HAq).out.blk 2 rfl | exact (HAq).out.blk 3 rfl)) ?_
     clear hK K
     (try dsimp only [Act.put])
     (try simp only [zqa, zqb, zqc])
     refine SchedT.node [2] (by kernel_rfl) ?_
     refine ⟨?_, trivial⟩
     obtain ⟨abq, cbq, wbq, hrun, hb⟩ := (HAq).out.app (some ⟨(woq).heap.size, 0, none⟩) (1) 1 [208] (n + 1) rfl (by first | exact rd_cblk [208] 1 ((HAq).out.blk 0 rfl) rfl rfl (by omega) (by intro z hz; simp only [List.mem_singleton] at hz; subst hz; omega) | exact rd_cblk [208] 1 ((HAq).out.blk 1 rfl) rfl rfl (by omega) (by intro z hz; simp only [List.mem_singleton] at hz; subst hz; omega) | exact rd_cblk [208] 1 ((HAq).out.blk 2 rfl) rfl rfl (by omega) (by intro z hz; simp only [List.mem_singleton] at hz; subst hz; omega)) (by omega)
     have HBq := zqd hb
     refine SchedT.go _ rfl rfl rfl (fun K hK => ?_)
     refine tq_app _ _ _ rfl rfl rfl hrun ?_
     clear hrun hb
     refine hK _ _ (.inr (by first | exact (HBq).out.blk 0 rfl | exact (HBq).out.blk 1 rfl | exact (HBq).out.blk 2 rfl | exact (HBq).out.blk 3 rfl)) ?_
     clear hK K
     (try dsimp only [Act.put])
     (try simp only [List.setIfInBounds_toArray])
     refine SchedT.node [4] (by kernel_rfl) ?_
     refine ⟨?_, trivial⟩
     refine SchedT.go _ rfl rfl rfl (fun K hK => ?_)
     go_simp
     go_at_call 65
     refine (dynamic_yes s (wbq) HBo.out.hd HBo.out.dyn).mono ?_
     rintro e wcq ⟨daq, dnq, dcq, dxq, rfl, hd1, hd2, hdo, hdg⟩
     have HCq := zqd ((HBq).out.gr hdg)
     have HDq := zqd hdo.rd
     clear hd1 hdo hdg
     refine ⟨_, rfl, ?_⟩
     refine hK _ _ (.inr (by first | exact (HCq).out.blk 0 rfl | exact (HCq).out.blk 1 rfl | exact (HCq).out.blk 2 rfl | exact (HCq).out.blk 3 rfl)) ?_
     clear hK K
     (try dsimp only [Act.put])
     (try simp only [zqa, zqb, zqc])
     refine SchedT.node [5] (by kernel_rfl) ?_
     refine ⟨?_, trivial⟩
     obtain ⟨afq, cfq, wfq, hrun, hb⟩ := (HCq).out.app daq (dnq) dcq dxq (n + 1 + dnq) rfl (HDq.out) (by omega)
     have HFq := zqd hb
     refine SchedT.go _ rfl rfl rfl (fun K hK => ?_)
     refine tq_app _ _ _ rfl rfl rfl hrun ?_
     clear hrun hb
     refine hK _ _ (.inr (by first | exact (HFq).out.blk 0 rfl | exact (HFq).out.blk 1 rfl | exact (HFq).out.blk 2 rfl | exact (HFq).out.blk 3 rfl)) ?_
     clear hK K
     (try dsimp only [Act.put])
     (try simp only [List.setIfInBounds_toArray])
     refine SchedT.node [10] (by kernel_rfl) ?_
     refine ⟨?_, trivial⟩
     obtain ⟨ae, ce, we, hrun, hb⟩ := (HFq).out.app (some ⟨(wq).heap.size, 0, none⟩) (1) 1 [s.chk] (n + 1 + dnq + 1) rfl (by first | exact rd_cblk [s.chk] 1 ((HFq).out.blk 0 rfl) rfl rfl (by omega) (by intro z hz; simp only [List.mem_singleton] at hz; subst hz; omega) | exact rd_cblk [s.chk] 1 ((HFq).out.blk 1 rfl) rfl rfl (by omega) (by intro z hz; simp only [List.mem_singleton] at hz; subst hz; omega) | exact rd_cblk [s.chk] 1 ((HFq).out.blk 2 rfl) rfl rfl (by omega) (by intro z hz; simp only [List.mem_singleton] at hz; subst hz; omega)) (by omega)
     have HE := zqd hb
     refine SchedT.go _ rfl rfl rfl (fun K hK => ?_)
     refine tq_app _ _ _ rfl rfl rfl hrun ?_
     clear hrun hb
     refine hK _ _ (.inr (by first | exact (HE).out.blk 0 rfl | exact (HE).out.blk 1 rfl | exact (HE).out.blk 2 rfl | exact (HE).out.blk 3 rfl)) ?_
     clear hK K
     (try dsimp only [Act.put])
     (try simp only [List.setIfInBounds_toArray])
     refine SchedT.node [11] (by kernel_rfl) ?_
     refine ⟨?_, trivial⟩
     refine SchedT.go _ rfl rfl rfl (fun K hK => ?_)
     go_simp
     refine hK _ _ (.inl ⟨rfl, rfl⟩) ?_
     clear hK K
     (try dsimp only [Act.put])
     (try simp only [zqa, zqb, zqc])
     refine SchedT.nil ?_
     have HEE := zqd (show Buf w [(w.heap.size, 85, MCells s)] ae (n + 1 + dnq + 1) ce _ we by first | exact HE.out.drop | exact HE.out.drop.drop | exact HE.out.drop.drop.drop)
     clear HE
     have p6 : (we).cell? ⟨w.heap.size, 6, none⟩ = some (.int .i64 0) := by rw [← HUZ.out]; exact (HEE).out.at 0 rfl 6 rfl
     have p1 := (HEE).out.at 0 rfl 1 rfl
     have p16 := (HEE).out.at 0 rfl 16 rfl
     by_cases hu : s.hd.check = 0
     ·have hub : (s.hd.check != 0) = false := by simpa using hu
      clear hu
      go_upto_region 36 with (go_at_call 66; ((with_reducible refine (big_is HBG.out _).mono ?_)); rintro e w' ⟨rfl, rfl⟩)
      clear p6 p1 p16 hub
      have c25 := (HEE).out.at 0 rfl 25 rfl
      obtain ⟨az, cz, wz, hrunz, hbz⟩ := (HEE).out.app s.a s.n s.c ys (n + 1 + dnq + 1 + s.n) rfl (HR.out.kept (HEE).out.gr0) (by omega)
      have HRZ := zqd hrunz
      have HZZ := zqd hbz
      clear hrunz hbz
      go_wp2_with (at_builtin; refine wpList_app rfl _ _ _ rfl rfl rfl HRZ.out ?_)
      go_ret2
      exact ⟨az, _, cz, _, rfl, by omega, by omega, HZZ.out.own, HZZ.out.gr0⟩
     ·have hub : (s.hd.check != 0) = true := by simpa using hu
      clear hu
      go_wp2_with (go_at_call 66; ((with_reducible refine (big_is HBG.out _).mono ?_)); rintro e w' ⟨rfl, rfl⟩)
      refine ((HEE).out.put 2 2 (n + 1 + dnq + 1 + 2) _ rfl rfl (by omega) (by omega)).mono ?_
      rintro e wu ⟨au, cu, rfl, hru⟩
      have HU := zqd hru
      clear hru p6 p1 p16 hub
      have c25 := (HU).out.at 0 rfl 25 rfl
      obtain ⟨az, cz, wz, hrunz, hbz⟩ := (HU).out.app s.a s.n s.c ys (n + 1 + dnq + 1 + 2 + s.n) rfl (HR.out.kept (HU).out.gr0) (by omega)
      have HRZ := zqd hrunz
      have HZZ := zqd hbz
      clear hrunz hbz
      go_wp2_with (at_builtin; refine wpList_app rfl _ _ _ rfl rfl rfl HRZ.out ?_)
      go_ret2
      exact ⟨az, _, cz, _, rfl, by omega, by omega, HZZ.out.own, HZZ.out.gr0⟩
   ·have e4 : (s.fmt == 4) = false := by rw [hf]; rfl
    have e5 : (s.fmt == 5) = true := by rw [hf]; rfl
    have HKD := zqd (valid_all HBo.out.hd).1
    clear hf
    have HRH := zqd (smlh_rng (H.out.blk 0 rfl))
    have HZ := zqd (show CBlk wc.heap.size 49 [.int .i64 0, .int .i64 0, .int .i64 0, .int .i64 0, .int .i64 0, .int .i64 0, .int .i64 0, .int .i64 0, .int .i64 0, .int .i64 0, .int .i64 0, .int .i64 0, .int .i64 0, .int .i64 0, .int .i64 0] (wc.alloc (.cells #[.int .i64 0, .int .i64 0, .int .i64 0, .int .i64 0, .int .i64 0, .int .i64 0, .int .i64 0, .int .i64 0, .int .i64 0, .int .i64 0, .int .i64 0, .int .i64 0, .int .i64 0, .int .i64 0, .int .i64 0] 49)) from CBlk.new _ _ _)
    go_upto_region 26 with (first | (refine rng_load rfl 49 _ rfl w.heap.size 7 rfl (HCells s.hd) HRH.out Tryd.underlying49 rfl (by kernel_rfl) ?_) | (refine cblk_store rfl 49 _ _ rfl wc.heap.size (HCells s.hd) HZ.out rfl rfl rfl (by kernel_rfl) rfl ?_; intro w5 hb9 he9; have HB5 := zqd hb9; have HG5 := zqd (show Gr wc w5 by rw [← he9]; exact gr_setCells (Gr.alloc _ _) (Nat.le_refl _) _ _); clear hb9 he9))
    have H5 := zqd (H.out.add HB5.out HG5.out (Nat.le_refl _))
    clear HZ HRH HB5 HG5
    obtain ⟨g6, hg6⟩ : ∃ g, wc.heap.size = g := ⟨_, rfl⟩
    rw [hg6] at H5
    rw [hg6]
    clear hg6
    have c0 := H5.out.at 0 rfl 0 rfl
    have hkr : 1 ≤ s.hd.kind ∧ s.hd.kind ≤ 2 := by have := HKD.out; omega
    obtain ⟨r1, r2⟩ := hkr
    obtain ⟨a6, c6, w6, hrun, hrl⟩ := (H5).out.lit [209, s.hd.kind] 2 (n + 2) rfl rfl (by intro z hz; simp only [List.mem_cons, List.not_mem_nil, or_false] at hz; (rcases hz with rfl | rfl <;> omega)) (by omega) (by omega)
    simp only [List.map_cons, List.map_nil] at hrun
    have HRL := zqd hrun
    have H6 := zqd hrl
    clear hrun hrl
    go_upto_region 27 with (at_builtin; refine wpList_app rfl _ _ _ rfl rfl rfl HRL.out ?_)
    clear HRL
    clear c0
    have hI : ∀ u, Gr w6 u → u.cell? ⟨g6, 6, none⟩ = some (.int .i64 s.hd.to) := fun u hu => ((H6).out.gr hu).at 0 rfl 6 rfl
    have hI1 : ∀ u, Gr w6 u → u.cell? ⟨g6, 5, none⟩ = some (.int .i64 s.hd.frm) := fun u hu => ((H6).out.gr hu).at 0 rfl 5 rfl
    go_upto_region 27 with (fail)
    refine Sched2.wp_region_sched (fun u => u.cell? ⟨g6, 6, none⟩ = some (.int .i64 s.hd.to)) [4, 5] [] [3, 6, 7] true hI (by kernel_rfl) (by kernel_rfl) ?_
    repeat (first | (refine Sched2.walk1_ord rfl ?_) | ((first | (refine Sched2.walk1_no rfl rfl rfl (fun K hK => ?_)) | (refine Sched2.walk1_gr rfl rfl rfl rfl (fun K hK => ?_); apply Exists.intro; refine ⟨fun w1 hw1 => ?_, ?_⟩; (focus (go_simp; (try go_ints); (try (simp only [IntWalk.iteOmega]; go_simp)); first | done | (with_reducible rfl) | (with_reducible exact ⟨rfl, rfl⟩)))) | (refine Sched2.walk1_late rfl rfl rfl rfl (fun K hK => ?_); apply Exists.intro; refine ⟨fun w1 hw1 => ?_, ?_⟩; (focus (go_simp; (try go_ints); (try (simp only [IntWalk.iteOmega]; go_simp)); first | done | (with_reducible rfl) | (with_reducible exact ⟨rfl, rfl⟩))))); simp only [Act.put, zqa, zqb, zqc]; refine hK _ ?_; clear hK K))
    refine Sched2.walk1_nil ?_
    intro wq hwq
    have HQ := zqd ((H6).out.gr hwq)
    clear hwq hI hI1
    dsimp only [Sched.EndN, List.nil_append, List.cons_append, Act.put]
    (try simp only [zqa, zqb, zqc])
    simp only [Sched2.lasts, List.filterMap_cons, List.filterMap_nil, List.getElem?_toArray, List.getElem?_cons_succ, List.getElem?_cons_zero]
    repeat (first | (refine Sched2.walk2_no rfl (fun K hK => ?_); simp only [Act.put, zqa, zqb, zqc]; refine hK _ ?_; clear hK K) | (refine Sched2.walk2_go rfl (fun K hK => ?_); go_simp; (try go_ints); (try (simp only [IntWalk.iteOmega]; go_simp)); first | (refine hK _ _ (by first | exact .inl ⟨rfl, rfl⟩ | exact .inr ((by assumption))) ?_; clear hK K) | (go_at_call 51; ((with_reducible refine (HQ.out.put 4 4 (n + 6) _ rfl rfl (by omega) (by omega)).mono ?_)); rintro e wm ⟨am, cm, rfl, hrm⟩; have HM := zqd hrm; have him := hrm.at 0 rfl 6 rfl; clear hrm; refine ⟨_, rfl, ?_⟩; refine hK _ _ (.inr him) ?_; clear hK K) | (go_at_call 51; ((with_reducible refine (HM.out.put 4 4 (n + 10) _ rfl rfl (by omega) (by omega)).mono ?_)); rintro e w7 ⟨a7, c7, rfl, hrm2⟩; have H7 := zqd hrm2; have him2 := hrm2.at 0 rfl 6 rfl; clear hrm2 him; refine ⟨_, rfl, ?_⟩; refine hK _ _ (.inr him2) ?_; clear hK K him2)))
    refine Sched2.walk2_nil ?_
    clear H6 HQ HM
    have hI : ∀ u, Gr w7 u → u.cell? ⟨g6, 8, none⟩ = some (.int .i64 s.hd.tport) := fun u hu => ((H7).out.gr hu).at 0 rfl 8 rfl
    have hI1 : ∀ u, Gr w7 u → u.cell? ⟨g6, 7, none⟩ = some (.int .i64 s.hd.fport) := fun u hu => ((H7).out.gr hu).at 0 rfl 7 rfl
    go_upto_region 28 with (fail)
    refine Sched2.wp_region_sched (fun u => u.cell? ⟨g6, 8, none⟩ = some (.int .i64 s.hd.tport)) [4, 5] [] [3, 6, 7] true hI (by kernel_rfl) (by kernel_rfl) ?_
    repeat (first | (refine Sched2.walk1_ord rfl ?_) | ((first | (refine Sched2.walk1_no rfl rfl rfl (fun K hK => ?_)) | (refine Sched2.walk1_gr rfl rfl rfl rfl (fun K hK => ?_); apply Exists.intro; refine ⟨fun w1 hw1 => ?_, ?_⟩; (focus (go_simp; (try go_ints); (try (simp only [IntWalk.iteOmega]; go_simp)); first | done | (with_reducible rfl) | (with_reducible exact ⟨rfl, rfl⟩)))) | (refine Sched2.walk1_late rfl rfl rfl rfl (fun K hK => ?_); apply Exists.intro; refine ⟨fun w1 hw1 => ?_, ?_⟩; (focus (go_simp; (try go_ints); (try (simp only [IntWalk.iteOmega]; go_simp)); first | done | (with_reducible rfl) | (with_reducible exact ⟨rfl, rfl⟩))))); simp only [Act.put, zqa, zqb, zqc]; refine hK _ ?_; clear hK K))
    refine Sched2.walk1_nil ?_
    intro wq hwq
    have HQ := zqd ((H7).out.gr hwq)
    clear hwq hI hI1
    dsimp only [Sched.EndN, List.nil_append, List.cons_append, Act.put]
    (try simp only [zqa, zqb, zqc])
    simp only [Sched2.lasts, List.filterMap_cons, List.filterMap_nil, List.getElem?_toArray, List.getElem?_cons_succ, List.getElem?_cons_zero]
    repeat (first | (refine Sched2.walk2_no rfl (fun K hK => ?_); simp only [Act.put, zqa, zqb, zqc]; refine hK _ ?_; clear hK K) | (refine Sched2.walk2_go rfl (fun K hK => ?_); go_simp; (try go_ints); (try (simp only [IntWalk.iteOmega]; go_simp)); first | (refine hK _ _ (by first | exact .inl ⟨rfl, rfl⟩ | exact .inr ((by assumption))) ?_; clear hK K) | (go_at_call 51; ((with_reducible refine (HQ.out.put 2 2 (n + 12) _ rfl rfl (by omega) (by omega)).mono ?_)); rintro e wm ⟨am, cm, rfl, hrm⟩; have HM := zqd hrm; have him := hrm.at 0 rfl 8 rfl; clear hrm; refine ⟨_, rfl, ?_⟩; refine hK _ _ (.inr him) ?_; clear hK K) | (go_at_call 51; ((with_reducible refine (HM.out.put 2 2 (n + 14) _ rfl rfl (by omega) (by omega)).mono ?_)); rintro e w8 ⟨a8, c8, rfl, hrm2⟩; have H8 := zqd hrm2; have him2 := hrm2.at 0 rfl 8 rfl; clear hrm2 him; refine ⟨_, rfl, ?_⟩; refine hK _ _ (.inr him2) ?_; clear hK K him2)))
    refine Sched2.walk2_nil ?_
    clear H7 HQ HM
    cases K
    ·go_upto_region 31 with (fail)
     have hcc := HCK.out
     refine SchedT.wp_region_sched (fun u => CBlk w.heap.size 85 (MCells s) u) [0, 1, 4, 5, 6] [] [2, 3, 7, 8, 9] true (fun u hu => (H8.out.gr hu).blk 1 rfl) (by kernel_rfl) (by kernel_rfl) ?_
     repeat (first | ((with_reducible refine Sched2.walk1_ord ?_ ?_); (focus rfl)) | ((first | ((with_reducible refine Sched2.walk1_no ?_ ?_ ?_ (fun K hK => ?_)); (focus rfl); (focus rfl); (focus rfl)) | ((with_reducible refine Sched2.walk1_gr ?_ ?_ ?_ ?_ (fun K hK => ?_)); (focus rfl); (focus rfl); (focus rfl); (focus rfl); apply Exists.intro; refine ⟨fun w1 hw1 => ?_, ?_⟩; (focus (go_simp; (try go_ints); (try (simp only [IntWalk.iteOmega]; go_simp)); first | done | (with_reducible rfl) | (with_reducible exact ⟨rfl, rfl⟩)))) | ((with_reducible refine Sched2.walk1_late ?_ ?_ ?_ ?_ (fun K hK => ?_)); (focus rfl); (focus rfl); (focus rfl); (focus rfl); apply Exists.intro; refine ⟨fun w1 hw1 => ?_, ?_⟩; (focus (go_simp; (try go_ints); (try (simp only [IntWalk.iteOmega]; go_simp)); first | done | (with_reducible rfl) | (with_reducible exact ⟨rfl, rfl⟩))))); simp only [Act.put, zqa, zqb, zqc]; refine hK _ ?_; clear hK K))
     (with_reducible refine Sched2.walk1_late ?_ ?_ ?_ ?_ (fun K hK => ?_)); (focus rfl); (focus rfl); (focus rfl); (focus rfl)
     refine ⟨MVal s, fun w1 hw1 => Sched2.gq_load_mid 85 _ rfl w.heap.size 0 rfl (MCells s) _ (CBlk.rng hw1 0 _ (fun j v hv => by rw [Nat.zero_add]; exact hv)) Tryd.underlying85 rfl (by kernel_rfl), ?_⟩
     simp only [Act.put, zqa, zqb, zqc]
     refine hK _ ?_
     clear hK K
     repeat (first | ((with_reducible refine Sched2.walk1_ord ?_ ?_); (focus rfl)) | ((first | ((with_reducible refine Sched2.walk1_no ?_ ?_ ?_ (fun K hK => ?_)); (focus rfl); (focus rfl); (focus rfl)) | ((with_reducible refine Sched2.walk1_gr ?_ ?_ ?_ ?_ (fun K hK => ?_)); (focus rfl); (focus rfl); (focus rfl); (focus rfl); apply Exists.intro; refine ⟨fun w1 hw1 => ?_, ?_⟩; (focus (go_simp; (try go_ints); (try (simp only [IntWalk.iteOmega]; go_simp)); first | done | (with_reducible rfl) | (with_reducible exact ⟨rfl, rfl⟩)))) | ((with_reducible refine Sched2.walk1_late ?_ ?_ ?_ ?_ (fun K hK => ?_)); (focus rfl); (focus rfl); (focus rfl); (focus rfl); apply Exists.intro; refine ⟨fun w1 hw1 => ?_, ?_⟩; (focus (go_simp; (try go_ints); (try (simp only [IntWalk.iteOmega]; go_simp)); first | done | (with_reducible rfl) | (with_reducible exact ⟨rfl, rfl⟩))))); simp only [Act.put, zqa, zqb, zqc]; refine hK _ ?_; clear hK K))
     (with_reducible refine Sched2.walk1_nil ?_)
     intro wq hwq
     dsimp only [Sched.EndN, List.nil_append, List.cons_append, Act.put, List.length_cons, List.length_nil]
     (try simp only [zqa, zqb, zqc])
     have HQ := zqd (H8.out.gr hwq)
     clear hwq hcc
     refine SchedT.node [2, 7] (by kernel_rfl) ?_
     refine ⟨?_, ?_, trivial⟩
     ·refine SchedT.go _ rfl rfl rfl (fun K hK => ?_)
      go_simp
      go_at_call 65
      refine (dynamic_yes s (wq) HBo.out.hd HBo.out.dyn).mono ?_
      rintro e wcq ⟨daq, dnq, dcq, dxq, rfl, hd1, hd2, hdo, hdg⟩
      have HCq := zqd ((HQ).out.gr hdg)
      have HDq := zqd hdo.rd
      clear hd1 hdo hdg
      refine ⟨_, rfl, ?_⟩
      refine hK _ _ (.inr (by first | exact (HCq).out.blk 0 rfl | exact (HCq).out.blk 1 rfl | exact (HCq).out.blk 2 rfl | exact (HCq).out.blk 3 rfl)) ?_
      clear hK K
      (try dsimp only [Act.put])
      (try simp only [zqa, zqb, zqc])
      refine SchedT.node [3, 7] (by kernel_rfl) ?_
      refine ⟨?_, ?_, trivial⟩
      ·obtain ⟨agq, cgq, wgq, hrun, hb⟩ := (HCq).out.app daq (dnq) dcq dxq (n + 14 + dnq) rfl ((HDq).out) (by omega)
       have HGq := zqd hb
       refine SchedT.go _ rfl rfl rfl (fun K hK => ?_)
       refine tq_app _ _ _ rfl rfl rfl hrun ?_
       clear hrun hb
       refine hK _ _ (.inr (by first | exact (HGq).out.blk 0 rfl | exact (HGq).out.blk 1 rfl | exact (HGq).out.blk 2 rfl | exact (HGq).out.blk 3 rfl)) ?_
       clear hK K
       (try dsimp only [Act.put])
       (try simp only [List.setIfInBounds_toArray])
       refine SchedT.node [7] (by kernel_rfl) ?_
       refine ⟨?_, trivial⟩
       refine SchedT.go _ rfl rfl rfl (fun K hK => ?_)
       go_simp
       obtain ⟨wlq, hw⟩ : ∃ y, y = (wgq).alloc (.cells #[.int .u8 (s.chk)] 5) := ⟨_, rfl⟩
       have HLq := zqd ((HGq).out.add (w' := wlq) (g := (wgq).heap.size) (t := 5) (cs := [.int .u8 (s.chk)]) (by rw [hw]; exact CBlk.new _ _ _) (by rw [hw]; exact Gr.alloc _ _) (Nat.le_refl _))
       have HGL := zqd (show Gr (wgq) wlq by rw [hw]; exact Gr.alloc _ _)
       first | rw [← hw] | (go_show; fail)
       clear hw
       refine hK _ _ (.inr (by first | exact (HLq).out.blk 1 rfl | exact (HLq).out.blk 2 rfl | exact (HLq).out.blk 3 rfl)) ?_
       clear hK K
       (try dsimp only [Act.put])
       (try simp only [zqa, zqb, zqc])
       refine SchedT.node [8] (by kernel_rfl) ?_
       refine ⟨?_, trivial⟩
       obtain ⟨ae, ce, we, hrun, hb⟩ := (HLq).out.app (some ⟨(wgq).heap.size, 0, none⟩) (1) 1 [s.chk] (n + 14 + dnq + 1) rfl (by first | exact rd_cblk [s.chk] 1 ((HLq).out.blk 0 rfl) rfl rfl (by omega) (by intro z hz; simp only [List.mem_singleton] at hz; subst hz; omega) | exact rd_cblk [s.chk] 1 ((HLq).out.blk 1 rfl) rfl rfl (by omega) (by intro z hz; simp only [List.mem_singleton] at hz; subst hz; omega) | exact rd_cblk [s.chk] 1 ((HLq).out.blk 2 rfl) rfl rfl (by omega) (by intro z hz; simp only [List.mem_singleton] at hz; subst hz; omega)) (by omega)
       have HE := zqd hb
       refine SchedT.go _ rfl rfl rfl (fun K hK => ?_)
       refine tq_app _ _ _ rfl rfl rfl hrun ?_
       clear hrun hb
       refine hK _ _ (.inr (by first | exact (HE).out.blk 0 rfl | exact (HE).out.blk 1 rfl | exact (HE).out.blk 2 rfl | exact (HE).out.blk 3 rfl)) ?_
       clear hK K
       (try dsimp only [Act.put])
       (try simp only [List.setIfInBounds_toArray])
       refine SchedT.node [9] (by kernel_rfl) ?_
       refine ⟨?_, trivial⟩
       refine SchedT.go _ rfl rfl rfl (fun K hK => ?_)
       go_simp
       refine hK _ _ (.inl ⟨rfl, rfl⟩) ?_
       clear hK K
       (try dsimp only [Act.put])
       (try simp only [zqa, zqb, zqc])
       refine SchedT.nil ?_
       have HEE := zqd (show Buf w [(w.heap.size, 85, MCells s)] ae (n + 14 + dnq + 1) ce _ we by first | exact HE.out.drop | exact HE.out.drop.drop | exact HE.out.drop.drop.drop)
       clear HE
       have p6 : (we).cell? ⟨w.heap.size, 6, none⟩ = some (.int .i64 0) := by rw [← HUZ.out]; exact (HEE).out.at 0 rfl 6 rfl
       have p1 := (HEE).out.at 0 rfl 1 rfl
       have p16 := (HEE).out.at 0 rfl 16 rfl
       by_cases hu : s.hd.check = 0
       ·have hub : (s.hd.check != 0) = false := by simpa using hu
        clear hu
        go_upto_region 36 with (go_at_call 66; ((with_reducible refine (big_is HBG.out _).mono ?_)); rintro e w' ⟨rfl, rfl⟩)
        clear p6 p1 p16 hub
        have c25 := (HEE).out.at 0 rfl 25 rfl
        obtain ⟨az, cz, wz, hrunz, hbz⟩ := (HEE).out.app s.a s.n s.c ys (n + 14 + dnq + 1 + s.n) rfl (HR.out.kept (HEE).out.gr0) (by omega)
        have HRZ := zqd hrunz
        have HZZ := zqd hbz
        clear hrunz hbz
        go_wp2_with (at_builtin; refine wpList_app rfl _ _ _ rfl rfl rfl HRZ.out ?_)
        go_ret2
        exact ⟨az, _, cz, _, rfl, by omega, by omega, HZZ.out.own, HZZ.out.gr0⟩
       ·have hub : (s.hd.check != 0) = true := by simpa using hu
        clear hu
        go_wp2_with (go_at_call 66; ((with_reducible refine (big_is HBG.out _).mono ?_)); rintro e w' ⟨rfl, rfl⟩)
        refine ((HEE).out.put 2 2 (n + 14 + dnq + 1 + 2) _ rfl rfl (by omega) (by omega)).mono ?_
        rintro e wu ⟨au, cu, rfl, hru⟩
        have HU := zqd hru
        clear hru p6 p1 p16 hub
        have c25 := (HU).out.at 0 rfl 25 rfl
        obtain ⟨az, cz, wz, hrunz, hbz⟩ := (HU).out.app s.a s.n s.c ys (n + 14 + dnq + 1 + 2 + s.n) rfl (HR.out.kept (HU).out.gr0) (by omega)
        have HRZ := zqd hrunz
        have HZZ := zqd hbz
        clear hrunz hbz
        go_wp2_with (at_builtin; refine wpList_app rfl _ _ _ rfl rfl rfl HRZ.out ?_)
        go_ret2
        exact ⟨az, _, cz, _, rfl, by omega, by omega, HZZ.out.own, HZZ.out.gr0⟩
      ·refine SchedT.go _ rfl rfl rfl (fun K hK => ?_)
       go_simp
       obtain ⟨wlq, hw⟩ : ∃ y, y = (wcq).alloc (.cells #[.int .u8 (s.chk)] 5) := ⟨_, rfl⟩
       have HLq := zqd ((HCq).out.add (w' := wlq) (g := (wcq).heap.size) (t := 5) (cs := [.int .u8 (s.chk)]) (by rw [hw]; exact CBlk.new _ _ _) (by rw [hw]; exact Gr.alloc _ _) (Nat.le_refl _))
       have HGL := zqd (show Gr (wcq) wlq by rw [hw]; exact Gr.alloc _ _)
       first | rw [← hw] | (go_show; fail)
       clear hw
       refine hK _ _ (.inr (by first | exact (HLq).out.blk 1 rfl | exact (HLq).out.blk 2 rfl | exact (HLq).out.blk 3 rfl)) ?_
       clear hK K
       (try dsimp only [Act.put])
       (try simp only [zqa, zqb, zqc])
       have HD2 := zqd ((HDq).out.kept HGL.out)
       refine SchedT.node [3] (by kernel_rfl) ?_
       refine ⟨?_, trivial⟩
       obtain ⟨afq, cfq, wfq, hrun, hb⟩ := (HLq).out.app daq (dnq) dcq dxq (n + 14 + dnq) rfl (HD2.out) (by omega)
       have HFq := zqd hb
       refine SchedT.go _ rfl rfl rfl (fun K hK => ?_)
       refine tq_app _ _ _ rfl rfl rfl hrun ?_
       clear hrun hb
       refine hK _ _ (.inr (by first | exact (HFq).out.blk 0 rfl | exact (HFq).out.blk 1 rfl | exact (HFq).out.blk 2 rfl | exact (HFq).out.blk 3 rfl)) ?_
       clear hK K
       (try dsimp only [Act.put])
       (try simp only [List.setIfInBounds_toArray])
       refine SchedT.node [8] (by kernel_rfl) ?_
       refine ⟨?_, trivial⟩
       obtain ⟨ae, ce, we, hrun, hb⟩ := (HFq).out.app (some ⟨(wcq).heap.size, 0, none⟩) (1) 1 [s.chk] (n + 14 + dnq + 1) rfl (by first | exact rd_cblk [s.chk] 1 ((HFq).out.blk 0 rfl) rfl rfl (by omega) (by intro z hz; simp only [List.mem_singleton] at hz; subst hz; omega) | exact rd_cblk [s.chk] 1 ((HFq).out.blk 1 rfl) rfl rfl (by omega) (by intro z hz; simp only [List.mem_singleton] at hz; subst hz; omega) | exact rd_cblk [s.chk] 1 ((HFq).out.blk 2 rfl) rfl rfl (by omega) (by intro z hz; simp only [List.mem_singleton] at hz; subst hz; omega)) (by omega)
       have HE := zqd hb
       refine SchedT.go _ rfl rfl rfl (fun K hK => ?_)
       refine tq_app _ _ _ rfl rfl rfl hrun ?_
       clear hrun hb
       refine hK _ _ (.inr (by first | exact (HE).out.blk 0 rfl | exact (HE).out.blk 1 rfl | exact (HE).out.blk 2 rfl | exact (HE).out.blk 3 rfl)) ?_
       clear hK K
       (try dsimp only [Act.put])
       (try simp only [List.setIfInBounds_toArray])
       refine SchedT.node [9] (by kernel_rfl) ?_
       refine ⟨?_, trivial⟩
       refine SchedT.go _ rfl rfl rfl (fun K hK => ?_)
       go_simp
       refine hK _ _ (.inl ⟨rfl, rfl⟩) ?_
       clear hK K
       (try dsimp only [Act.put])
       (try simp only [zqa, zqb, zqc])
       refine SchedT.nil ?_
       have HEE := zqd (show Buf w [(w.heap.size, 85, MCells s)] ae (n + 14 + dnq + 1) ce _ we by first | exact HE.out.drop | exact HE.out.drop.drop | exact HE.out.drop.drop.drop)
       clear HE
       have p6 : (we).cell? ⟨w.heap.size, 6, none⟩ = some (.int .i64 0) := by rw [← HUZ.out]; exact (HEE).out.at 0 rfl 6 rfl
       have p1 := (HEE).out.at 0 rfl 1 rfl
       have p16 := (HEE).out.at 0 rfl 16 rfl
       by_cases hu : s.hd.check = 0
       ·have hub : (s.hd.check != 0) = false := by simpa using hu
        clear hu
        go_upto_region 36 with (go_at_call 66; ((with_reducible refine (big_is HBG.out _).mono ?_)); rintro e w' ⟨rfl, rfl⟩)
        clear p6 p1 p16 hub
        have c25 := (HEE).out.at 0 rfl 25 rfl
        obtain ⟨az, cz, wz, hrunz, hbz⟩ := (HEE).out.app s.a s.n s.c ys (n + 14 + dnq + 1 + s.n) rfl (HR.out.kept (HEE).out.gr0) (by omega)
        have HRZ := zqd hrunz
        have HZZ := zqd hbz
        clear hrunz hbz
        go_wp2_with (at_builtin; refine wpList_app rfl _ _ _ rfl rfl rfl HRZ.out ?_)
        go_ret2
        exact ⟨az, _, cz, _, rfl, by omega, by omega, HZZ.out.own, HZZ.out.gr0⟩
       ·have hub : (s.hd.check != 0) = true := by simpa using hu
        clear hu
        go_wp2_with (go_at_call 66; ((with_reducible refine (big_is HBG.out _).mono ?_)); rintro e w' ⟨rfl, rfl⟩)
        refine ((HEE).out.put 2 2 (n + 14 + dnq + 1 + 2) _ rfl rfl (by omega) (by omega)).mono ?_
        rintro e wu ⟨au, cu, rfl, hru⟩
        have HU := zqd hru
        clear hru p6 p1 p16 hub
        have c25 := (HU).out.at 0 rfl 25 rfl
        obtain ⟨az, cz, wz, hrunz, hbz⟩ := (HU).out.app s.a s.n s.c ys (n + 14 + dnq + 1 + 2 + s.n) rfl (HR.out.kept (HU).out.gr0) (by omega)
        have HRZ := zqd hrunz
        have HZZ := zqd hbz
        clear hrunz hbz
        go_wp2_with (at_builtin; refine wpList_app rfl _ _ _ rfl rfl rfl HRZ.out ?_)
        go_ret2
        exact ⟨az, _, cz, _, rfl, by omega, by omega, HZZ.out.own, HZZ.out.gr0⟩
     ·refine SchedT.go _ rfl rfl rfl (fun K hK => ?_)
      go_simp
      obtain ⟨wmq, hw⟩ : ∃ y, y = (wq).alloc (.cells #[.int .u8 (s.chk)] 5) := ⟨_, rfl⟩
      have HMq := zqd ((HQ).out.add (w' := wmq) (g := (wq).heap.size) (t := 5) (cs := [.int .u8 (s.chk)]) (by rw [hw]; exact CBlk.new _ _ _) (by rw [hw]; exact Gr.alloc _ _) (Nat.le_refl _))
      have HGL := zqd (show Gr (wq) wmq by rw [hw]; exact Gr.alloc _ _)
      first | rw [← hw] | (go_show; fail)
      clear hw
      refine hK _ _ (.inr (by first | exact (HMq).out.blk 1 rfl | exact (HMq).out.blk 2 rfl | exact (HMq).out.blk 3 rfl)) ?_
      clear hK K
      (try dsimp only [Act.put])
      (try simp only [zqa, zqb, zqc])
      refine SchedT.node [2] (by kernel_rfl) ?_
      refine ⟨?_, trivial⟩
      refine SchedT.go _ rfl rfl rfl (fun K hK => ?_)
      go_simp
      go_at_call 65
      refine (dynamic_yes s (wmq) HBo.out.hd HBo.out.dyn).mono ?_
      rintro e wcq ⟨daq, dnq, dcq, dxq, rfl, hd1, hd2, hdo, hdg⟩
      have HCq := zqd ((HMq).out.gr hdg)
      have HDq := zqd hdo.rd
      clear hd1 hdo hdg
      refine ⟨_, rfl, ?_⟩
      refine hK _ _ (.inr (by first | exact (HCq).out.blk 0 rfl | exact (HCq).out.blk 1 rfl | exact (HCq).out.blk 2 rfl | exact (HCq).out.blk 3 rfl)) ?_
      clear hK K
      (try dsimp only [Act.put])
      (try simp only [zqa, zqb, zqc])
      refine SchedT.node [3] (by kernel_rfl) ?_
      refine ⟨?_, trivial⟩
      obtain ⟨afq, cfq, wfq, hrun, hb⟩ := (HCq).out.app daq (dnq) dcq dxq (n + 14 + dnq) rfl (HDq.out) (by omega)
      have HFq := zqd hb
      refine SchedT.go _ rfl rfl rfl (fun K hK => ?_)
      refine tq_app _ _ _ rfl rfl rfl hrun ?_
      clear hrun hb
      refine hK _ _ (.inr (by first | exact (HFq).out.blk 0 rfl | exact (HFq).out.blk 1 rfl | exact (HFq).out.blk 2 rfl | exact (HFq).out.blk 3 rfl)) ?_
      clear hK K
      (try dsimp only [Act.put])
      (try simp only [List.setIfInBounds_toArray])
      refine SchedT.node [8] (by kernel_rfl) ?_
      refine ⟨?_, trivial⟩
      obtain ⟨ae, ce, we, hrun, hb⟩ := (HFq).out.app (some ⟨(wq).heap.size, 0, none⟩) (1) 1 [s.chk] (n + 14 + dnq + 1) rfl (by first | exact rd_cblk [s.chk] 1 ((HFq).out.blk 0 rfl) rfl rfl (by omega) (by intro z hz; simp only [List.mem_singleton] at hz; subst hz; omega) | exact rd_cblk [s.chk] 1 ((HFq).out.blk 1 rfl) rfl rfl (by omega) (by intro z hz; simp only [List.mem_singleton] at hz; subst hz; omega) | exact rd_cblk [s.chk] 1 ((HFq).out.blk 2 rfl) rfl rfl (by omega) (by intro z hz; simp only [List.mem_singleton] at hz; subst hz; omega)) (by omega)
      have HE := zqd hb
      refine SchedT.go _ rfl rfl rfl (fun K hK => ?_)
      refine tq_app _ _ _ rfl rfl rfl hrun ?_
      clear hrun hb
      refine hK _ _ (.inr (by first | exact (HE).out.blk 0 rfl | exact (HE).out.blk 1 rfl | exact (HE).out.blk 2 rfl | exact (HE).out.blk 3 rfl)) ?_
      clear hK K
      (try dsimp only [Act.put])
      (try simp only [List.setIfInBounds_toArray])
      refine SchedT.node [9] (by kernel_rfl) ?_
      refine ⟨?_, trivial⟩
      refine SchedT.go _ rfl rfl rfl (fun K hK => ?_)
      go_simp
      refine hK _ _ (.inl ⟨rfl, rfl⟩) ?_
      clear hK K
      (try dsimp only [Act.put])
      (try simp only [zqa, zqb, zqc])
      refine SchedT.nil ?_
      have HEE := zqd (show Buf w [(w.heap.size, 85, MCells s)] ae (n + 14 + dnq + 1) ce _ we by first | exact HE.out.drop | exact HE.out.drop.drop | exact HE.out.drop.drop.drop)
      clear HE
      have p6 : (we).cell? ⟨w.heap.size, 6, none⟩ = some (.int .i64 0) := by rw [← HUZ.out]; exact (HEE).out.at 0 rfl 6 rfl
      have p1 := (HEE).out.at 0 rfl 1 rfl
      have p16 := (HEE).out.at 0 rfl 16 rfl
      by_cases hu : s.hd.check = 0
      ·have hub : (s.hd.check != 0) = false := by simpa using hu
       clear hu
       go_upto_region 36 with (go_at_call 66; ((with_reducible refine (big_is HBG.out _).mono ?_)); rintro e w' ⟨rfl, rfl⟩)
       clear p6 p1 p16 hub
       have c25 := (HEE).out.at 0 rfl 25 rfl
       obtain ⟨az, cz, wz, hrunz, hbz⟩ := (HEE).out.app s.a s.n s.c ys (n + 14 + dnq + 1 + s.n) rfl (HR.out.kept (HEE).out.gr0) (by omega)
       have HRZ := zqd hrunz
       have HZZ := zqd hbz
       clear hrunz hbz
       go_wp2_with (at_builtin; refine wpList_app rfl _ _ _ rfl rfl rfl HRZ.out ?_)
       go_ret2
       exact ⟨az, _, cz, _, rfl, by omega, by omega, HZZ.out.own, HZZ.out.gr0⟩
      ·have hub : (s.hd.check != 0) = true := by simpa using hu
       clear hu
       go_wp2_with (go_at_call 66; ((with_reducible refine (big_is HBG.out _).mono ?_)); rintro e w' ⟨rfl, rfl⟩)
       refine ((HEE).out.put 2 2 (n + 14 + dnq + 1 + 2) _ rfl rfl (by omega) (by omega)).mono ?_
       rintro e wu ⟨au, cu, rfl, hru⟩
       have HU := zqd hru
       clear hru p6 p1 p16 hub
       have c25 := (HU).out.at 0 rfl 25 rfl
       obtain ⟨az, cz, wz, hrunz, hbz⟩ := (HU).out.app s.a s.n s.c ys (n + 14 + dnq + 1 + 2 + s.n) rfl (HR.out.kept (HU).out.gr0) (by omega)
       have HRZ := zqd hrunz
       have HZZ := zqd hbz
       clear hrunz hbz
       go_wp2_with (at_builtin; refine wpList_app rfl _ _ _ rfl rfl rfl HRZ.out ?_)
       go_ret2
       exact ⟨az, _, cz, _, rfl, by omega, by omega, HZZ.out.own, HZZ.out.gr0⟩
    ·have c14 := H8.out.at 0 rfl 14 rfl
     go_wp2_with fail
     refine (H8.out.put 4 4 (n + 18) _ rfl rfl (by omega) (by omega)).mono ?_
     rintro e w9 ⟨a9, c9, rfl, hr9⟩
     have H9 := zqd hr9
     clear hr9 c14 H8
     go_upto_region 31 with (fail)
     have hcc := HCK.out
     refine SchedT.wp_region_sched (fun u => CBlk w.heap.size 85 (MCells s) u) [0, 1, 4, 5, 6] [] [2, 3, 7, 8, 9] true (fun u hu => (H9.out.gr hu).blk 1 rfl) (by kernel_rfl) (by kernel_rfl) ?_
     repeat (first | ((with_reducible refine Sched2.walk1_ord ?_ ?_); (focus rfl)) | ((first | ((with_reducible refine Sched2.walk1_no ?_ ?_ ?_ (fun K hK => ?_)); (focus rfl); (focus rfl); (focus rfl)) | ((with_reducible refine Sched2.walk1_gr ?_ ?_ ?_ ?_ (fun K hK => ?_)); (focus rfl); (focus rfl); (focus rfl); (focus rfl); apply Exists.intro; refine ⟨fun w1 hw1 => ?_, ?_⟩; (focus (go_simp; (try go_ints); (try (simp only [IntWalk.iteOmega]; go_simp)); first | done | (with_reducible rfl) | (with_reducible exact ⟨rfl, rfl⟩)))) | ((with_reducible refine Sched2.walk1_late ?_ ?_ ?_ ?_ (fun K hK => ?_)); (focus rfl); (focus rfl); (focus rfl); (focus rfl); apply Exists.intro; refine ⟨fun w1 hw1 => ?_, ?_⟩; (focus (go_simp; (try go_ints); (try (simp only [IntWalk.iteOmega]; go_simp)); first | done | (with_reducible rfl) | (with_reducible exact ⟨rfl, rfl⟩))))); simp only [Act.put, zqa, zqb, zqc]; refine hK _ ?_; clear hK K))
     (with_reducible refine Sched2.walk1_late ?_ ?_ ?_ ?_ (fun K hK => ?_)); (focus rfl); (focus rfl); (focus rfl); (focus rfl)
     refine ⟨MVal s, fun w1 hw1 => Sched2.gq_load_mid 85 _ rfl w.heap.size 0 rfl (MCells s) _ (CBlk.rng hw1 0 _ (fun j v hv => by rw [Nat.zero_add]; exact hv)) Tryd.underlying85 rfl (by kernel_rfl), ?_⟩
     simp only [Act.put, zqa, zqb, zqc]
     refine hK _ ?_
     clear hK K
     repeat (first | ((with_reducible refine Sched2.walk1_ord ?_ ?_); (focus rfl)) | ((first | ((with_reducible refine Sched2.walk1_no ?_ ?_ ?_ (fun K hK => ?_)); (focus rfl); (focus rfl); (focus rfl)) | ((with_reducible refine Sched2.walk1_gr ?_ ?_ ?_ ?_ (fun K hK => ?_)); (focus rfl); (focus rfl); (focus rfl); (focus rfl); apply Exists.intro; refine ⟨fun w1 hw1 => ?_, ?_⟩; (focus (go_simp; (try go_ints); (try (simp only [IntWalk.iteOmega]; go_simp)); first | done | (with_reducible rfl) | (with_reducible exact ⟨rfl, rfl⟩)))) | ((with_reducible refine Sched2.walk1_late ?_ ?_ ?_ ?_ (fun K hK => ?_)); (focus rfl); (focus rfl); (focus rfl); (focus rfl); apply Exists.intro; refine ⟨fun w1 hw1 => ?_, ?_⟩; (focus (go_simp; (try go_ints); (try (simp only [IntWalk.iteOmega]; go_simp)); first | done | (with_reducible rfl) | (with_reducible exact ⟨rfl, rfl⟩))))); simp only [Act.put, zqa, zqb, zqc]; refine hK _ ?_; clear hK K))
     (with_reducible refine Sched2.walk1_nil ?_)
     intro wq hwq
     dsimp only [Sched.EndN, List.nil_append, List.cons_append, Act.put, List.length_cons, List.length_nil]
     (try simp only [zqa, zqb, zqc])
     have HQ := zqd (H9.out.gr hwq)
     clear hwq hcc
     refine SchedT.node [2, 7] (by kernel_rfl) ?_
     refine ⟨?_, ?_, trivial⟩
     ·refine SchedT.go _ rfl rfl rfl (fun K hK => ?_)
      go_simp
      go_at_call 65
      refine (dynamic_yes s (wq) HBo.out.hd HBo.out.dyn).mono ?_
      rintro e wcq ⟨daq, dnq, dcq, dxq, rfl, hd1, hd2, hdo, hdg⟩
      have HCq := zqd ((HQ).out.gr hdg)
      have HDq := zqd hdo.rd
      clear hd1 hdo hdg
      refine ⟨_, rfl, ?_⟩
      refine hK _ _ (.inr (by first | exact (HCq).out.blk 0 rfl | exact (HCq).out.blk 1 rfl | exact (HCq).out.blk 2 rfl | exact (HCq).out.blk 3 rfl)) ?_
      clear hK K
      (try dsimp only [Act.put])
      (try simp only [zqa, zqb, zqc])
      refine SchedT.node [3, 7] (by kernel_rfl) ?_
      refine ⟨?_, ?_, trivial⟩
      ·obtain ⟨agq, cgq, wgq, hrun, hb⟩ := (HCq).out.app daq (dnq) dcq dxq (n + 18 + dnq) rfl ((HDq).out) (by omega)
       have HGq := zqd hb
       refine SchedT.go _ rfl rfl rfl (fun K hK => ?_)
       refine tq_app _ _ _ rfl rfl rfl hrun ?_
       clear hrun hb
       refine hK _ _ (.inr (by first | exact (HGq).out.blk 0 rfl | exact (HGq).out.blk 1 rfl | exact (HGq).out.blk 2 rfl | exact (HGq).out.blk 3 rfl)) ?_
       clear hK K
       (try dsimp only [Act.put])
       (try simp only [List.setIfInBounds_toArray])
       refine SchedT.node [7] (by kernel_rfl) ?_
       refine ⟨?_, trivial⟩
       refine SchedT.go _ rfl rfl rfl (fun K hK => ?_)
       go_simp
       obtain ⟨wlq, hw⟩ : ∃ y, y = (wgq).alloc (.cells #[.int .u8 (s.chk)] 5) := ⟨_, rfl⟩
       have HLq := zqd ((HGq).out.add (w' := wlq) (g := (wgq).heap.size) (t := 5) (cs := [.int .u8 (s.chk)]) (by rw [hw]; exact CBlk.new _ _ _) (by rw [hw]; exact Gr.alloc _ _) (Nat.le_refl _))
       have HGL := zqd (show Gr (wgq) wlq by rw [hw]; exact Gr.alloc _ _)
       first | rw [← hw] | (go_show; fail)
       clear hw
       refine hK _ _ (.inr (by first | exact (HLq).out.blk 1 rfl | exact (HLq).out.blk 2 rfl | exact (HLq).out.blk 3 rfl)) ?_
       clear hK K
       (try dsimp only [Act.put])
       (try simp only [zqa, zqb, zqc])
       refine SchedT.node [8] (by kernel_rfl) ?_
       refine ⟨?_, trivial⟩
       obtain ⟨ae, ce, we, hrun, hb⟩ := (HLq).out.app (some ⟨(wgq).heap.size, 0, none⟩) (1) 1 [s.chk] (n + 18 + dnq + 1) rfl (by first | exact rd_cblk [s.chk] 1 ((HLq).out.blk 0 rfl) rfl rfl (by omega) (by intro z hz; simp only [List.mem_singleton] at hz; subst hz; omega) | exact rd_cblk [s.chk] 1 ((HLq).out.blk 1 rfl) rfl rfl (by omega) (by intro z hz; simp only [List.mem_singleton] at hz; subst hz; omega) | exact rd_cblk [s.chk] 1 ((HLq).out.blk 2 rfl) rfl rfl (by omega) (by intro z hz; simp only [List.mem_singleton] at hz; subst hz; omega)) (by omega)
       have HE := zqd hb
       refine SchedT.go _ rfl rfl rfl (fun K hK => ?_)
       refine tq_app _ _ _ rfl rfl rfl hrun ?_
       clear hrun hb
       refine hK _ _ (.inr (by first | exact (HE).out.blk 0 rfl | exact (HE).out.blk 1 rfl | exact (HE).out.blk 2 rfl | exact (HE).out.blk 3 rfl)) ?_
       clear hK K
       (try dsimp only [Act.put])
       (try simp only [List.setIfInBounds_toArray])
       refine SchedT.node [9] (by kernel_rfl) ?_
       refine ⟨?_, trivial⟩
       refine SchedT.go _ rfl rfl rfl (fun K hK => ?_)
       go_simp
       refine hK _ _ (.inl ⟨rfl, rfl⟩) ?_
       clear hK K
       (try dsimp only [Act.put])
       (try simp only [zqa, zqb, zqc])
       refine SchedT.nil ?_
       have HEE := zqd (show Buf w [(w.heap.size, 85, MCells s)] ae (n + 18 + dnq + 1) ce _ we by first | exact HE.out.drop | exact HE.out.drop.drop | exact HE.out.drop.drop.drop)
       clear HE
       have p6 : (we).cell? ⟨w.heap.size, 6, none⟩ = some (.int .i64 0) := by rw [← HUZ.out]; exact (HEE).out.at 0 rfl 6 rfl
       have p1 := (HEE).out.at 0 rfl 1 rfl
       have p16 := (HEE).out.at 0 rfl 16 rfl
       by_cases hu : s.hd.check = 0
       ·have hub : (s.hd.check != 0) = false := by simpa using hu
        clear hu
        go_upto_region 36 with (go_at_call 66; ((with_reducible refine (big_is HBG.out _).mono ?_)); rintro e w' ⟨rfl, rfl⟩)
        clear p6 p1 p16 hub
        have c25 := (HEE).out.at 0 rfl 25 rfl
        obtain ⟨az, cz, wz, hrunz, hbz⟩ := (HEE).out.app s.a s.n s.c ys (n + 18 + dnq + 1 + s.n) rfl (HR.out.kept (HEE).out.gr0) (by omega)
        have HRZ := zqd hrunz
        have HZZ := zqd hbz
        clear hrunz hbz
        go_wp2_with (at_builtin; refine wpList_app rfl _ _ _ rfl rfl rfl HRZ.out ?_)
        go_ret2
        exact ⟨az, _, cz, _, rfl, by omega, by omega, HZZ.out.own, HZZ.out.gr0⟩
       ·have hub : (s.hd.check != 0) = true := by simpa using hu
        clear hu
        go_wp2_with (go_at_call 66; ((with_reducible refine (big_is HBG.out _).mono ?_)); rintro e w' ⟨rfl, rfl⟩)
        refine ((HEE).out.put 2 2 (n + 18 + dnq + 1 + 2) _ rfl rfl (by omega) (by omega)).mono ?_
        rintro e wu ⟨au, cu, rfl, hru⟩
        have HU := zqd hru
        clear hru p6 p1 p16 hub
        have c25 := (HU).out.at 0 rfl 25 rfl
        obtain ⟨az, cz, wz, hrunz, hbz⟩ := (HU).out.app s.a s.n s.c ys (n + 18 + dnq + 1 + 2 + s.n) rfl (HR.out.kept (HU).out.gr0) (by omega)
        have HRZ := zqd hrunz
        have HZZ := zqd hbz
        clear hrunz hbz
        go_wp2_with (at_builtin; refine wpList_app rfl _ _ _ rfl rfl rfl HRZ.out ?_)
        go_ret2
        exact ⟨az, _, cz, _, rfl, by omega, by omega, HZZ.out.own, HZZ.out.gr0⟩
      ·refine SchedT.go _ rfl rfl rfl (fun K hK => ?_)
       go_simp
       obtain ⟨wlq, hw⟩ : ∃ y, y = (wcq).alloc (.cells #[.int .u8 (s.chk)] 5) := ⟨_, rfl⟩
       have HLq := zqd ((HCq).out.add (w' := wlq) (g := (wcq).heap.size) (t := 5) (cs := [.int .u8 (s.chk)]) (by rw [hw]; exact CBlk.new _ _ _) (by rw [hw]; exact Gr.alloc _ _) (Nat.le_refl _))
       have HGL := zqd (show Gr (wcq) wlq by rw [hw]; exact Gr.alloc _ _)
       first | rw [← hw] | (go_show; fail)
       clear hw
       refine hK _ _ (.inr (by first | exact (HLq).out.blk 1 rfl | exact (HLq).out.blk 2 rfl | exact (HLq).out.blk 3 rfl)) ?_
       clear hK K
       (try dsimp only [Act.put])
       (try simp only [zqa, zqb, zqc])
       have HD2 := zqd ((HDq).out.kept HGL.out)
       refine SchedT.node [3] (by kernel_rfl) ?_
       refine ⟨?_, trivial⟩
       obtain ⟨afq, cfq, wfq, hrun, hb⟩ := (HLq).out.app daq (dnq) dcq dxq (n + 18 + dnq) rfl (HD2.out) (by omega)
       have HFq := zqd hb
       refine SchedT.go _ rfl rfl rfl (fun K hK => ?_)
       refine tq_app _ _ _ rfl rfl rfl hrun ?_
       clear hrun hb
       refine hK _ _ (.inr (by first | exact (HFq).out.blk 0 rfl | exact (HFq).out.blk 1 rfl | exact (HFq).out.blk 2 rfl | exact (HFq).out.blk 3 rfl)) ?_
       clear hK K
       (try dsimp only [Act.put])
       (try simp only [List.setIfInBounds_toArray])
       refine SchedT.node [8] (by kernel_rfl) ?_
       refine ⟨?_, trivial⟩
       obtain ⟨ae, ce, we, hrun, hb⟩ := (HFq).out.app (some ⟨(wcq).heap.size, 0, none⟩) (1) 1 [s.chk] (n + 18 + dnq + 1) rfl (by first | exact rd_cblk [s.chk] 1 ((HFq).out.blk 0 rfl) rfl rfl (by omega) (by intro z hz; simp only [List.mem_singleton] at hz; subst hz; omega) | exact rd_cblk [s.chk] 1 ((HFq).out.blk 1 rfl) rfl rfl (by omega) (by intro z hz; simp only [List.mem_singleton] at hz; subst hz; omega) | exact rd_cblk [s.chk] 1 ((HFq).out.blk 2 rfl) rfl rfl (by omega) (by intro z hz; simp only [List.mem_singleton] at hz; subst hz; omega)) (by omega)
       have HE := zqd hb
       refine SchedT.go _ rfl rfl rfl (fun K hK => ?_)
       refine tq_app _ _ _ rfl rfl rfl hrun ?_
       clear hrun hb
       refine hK _ _ (.inr (by first | exact (HE).out.blk 0 rfl | exact (HE).out.blk 1 rfl | exact (HE).out.blk 2 rfl | exact (HE).out.blk 3 rfl)) ?_
       clear hK K
       (try dsimp only [Act.put])
       (try simp only [List.setIfInBounds_toArray])
       refine SchedT.node [9] (by kernel_rfl) ?_
       refine ⟨?_, trivial⟩
       refine SchedT.go _ rfl rfl rfl (fun K hK => ?_)
       go_simp
       refine hK _ _ (.inl ⟨rfl, rfl⟩) ?_
       clear hK K
       (try dsimp only [Act.put])
       (try simp only [zqa, zqb, zqc])
       refine SchedT.nil ?_
       have HEE := zqd (show Buf w [(w.heap.size, 85, MCells s)] ae (n + 18 + dnq + 1) ce _ we by first | exact HE.out.drop | exact HE.out.drop.drop | exact HE.out.drop.drop.drop)
       clear HE
       have p6 : (we).cell? ⟨w.heap.size, 6, none⟩ = some (.int .i64 0) := by rw [← HUZ.out]; exact (HEE).out.at 0 rfl 6 rfl
       have p1 := (HEE).out.at 0 rfl 1 rfl
       have p16 := (HEE).out.at 0 rfl 16 rfl
       by_cases hu : s.hd.check = 0
       ·have hub : (s.hd.check != 0) = false := by simpa using hu
        clear hu
        go_upto_region 36 with (go_at_call 66; ((with_reducible refine (big_is HBG.out _).mono ?_)); rintro e w' ⟨rfl, rfl⟩)
        clear p6 p1 p16 hub
        have c25 := (HEE).out.at 0 rfl 25 rfl
        obtain ⟨az, cz, wz, hrunz, hbz⟩ := (HEE).out.app s.a s.n s.c ys (n + 18 + dnq + 1 + s.n) rfl (HR.out.kept (HEE).out.gr0) (by omega)
        have HRZ := zqd hrunz
        have HZZ := zqd hbz
        clear hrunz hbz
        go_wp2_with (at_builtin; refine wpList_app rfl _ _ _ rfl rfl rfl HRZ.out ?_)
        go_ret2
        exact ⟨az, _, cz, _, rfl, by omega, by omega, HZZ.out.own, HZZ.out.gr0⟩
       ·have hub : (s.hd.check != 0) = true := by simpa using hu
        clear hu
        go_wp2_with (go_at_call 66; ((with_reducible refine (big_is HBG.out _).mono ?_)); rintro e w' ⟨rfl, rfl⟩)
        refine ((HEE).out.put 2 2 (n + 18 + dnq + 1 + 2) _ rfl rfl (by omega) (by omega)).mono ?_
        rintro e wu ⟨au, cu, rfl, hru⟩
        have HU := zqd hru
        clear hru p6 p1 p16 hub
        have c25 := (HU).out.at 0 rfl 25 rfl
        obtain ⟨az, cz, wz, hrunz, hbz⟩ := (HU).out.app s.a s.n s.c ys (n + 18 + dnq + 1 + 2 + s.n) rfl (HR.out.kept (HU).out.gr0) (by omega)
        have HRZ := zqd hrunz
        have HZZ := zqd hbz
        clear hrunz hbz
        go_wp2_with (at_builtin; refine wpList_app rfl _ _ _ rfl rfl rfl HRZ.out ?_)
        go_ret2
        exact ⟨az, _, cz, _, rfl, by omega, by omega, HZZ.out.own, HZZ.out.gr0⟩
     ·refine SchedT.go _ rfl rfl rfl (fun K hK => ?_)
      go_simp
      obtain ⟨wmq, hw⟩ : ∃ y, y = (wq).alloc (.cells #[.int .u8 (s.chk)] 5) := ⟨_, rfl⟩
      have HMq := zqd ((HQ).out.add (w' := wmq) (g := (wq).heap.size) (t := 5) (cs := [.int .u8 (s.chk)]) (by rw [hw]; exact CBlk.new _ _ _) (by rw [hw]; exact Gr.alloc _ _) (Nat.le_refl _))
      have HGL := zqd (show Gr (wq) wmq by rw [hw]; exact Gr.alloc _ _)
      first | rw [← hw] | (go_show; fail)
      clear hw
      refine hK _ _ (.inr (by first | exact (HMq).out.blk 1 rfl | exact (HMq).out.blk 2 rfl | exact (HMq).out.blk 3 rfl)) ?_
      clear hK K
      (try dsimp only [Act.put])
      (try simp only [zqa, zqb, zqc])
      refine SchedT.node [2] (by kernel_rfl) ?_
      refine ⟨?_, trivial⟩
      refine SchedT.go _ rfl rfl rfl (fun K hK => ?_)
      go_simp
      go_at_call 65
      refine (dynamic_yes s (wmq) HBo.out.hd HBo.out.dyn).mono ?_
      rintro e wcq ⟨daq, dnq, dcq, dxq, rfl, hd1, hd2, hdo, hdg⟩
      have HCq := zqd ((HMq).out.gr hdg)
      have HDq := zqd hdo.rd
      clear hd1 hdo hdg
      refine ⟨_, rfl, ?_⟩
      refine hK _ _ (.inr (by first | exact (HCq).out.blk 0 rfl | exact (HCq).out.blk 1 rfl | exact (HCq).out.blk 2 rfl | exact (HCq).out.blk 3 rfl)) ?_
      clear hK K
      (try dsimp only [Act.put])
      (try simp only [zqa, zqb, zqc])
      refine SchedT.node [3] (by kernel_rfl) ?_
      refine ⟨?_, trivial⟩
      obtain ⟨afq, cfq, wfq, hrun, hb⟩ := (HCq).out.app daq (dnq) dcq dxq (n + 18 + dnq) rfl (HDq.out) (by omega)
      have HFq := zqd hb
      refine SchedT.go _ rfl rfl rfl (fun K hK => ?_)
      refine tq_app _ _ _ rfl rfl rfl hrun ?_
      clear hrun hb
      refine hK _ _ (.inr (by first | exact (HFq).out.blk 0 rfl | exact (HFq).out.blk 1 rfl | exact (HFq).out.blk 2 rfl | exact (HFq).out.blk 3 rfl)) ?_
      clear hK K
      (try dsimp only [Act.put])
      (try simp only [List.setIfInBounds_toArray])
      refine SchedT.node [8] (by kernel_rfl) ?_
      refine ⟨?_, trivial⟩
      obtain ⟨ae, ce, we, hrun, hb⟩ := (HFq).out.app (some ⟨(wq).heap.size, 0, none⟩) (1) 1 [s.chk] (n + 18 + dnq + 1) rfl (by first | exact rd_cblk [s.chk] 1 ((HFq).out.blk 0 rfl) rfl rfl (by omega) (by intro z hz; simp only [List.mem_singleton] at hz; subst hz; omega) | exact rd_cblk [s.chk] 1 ((HFq).out.blk 1 rfl) rfl rfl (by omega) (by intro z hz; simp only [List.mem_singleton] at hz; subst hz; omega) | exact rd_cblk [s.chk] 1 ((HFq).out.blk 2 rfl) rfl rfl (by omega) (by intro z hz; simp only [List.mem_singleton] at hz; subst hz; omega)) (by omega)
      have HE := zqd hb
      refine SchedT.go _ rfl rfl rfl (fun K hK => ?_)
      refine tq_app _ _ _ rfl rfl rfl hrun ?_
      clear hrun hb
      refine hK _ _ (.inr (by first | exact (HE).out.blk 0 rfl | exact (HE).out.blk 1 rfl | exact (HE).out.blk 2 rfl | exact (HE).out.blk 3 rfl)) ?_
      clear hK K
      (try dsimp only [Act.put])
      (try simp only [List.setIfInBounds_toArray])
      refine SchedT.node [9] (by kernel_rfl) ?_
      refine ⟨?_, trivial⟩
      refine SchedT.go _ rfl rfl rfl (fun K hK => ?_)
      go_simp
      refine hK _ _ (.inl ⟨rfl, rfl⟩) ?_
      clear hK K
      (try dsimp only [Act.put])
      (try simp only [zqa, zqb, zqc])
      refine SchedT.nil ?_
      have HEE := zqd (show Buf w [(w.heap.size, 85, MCells s)] ae (n + 18 + dnq + 1) ce _ we by first | exact HE.out.drop | exact HE.out.drop.drop | exact HE.out.drop.drop.drop)
      clear HE
      have p6 : (we).cell? ⟨w.heap.size, 6, none⟩ = some (.int .i64 0) := by rw [← HUZ.out]; exact (HEE).out.at 0 rfl 6 rfl
      have p1 := (HEE).out.at 0 rfl 1 rfl
      have p16 := (HEE).out.at 0 rfl 16 rfl
      by_cases hu : s.hd.check = 0
      ·have hub : (s.hd.check != 0) = false := by simpa using hu
       clear hu
       go_upto_region 36 with (go_at_call 66; ((with_reducible refine (big_is HBG.out _).mono ?_)); rintro e w' ⟨rfl, rfl⟩)
       clear p6 p1 p16 hub
       have c25 := (HEE).out.at 0 rfl 25 rfl
       obtain ⟨az, cz, wz, hrunz, hbz⟩ := (HEE).out.app s.a s.n s.c ys (n + 18 + dnq + 1 + s.n) rfl (HR.out.kept (HEE).out.gr0) (by omega)
       have HRZ := zqd hrunz
       have HZZ := zqd hbz
       clear hrunz hbz
       go_wp2_with (at_builtin; refine wpList_app rfl _ _ _ rfl rfl rfl HRZ.out ?_)
       go_ret2
       exact ⟨az, _, cz, _, rfl, by omega, by omega, HZZ.out.own, HZZ.out.gr0⟩
      ·have hub : (s.hd.check != 0) = true := by simpa using hu
       clear hu
       go_wp2_with (go_at_call 66; ((with_reducible refine (big_is HBG.out _).mono ?_)); rintro e w' ⟨rfl, rfl⟩)
       refine ((HEE).out.put 2 2 (n + 18 + dnq + 1 + 2) _ rfl rfl (by omega) (by omega)).mono ?_
       rintro e wu ⟨au, cu, rfl, hru⟩
       have HU := zqd hru
       clear hru p6 p1 p16 hub
       have c25 := (HU).out.at 0 rfl 25 rfl
       obtain ⟨az, cz, wz, hrunz, hbz⟩ := (HU).out.app s.a s.n s.c ys (n + 18 + dnq + 1 + 2 + s.n) rfl (HR.out.kept (HU).out.gr0) (by omega)
       have HRZ := zqd hrunz
       have HZZ := zqd hbz
       clear hrunz hbz
       go_wp2_with (at_builtin; refine wpList_app rfl _ _ _ rfl rfl rfl HRZ.out ?_)
       go_ret2
       exact ⟨az, _, cz, _, rfl, by omega, by omega, HZZ.out.own, HZZ.out.gr0⟩
  ·have HUZ := zqd hR.udp
   have hf := hR.fmt
   have hf6 : 5 < s.fmt := by omega
   have e1 : (s.fmt == 1) = false := by rw [hf]; rfl
   have e2 : (s.fmt == 2) = false := by rw [hf]; rfl
   have e3 : (s.fmt == 3) = false := by rw [hf]; rfl
   have e4 : (s.fmt == 4) = false := by rw [hf]; rfl
   have e5 : (s.fmt == 5) = false := by rw [hf]; rfl
   clear hR hf
   obtain ⟨a3, c3, w3, hrun, hrl⟩ := (H).out.lit [210] 1 (n + 1) rfl rfl (by intro z hz; simp only [List.mem_cons, List.not_mem_nil, or_false] at hz; (subst hz; omega)) (by omega) (by omega)
   simp only [List.map_cons, List.map_nil] at hrun
   have HRL := zqd hrun
   have H3 := zqd hrl
   clear hrun hrl
   go_upto_region 32 with (at_builtin; refine wpList_app rfl _ _ _ rfl rfl rfl HRL.out ?_)
   clear HRL
   have p6 : (w3).cell? ⟨w.heap.size, 6, none⟩ = some (.int .i64 0) := by rw [← HUZ.out]; exact (H3).out.at 0 rfl 6 rfl
   have p1 := (H3).out.at 0 rfl 1 rfl
   have hbg : (decide (s.fmt = 4) || decide (s.fmt = 5)) = false := by simp; omega
   have HBG := zqd hbg
   clear hbg
   go_upto_region 36 with (go_at_call 66; ((with_reducible refine (big_is HBG.out _).mono ?_)); rintro e w' ⟨rfl, rfl⟩)
   clear p6 p1
   have c25 := (H3).out.at 0 rfl 25 rfl
   obtain ⟨az, cz, wz, hrunz, hbz⟩ := (H3).out.app s.a s.n s.c ys (n + 1 + s.n) rfl (HR.out.kept (H3).out.gr0) (by omega)
   have HRZ := zqd hrunz
   have HZZ := zqd hbz
   clear hrunz hbz
   go_wp2_with (at_builtin; refine wpList_app rfl _ _ _ rfl rfl rfl HRZ.out ?_)
   go_ret2
   exact ⟨az, _, cz, _, rfl, by omega, by omega, HZZ.out.own, HZZ.out.gr0⟩
end Go.Proofs.YtlnkofpcidngoaaDoor