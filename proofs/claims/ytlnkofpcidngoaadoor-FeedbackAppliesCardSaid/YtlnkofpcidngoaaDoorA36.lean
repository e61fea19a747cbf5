/- Several texts in one. -/
import Derived.Test.YtlnkofpcidngoaaDoorA0
import Derived.Test.YtlnkofpcidngoaaDoorA35
import Derived.Test.YtlnkofpcidngoaaDoorA10
import Derived.Deep.CutRange
import Derived.Test.YtlnkofpcidngoaaDoorA11
/- Dice: a header that follows a valid one is valid. -/
namespace Go.Proofs.YtlnkofpcidngoaaDoor
open Go.ChangeShapes Go.WideShapes Go.ChangeAt Go.RowKit
def RngV (h : Hdr) : Prop := (h.kind = 1 ∨ h.kind = 2) ∧ (0 ≤ h.tos ∧ h.tos ≤ 255) ∧ (0 ≤ h.ttl ∧ h.ttl ≤ 255) ∧ (0 ≤ h.id ∧ h.id ≤ 65535) ∧ (0 ≤ h.fport ∧ h.fport ≤ 65535) ∧ (0 ≤ h.tport ∧ h.tport ≤ 65535) ∧ (0 ≤ h.check ∧ h.check ≤ 65535) ∧
  (0 ≤ h.fixed ∧ h.fixed ≤ 1) ∧ (0 ≤ h.frm ∧ h.frm ≤ 4294967295) ∧ (0 ≤ h.to ∧ h.to ≤ 4294967295) ∧
  (h.kind = 1 → h.marker = 0 ∧ h.type = 0 ∧ h.seq = 0 ∧ h.time = 0 ∧ h.source = 0) ∧
  (h.kind = 2 → (0 ≤ h.marker ∧ h.marker ≤ 1) ∧ (0 ≤ h.type ∧ h.type ≤ 127) ∧ (0 ≤ h.seq ∧ h.seq ≤ 65535) ∧ (0 ≤ h.time ∧ h.time ≤ 4294967295) ∧ (0 ≤ h.source ∧ h.source ≤ 4294967295))
theorem rngv_of {h : Hdr} (hv : validH h = true) : RngV h := valid_all hv
theorem RngV.valid {h : Hdr} (hr : RngV h) : validH h = true := by
 obtain ⟨h0, h1, h2, h3, h4, h5, h6, h7, h8, h9, hu, hp⟩ := hr
 simp only [validH, commonB, inB, kindB, Bool.and_eq_true, decide_eq_true_eq, restB]
 refine ⟨by rcases h0 with h0 | h0 <;> simp [h0], ⟨⟨⟨⟨⟨⟨⟨⟨h1, h2⟩, h3⟩, h4⟩, h5⟩, h6⟩, h7⟩, h8⟩, h9⟩, ?_⟩
 rcases h0 with h0 | h0
 ·have := hu h0
  simp [h0, this]
 ·have := hp h0
  simp [h0]
  omega
theorem RngV.rng {h : Hdr} (hr : RngV h) : RngH h := by
 unfold RngV at hr
 unfold RngH HOk i64
 omega
def FollowPostV (p : Nat) (_h : Hdr) (w : World) (e : Ending) (w' : World) : Prop := ∃ r : Hdr, e = .returned (HVal r) ∧ RngV r ∧ Die w' p ∧ w.grownBy w' (some p)
theorem rngv_tos {R : Hdr} {u : Int} (h : RngV R) (h0 : 0 ≤ u) (h1 : u ≤ 255) : RngV (setTos R u) := by unfold RngV at *; simp only [setTos]; omega
theorem rngv_ttl {R : Hdr} {u : Int} (h : RngV R) (h0 : 0 ≤ u) (h1 : u ≤ 255) : RngV (setTtl R u) := by unfold RngV at *; simp only [setTtl]; omega
theorem rngv_mrk {R : Hdr} {u : Int} (h : RngV R) (hk : R.kind = 2) (h0 : 0 ≤ u) (h1 : u ≤ 1) : RngV (setMrk R u) := by unfold RngV at *; simp only [setMrk]; omega
theorem rngv_typ {R : Hdr} {u : Int} (h : RngV R) (hk : R.kind = 2) (h0 : 0 ≤ u) (h1 : u ≤ 127) : RngV (setTyp R u) := by unfold RngV at *; simp only [setTyp]; omega
theorem rngv_tim {R : Hdr} {u : Int} (h : RngV R) (hk : R.kind = 2) (h0 : 0 ≤ u) (h1 : u ≤ 4294967295) : RngV (setTim R u) := by unfold RngV at *; simp only [setTim]; omega
theorem rngv_id {R : Hdr} {u : Int} (h : RngV R) (h0 : 0 ≤ u) (h1 : u ≤ 65535) : RngV (setId R u) := by unfold RngV at *; simp only [setId]; omega
theorem rngv_chk {R : Hdr} {u : Int} (h : RngV R) (h0 : 0 ≤ u) (h1 : u ≤ 65535) : RngV (setChk R u) := by unfold RngV at *; simp only [setChk]; omega
set_option maxRecDepth 100000 in
set_option maxHeartbeats 4000000 in
theorem followv_any (p : Nat) (h : Hdr) (reg : Bool) (w : World) (hd : Die w p) (hr0 : RngV h) : Calls Tryd.prog 30 #[.pointer (some ⟨p, 0, none⟩), HVal h, .bool reg] w (FollowPostV p h w) := by
 have hplt := hd.lt
 have HD := zqd hd
 have HRNG := zqd hr0
 have hr := hr0.rng
 obtain ⟨id1, id2⟩ := hr.2.1
 obtain ⟨ck1, ck2⟩ := hr.2.2.1
 obtain ⟨sq1, sq2⟩ := hr.2.2.2.1
 obtain ⟨tm1, tm2⟩ := hr.2.2.2.2
 clear hd hr hr0
 go_enter Tryd.func30, Tryd.ntmps30
 go_upto_region 2 with (fail)
 obtain ⟨w1, hw1⟩ : ∃ y, y = (w.alloc (.cells (HCells h).toArray 49)).alloc (.cells (HCells zeroH).toArray 49) := ⟨_, rfl⟩
 have hr1 : HRel p h w w1 := by
  rw [hw1]
  exact ⟨heap_alloc2_old _ _ _, heap_alloc2_new _ _ _, HD.out.kept ((Gr.alloc _ _).trans (Gr.alloc _ _)) (by simp), grown_weak ((Gr.alloc _ _).trans (Gr.alloc _ _)) _⟩
 simp only [HCells, zeroH] at hw1
 rw [← hw1]
 have HR1 := zqd hr1
 clear hw1 hr1
 go_cut [13] from 8 to 13 (fun s wc => OneRel p h reg w s wc)
 case first =>
  cases reg
  ·go_wp2_with fail
   refine (one_any p 4 _ HR1.out.2.2.1 (by omega) (by omega)).mono ?_
   rintro e w2 ⟨b, rfl, hd2, hg2⟩
   have HR2 := zqd (HR1.out.dice hplt hd2 hg2)
   clear hd2 hg2
   go_wp2_with fail
   go_meet
   exact ⟨b, rfl, (fun h => by cases h), HR2.out⟩
  ·go_wp2_with fail
   go_meet
   exact ⟨false, rfl, fun _ => rfl, HR1.out⟩
 case rest =>
 obtain ⟨b, rfl, hb, hr2⟩ := hcut
 have HB := zqd hb
 have HR2 := zqd (show HRel p h w wc from hr2)
 clear hb hr2 HR1
 go_upto_if 13 with (fail)
 go_cut [7] from 14 to 16 (fun s wc => StepRel p h reg w s wc)
 case first =>
  cases b
  ·go_wp2_with fail
   go_meet
   exact ⟨1, rfl, by omega, by omega, fun _ => rfl, HR2.out⟩
  ·go_wp2_with fail
   refine (next_any p 20 _ HR2.out.2.2.1 (by omega) (by omega)).mono ?_
   rintro e w3 ⟨v, rfl, v1, v2, hd3, hg3⟩
   have HR3 := zqd (HR2.out.dice hplt hd3 hg3)
   clear hd3 hg3
   go_wp2_with fail
   go_meet
   exact ⟨1 + v, rfl, by omega, by omega, (fun h => by have := HB.out h; cases this), HR3.out⟩
 case rest =>
 obtain ⟨s, rfl, s1, s2, hs, hr3⟩ := hcut
 have HSR := zqd hs
 have HR3 := zqd (show HRel p h w wc from hr3)
 clear hs hr3 HR2 HB
 obtain ⟨i, hi⟩ : ∃ x, (h.id + s) % 65536 = x := ⟨_, rfl⟩
 have hmi : modF (h.id + s) 65536 = i := by unfold modF; rw [if_neg (by omega)]; exact hi
 have HI := zqd hi
 have HMI := zqd hmi
 have k2 : wc.cell? ⟨w.heap.size, 2, none⟩ = some (.int .i64 h.id) := HR3.out.at 2 rfl
 have f2 := HR3.out.1.fz 2
 clear hi hmi
 go_upto_region 5 with (go_at_call 19; ((with_reducible refine (mod_is HMI.out (by omega) _).mono ?_)); rintro e w' ⟨rfl, rfl⟩)
 clear k2 f2
 obtain ⟨w4, hw4⟩ : ∃ y, y = wc.setCell ⟨w.heap.size, 2, none⟩ (.int .i64 i) := ⟨_, rfl⟩
 rw [← hw4]
 have HR4 := zqd (show HRel p (setId h i) w w4 by rw [hw4]; exact HR3.out.set hplt 2 _ rfl)
 clear hw4 HR3
 have k9 : w4.cell? ⟨w.heap.size, 9, none⟩ = some (.int .i64 h.check) := HR4.out.at 9 rfl
 have f9 := HR4.out.1.fz 9
 obtain ⟨cb, hcb⟩ : ∃ b, (h.check != 0) = b := ⟨_, rfl⟩
 have HCB := zqd hcb
 go_upto_if 25 with (fail)
 clear hcb
 go_cut [] from 26 to 29 (fun wc => CRel p h (fun c => setChk (setId h i) c) w wc)
 case first =>
  cases cb
  ·have h0 : h.check = 0 := by have := HCB.out; simpa using this
   have HH := zqd h0
   clear h0
   go_wp2_with fail
   go_meet
   exact ⟨0, ⟨by omega, fun _ => rfl, fun h => absurd HH.out h⟩, by
    have := HR4.out
    have e : setChk (setId h i) 0 = setId h i := by simp only [setChk, setId, ← HH.out]
    show HRel p (setChk (setId h i) 0) w w4
    rw [e]; exact this⟩
  ·have h0 : h.check ≠ 0 := by have := HCB.out; simpa using this
   have HH := zqd h0
   clear h0
   go_wp2_with fail
   refine (next_any p 65535 _ HR4.out.2.2.1 (by omega) (by omega)).mono ?_
   rintro e w5 ⟨v, rfl, v1, v2, hd5, hg5⟩
   have HR5 := zqd (HR4.out.dice hplt hd5 hg5)
   clear hd5 hg5 k9 f9
   have k9 : w5.cell? ⟨w.heap.size, 9, none⟩ = some (.int .i64 h.check) := HR5.out.at 9 rfl
   have f9 := HR5.out.1.fz 9
   go_wp2_with fail
   go_meet
   exact ⟨1 + v, ⟨by omega, fun h => absurd h HH.out, fun _ => by omega⟩, HR5.out.set hplt 9 _ rfl⟩
 case rest =>
 obtain ⟨c, hc, hr6⟩ := hcut
 have HC := zqd hc
 have HR6 := zqd (show HRel p (setChk (setId h i) c) w wc from hr6)
 obtain ⟨⟨c1, c2⟩, -, -⟩ := hc
 clear hr6 k9 f9 HR4
 obtain ⟨kb, hkb⟩ : ∃ b, (h.kind == 2) = b := ⟨_, rfl⟩
 have k0 : wc.cell? ⟨w.heap.size, 0, none⟩ = some (.int .i64 h.kind) := HR6.out.at 0 rfl
 have k12 : wc.cell? ⟨w.heap.size, 12, none⟩ = some (.int .i64 h.seq) := HR6.out.at 12 rfl
 have k13 : wc.cell? ⟨w.heap.size, 13, none⟩ = some (.int .i64 h.time) := HR6.out.at 13 rfl
 have k10 : wc.cell? ⟨w.heap.size, 10, none⟩ = some (.int .i64 h.marker) := HR6.out.at 10 rfl
 have f12 := HR6.out.1.fz 12
 have f13 := HR6.out.1.fz 13
 have f10 := HR6.out.1.fz 10
 obtain ⟨q, hq⟩ : ∃ x, (h.seq + s) % 65536 = x := ⟨_, rfl⟩
 have hmq : modF (h.seq + s) 65536 = q := by unfold modF; rw [if_neg (by omega)]; exact hq
 obtain ⟨t, ht⟩ : ∃ x, (h.time + 160 * s) % 4294967296 = x := ⟨_, rfl⟩
 have hmt : modF (h.time + 160 * s) 4294967296 = t := by unfold modF; rw [if_neg (by omega)]; exact ht
 have HQ := zqd hq
 have HMQ := zqd hmq
 have HT := zqd ht
 have HMT := zqd hmt
 have HKB := zqd hkb
 clear hq hmq ht hmt
 go_upto_if 32 with (fail)
 clear hkb
 go_cut [] from 33 to 46 (fun wc => HRel p (folH h s c) w wc)
 case first =>
  cases kb
  ·have h2 : ¬ h.kind = 2 := by have := HKB.out; simpa using this
   have HF := zqd (show folH h s c = setChk (setId h i) c by unfold folH; rw [if_neg h2, HI.out]; rfl)
   clear h2
   go_wp2_with fail
   go_meet
   rw [HF.out]
   exact HR6.out
  ·have h2 : h.kind = 2 := by have := HKB.out; simpa using this
   have HF := zqd (show folH h s c = setMrk (setTim (setSeq (setChk (setId h i) c) q) t) 0 by unfold folH; rw [if_pos h2, HI.out, HQ.out, HT.out]; rfl)
   clear h2
   go_wp2_with (first | (go_at_call 19; ((with_reducible refine (mod_is HMQ.out (by omega) _).mono ?_)); rintro e w' ⟨rfl, rfl⟩) | (go_at_call 19; ((with_reducible refine (mod_is HMT.out (by omega) _).mono ?_)); rintro e w' ⟨rfl, rfl⟩))
   go_meet
   rw [HF.out]
   exact ((HR6.out.set hplt 12 _ (k := setSeq (setChk (setId h i) c) q) rfl).set hplt 13 _ (k := setTim (setSeq (setChk (setId h i) c) q) t) rfl).set hplt 10 _ rfl
 case rest =>
 have HR7 := zqd (show HRel p (folH h s c) w wc from hcut)
 obtain ⟨R, hR⟩ : ∃ R, folH h s c = R := ⟨_, rfl⟩
 have hst : statH R = statH h := by rw [← hR]; unfold folH; split <;> rfl
 have hrg : RngV R := by
  rw [← hR]
  have hg := HRNG.out
  have hck := HC.out
  unfold ChkOk at hck
  unfold folH RngV at *
  split <;> simp only <;> omega
 rw [hR] at HR7
 have HFR := zqd hR
 have HST := zqd hst
 have HRG := zqd hrg
 clear hcut k0 k12 k13 k10 f12 f13 f10 hR hst hrg HR6
 cases reg
 rotate_left
 ·obtain rfl : s = 1 := HSR.out rfl
  have hr' := (HR7).out.1
  unfold HBlk at hr'
  have HRR := zqd hr'
  obtain ⟨w9, hw9⟩ : ∃ y, y = (wc).setCells (w.heap.size + 1) 0 (HCells (R)).toArray.toList := ⟨_, rfl⟩
  have HBE := zqd (show HBlk (w.heap.size + 1) (R) w9 by rw [hw9]; exact (HR7).out.2.1.put (R))
  have HTH := zqd ((HR7).out.2.1.there)
  have HGE := zqd (show w.grownBy w9 (some p) by rw [hw9]; exact grown_setCells_new (HR7).out.2.2.2 (by omega) _ _)
  have HDE := zqd (show Die w9 p by rw [hw9]; exact (HR7).out.2.2.1.kept (grown_setCells (w.heap.size + 1) _ _ _) (by simp; omega))
  have HW9 := zqd hw9
  clear hr' hw9
  go_wp2_with (first | (refine wpList_load_row rfl 49 _ rfl w.heap.size rfl 49 _ _ _ HRR.out Tryd.underlying49 rfl (by kernel_rfl) ?_) | (refine wpList_store_mid rfl 49 _ _ rfl (w.heap.size + 1) 0 (HCells (R)).toArray rfl rfl HTH.out (by kernel_rfl) (hcells_one _) ?_; rw [← HW9.out]))
  exact bodyPost_ret (v := HVal (R)) (results_cell_row Tryd.results30 _ _ (w.heap.size + 1) _ _ _ _ rfl HBE.out Tryd.underlying49 rfl (by kernel_rfl)) rfl ⟨R, rfl, HRG.out, HDE.out, HGE.out⟩
 ·go_wp2_with fail
  refine (next_any p 14 _ HR7.out.2.2.1 (by omega) (by omega)).mono ?_
  rintro e w8 ⟨v, rfl, v1, v2, hd8, hg8⟩
  have HR8 := zqd (HR7.out.dice hplt hd8 hg8)
  clear hd8 hg8 HR7
  have hv : v = 0 ∨ v = 1 ∨ v = 2 ∨ v = 3 ∨ v = 4 ∨ v = 5 ∨ v = 6 ∨ 7 ≤ v := by omega
  obtain ⟨kb, hkb⟩ : ∃ b, (R.kind == 2) = b := ⟨_, rfl⟩
  have k0 : w8.cell? ⟨w.heap.size, 0, none⟩ = some (.int .i64 R.kind) := HR8.out.at 0 rfl
  rcases hv with rfl | rfl | rfl | rfl | rfl | rfl | rfl | hv7
  ·go_wp2_with fail
   refine (next_any p 4 _ HR8.out.2.2.1 (by omega) (by omega)).mono ?_
   rintro e w9 ⟨u, rfl, u1, u2, hd9, hg9⟩
   have HR9 := zqd (HR8.out.dice hplt hd9 hg9)
   clear hd9 hg9 hkb k0
   have x1 : w9.cell? ⟨w.heap.size, 1, none⟩ = some (.int .i64 R.tos) := HR9.out.at 1 rfl
   have f1 := HR9.out.1.fz 1
   go_upto_region 34 with (fail)
   clear x1 f1
   obtain ⟨w19, hw19⟩ : ∃ y, y = (w9).setCell ⟨w.heap.size, 1, none⟩ (.int .i64 u) := ⟨_, rfl⟩
   rw [← hw19]
   have HRS := zqd (show HRel p (setTos R u) w w19 by rw [hw19]; exact (HR9).out.set hplt 1 _ rfl)
   have HRNS := zqd (show RngV (setTos R u) from rngv_tos HRG.out (by omega) (by omega))
   clear hw19
   have hr' := (HRS).out.1
   unfold HBlk at hr'
   have HRR := zqd hr'
   obtain ⟨w9, hw9⟩ : ∃ y, y = (w19).setCells (w.heap.size + 1) 0 (HCells (setTos R u)).toArray.toList := ⟨_, rfl⟩
   have HBE := zqd (show HBlk (w.heap.size + 1) (setTos R u) w9 by rw [hw9]; exact (HRS).out.2.1.put (setTos R u))
   have HTH := zqd ((HRS).out.2.1.there)
   have HGE := zqd (show w.grownBy w9 (some p) by rw [hw9]; exact grown_setCells_new (HRS).out.2.2.2 (by omega) _ _)
   have HDE := zqd (show Die w9 p by rw [hw9]; exact (HRS).out.2.2.1.kept (grown_setCells (w.heap.size + 1) _ _ _) (by simp; omega))
   have HW9 := zqd hw9
   clear hr' hw9
   go_wp2_with (first | (refine wpList_load_row rfl 49 _ rfl w.heap.size rfl 49 _ _ _ HRR.out Tryd.underlying49 rfl (by kernel_rfl) ?_) | (refine wpList_store_mid rfl 49 _ _ rfl (w.heap.size + 1) 0 (HCells (setTos R u)).toArray rfl rfl HTH.out (by kernel_rfl) (hcells_one _) ?_; rw [← HW9.out]))
   exact bodyPost_ret (v := HVal (setTos R u)) (results_cell_row Tryd.results30 _ _ (w.heap.size + 1) _ _ _ _ rfl HBE.out Tryd.underlying49 rfl (by kernel_rfl)) rfl ⟨setTos R u, rfl, HRNS.out, HDE.out, HGE.out⟩
  ·go_wp2_with fail
   refine (next_any p 4 _ HR8.out.2.2.1 (by omega) (by omega)).mono ?_
   rintro e w9 ⟨u, rfl, u1, u2, hd9, hg9⟩
   have HR9 := zqd (HR8.out.dice hplt hd9 hg9)
   clear hd9 hg9 hkb k0
   have x1 : w9.cell? ⟨w.heap.size, 4, none⟩ = some (.int .i64 R.ttl) := HR9.out.at 4 rfl
   have f1 := HR9.out.1.fz 4
   go_upto_region 34 with (fail)
   clear x1 f1
   obtain ⟨w19, hw19⟩ : ∃ y, y = (w9).setCell ⟨w.heap.size, 4, none⟩ (.int .i64 (60 + u)) := ⟨_, rfl⟩
   rw [← hw19]
   have HRS := zqd (show HRel p (setTtl R (60 + u)) w w19 by rw [hw19]; exact (HR9).out.set hplt 4 _ rfl)
   have HRNS := zqd (show RngV (setTtl R (60 + u)) from rngv_ttl HRG.out (by omega) (by omega))
   clear hw19
   have hr' := (HRS).out.1
   unfold HBlk at hr'
   have HRR := zqd hr'
   obtain ⟨w9, hw9⟩ : ∃ y, y = (w19).setCells (w.heap.size + 1) 0 (HCells (setTtl R (60 + u))).toArray.toList := ⟨_, rfl⟩
   have HBE := zqd (show HBlk (w.heap.size + 1) (setTtl R (60 + u)) w9 by rw [hw9]; exact (HRS).out.2.1.put (setTtl R (60 + u)))
   have HTH := zqd ((HRS).out.2.1.there)
   have HGE := zqd (show w.grownBy w9 (some p) by rw [hw9]; exact grown_setCells_new (HRS).out.2.2.2 (by omega) _ _)
   have HDE := zqd (show Die w9 p by rw [hw9]; exact (HRS).out.2.2.1.kept (grown_setCells (w.heap.size + 1) _ _ _) (by simp; omega))
   have HW9 := zqd hw9
   clear hr' hw9
   go_wp2_with (first | (refine wpList_load_row rfl 49 _ rfl w.heap.size rfl 49 _ _ _ HRR.out Tryd.underlying49 rfl (by kernel_rfl) ?_) | (refine wpList_store_mid rfl 49 _ _ rfl (w.heap.size + 1) 0 (HCells (setTtl R (60 + u))).toArray rfl rfl HTH.out (by kernel_rfl) (hcells_one _) ?_; rw [← HW9.out]))
   exact bodyPost_ret (v := HVal (setTtl R (60 + u))) (results_cell_row Tryd.results30 _ _ (w.heap.size + 1) _ _ _ _ rfl HBE.out Tryd.underlying49 rfl (by kernel_rfl)) rfl ⟨setTtl R (60 + u), rfl, HRNS.out, HDE.out, HGE.out⟩
  ·cases kb
   ·go_upto_region 34 with (fail)
    clear hkb k0
    have hr' := (HR8).out.1
    unfold HBlk at hr'
    have HRR := zqd hr'
    obtain ⟨w9, hw9⟩ : ∃ y, y = (w8).setCells (w.heap.size + 1) 0 (HCells (R)).toArray.toList := ⟨_, rfl⟩
    have HBE := zqd (show HBlk (w.heap.size + 1) (R) w9 by rw [hw9]; exact (HR8).out.2.1.put (R))
    have HTH := zqd ((HR8).out.2.1.there)
    have HGE := zqd (show w.grownBy w9 (some p) by rw [hw9]; exact grown_setCells_new (HR8).out.2.2.2 (by omega) _ _)
    have HDE := zqd (show Die w9 p by rw [hw9]; exact (HR8).out.2.2.1.kept (grown_setCells (w.heap.size + 1) _ _ _) (by simp; omega))
    have HW9 := zqd hw9
    clear hr' hw9
    go_wp2_with (first | (refine wpList_load_row rfl 49 _ rfl w.heap.size rfl 49 _ _ _ HRR.out Tryd.underlying49 rfl (by kernel_rfl) ?_) | (refine wpList_store_mid rfl 49 _ _ rfl (w.heap.size + 1) 0 (HCells (R)).toArray rfl rfl HTH.out (by kernel_rfl) (hcells_one _) ?_; rw [← HW9.out]))
    exact bodyPost_ret (v := HVal (R)) (results_cell_row Tryd.results30 _ _ (w.heap.size + 1) _ _ _ _ rfl HBE.out Tryd.underlying49 rfl (by kernel_rfl)) rfl ⟨R, rfl, HRG.out, HDE.out, HGE.out⟩
   ·have HKV := zqd (show R.kind = 2 by simpa using hkb)
    have x1 : w8.cell? ⟨w.heap.size, 10, none⟩ = some (.int .i64 R.marker) := HR8.out.at 10 rfl
    have f1 := HR8.out.1.fz 10
    go_upto_region 34 with (fail)
    clear hkb k0
    clear x1 f1
    obtain ⟨w19, hw19⟩ : ∃ y, y = (w8).setCell ⟨w.heap.size, 10, none⟩ (.int .i64 1) := ⟨_, rfl⟩
    rw [← hw19]
    have HRS := zqd (show HRel p (setMrk R 1) w w19 by rw [hw19]; exact (HR8).out.set hplt 10 _ rfl)
    have HRNS := zqd (show RngV (setMrk R 1) from rngv_mrk HRG.out HKV.out (by omega) (by omega))
    clear hw19
    have hr' := (HRS).out.1
    unfold HBlk at hr'
    have HRR := zqd hr'
    obtain ⟨w9, hw9⟩ : ∃ y, y = (w19).setCells (w.heap.size + 1) 0 (HCells (setMrk R 1)).toArray.toList := ⟨_, rfl⟩
    have HBE := zqd (show HBlk (w.heap.size + 1) (setMrk R 1) w9 by rw [hw9]; exact (HRS).out.2.1.put (setMrk R 1))
    have HTH := zqd ((HRS).out.2.1.there)
    have HGE := zqd (show w.grownBy w9 (some p) by rw [hw9]; exact grown_setCells_new (HRS).out.2.2.2 (by omega) _ _)
    have HDE := zqd (show Die w9 p by rw [hw9]; exact (HRS).out.2.2.1.kept (grown_setCells (w.heap.size + 1) _ _ _) (by simp; omega))
    have HW9 := zqd hw9
    clear hr' hw9
    go_wp2_with (first | (refine wpList_load_row rfl 49 _ rfl w.heap.size rfl 49 _ _ _ HRR.out Tryd.underlying49 rfl (by kernel_rfl) ?_) | (refine wpList_store_mid rfl 49 _ _ rfl (w.heap.size + 1) 0 (HCells (setMrk R 1)).toArray rfl rfl HTH.out (by kernel_rfl) (hcells_one _) ?_; rw [← HW9.out]))
    exact bodyPost_ret (v := HVal (setMrk R 1)) (results_cell_row Tryd.results30 _ _ (w.heap.size + 1) _ _ _ _ rfl HBE.out Tryd.underlying49 rfl (by kernel_rfl)) rfl ⟨setMrk R 1, rfl, HRNS.out, HDE.out, HGE.out⟩
  ·cases kb
   ·go_upto_region 34 with (fail)
    clear hkb k0
    have hr' := (HR8).out.1
    unfold HBlk at hr'
    have HRR := zqd hr'
    obtain ⟨w9, hw9⟩ : ∃ y, y = (w8).setCells (w.heap.size + 1) 0 (HCells (R)).toArray.toList := ⟨_, rfl⟩
    have HBE := zqd (show HBlk (w.heap.size + 1) (R) w9 by rw [hw9]; exact (HR8).out.2.1.put (R))
    have HTH := zqd ((HR8).out.2.1.there)
    have HGE := zqd (show w.grownBy w9 (some p) by rw [hw9]; exact grown_setCells_new (HR8).out.2.2.2 (by omega) _ _)
    have HDE := zqd (show Die w9 p by rw [hw9]; exact (HR8).out.2.2.1.kept (grown_setCells (w.heap.size + 1) _ _ _) (by simp; omega))
    have HW9 := zqd hw9
    clear hr' hw9
    go_wp2_with (first | (refine wpList_load_row rfl 49 _ rfl w.heap.size rfl 49 _ _ _ HRR.out Tryd.underlying49 rfl (by kernel_rfl) ?_) | (refine wpList_store_mid rfl 49 _ _ rfl (w.heap.size + 1) 0 (HCells (R)).toArray rfl rfl HTH.out (by kernel_rfl) (hcells_one _) ?_; rw [← HW9.out]))
    exact bodyPost_ret (v := HVal (R)) (results_cell_row Tryd.results30 _ _ (w.heap.size + 1) _ _ _ _ rfl HBE.out Tryd.underlying49 rfl (by kernel_rfl)) rfl ⟨R, rfl, HRG.out, HDE.out, HGE.out⟩
   ·have HKV := zqd (show R.kind = 2 by simpa using hkb)
    have tr := HRG.out.rng.2.2.2.2
    obtain ⟨tr1, tr2⟩ := tr
    go_upto_region 23 with (fail)
    clear hkb k0
    have hI : ∀ u, Gr w8 u → u.cell? ⟨w.heap.size, 13, none⟩ = some (.int .i64 R.time) := fun u hu => hu.cell (HR8.out.at 13 rfl)
    refine Sched2.wp_region_sched (fun u => u.cell? ⟨w.heap.size, 13, none⟩ = some (.int .i64 R.time)) [0, 1, 6] [] [3, 4, 5, 7] true hI (by kernel_rfl) (by kernel_rfl) ?_
    repeat (first | (refine Sched2.walk1_ord rfl ?_) | ((first | (refine Sched2.walk1_no rfl rfl rfl (fun K hK => ?_)) | (refine Sched2.walk1_gr rfl rfl rfl rfl (fun K hK => ?_); apply Exists.intro; refine ⟨fun w1 hw1 => ?_, ?_⟩; (focus (go_simp; (try go_ints); (try (simp only [IntWalk.iteOmega]; go_simp)); first | done | (with_reducible rfl) | (with_reducible exact ⟨rfl, rfl⟩)))) | (refine Sched2.walk1_late rfl rfl rfl rfl (fun K hK => ?_); apply Exists.intro; refine ⟨fun w1 hw1 => ?_, ?_⟩; (focus (go_simp; (try go_ints); (try (simp only [IntWalk.iteOmega]; go_simp)); first | done | (with_reducible rfl) | (with_reducible exact ⟨rfl, rfl⟩))))); simp only [Act.put, zqa, zqb, zqc]; refine hK _ ?_; clear hK K))
    refine Sched2.walk1_nil ?_
    intro wq hwq
    have HRQ := zqd (HR8.out.dice hplt (HR8.out.2.2.1.kept hwq (by simp)) (grown_weak hwq _))
    clear hwq hI
    have hx : wq.cell? ⟨w.heap.size, 13, none⟩ = some (.int .i64 R.time) := HRQ.out.at 13 rfl
    dsimp only [Sched.EndN, List.nil_append, List.cons_append, Act.put]
    (try simp only [zqa, zqb, zqc])
    simp only [Sched2.lasts, List.filterMap_cons, List.filterMap_nil, List.getElem?_toArray, List.getElem?_cons_succ, List.getElem?_cons_zero]
    repeat (first | (refine Sched2.walk2_no rfl (fun K hK => ?_); simp only [Act.put, zqa, zqb, zqc]; refine hK _ ?_; clear hK K) | (refine Sched2.walk2_go rfl (fun K hK => ?_); go_simp; (try go_ints); (try (simp only [IntWalk.iteOmega]; go_simp)); first | (refine hK _ _ (by first | exact .inl ⟨rfl, rfl⟩ | exact .inr ((by assumption))) ?_; clear hK K) | (go_at_call 11; refine (next_any p 1048576 wq HRQ.out.2.2.1 (by omega) (by omega)).mono ?_; rintro e w9 ⟨u, rfl, u1, u2, hd9, hg9⟩; have HR9 := zqd (HRQ.out.dice hplt hd9 hg9); clear hd9 hg9 hx; obtain ⟨tt, htt⟩ : ∃ x, (R.time + u) % 4294967296 = x := ⟨_, rfl⟩; have hmt : modF (R.time + u) 4294967296 = tt := (by unfold modF; rw [if_neg (by omega)]; exact htt); have HTT := zqd htt; have HMTT := zqd hmt; clear htt hmt; have x1 : w9.cell? ⟨w.heap.size, 13, none⟩ = some (.int .i64 R.time) := HR9.out.at 13 rfl; have f1 := HR9.out.1.fz 13; refine ⟨_, rfl, ?_⟩; refine hK _ _ (.inr x1) ?_; clear hK K) | (go_at_call 19; refine (mod_is HMTT.out (by omega) _).mono ?_; rintro e w' ⟨rfl, rfl⟩; refine ⟨_, rfl, ?_⟩; refine hK _ _ (.inr x1) ?_; clear hK K)))
    refine Sched2.walk2_nil ?_
    go_upto_region 34 with (fail)
    clear x1 f1
    obtain ⟨w19, hw19⟩ : ∃ y, y = (w9).setCell ⟨w.heap.size, 13, none⟩ (.int .i64 tt) := ⟨_, rfl⟩
    rw [← hw19]
    have HRS := zqd (show HRel p (setTim R tt) w w19 by rw [hw19]; exact (HR9).out.set hplt 13 _ rfl)
    have HRNS := zqd (show RngV (setTim R tt) from rngv_tim HRG.out HKV.out (by have := HTT.out; omega) (by have := HTT.out; omega))
    clear hw19
    have hr' := (HRS).out.1
    unfold HBlk at hr'
    have HRR := zqd hr'
    obtain ⟨w9, hw9⟩ : ∃ y, y = (w19).setCells (w.heap.size + 1) 0 (HCells (setTim R tt)).toArray.toList := ⟨_, rfl⟩
    have HBE := zqd (show HBlk (w.heap.size + 1) (setTim R tt) w9 by rw [hw9]; exact (HRS).out.2.1.put (setTim R tt))
    have HTH := zqd ((HRS).out.2.1.there)
    have HGE := zqd (show w.grownBy w9 (some p) by rw [hw9]; exact grown_setCells_new (HRS).out.2.2.2 (by omega) _ _)
    have HDE := zqd (show Die w9 p by rw [hw9]; exact (HRS).out.2.2.1.kept (grown_setCells (w.heap.size + 1) _ _ _) (by simp; omega))
    have HW9 := zqd hw9
    clear hr' hw9
    go_wp2_with (first | (refine wpList_load_row rfl 49 _ rfl w.heap.size rfl 49 _ _ _ HRR.out Tryd.underlying49 rfl (by kernel_rfl) ?_) | (refine wpList_store_mid rfl 49 _ _ rfl (w.heap.size + 1) 0 (HCells (setTim R tt)).toArray rfl rfl HTH.out (by kernel_rfl) (hcells_one _) ?_; rw [← HW9.out]))
    exact bodyPost_ret (v := HVal (setTim R tt)) (results_cell_row Tryd.results30 _ _ (w.heap.size + 1) _ _ _ _ rfl HBE.out Tryd.underlying49 rfl (by kernel_rfl)) rfl ⟨setTim R tt, rfl, HRNS.out, HDE.out, HGE.out⟩
  ·cases kb
   ·go_upto_region 34 with (fail)
    clear hkb k0
    have hr' := (HR8).out.1
    unfold HBlk at hr'
    have HRR := zqd hr'
    obtain ⟨w9, hw9⟩ : ∃ y, y = (w8).setCells (w.heap.size + 1) 0 (HCells (R)).toArray.toList := ⟨_, rfl⟩
    have HBE := zqd (show HBlk (w.heap.size + 1) (R) w9 by rw [hw9]; exact (HR8).out.2.1.put (R))
    have HTH := zqd ((HR8).out.2.1.there)
    have HGE := zqd (show w.grownBy w9 (some p) by rw [hw9]; exact grown_setCells_new (HR8).out.2.2.2 (by omega) _ _)
    have HDE := zqd (show Die w9 p by rw [hw9]; exact (HR8).out.2.2.1.kept (grown_setCells (w.heap.size + 1) _ _ _) (by simp; omega))
    have HW9 := zqd hw9
    clear hr' hw9
    go_wp2_with (first | (refine wpList_load_row rfl 49 _ rfl w.heap.size rfl 49 _ _ _ HRR.out Tryd.underlying49 rfl (by kernel_rfl) ?_) | (refine wpList_store_mid rfl 49 _ _ rfl (w.heap.size + 1) 0 (HCells (R)).toArray rfl rfl HTH.out (by kernel_rfl) (hcells_one _) ?_; rw [← HW9.out]))
    exact bodyPost_ret (v := HVal (R)) (results_cell_row Tryd.results30 _ _ (w.heap.size + 1) _ _ _ _ rfl HBE.out Tryd.underlying49 rfl (by kernel_rfl)) rfl ⟨R, rfl, HRG.out, HDE.out, HGE.out⟩
   ·go_wp2_with fail
    refine (next_any p 65536 _ HR8.out.2.2.1 (by omega) (by omega)).mono ?_
    rintro e w9 ⟨u, rfl, u1, u2, hd9, hg9⟩
    have HR9 := zqd (HR8.out.dice hplt hd9 hg9)
    clear hd9 hg9 hkb k0
    have x1 : w9.cell? ⟨w.heap.size, 2, none⟩ = some (.int .i64 R.id) := HR9.out.at 2 rfl
    have f1 := HR9.out.1.fz 2
    go_upto_region 34 with (fail)
    clear x1 f1
    obtain ⟨w19, hw19⟩ : ∃ y, y = (w9).setCell ⟨w.heap.size, 2, none⟩ (.int .i64 u) := ⟨_, rfl⟩
    rw [← hw19]
    have HRS := zqd (show HRel p (setId R u) w w19 by rw [hw19]; exact (HR9).out.set hplt 2 _ rfl)
    have HRNS := zqd (show RngV (setId R u) from rngv_id HRG.out (by omega) (by omega))
    clear hw19
    have hr' := (HRS).out.1
    unfold HBlk at hr'
    have HRR := zqd hr'
    obtain ⟨w9, hw9⟩ : ∃ y, y = (w19).setCells (w.heap.size + 1) 0 (HCells (setId R u)).toArray.toList := ⟨_, rfl⟩
    have HBE := zqd (show HBlk (w.heap.size + 1) (setId R u) w9 by rw [hw9]; exact (HRS).out.2.1.put (setId R u))
    have HTH := zqd ((HRS).out.2.1.there)
    have HGE := zqd (show w.grownBy w9 (some p) by rw [hw9]; exact grown_setCells_new (HRS).out.2.2.2 (by omega) _ _)
    have HDE := zqd (show Die w9 p by rw [hw9]; exact (HRS).out.2.2.1.kept (grown_setCells (w.heap.size + 1) _ _ _) (by simp; omega))
    have HW9 := zqd hw9
    clear hr' hw9
    go_wp2_with (first | (refine wpList_load_row rfl 49 _ rfl w.heap.size rfl 49 _ _ _ HRR.out Tryd.underlying49 rfl (by kernel_rfl) ?_) | (refine wpList_store_mid rfl 49 _ _ rfl (w.heap.size + 1) 0 (HCells (setId R u)).toArray rfl rfl HTH.out (by kernel_rfl) (hcells_one _) ?_; rw [← HW9.out]))
    exact bodyPost_ret (v := HVal (setId R u)) (results_cell_row Tryd.results30 _ _ (w.heap.size + 1) _ _ _ _ rfl HBE.out Tryd.underlying49 rfl (by kernel_rfl)) rfl ⟨setId R u, rfl, HRNS.out, HDE.out, HGE.out⟩
  ·cases kb
   ·go_upto_region 34 with (fail)
    clear hkb k0
    have hr' := (HR8).out.1
    unfold HBlk at hr'
    have HRR := zqd hr'
    obtain ⟨w9, hw9⟩ : ∃ y, y = (w8).setCells (w.heap.size + 1) 0 (HCells (R)).toArray.toList := ⟨_, rfl⟩
    have HBE := zqd (show HBlk (w.heap.size + 1) (R) w9 by rw [hw9]; exact (HR8).out.2.1.put (R))
    have HTH := zqd ((HR8).out.2.1.there)
    have HGE := zqd (show w.grownBy w9 (some p) by rw [hw9]; exact grown_setCells_new (HR8).out.2.2.2 (by omega) _ _)
    have HDE := zqd (show Die w9 p by rw [hw9]; exact (HR8).out.2.2.1.kept (grown_setCells (w.heap.size + 1) _ _ _) (by simp; omega))
    have HW9 := zqd hw9
    clear hr' hw9
    go_wp2_with (first | (refine wpList_load_row rfl 49 _ rfl w.heap.size rfl 49 _ _ _ HRR.out Tryd.underlying49 rfl (by kernel_rfl) ?_) | (refine wpList_store_mid rfl 49 _ _ rfl (w.heap.size + 1) 0 (HCells (R)).toArray rfl rfl HTH.out (by kernel_rfl) (hcells_one _) ?_; rw [← HW9.out]))
    exact bodyPost_ret (v := HVal (R)) (results_cell_row Tryd.results30 _ _ (w.heap.size + 1) _ _ _ _ rfl HBE.out Tryd.underlying49 rfl (by kernel_rfl)) rfl ⟨R, rfl, HRG.out, HDE.out, HGE.out⟩
   ·have HKV := zqd (show R.kind = 2 by simpa using hkb)
    go_wp2_with fail
    refine (next_any p 10 _ HR8.out.2.2.1 (by omega) (by omega)).mono ?_
    rintro e w9 ⟨u, rfl, u1, u2, hd9, hg9⟩
    have HR9 := zqd (HR8.out.dice hplt hd9 hg9)
    clear hd9 hg9 hkb k0
    have x1 : w9.cell? ⟨w.heap.size, 11, none⟩ = some (.int .i64 R.type) := HR9.out.at 11 rfl
    have f1 := HR9.out.1.fz 11
    go_upto_region 34 with (fail)
    clear x1 f1
    obtain ⟨w19, hw19⟩ : ∃ y, y = (w9).setCell ⟨w.heap.size, 11, none⟩ (.int .i64 (90 + u)) := ⟨_, rfl⟩
    rw [← hw19]
    have HRS := zqd (show HRel p (setTyp R (90 + u)) w w19 by rw [hw19]; exact (HR9).out.set hplt 11 _ rfl)
    have HRNS := zqd (show RngV (setTyp R (90 + u)) from rngv_typ HRG.out HKV.out (by omega) (by omega))
    clear hw19
    have hr' := (HRS).out.1
    unfold HBlk at hr'
    have HRR := zqd hr'
    obtain ⟨w9, hw9⟩ : ∃ y, y = (w19).setCells (w.heap.size + 1) 0 (HCells (setTyp R (90 + u))).toArray.toList := ⟨_, rfl⟩
    have HBE := zqd (show HBlk (w.heap.size + 1) (setTyp R (90 + u)) w9 by rw [hw9]; exact (HRS).out.2.1.put (setTyp R (90 + u)))
    have HTH := zqd ((HRS).out.2.1.there)
    have HGE := zqd (show w.grownBy w9 (some p) by rw [hw9]; exact grown_setCells_new (HRS).out.2.2.2 (by omega) _ _)
    have HDE := zqd (show Die w9 p by rw [hw9]; exact (HRS).out.2.2.1.kept (grown_setCells (w.heap.size + 1) _ _ _) (by simp; omega))
    have HW9 := zqd hw9
    clear hr' hw9
    go_wp2_with (first | (refine wpList_load_row rfl 49 _ rfl w.heap.size rfl 49 _ _ _ HRR.out Tryd.underlying49 rfl (by kernel_rfl) ?_) | (refine wpList_store_mid rfl 49 _ _ rfl (w.heap.size + 1) 0 (HCells (setTyp R (90 + u))).toArray rfl rfl HTH.out (by kernel_rfl) (hcells_one _) ?_; rw [← HW9.out]))
    exact bodyPost_ret (v := HVal (setTyp R (90 + u))) (results_cell_row Tryd.results30 _ _ (w.heap.size + 1) _ _ _ _ rfl HBE.out Tryd.underlying49 rfl (by kernel_rfl)) rfl ⟨setTyp R (90 + u), rfl, HRNS.out, HDE.out, HGE.out⟩
  ·have x1 : w8.cell? ⟨w.heap.size, 9, none⟩ = some (.int .i64 R.check) := HR8.out.at 9 rfl
   have f1 := HR8.out.1.fz 9
   obtain ⟨cz, hcz⟩ : ∃ b, (R.check == 0) = b := ⟨_, rfl⟩
   clear hkb k0
   cases cz
   ·go_upto_region 34 with (fail)
    clear hcz
    clear x1 f1
    obtain ⟨w19, hw19⟩ : ∃ y, y = (w8).setCell ⟨w.heap.size, 9, none⟩ (.int .i64 0) := ⟨_, rfl⟩
    rw [← hw19]
    have HRS := zqd (show HRel p (setChk R 0) w w19 by rw [hw19]; exact (HR8).out.set hplt 9 _ rfl)
    have HRNS := zqd (show RngV (setChk R 0) from rngv_chk HRG.out (by omega) (by omega))
    clear hw19
    have hr' := (HRS).out.1
    unfold HBlk at hr'
    have HRR := zqd hr'
    obtain ⟨w9, hw9⟩ : ∃ y, y = (w19).setCells (w.heap.size + 1) 0 (HCells (setChk R 0)).toArray.toList := ⟨_, rfl⟩
    have HBE := zqd (show HBlk (w.heap.size + 1) (setChk R 0) w9 by rw [hw9]; exact (HRS).out.2.1.put (setChk R 0))
    have HTH := zqd ((HRS).out.2.1.there)
    have HGE := zqd (show w.grownBy w9 (some p) by rw [hw9]; exact grown_setCells_new (HRS).out.2.2.2 (by omega) _ _)
    have HDE := zqd (show Die w9 p by rw [hw9]; exact (HRS).out.2.2.1.kept (grown_setCells (w.heap.size + 1) _ _ _) (by simp; omega))
    have HW9 := zqd hw9
    clear hr' hw9
    go_wp2_with (first | (refine wpList_load_row rfl 49 _ rfl w.heap.size rfl 49 _ _ _ HRR.out Tryd.underlying49 rfl (by kernel_rfl) ?_) | (refine wpList_store_mid rfl 49 _ _ rfl (w.heap.size + 1) 0 (HCells (setChk R 0)).toArray rfl rfl HTH.out (by kernel_rfl) (hcells_one _) ?_; rw [← HW9.out]))
    exact bodyPost_ret (v := HVal (setChk R 0)) (results_cell_row Tryd.results30 _ _ (w.heap.size + 1) _ _ _ _ rfl HBE.out Tryd.underlying49 rfl (by kernel_rfl)) rfl ⟨setChk R 0, rfl, HRNS.out, HDE.out, HGE.out⟩
   ·go_upto_region 34 with (fail)
    clear hcz
    clear x1 f1
    obtain ⟨w19, hw19⟩ : ∃ y, y = (w8).setCell ⟨w.heap.size, 9, none⟩ (.int .i64 5) := ⟨_, rfl⟩
    rw [← hw19]
    have HRS := zqd (show HRel p (setChk R 5) w w19 by rw [hw19]; exact (HR8).out.set hplt 9 _ rfl)
    have HRNS := zqd (show RngV (setChk R 5) from rngv_chk HRG.out (by omega) (by omega))
    clear hw19
    have hr' := (HRS).out.1
    unfold HBlk at hr'
    have HRR := zqd hr'
    obtain ⟨w9, hw9⟩ : ∃ y, y = (w19).setCells (w.heap.size + 1) 0 (HCells (setChk R 5)).toArray.toList := ⟨_, rfl⟩
    have HBE := zqd (show HBlk (w.heap.size + 1) (setChk R 5) w9 by rw [hw9]; exact (HRS).out.2.1.put (setChk R 5))
    have HTH := zqd ((HRS).out.2.1.there)
    have HGE := zqd (show w.grownBy w9 (some p) by rw [hw9]; exact grown_setCells_new (HRS).out.2.2.2 (by omega) _ _)
    have HDE := zqd (show Die w9 p by rw [hw9]; exact (HRS).out.2.2.1.kept (grown_setCells (w.heap.size + 1) _ _ _) (by simp; omega))
    have HW9 := zqd hw9
    clear hr' hw9
    go_wp2_with (first | (refine wpList_load_row rfl 49 _ rfl w.heap.size rfl 49 _ _ _ HRR.out Tryd.underlying49 rfl (by kernel_rfl) ?_) | (refine wpList_store_mid rfl 49 _ _ rfl (w.heap.size + 1) 0 (HCells (setChk R 5)).toArray rfl rfl HTH.out (by kernel_rfl) (hcells_one _) ?_; rw [← HW9.out]))
    exact bodyPost_ret (v := HVal (setChk R 5)) (results_cell_row Tryd.results30 _ _ (w.heap.size + 1) _ _ _ _ rfl HBE.out Tryd.underlying49 rfl (by kernel_rfl)) rfl ⟨setChk R 5, rfl, HRNS.out, HDE.out, HGE.out⟩
  ·have n0 : (v == 0) = false := by simp; omega
   have n1 : (v == 1) = false := by simp; omega
   have n2 : (v == 2) = false := by simp; omega
   have n3 : (v == 3) = false := by simp; omega
   have n4 : (v == 4) = false := by simp; omega
   have n5 : (v == 5) = false := by simp; omega
   have n6 : (v == 6) = false := by simp; omega
   clear hkb k0
   go_upto_region 34 with (fail)
   clear n0 n1 n2 n3 n4 n5 n6
   have hr' := (HR8).out.1
   unfold HBlk at hr'
   have HRR := zqd hr'
   obtain ⟨w9, hw9⟩ : ∃ y, y = (w8).setCells (w.heap.size + 1) 0 (HCells (R)).toArray.toList := ⟨_, rfl⟩
   have HBE := zqd (show HBlk (w.heap.size + 1) (R) w9 by rw [hw9]; exact (HR8).out.2.1.put (R))
   have HTH := zqd ((HR8).out.2.1.there)
   have HGE := zqd (show w.grownBy w9 (some p) by rw [hw9]; exact grown_setCells_new (HR8).out.2.2.2 (by omega) _ _)
   have HDE := zqd (show Die w9 p by rw [hw9]; exact (HR8).out.2.2.1.kept (grown_setCells (w.heap.size + 1) _ _ _) (by simp; omega))
   have HW9 := zqd hw9
   clear hr' hw9
   go_wp2_with (first | (refine wpList_load_row rfl 49 _ rfl w.heap.size rfl 49 _ _ _ HRR.out Tryd.underlying49 rfl (by kernel_rfl) ?_) | (refine wpList_store_mid rfl 49 _ _ rfl (w.heap.size + 1) 0 (HCells (R)).toArray rfl rfl HTH.out (by kernel_rfl) (hcells_one _) ?_; rw [← HW9.out]))
   exact bodyPost_ret (v := HVal (R)) (results_cell_row Tryd.results30 _ _ (w.heap.size + 1) _ _ _ _ rfl HBE.out Tryd.underlying49 rfl (by kernel_rfl)) rfl ⟨R, rfl, HRG.out, HDE.out, HGE.out⟩
end Go.Proofs.YtlnkofpcidngoaaDoor
/- made.put, as ref01.Put. -/
namespace Go.Proofs.YtlnkofpcidngoaaDoor
open Go.ChangeShapes Go.WideShapes Go.ChangeAt Go.RowKit
set_option maxRecDepth 20000 in
set_option maxHeartbeats 2000000 in
theorem mput_any (B : Nat) (a : Option Addr) (n cap : Nat) (xs : List Int) (K : Int) (k : Nat) (x : Int) (w : World) (hK : K = k) (hown : OwnI B 5 .u8 w a n cap xs) (hn : n ≤ 140737488355000) (hk : k ≤ 7) (hB : B ≤ w.heap.size) :
  Calls Tryd.prog 55 #[.slice a n cap, .int .i64 K, .int .i64 x] w (AppPost B 5 .u8 w a n cap k (xs ++ putR x k)) := by
 subst hK
 go_enter Tryd.func55, Tryd.ntmps55
 go_wp2_with fail
 go_loopw [0, 7] (fun s i wr => ∃ (a' : Option Addr) (n' cap' r : Nat) (ys : List Int), r ≤ k ∧ n' + r = n + k ∧ s = .slice a' n' cap' ∧ i = .int .i64 ((r : Int) - 1) ∧ OwnI B 5 .u8 wr a' n' cap' ys ∧ ys ++ putR x r = xs ++ putR x k ∧ w.grownBy wr (Value.slice a n cap).ownBlock ∧ Follows w (.slice a n cap) (.slice a' n' cap')) (fun _ i _ => (intOf i + 1).toNat)
 case atStart => exact ⟨a, n, cap, k, xs, by omega, rfl, rfl, rfl, hown, rfl, grownBy_refl _ _, Follows.refl _ _⟩
 case round =>
  obtain ⟨a', n', cap', r, ys, hr, hnr, rfl, rfl, hown', hys, hg, hf⟩ := hrel
  have HY := zqd hys
  have HN := zqd hnr
  have hn' : n' ≤ 140737488355010 := by omega
  clear hys hnr hown
  by_cases h : 1 ≤ r
  ·obtain ⟨q, rfl⟩ : ∃ q, r = q + 1 := ⟨r - 1, by omega⟩
   have hq : ((q + 1 : Nat) : Int) - 1 = (q : Int) := by omega
   rw [hq]
   have hrd := rd_new (k := .u8) (w := wr) [x / 2 ^ (8 * q) % 256] 5 (0, 0) 1 rfl (by simp [maxLen]) (by intro y hy; simp at hy; subst hy; exact WalkArith.wf_u8 (by omega))
   obtain ⟨a2, c2, w2, hrun, ho2, hg2, hf2⟩ := app_u8 B (wr.alloc (.cells ([x / 2 ^ (8 * q) % 256].map (Value.int .u8)).toArray 5)) a' n' cap' ys (hown'.stay (World.grownBy_alloc _ _ _)) (some ⟨wr.heap.size, 0, none⟩) 1 1 _ hrd (by omega) (by have := hg.size; simp; omega)
   simp only [List.map_cons, List.map_nil] at hrun hg2 hf2
   have HR := zqd hrun
   have ho2' := ho2
   have hB2 := hg.size
   clear hrun hrd
   go_wp2_with (at_builtin; refine wpList_app rfl _ _ _ rfl rfl rfl HR.out ?_)
   have hrg := round_grown hg hf hg2 hf2
   exact ⟨⟨a2, n' + 1, c2, q, _, by omega, by have := HN.out; omega, rfl, rfl, ho2, by rw [← HY.out]; simp [putR], hrg.1, hrg.2⟩, by simp [intOf]⟩
  ·obtain rfl : r = 0 := by omega
   go_wp2
   go_ret
   exact ⟨a', cap', n', by have := HN.out; omega, rfl, by have := HY.out; simp [putR] at this; rw [← this]; exact hown', hg, hf⟩
theorem RowI.mput {w0 wn : World} {h : Hdr} {a : Option Addr} {n cap : Nat} {xs : List Int} (hI : RowI w0 h a n cap xs wn) (K : Int) (k N : Nat) (x : Int) (hK : K = k) (hN : N = n + k) (hn : n ≤ 2000) (hk : k ≤ 7) :
  Calls Tryd.prog 55 #[.slice a n cap, .int .i64 K, .int .i64 x] wn fun e w' => ∃ a' cap', e = .returned (.slice a' N cap') ∧ RowI w0 h a' N cap' (xs ++ putR x k) w' := by
 refine (mput_any _ a n cap xs K k x wn hK hI.2.1 (by omega) hk hI.le).mono ?_
 rintro e w' ⟨a', cap', n', e1, e2, ho, hg, _⟩
 subst hN
 subst e1
 exact ⟨a', cap', e2, hI.turn ho hg⟩
end Go.Proofs.YtlnkofpcidngoaaDoor
