/- Several texts in one. -/
import Derived.Test.YtlnkofpcidngoaaDoorA0
import Derived.Test.YtlnkofpcidngoaaDoorA20
import Derived.Test.YtlnkofpcidngoaaDoorA33
import Derived.Test.YtlnkofpcidngoaaDoorA26
/- Headers that are made of dice: word, Header, Dynamic. -/
namespace Go.Proofs.YtlnkofpcidngoaaDoor
open Go.ChangeShapes Go.WideShapes Go.ChangeAt Go.RowKit
theorem blk_keptD {w w' : World} {g : Nat} {o : Obj} {r : Option Nat} (h : w.heap[g]? = some o) (hg : w.grownBy w' r) (hne : some g ≠ r) : w'.heap[g]? = some o := by
 rw [hg.block _ (heap_lt h) hne]; exact h
theorem HBlk.dice {g p : Nat} {h : Hdr} {w w' : World} (hb : HBlk g h w) (hg : w.grownBy w' (some p)) (hne : g ≠ p) : HBlk g h w' := blk_keptD hb hg (by simpa using hne)
theorem DBlk.dice {g p : Nat} {s f : Int} {w w' : World} (hb : DBlk g s f w) (hg : w.grownBy w' (some p)) (hne : g ≠ p) : DBlk g s f w' := blk_keptD hb hg (by simpa using hne)
theorem mod_is {n m r : Int} (h : modF n m = r) (hm : m ≤ 9223372036854775807) (w : World) : Calls Tryd.prog 19 #[.int .i64 n, .int .i64 m] w fun e w' => e = .returned (.int .i64 r) ∧ w = w' := h ▸ mod_any n m w hm
def WordPost (p : Nat) (m : Int) (w : World) (e : Ending) (w' : World) : Prop := ∃ v : Int, e = .returned (.int .i64 v) ∧ 0 ≤ v ∧ v ≤ m ∧ Die w' p ∧ w.grownBy w' (some p)
set_option maxRecDepth 20000 in
set_option maxHeartbeats 2000000 in
theorem word_any (p : Nat) (m : Int) (w : World) (hd : Die w p) (hm : 2 ≤ m) (hm2 : m ≤ 4294967295) : Calls Tryd.prog 56 #[.pointer (some ⟨p, 0, none⟩), .int .i64 m] w (WordPost p m w) := by
 go_enter Tryd.func56, Tryd.ntmps56
 go_wp2_with fail
 refine (next_any p 4 _ hd (by omega) (by omega)).mono ?_
 rintro e w1 ⟨v, rfl, v1, v2, hd1, hg1⟩
 have HG1 := zqd hg1
 clear hg1
 have h4 : v = 0 ∨ v = 1 ∨ 2 ≤ v := by omega
 rcases h4 with rfl | rfl | h4
 ·go_wp2_with fail
  refine (next_any p 3 _ hd1 (by omega) (by omega)).mono ?_
  rintro e w2 ⟨u, rfl, u1, u2, hd2, hg2⟩
  have HG2 := zqd (grown_trans' HG1.out hg2)
  clear hg2
  go_wp2_with fail
  go_ret
  exact ⟨u, rfl, by omega, by omega, hd2, HG2.out⟩
 ·go_wp2_with fail
  refine (next_any p 3 _ hd1 (by omega) (by omega)).mono ?_
  rintro e w2 ⟨u, rfl, u1, u2, hd2, hg2⟩
  have HG2 := zqd (grown_trans' HG1.out hg2)
  clear hg2
  go_wp2_with fail
  go_ret
  exact ⟨_, rfl, by omega, by omega, hd2, HG2.out⟩
 ·have b0 : (v == 0) = false := by simp; omega
  have b1 : (v == 1) = false := by simp; omega
  go_wp2_with fail
  refine (next_any p (m + 1) _ hd1 (by omega) (by omega)).mono ?_
  rintro e w2 ⟨u, rfl, u1, u2, hd2, hg2⟩
  have HG2 := zqd (grown_trans' HG1.out hg2)
  clear hg2
  go_wp2_with fail
  go_ret
  exact ⟨u, rfl, by omega, by omega, hd2, HG2.out⟩
structure MadeH (fl : Int) (h : Hdr) : Prop where
 kind : h.kind = 1 + fl % 2
 tos : 0 ≤ h.tos ∧ h.tos ≤ 1
 id : 0 ≤ h.id ∧ h.id ≤ 65535
 fixed : 0 ≤ h.fixed ∧ h.fixed ≤ 1
 ttl : 64 ≤ h.ttl ∧ h.ttl ≤ 65
 frm : h.frm = 167772161
 dst : h.to = 167772162 + fl / 2
 fport : h.fport = 5000
 tport : h.tport = 6000 + fl
 check : 0 ≤ h.check ∧ h.check ≤ 65535
 rest : (fl % 2 = 0 ∧ h.marker = 0 ∧ h.type = 0 ∧ h.seq = 0 ∧ h.time = 0 ∧ h.source = 0) ∨
  (fl % 2 = 1 ∧ (0 ≤ h.marker ∧ h.marker ≤ 1) ∧ h.type = 96 ∧ (0 ≤ h.seq ∧ h.seq ≤ 65535) ∧ (0 ≤ h.time ∧ h.time ≤ 4294967295) ∧ h.source = 77 + fl)
def HeaderPost (p : Nat) (fl : Int) (w : World) (e : Ending) (w' : World) : Prop := ∃ h : Hdr, e = .returned (HVal h) ∧ MadeH fl h ∧ Die w' p ∧ w.grownBy w' (some p)
def hd0 (k t i f l tz tp c : Int) : Hdr := ⟨k, t, i, f, l, 167772161, tz, 5000, tp, c, 0, 0, 0, 0, 0⟩
def hd5 (k t i f l tz tp c m q ti so : Int) : Hdr := ⟨k, t, i, f, l, 167772161, tz, 5000, tp, c, m, 96, q, ti, so⟩
theorem die_set {w : World} {p g i : Nat} {v : Value} (h : Die w p) (hg : p < g) : Die (w.setCell ⟨g, i, none⟩ v) p := h.kept (grown_setAt w g i v) (by simp; omega)
def ChkRel (p g : Nat) (k t i f l tz tp : Int) (w : World) (wc : World) : Prop := ∃ c : Int, 0 ≤ c ∧ c ≤ 65535 ∧ HBlk g (hd0 k t i f l tz tp c) wc ∧ HBlk w.heap.size zeroH wc ∧ Die wc p ∧ w.grownBy wc (some p)
-- the end: the header at g is the result
set_option maxRecDepth 100000 in
set_option maxHeartbeats 4000000 in
theorem header_any (p : Nat) (fl : Int) (w : World) (hd : Die w p) (h0 : 0 ≤ fl) (h1 : fl ≤ 10) : Calls Tryd.prog 28 #[.pointer (some ⟨p, 0, none⟩), .int .i64 fl] w (HeaderPost p fl w) := by
 have hplt := hd.lt
 have HD := zqd hd
 have HM := zqd (show modF fl 2 = fl % 2 from rfl)
 clear hd
 go_enter Tryd.func28, Tryd.ntmps28
 go_upto_region 1 with (fail)
 obtain ⟨w1, hw1⟩ : ∃ y, y = w.alloc (.cells (HCells zeroH).toArray 49) := ⟨_, rfl⟩
 have hz1 : HBlk w.heap.size zeroH w1 := by rw [hw1]; exact heap_alloc_new _ _
 have hg1 : Gr w w1 := by rw [hw1]; exact Gr.alloc _ _
 have HD1 := zqd (HD.out.kept hg1 (by simp))
 have HZ1 := zqd hz1
 have HG1 := zqd (grown_weak hg1 (some p))
 simp only [HCells, zeroH] at hw1
 rw [← hw1]
 clear hw1 hz1 hg1
 obtain ⟨k2, hk2⟩ : ∃ k : Int, fl % 2 = k := ⟨_, rfl⟩
 have hk01 : k2 = 0 ∨ k2 = 1 := by omega
 have HK2 := zqd hk2
 obtain ⟨fl2, hfl2⟩ : ∃ k : Int, fl / 2 = k := ⟨_, rfl⟩
 have hf2 : 0 ≤ fl2 ∧ fl2 ≤ 5 := by omega
 obtain ⟨hf21, hf22⟩ := hf2
 have HF2 := zqd hfl2
 clear hk2
 have HM2 := zqd (show modF fl 2 = k2 by rw [HM.out, HK2.out])
 go_wp2_with (go_at_call 19; ((with_reducible refine (mod_is HM2.out (by omega) _).mono ?_)); rintro e w' ⟨rfl, rfl⟩)
 refine (next_any p 2 _ HD1.out (by omega) (by omega)).mono ?_
 rintro e w2 ⟨t, rfl, t1, t2, hd2, hg2⟩
 have HD2 := zqd hd2
 have HZ2 := zqd (HZ1.out.dice hg2 (by omega))
 have HG2 := zqd (grown_trans' HG1.out hg2)
 clear hd2 hg2
 go_wp2_with fail
 refine (next_any p 2 _ HD2.out (by omega) (by omega)).mono ?_
 rintro e w3 ⟨l, rfl, l1, l2, hd3, hg3⟩
 have HD3 := zqd hd3
 have HZ3 := zqd (HZ2.out.dice hg3 (by omega))
 have HG3 := zqd (grown_trans' HG2.out hg3)
 clear hd3 hg3
 go_wp2_with fail
 refine (next_any p 2 _ HD3.out (by omega) (by omega)).mono ?_
 rintro e w4 ⟨f, rfl, f1, f2, hd4, hg4⟩
 have HD4 := zqd hd4
 have HZ4 := zqd (HZ3.out.dice hg4 (by omega))
 have HG4 := zqd (grown_trans' HG3.out hg4)
 clear hd4 hg4
 go_wp2_with fail
 refine (word_any p 65535 _ HD4.out (by omega) (by omega)).mono ?_
 rintro e w5 ⟨i, rfl, i1, i2, hd5, hg5⟩
 have HD5 := zqd hd5
 have HZ5 := zqd (HZ4.out.dice hg5 (by omega))
 have HG5 := zqd (grown_trans' HG4.out hg5)
 clear hd5 hg5
 go_upto_region 2 with (fail)
 obtain ⟨tz, hto⟩ : ∃ k : Int, 167772162 + fl2 = k := ⟨_, rfl⟩
 obtain ⟨tp, htp⟩ : ∃ k : Int, 6000 + fl = k := ⟨_, rfl⟩
 obtain ⟨tl, htl⟩ : ∃ k : Int, 64 + l = k := ⟨_, rfl⟩
 obtain ⟨kd, hkd⟩ : ∃ k : Int, 1 + k2 = k := ⟨_, rfl⟩
 rw [hto, htp, htl, hkd]
 have HTO := zqd hto
 have HTP := zqd htp
 have HTL := zqd htl
 have HKD := zqd hkd
 obtain ⟨w6, hw6⟩ : ∃ y, y = w5.alloc (.cells (HCells (hd0 kd t i f tl tz tp 0)).toArray 49) := ⟨_, rfl⟩
 have hr6 : HBlk w5.heap.size (hd0 kd t i f tl tz tp 0) w6 := by rw [hw6]; exact heap_alloc_new _ _
 have hg6 : Gr w5 w6 := by rw [hw6]; exact Gr.alloc _ _
 have HR6 := zqd hr6
 have HD6 := zqd (HD5.out.kept hg6 (by simp))
 have HZ6 := zqd (HZ5.out.kept hg6)
 have HG6 := zqd (grown_trans' HG5.out (grown_weak hg6 _))
 have hgs : w.heap.size < w5.heap.size := heap_lt HZ5.out
 simp only [HCells, hd0] at hw6
 rw [← hw6]
 clear hw6 hr6 hg6 hto htp htl hkd
 go_wp2_with fail
 refine (one_any p 2 _ HD6.out (by omega) (by omega)).mono ?_
 rintro e w7 ⟨b, rfl, hd7, hg7⟩
 have HR7 := zqd (HR6.out.dice hg7 (by omega))
 have HD7 := zqd hd7
 have HZ7 := zqd (HZ6.out.dice hg7 (by omega))
 have HG7 := zqd (grown_trans' HG6.out hg7)
 clear hd7 hg7
 go_upto_if 25 with (fail)
 go_cut [] from 26 (fun wc => ChkRel p w5.heap.size kd t i f tl tz tp w wc)
 case first =>
  cases b
  ·go_wp2_with fail
   go_meet
   exact ⟨0, by omega, by omega, HR7.out, HZ7.out, HD7.out, HG7.out⟩
  ·go_wp2_with fail
   refine (next_any p 65535 _ HD7.out (by omega) (by omega)).mono ?_
   rintro e w8 ⟨c, rfl, c1, c2, hd8, hg8⟩
   have HR8 := zqd (HR7.out.dice hg8 (by omega))
   have HD8 := zqd hd8
   have HZ8 := zqd (HZ7.out.dice hg8 (by omega))
   have HG8 := zqd (grown_trans' HG7.out hg8)
   clear hd8 hg8
   have k9 : w8.cell? ⟨w5.heap.size, 9, none⟩ = some (.int .i64 0) := HR8.out.at 9 rfl
   have f9 := HR8.out.fz 9
   go_wp2_with fail
   go_meet
   exact ⟨1 + c, by omega, by omega, HR8.out.set 9 _ rfl, HZ8.out.other _ _ (by omega), die_set HD8.out (by omega), grown_new HG8.out (a := ⟨w5.heap.size, 9, none⟩) (by show w.heap.size ≤ w5.heap.size; omega) _⟩
 case rest =>
  obtain ⟨c, c1, c2, hr9, hz9, hd9, hg9⟩ := hcut
  have HR9 := zqd hr9
  have HZ9 := zqd hz9
  have HD9 := zqd hd9
  have HG9 := zqd hg9
  clear hr9 hz9 hd9 hg9
  have k0 : wc.cell? ⟨w5.heap.size, 0, none⟩ = some (.int .i64 kd) := HR9.out.at 0 rfl
  rcases hk01 with hk | hk
  ·have hkb : (kd == 2) = false := by have := HKD.out; simp; omega
   have hr' := (HR9).out
   unfold HBlk at hr'
   have HRR := zqd hr'
   obtain ⟨w9, hw9⟩ : ∃ y, y = (wc).setCells w.heap.size 0 (HCells ((hd0 kd t i f tl tz tp c))).toArray.toList := ⟨_, rfl⟩
   have HBE := zqd (show HBlk w.heap.size ((hd0 kd t i f tl tz tp c)) w9 by rw [hw9]; exact (HZ9).out.put ((hd0 kd t i f tl tz tp c)))
   have HTH := zqd ((HZ9).out.there)
   have HGE := zqd (show w.grownBy w9 (some p) by rw [hw9]; exact grown_setCells_new (HG9).out (Nat.le_refl _) _ _)
   have HDE := zqd (show Die w9 p by rw [hw9]; exact (HD9).out.kept (grown_setCells w.heap.size _ _ _) (by simp; omega))
   have HW9 := zqd hw9
   clear hr' hw9
   go_wp2_with (first | (refine wpList_load_row rfl 49 _ rfl (w5.heap.size) rfl 49 _ _ _ HRR.out Tryd.underlying49 rfl (by kernel_rfl) ?_) | (refine wpList_store_mid rfl 49 _ _ rfl w.heap.size 0 (HCells ((hd0 kd t i f tl tz tp c))).toArray rfl rfl HTH.out (by kernel_rfl) (hcells_one _) ?_; rw [← HW9.out]))
   exact bodyPost_ret (v := HVal ((hd0 kd t i f tl tz tp c))) (results_cell_row Tryd.results28 _ _ w.heap.size _ _ _ _ rfl HBE.out Tryd.underlying49 rfl (by kernel_rfl)) rfl (⟨_, rfl, ⟨by rw [HK2.out]; exact HKD.out.symm, ⟨t1, by show t ≤ 1; omega⟩, ⟨i1, i2⟩, ⟨f1, by show f ≤ 1; omega⟩, by have := HTL.out; show 64 ≤ tl ∧ tl ≤ 65; omega, rfl, by rw [HF2.out]; exact HTO.out.symm, rfl, HTP.out.symm, ⟨c1, c2⟩, .inl ⟨by have := HK2.out; omega, rfl, rfl, rfl, rfl, rfl⟩⟩, HDE.out, HGE.out⟩)
  ·have hkb : (kd == 2) = true := by have := HKD.out; simp; omega
   go_wp2_with fail
   refine (word_any p 65535 _ HD9.out (by omega) (by omega)).mono ?_
   rintro e w10 ⟨q, rfl, q1, q2, hd10, hg10⟩
   have HR10 := zqd (HR9.out.dice hg10 (by omega))
   have HD10 := zqd hd10
   have HZ10 := zqd (HZ9.out.dice hg10 (by omega))
   have HG10 := zqd (grown_trans' HG9.out hg10)
   clear hd10 hg10 k0
   go_wp2_with fail
   refine (word_any p 4294967295 _ HD10.out (by omega) (by omega)).mono ?_
   rintro e w11 ⟨ti, rfl, ti1, ti2, hd11, hg11⟩
   have HR11 := zqd (HR10.out.dice hg11 (by omega))
   have HD11 := zqd hd11
   have HZ11 := zqd (HZ10.out.dice hg11 (by omega))
   have HG11 := zqd (grown_trans' HG10.out hg11)
   clear hd11 hg11
   go_wp2_with fail
   refine (next_any p 2 _ HD11.out (by omega) (by omega)).mono ?_
   rintro e w12 ⟨m, rfl, m1, m2, hd12, hg12⟩
   have HR12 := zqd (HR11.out.dice hg12 (by omega))
   have HD12 := zqd hd12
   have HZ12 := zqd (HZ11.out.dice hg12 (by omega))
   have HG12 := zqd (grown_trans' HG11.out hg12)
   clear hd12 hg12
   obtain ⟨so, hso⟩ : ∃ k : Int, 77 + fl = k := ⟨_, rfl⟩
   have HSO := zqd hso
   have k11 : w12.cell? ⟨w5.heap.size, 11, none⟩ = some (.int .i64 0) := HR12.out.at 11 rfl
   have k12 : w12.cell? ⟨w5.heap.size, 12, none⟩ = some (.int .i64 0) := HR12.out.at 12 rfl
   have k13 : w12.cell? ⟨w5.heap.size, 13, none⟩ = some (.int .i64 0) := HR12.out.at 13 rfl
   have k14 : w12.cell? ⟨w5.heap.size, 14, none⟩ = some (.int .i64 0) := HR12.out.at 14 rfl
   have k10 : w12.cell? ⟨w5.heap.size, 10, none⟩ = some (.int .i64 0) := HR12.out.at 10 rfl
   have f10 := HR12.out.fz 10
   have f11 := HR12.out.fz 11
   have f12 := HR12.out.fz 12
   have f13 := HR12.out.fz 13
   have f14 := HR12.out.fz 14
   go_upto_region 6 with (fail)
   clear k11 k12 k13 k14 k10 f10 f11 f12 f13 f14 hso
   obtain ⟨w13, hw13⟩ : ∃ y, y = ((((w12.setCell ⟨w5.heap.size, 11, none⟩ (.int .i64 96)).setCell ⟨w5.heap.size, 12, none⟩ (.int .i64 q)).setCell ⟨w5.heap.size, 13, none⟩ (.int .i64 ti)).setCell ⟨w5.heap.size, 14, none⟩ (.int .i64 so)).setCell ⟨w5.heap.size, 10, none⟩ (.int .i64 m) := ⟨_, rfl⟩
   rw [← hw13]
   have HR13 := zqd (show HBlk w5.heap.size (hd5 kd t i f tl tz tp c m q ti so) w13 by
    rw [hw13]
    exact ((((HR12.out.set 11 (.int .i64 96) (k := ⟨kd, t, i, f, tl, 167772161, tz, 5000, tp, c, 0, 96, 0, 0, 0⟩) rfl).set 12 (.int .i64 q) (k := ⟨kd, t, i, f, tl, 167772161, tz, 5000, tp, c, 0, 96, q, 0, 0⟩) rfl).set 13 (.int .i64 ti) (k := ⟨kd, t, i, f, tl, 167772161, tz, 5000, tp, c, 0, 96, q, ti, 0⟩) rfl).set 14 (.int .i64 so) (k := ⟨kd, t, i, f, tl, 167772161, tz, 5000, tp, c, 0, 96, q, ti, so⟩) rfl).set 10 (.int .i64 m) rfl)
   have HZ13 := zqd (show HBlk w.heap.size zeroH w13 by rw [hw13]; exact ((((HZ12.out.other _ _ (by omega)).other _ _ (by omega)).other _ _ (by omega)).other _ _ (by omega)).other _ _ (by omega))
   have HD13 := zqd (show Die w13 p by rw [hw13]; exact die_set (die_set (die_set (die_set (die_set HD12.out (by omega)) (by omega)) (by omega)) (by omega)) (by omega))
   have HG13 := zqd (show w.grownBy w13 (some p) by
    rw [hw13]
    exact grown_new (grown_new (grown_new (grown_new (grown_new HG12.out (a := ⟨w5.heap.size, 11, none⟩) (by show w.heap.size ≤ w5.heap.size; omega) _) (a := ⟨w5.heap.size, 12, none⟩) (by show w.heap.size ≤ w5.heap.size; omega) _) (a := ⟨w5.heap.size, 13, none⟩) (by show w.heap.size ≤ w5.heap.size; omega) _) (a := ⟨w5.heap.size, 14, none⟩) (by show w.heap.size ≤ w5.heap.size; omega) _) (a := ⟨w5.heap.size, 10, none⟩) (by show w.heap.size ≤ w5.heap.size; omega) _)
   clear hw13
   have hr' := (HR13).out
   unfold HBlk at hr'
   have HRR := zqd hr'
   obtain ⟨w9, hw9⟩ : ∃ y, y = (w13).setCells w.heap.size 0 (HCells ((hd5 kd t i f tl tz tp c m q ti so))).toArray.toList := ⟨_, rfl⟩
   have HBE := zqd (show HBlk w.heap.size ((hd5 kd t i f tl tz tp c m q ti so)) w9 by rw [hw9]; exact (HZ13).out.put ((hd5 kd t i f tl tz tp c m q ti so)))
   have HTH := zqd ((HZ13).out.there)
   have HGE := zqd (show w.grownBy w9 (some p) by rw [hw9]; exact grown_setCells_new (HG13).out (Nat.le_refl _) _ _)
   have HDE := zqd (show Die w9 p by rw [hw9]; exact (HD13).out.kept (grown_setCells w.heap.size _ _ _) (by simp; omega))
   have HW9 := zqd hw9
   clear hr' hw9
   go_wp2_with (first | (refine wpList_load_row rfl 49 _ rfl (w5.heap.size) rfl 49 _ _ _ HRR.out Tryd.underlying49 rfl (by kernel_rfl) ?_) | (refine wpList_store_mid rfl 49 _ _ rfl w.heap.size 0 (HCells ((hd5 kd t i f tl tz tp c m q ti so))).toArray rfl rfl HTH.out (by kernel_rfl) (hcells_one _) ?_; rw [← HW9.out]))
   exact bodyPost_ret (v := HVal ((hd5 kd t i f tl tz tp c m q ti so))) (results_cell_row Tryd.results28 _ _ w.heap.size _ _ _ _ rfl HBE.out Tryd.underlying49 rfl (by kernel_rfl)) rfl (⟨_, rfl, ⟨by rw [HK2.out]; exact HKD.out.symm, ⟨t1, by show t ≤ 1; omega⟩, ⟨i1, i2⟩, ⟨f1, by show f ≤ 1; omega⟩, by have := HTL.out; show 64 ≤ tl ∧ tl ≤ 65; omega, rfl, by rw [HF2.out]; exact HTO.out.symm, rfl, HTP.out.symm, ⟨c1, c2⟩, .inr ⟨by have := HK2.out; omega, ⟨m1, by show m ≤ 1; omega⟩, rfl, ⟨q1, q2⟩, ⟨ti1, ti2⟩, HSO.out.symm⟩⟩, HDE.out, HGE.out⟩)
end Go.Proofs.YtlnkofpcidngoaaDoor
/- Regions that draw their order, walked once (beside SchedD): every head operation keeps a relation G of worlds (not only: it adds blocks). -/
namespace Go.Proofs.YtlnkofpcidngoaaDoor
open Go.ChangeShapes Go.WideShapes Go.ChangeAt Go.RowKit
namespace SchedG
open Sched (tq NPred Walk2 EndN dstOf bef chk1 lst Closed newsL newsL_congr put_size put_defers put_get look_same tq_wp uniq dst_lt lst_set closed_set acts_reg putNews endN_inst putNews_reg Inv2 inv2_next cnt cnt_set cnt_zero all_of_ready chk_edge chk_pair listed_of_bef)
open SchedD (depOf nsel DepN chk2 chk2_parts putL depN_inst putL_size putL_get)
variable (P : Program) (G : World → World → Prop) (ops : Array Oper) (W : World)
def gq (o : Oper) (a : Act) (w : World) (v : Value) (late : Bool) : Prop :=
 match (execOp a.eval o).run P w with
 | .ok (.value u) w' => w' = w ∧ u = v
 | .ok .skip w' => w' = w ∧ v = undef
 | .ok (.enter f args) w' => w' = w ∧ late = false ∧ Calls P f args w (fun e w'' => e = .returned v ∧ G w w'')
 | _ => False
def nq (o : Oper) (a : Act) (w : World) (N : NPred) : Prop :=
 match (execOp a.eval o).run P w with
 | .ok (.value v) w' => G w w' ∧ N w.heap.size w'.heap.size v w'
 | .ok (.enter f args) w' => w' = w ∧ Calls P f args w (fun e w'' => ∃ v, e = .returned v ∧ G w w'' ∧ N w.heap.size w''.heap.size v w'')
 | _ => False
def Stable (N : NPred) : Prop := ∀ lo hi v w w', N lo hi v w → G w w' → N lo hi v w'
variable {P G ops W}
variable {B : Array Nat} {m : Nat} {late news : List Nat} {N : Nat → NPred} {deps : List (Nat × List (Nat × Tmp))}
section
variable {a0 : Act} {v : Nat → Value} {listed : Array Bool} {a : Act} {w w' : World}
end
section
variable (P G ops W)
end
section
variable {a0 : Act} {v : Nat → Value} {listed : Array Bool} {a : Act} {w w' : World}
variable {Q' : Act → World → Prop}
end
variable {Q : Act → List (Option Tmp × NPred) → Prop} {o : Oper} {r : List Oper} {k : Nat} {a : Act} {L : List (Option Tmp × NPred)}
attribute [go_sem] gq nq
end SchedG
end Go.Proofs.YtlnkofpcidngoaaDoor
/- Dice: dynamic parameters. -/
namespace Go.Proofs.YtlnkofpcidngoaaDoor
open Go.ChangeShapes Go.WideShapes Go.ChangeAt Go.RowKit
def DG (p : Nat) (w w' : World) : Prop := w.grownBy w' (some p) ∧ Die w' p
theorem DG.cell {p : Nat} {w w' : World} (h : DG p w w') {b o : Nat} {v : Value} (hc : w.cell? ⟨b, o, none⟩ = some v) (hne : b ≠ p) : w'.cell? ⟨b, o, none⟩ = some v := by
 have hlt := cell_lt hc
 rw [← hc]
 exact World.cell?_of_block (h.1.block b hlt (by simpa using hne))
theorem DG.alloc {p : Nat} {w : World} (h : Die w p) (o : Obj) : DG p w (w.alloc o) := ⟨grown_weak (World.grownBy_alloc w o none) _, h.kept (World.grownBy_alloc w o none) (by simp)⟩
def NInt (lo hi : Int) : Sched.NPred := fun _ _ v _ => ∃ x : Int, v = .int .i64 x ∧ lo ≤ x ∧ x ≤ hi
theorem NInt.stable {G : World → World → Prop} (lo hi : Int) : SchedG.Stable G (NInt lo hi) := fun _ _ _ _ _ h _ => h
def NDRow (p : Nat) (f : Nat → Value) (o : Obj) : Sched.NPred := fun lo _ v w => v = f lo ∧ p < lo ∧ w.heap[lo]? = some o
theorem NDRow.stable (p : Nat) (f : Nat → Value) (o : Obj) : SchedG.Stable (DG p) (NDRow p f o) := by
 rintro lo hi v w w' ⟨h1, h2, h3⟩ hg
 exact ⟨h1, h2, blk_keptD h3 hg.1 (by simp; omega)⟩
def NDPtr (p n : Nat) (o : Obj) : Sched.NPred := fun _ _ v w => ∃ g j, v = .pointer (some ⟨g, j, none⟩) ∧ j < n ∧ p < g ∧ w.heap[g]? = some o
theorem NDPtr.stable (p n : Nat) (o : Obj) : SchedG.Stable (DG p) (NDPtr p n o) := by
 rintro lo hi v w w' ⟨g, j, h1, h2, h3, h4⟩ hg
 exact ⟨g, j, h1, h2, h3, blk_keptD h4 hg.1 (by simp; omega)⟩
def NDyn : Sched.NPred := fun _ _ v _ => ∃ s f : Int, v = DVal s f ∧ (0 ≤ s ∧ s ≤ 65535) ∧ (0 ≤ f ∧ f ≤ 1)
theorem NDyn.stable {G : World → World → Prop} : SchedG.Stable G NDyn := fun _ _ _ _ _ h _ => h
end Go.Proofs.YtlnkofpcidngoaaDoor
/- Layer 06 (flow): predictions of predictions (plain). -/
namespace Go.Proofs.YtlnkofpcidngoaaDoor
open Go.ChangeShapes Go.WideShapes Go.ChangeAt Go.RowKit
theorem inB_mk {n m : Int} (h1 : 0 ≤ n) (h2 : n ≤ m) : inB n m = true := by simp [inB, h1, h2]
theorem made_valid {fl : Int} {h : Hdr} (hm : MadeH fl h) (h0 : 0 ≤ fl) (h1 : fl ≤ 10) : validH h = true := by
 obtain ⟨k, t, i, f, l, fr, tz, fp, tp, c, r⟩ := hm
 have hc : commonB h = true := by
  simp only [commonB, Bool.and_eq_true]
  exact ⟨⟨⟨⟨⟨⟨⟨⟨inB_mk t.1 (by omega), inB_mk (by omega) (by omega)⟩, inB_mk i.1 i.2⟩, inB_mk (by omega) (by omega)⟩, inB_mk (by omega) (by omega)⟩, inB_mk c.1 c.2⟩, inB_mk f.1 f.2⟩, inB_mk (by omega) (by omega)⟩, inB_mk (by omega) (by omega)⟩
 rcases r with ⟨r0, r1, r2, r3, r4, r5⟩ | ⟨r0, r1, r2, r3, r4, r5⟩
 ·have hk : h.kind = 1 := by omega
  simp [validH, kindB, restB, hk, hc, r1, r2, r3, r4, r5]
 ·have hk : h.kind = 2 := by omega
  simp [validH, kindB, restB, hk, hc, r2, r5, inB]
  omega
end Go.Proofs.YtlnkofpcidngoaaDoor
