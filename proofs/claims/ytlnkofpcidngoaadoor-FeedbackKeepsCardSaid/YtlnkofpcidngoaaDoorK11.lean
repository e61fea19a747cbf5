/- Several texts in one. -/
import Derived.Test.YtlnkofpcidngoaaDoorK0
import Derived.Test.YtlnkofpcidngoaaDoorK8
import Derived.Test.YtlnkofpcidngoaaDoorK10
namespace Go.Proofs.YtlnkofpcidngoaaDoor
open Go.ChangeShapes Go.WideShapes Go.ChangeAt Go.RowKit
def rpredH (s f : Int) (a : Hdr) (n : Int) : Hdr :=
 if validH a && dynB s f then
   if a.kind = 2 then updR a (lowS 16 n) (lowS 32 (a.time + s * signedS 16 (numH a) (lowS 16 n))) (if f = 1 then lowS 16 (a.id + signedS 16 (numH a) (lowS 16 n)) else a.id)
   else updU a (lowS 16 n)
 else zeroH
theorem signed_low (a n : Int) : signedS 16 a (lowS 16 n) = signedS 16 a n := by
 have e : distS 16 a (lowS 16 n) = distS 16 a n := by
   unfold distS lowS
   rw [if_pos (by decide), if_pos (by decide), if_pos (by decide)]
   exact Int.emod_sub_emod n _ a
 unfold signedS
 rw [e]
theorem low_id {x : Int} (h0 : 0 ≤ x) (h1 : x ≤ 65535) : lowS 16 x = x := by
 unfold lowS
 rw [if_pos (by decide), show ((2 : Int) ^ (16 : Int).toNat) = 65536 by decide]
 omega
theorem kind_of {a : Hdr} (h : validH a = true) : a.kind = 1 ∨ a.kind = 2 := by
 simp only [validH, kindB, Bool.and_eq_true, Bool.or_eq_true, beq_iff_eq] at h
 exact h.1
theorem rpred_eq (s f : Int) (a : Hdr) (n : Int) : rpredH s f a n = predH s f a n := by
 unfold rpredH predH
 cases hv : validH a
 · rfl
 · cases hd : dynB s f
   · rfl
   · rw [Bool.and_self, if_pos rfl, if_pos rfl, signed_low]
     obtain ⟨d1, d2, d3⟩ := dyn_yes hd
     obtain ⟨v1, v2, _, _⟩ := valid_rng hv
     rcases kind_of hv with hk | hk
     · have h2 : ¬ a.kind = 2 := by omega
       rw [if_neg h2, if_pos hk]
     · have h1 : ¬ a.kind = 1 := by omega
       rw [if_pos hk, if_neg h1]
       unfold stepH
       rcases d3 with rfl | rfl
       · rw [if_neg (show ¬ (0 : Int) = 1 by decide), Int.zero_mul, Int.add_zero, low_id v1 v2]
       · rw [if_pos (show (1 : Int) = 1 from rfl), Int.one_mul]
theorem HBlk.set {g : Nat} {h : Hdr} {w : World} (hb : HBlk g h w) (i : Nat) (v : Value) {k : Hdr} (hk : (HCells h).set i v = HCells k) : HBlk g k (w.setCell ⟨g, i, none⟩ v) := by
 unfold HBlk
 rw [heap_setCell_eq hb i v, List.setIfInBounds_toArray]
 rw [show ([Value.int .i64 h.kind, .int .i64 h.tos, .int .i64 h.id, .int .i64 h.fixed, .int .i64 h.ttl, .int .i64 h.frm, .int .i64 h.to, .int .i64 h.fport, .int .i64 h.tport, .int .i64 h.check, .int .i64 h.marker, .int .i64 h.type, .int .i64 h.seq, .int .i64 h.time, .int .i64 h.source] : List Value).set i v = HCells k from hk]
theorem HBlk.other {g p : Nat} {h : Hdr} {w : World} (hb : HBlk g h w) (i : Nat) (v : Value) (hne : g ≠ p) : HBlk g h (w.setCell ⟨p, i, none⟩ v) := by
 unfold HBlk
 rw [heap_setCell_ne _ _ _ _ hne]; exact hb
theorem HBlk.fz {g : Nat} {h : Hdr} {w : World} (hb : HBlk g h w) (i : Nat) : w.frozen? ⟨g, i, none⟩ = false := frozen_of_block hb i
theorem rnum_is {h : Hdr} {n : Int} (hv : numH h = n) (w : World) : Calls Tryd.prog 15 #[HVal h] w fun e w' => e = .returned (.int .i64 n) ∧ Gr w w' := hv ▸ rnum_any h w
theorem rlow_is {n x y r : Int} (hx : x = y) (hv : lowS n y = r) (w : World) : Calls Tryd.prog 43 #[.int .i64 n, .int .i64 x] w fun e w' => e = .returned (.int .i64 r) ∧ w = w' := by
 subst hx; exact hv ▸ rlow n x w
theorem rsigned_is {n a b r : Int} (hv : signedS n a b = r) (w : World) : Calls Tryd.prog 36 #[.int .i64 n, .int .i64 a, .int .i64 b] w fun e w' => e = .returned (.int .i64 r) ∧ w = w' := hv ▸ rsigned n a b w
-- one field of the header at gh is written; the world gets a name
set_option maxRecDepth 100000 in
set_option maxHeartbeats 4000000 in
theorem rpredict_any (s f : Int) (a : Hdr) (n : Int) (w : World) : Calls Tryd.prog 62 #[DVal s f, HVal a, .int .i64 n] w fun e w' => e = .returned (HVal (predH s f a n)) ∧ Gr w w' := by
 go_enter Tryd.func62, Tryd.ntmps62
 go_upto_region 1 with (fail)
 obtain ⟨w1, hw1⟩ : ∃ y, y = ((w.alloc (.cells #[.int .i64 s, .int .i64 f] 43)).alloc (.cells (HCells a).toArray 49)).alloc (.cells (HCells zeroH).toArray 49) := ⟨_, rfl⟩
 obtain ⟨hd1, ha1, hz1⟩ : w1.heap[w.heap.size]? = some (.cells #[.int .i64 s, .int .i64 f] 43 (0, 0)) ∧ HBlk (w.heap.size + 1) a w1 ∧ HBlk (w.heap.size + 1 + 1) zeroH w1 := by rw [hw1]; exact blocks3 _ _ _ _
 have hg1 : Gr w w1 := by rw [hw1]; exact (Gr.alloc _ _).trans ((Gr.alloc _ _).trans (Gr.alloc _ _))
 simp only [HCells, zeroH] at hw1
 rw [← hw1]
 have HD1 := zqd hd1
 have HA1 := zqd ha1
 have HZ1 := zqd hz1
 have HG1 := zqd hg1
 clear hw1 hd1 ha1 hz1 hg1
 have ha1' := HA1.out
 unfold HBlk at ha1'
 have HA1' := zqd ha1'
 clear ha1'
 obtain ⟨V, hV⟩ : ∃ V, validH a = V := ⟨_, rfl⟩
 have HV := zqd hV
 clear hV
 go_wp2_with (first | (refine wpList_load_row rfl 49 _ rfl (w.heap.size + 1) rfl 49 _ _ _ HA1'.out Tryd.underlying49 rfl (by kernel_rfl) ?_))
 refine (rvalid_is HV.out w1).mono ?_
 rintro e w2 ⟨rfl, hg2⟩
 have HD2 := zqd (show w2.heap[w.heap.size]? = some (.cells #[.int .i64 s, .int .i64 f] 43 (0, 0)) by rw [hg2.block _ (heap_lt HD1.out) (by simp)]; exact HD1.out)
 have HA2 := zqd (HA1.out.kept hg2)
 have HZ2 := zqd (HZ1.out.kept hg2)
 have HG2 := zqd (HG1.out.trans hg2)
 clear hg2 HD1 HA1 HA1' HZ1 HG1
 cases V
 · have HRES := zqd (show Ending.returned (HVal zeroH) = .returned (HVal (predH s f a n)) by unfold predH; rw [HV.out]; rfl)
   have hbe := ((HZ2.out).kept (Gr.refl _)).put (zeroH)
   have hthr := (HZ2.out).there
   have hge := grown_setCells_new (HG2.out) (g := w.heap.size + 1 + 1) (by omega) (HCells (zeroH)) 0
   obtain ⟨w9, hw9⟩ : ∃ y, y = (w2).setCells (w.heap.size + 1 + 1) 0 (HCells (zeroH)).toArray.toList := ⟨_, rfl⟩
   have HBE := zqd (show HBlk (w.heap.size + 1 + 1) (zeroH) w9 by rw [hw9]; exact hbe)
   have HTH := zqd hthr
   have HGE := zqd (show Gr w w9 by rw [hw9]; exact hge)
   have HW9 := zqd hw9
   clear hbe hthr hge hw9
   go_wp2_with (first | (refine wpList_store_mid rfl 49 _ _ rfl (w.heap.size + 1 + 1) 0 (HCells (zeroH)).toArray rfl rfl HTH.out (by kernel_rfl) (hcells_one _) ?_; rw [← HW9.out]))
   exact bodyPost_ret (v := HVal (zeroH)) (results_cell_row Tryd.results62 _ _ (w.heap.size + 1 + 1) _ _ _ _ rfl HBE.out Tryd.underlying49 rfl (by kernel_rfl)) rfl ⟨HRES.out, HGE.out⟩
 · obtain ⟨V, hV⟩ : ∃ V, dynB s f = V := ⟨_, rfl⟩
   have HW := zqd hV
   clear hV
   have x0 : w2.cell? ⟨w.heap.size, 0, none⟩ = some (.int .i64 s) := by rw [cell_of_block HD2.out]; rfl
   have x1 : w2.cell? ⟨w.heap.size, 1, none⟩ = some (.int .i64 f) := by rw [cell_of_block HD2.out]; rfl
   go_wp2_with fail
   refine (rdyn_is HW.out w2).mono ?_
   rintro e w3 ⟨rfl, hg3⟩
   have HD3 := zqd (show w3.heap[w.heap.size]? = some (.cells #[.int .i64 s, .int .i64 f] 43 (0, 0)) by rw [hg3.block _ (heap_lt HD2.out) (by simp)]; exact HD2.out)
   have HA3 := zqd (HA2.out.kept hg3)
   have HZ3 := zqd (HZ2.out.kept hg3)
   have HG3 := zqd (HG2.out.trans hg3)
   clear hg3 HD2 HA2 HZ2 HG2 x0 x1
   cases V
   · have HRES := zqd (show Ending.returned (HVal zeroH) = .returned (HVal (predH s f a n)) by unfold predH; rw [HW.out, Bool.and_false]; rfl)
     have hbe := ((HZ3.out).kept (Gr.refl _)).put (zeroH)
     have hthr := (HZ3.out).there
     have hge := grown_setCells_new (HG3.out) (g := w.heap.size + 1 + 1) (by omega) (HCells (zeroH)) 0
     obtain ⟨w9, hw9⟩ : ∃ y, y = (w3).setCells (w.heap.size + 1 + 1) 0 (HCells (zeroH)).toArray.toList := ⟨_, rfl⟩
     have HBE := zqd (show HBlk (w.heap.size + 1 + 1) (zeroH) w9 by rw [hw9]; exact hbe)
     have HTH := zqd hthr
     have HGE := zqd (show Gr w w9 by rw [hw9]; exact hge)
     have HW9 := zqd hw9
     clear hbe hthr hge hw9
     go_wp2_with (first | (refine wpList_store_mid rfl 49 _ _ rfl (w.heap.size + 1 + 1) 0 (HCells (zeroH)).toArray rfl rfl HTH.out (by kernel_rfl) (hcells_one _) ?_; rw [← HW9.out]))
     exact bodyPost_ret (v := HVal (zeroH)) (results_cell_row Tryd.results62 _ _ (w.heap.size + 1 + 1) _ _ _ _ rfl HBE.out Tryd.underlying49 rfl (by kernel_rfl)) rfl ⟨HRES.out, HGE.out⟩
   · have ha3' := HA3.out
     unfold HBlk at ha3'
     have HA3' := zqd ha3'
     obtain ⟨L1, hL1⟩ : ∃ t, lowS 16 n = t := ⟨_, rfl⟩
     have HL1 := zqd hL1
     clear ha3' hL1
     go_upto_region 6 with (first | (refine wpList_load_row rfl 49 _ rfl (w.heap.size + 1) rfl 49 _ _ _ HA3'.out Tryd.underlying49 rfl (by kernel_rfl) ?_) | (go_at_call 43; ((with_reducible refine (rlow_is rfl HL1.out _).mono ?_)); rintro e w' ⟨rfl, rfl⟩))
     obtain ⟨w4, hw4⟩ : ∃ y, y = w3.alloc (.cells (HCells (updU a a.id)).toArray 49) := ⟨_, rfl⟩
     have hr4 : HBlk w3.heap.size (updU a a.id) w4 := by rw [hw4]; exact heap_alloc_new _ _
     have hg4 : Gr w3 w4 := by rw [hw4]; exact Gr.alloc _ _
     simp only [HCells, updU] at hw4
     rw [← hw4]
     have HR4 := zqd hr4
     have HA4 := zqd (HA3.out.kept hg4)
     have HZ4 := zqd (HZ3.out.kept hg4)
     have HG4 := zqd (HG3.out.trans hg4)
     have HD4 := zqd (show w4.heap[w.heap.size]? = some (.cells #[.int .i64 s, .int .i64 f] 43 (0, 0)) by rw [hg4.block _ (heap_lt HD3.out) (by simp)]; exact HD3.out)
     have k0 : w4.cell? ⟨w3.heap.size, 0, none⟩ = some (.int .i64 a.kind) := HR4.out.at 0 rfl
     clear hw4 hr4 hg4
     by_cases hk : a.kind = 2
     · have hkb : (a.kind != 2) = false := by simpa using hk
       have ha4' := HA4.out
       unfold HBlk at ha4'
       have HA4' := zqd ha4'
       clear ha4'
       obtain ⟨N, hN⟩ : ∃ N, numH a = N := ⟨_, rfl⟩
       obtain ⟨st, hst⟩ : ∃ t, signedS 16 N L1 = t := ⟨_, rfl⟩
       have HN := zqd hN
       have HST := zqd hst
       obtain ⟨d1, d2, d3⟩ := dyn_yes HW.out
       have hsr := signed_rng 16 N L1
       rw [hst] at hsr
       obtain ⟨t1, t2⟩ := hsr
       obtain ⟨m1, m2⟩ := mul_rng d1 d2 t1 t2
       obtain ⟨p, hp⟩ : ∃ p, s * st = p := ⟨_, rfl⟩
       rw [hp] at m1 m2
       obtain ⟨v1, v2, v3, v4⟩ := valid_rng HV.out
       obtain ⟨L2, hL2⟩ : ∃ t, lowS 32 (a.time + p) = t := ⟨_, rfl⟩
       have HL2 := zqd hL2
       have HP := zqd hp
       have HD3' := zqd d3
       have HKK := zqd hk
       clear hN hst hL2 hk d3 hp
       go_wp2_with (first | (refine wpList_load_row rfl 49 _ rfl (w.heap.size + 1) rfl 49 _ _ _ HA4'.out Tryd.underlying49 rfl (by kernel_rfl) ?_))
       refine (rnum_is HN.out w4).mono ?_
       rintro e w5 ⟨rfl, hg5⟩
       have HR5 := zqd (HR4.out.kept hg5)
       have HA5 := zqd (HA4.out.kept hg5)
       have HZ5 := zqd (HZ4.out.kept hg5)
       have HG5 := zqd (HG4.out.trans hg5)
       have HD5 := zqd (show w5.heap[w.heap.size]? = some (.cells #[.int .i64 s, .int .i64 f] 43 (0, 0)) by rw [hg5.block _ (heap_lt HD4.out) (by simp)]; exact HD4.out)
       clear hg5 k0
       have k12 := HR5.out.at 12 rfl
       have f12 := HR5.out.fz 12
       go_upto_region 11 with (go_at_call 36; ((with_reducible refine (rsigned_is HST.out _).mono ?_)); rintro e w' ⟨rfl, rfl⟩)
       clear k12 f12
       obtain ⟨w6, hwb⟩ : ∃ y, y = (w5).setCell ⟨w3.heap.size, 12, none⟩ (.int .i64 L1) := ⟨_, rfl⟩
       rw [← hwb]
       have HR6 := zqd (show HBlk w3.heap.size (updR a L1 a.time a.id) w6 by rw [hwb]; exact (HR5).out.set 12 _ rfl)
       have HZ6 := zqd (show HBlk (w.heap.size + 1 + 1) zeroH w6 by rw [hwb]; exact (HZ5).out.other _ _ (by have := heap_lt HZ3.out; omega))
       have hgb : Gr w w6 := by rw [hwb]; exact grown_set (HG5).out (a := ⟨w3.heap.size, 12, none⟩) HG3.out.size _
       have HG6 := zqd hgb
       have HW6 := zqd hwb
       clear hwb hgb
       have HA6 := zqd (show HBlk (w.heap.size + 1) a w6 by rw [HW6.out]; exact HA5.out.other _ _ (by have := heap_lt HA3.out; omega))
       have HD6 := zqd (show w6.heap[w.heap.size]? = some (.cells #[.int .i64 s, .int .i64 f] 43 (0, 0)) by rw [HW6.out, heap_setCell_ne _ _ _ _ (by have := heap_lt HD3.out; show w.heap.size ≠ w3.heap.size; omega)]; exact HD5.out)
       clear HW6 HR5 HA5 HZ5 HG5 HD5 HR4 HA4 HZ4 HG4 HD4
       have x0 : w6.cell? ⟨w.heap.size, 0, none⟩ = some (.int .i64 s) := by rw [cell_of_block HD6.out]; rfl
       have y13 : w6.cell? ⟨w.heap.size + 1, 13, none⟩ = some (.int .i64 a.time) := HA6.out.at 13 rfl
       have k13 : w6.cell? ⟨w3.heap.size, 13, none⟩ = some (.int .i64 a.time) := HR6.out.at 13 rfl
       have f13 := HR6.out.fz 13
       have hpp := HP.out
       go_upto_region 12 with (go_at_call 43; ((with_reducible refine (rlow_is rfl HL2.out _).mono ?_)); rintro e w' ⟨rfl, rfl⟩)
       clear x0 y13 k13 f13 hpp
       obtain ⟨w7, hwb⟩ : ∃ y, y = (w6).setCell ⟨w3.heap.size, 13, none⟩ (.int .i64 L2) := ⟨_, rfl⟩
       rw [← hwb]
       have HR7 := zqd (show HBlk w3.heap.size (updR a L1 L2 a.id) w7 by rw [hwb]; exact (HR6).out.set 13 _ rfl)
       have HZ7 := zqd (show HBlk (w.heap.size + 1 + 1) zeroH w7 by rw [hwb]; exact (HZ6).out.other _ _ (by have := heap_lt HZ3.out; omega))
       have hgb : Gr w w7 := by rw [hwb]; exact grown_set (HG6).out (a := ⟨w3.heap.size, 13, none⟩) HG3.out.size _
       have HG7 := zqd hgb
       have HW7 := zqd hwb
       clear hwb hgb
       have HA7 := zqd (show HBlk (w.heap.size + 1) a w7 by rw [HW7.out]; exact HA6.out.other _ _ (by have := heap_lt HA3.out; omega))
       have HD7 := zqd (show w7.heap[w.heap.size]? = some (.cells #[.int .i64 s, .int .i64 f] 43 (0, 0)) by rw [HW7.out, heap_setCell_ne _ _ _ _ (by have := heap_lt HD3.out; show w.heap.size ≠ w3.heap.size; omega)]; exact HD6.out)
       clear HW7 HR6 HA6 HZ6 HG6 HD6
       have x1 : w7.cell? ⟨w.heap.size, 1, none⟩ = some (.int .i64 f) := by rw [cell_of_block HD7.out]; rfl
       by_cases hf : f = 1
       · subst hf
         obtain ⟨L3, hL3⟩ : ∃ t, lowS 16 (a.id + st) = t := ⟨_, rfl⟩
         have HL3 := zqd hL3
         clear hL3
         have HRES := zqd (show Ending.returned (HVal (updR a L1 L2 L3)) = .returned (HVal (predH s 1 a n)) by
           rw [← rpred_eq]; unfold rpredH; rw [HV.out, HW.out, Bool.and_self, if_pos rfl, if_pos HKK.out, HL1.out, HN.out, HST.out, HP.out, HL2.out, if_pos rfl, HL3.out])
         have y2 : w7.cell? ⟨w.heap.size + 1, 2, none⟩ = some (.int .i64 a.id) := HA7.out.at 2 rfl
         have k2 : w7.cell? ⟨w3.heap.size, 2, none⟩ = some (.int .i64 a.id) := HR7.out.at 2 rfl
         have f2 := HR7.out.fz 2
         go_upto_region 14 with (go_at_call 43; ((with_reducible refine (rlow_is rfl HL3.out _).mono ?_)); rintro e w' ⟨rfl, rfl⟩)
         clear x1 y2 k2 f2
         obtain ⟨w8, hwb⟩ : ∃ y, y = (w7).setCell ⟨w3.heap.size, 2, none⟩ (.int .i64 L3) := ⟨_, rfl⟩
         rw [← hwb]
         have HR8 := zqd (show HBlk w3.heap.size (updR a L1 L2 L3) w8 by rw [hwb]; exact (HR7).out.set 2 _ rfl)
         have HZ8 := zqd (show HBlk (w.heap.size + 1 + 1) zeroH w8 by rw [hwb]; exact (HZ7).out.other _ _ (by have := heap_lt HZ3.out; omega))
         have hgb : Gr w w8 := by rw [hwb]; exact grown_set (HG7).out (a := ⟨w3.heap.size, 2, none⟩) HG3.out.size _
         have HG8 := zqd hgb
         have HW8 := zqd hwb
         clear hwb hgb
         have hr8' := HR8.out
         unfold HBlk at hr8'
         have HR8' := zqd hr8'
         clear hr8'
         have hbe := ((HZ8.out).kept (Gr.refl _)).put (updR a L1 L2 L3)
         have hthr := (HZ8.out).there
         have hge := grown_setCells_new (HG8.out) (g := w.heap.size + 1 + 1) (by omega) (HCells (updR a L1 L2 L3)) 0
         obtain ⟨w9, hw9⟩ : ∃ y, y = (w8).setCells (w.heap.size + 1 + 1) 0 (HCells (updR a L1 L2 L3)).toArray.toList := ⟨_, rfl⟩
         have HBE := zqd (show HBlk (w.heap.size + 1 + 1) (updR a L1 L2 L3) w9 by rw [hw9]; exact hbe)
         have HTH := zqd hthr
         have HGE := zqd (show Gr w w9 by rw [hw9]; exact hge)
         have HW9 := zqd hw9
         clear hbe hthr hge hw9
         go_wp2_with (first | (refine wpList_load_row rfl 49 _ rfl (w3.heap.size) rfl 49 _ _ _ HR8'.out Tryd.underlying49 rfl (by kernel_rfl) ?_) | (refine wpList_store_mid rfl 49 _ _ rfl (w.heap.size + 1 + 1) 0 (HCells (updR a L1 L2 L3)).toArray rfl rfl HTH.out (by kernel_rfl) (hcells_one _) ?_; rw [← HW9.out]))
         exact bodyPost_ret (v := HVal (updR a L1 L2 L3)) (results_cell_row Tryd.results62 _ _ (w.heap.size + 1 + 1) _ _ _ _ rfl HBE.out Tryd.underlying49 rfl (by kernel_rfl)) rfl ⟨HRES.out, HGE.out⟩
       · have hfb : (f == 1) = false := by simpa using hf
         have HRES := zqd (show Ending.returned (HVal (updR a L1 L2 a.id)) = .returned (HVal (predH s f a n)) by
           rw [← rpred_eq]; unfold rpredH; rw [HV.out, HW.out, Bool.and_self, if_pos rfl, if_pos HKK.out, HL1.out, HN.out, HST.out, HP.out, HL2.out, if_neg hf])
         clear hf
         have hr7' := HR7.out
         unfold HBlk at hr7'
         have HR7' := zqd hr7'
         clear hr7'
         have hbe := ((HZ7.out).kept (Gr.refl _)).put (updR a L1 L2 a.id)
         have hthr := (HZ7.out).there
         have hge := grown_setCells_new (HG7.out) (g := w.heap.size + 1 + 1) (by omega) (HCells (updR a L1 L2 a.id)) 0
         obtain ⟨w9, hw9⟩ : ∃ y, y = (w7).setCells (w.heap.size + 1 + 1) 0 (HCells (updR a L1 L2 a.id)).toArray.toList := ⟨_, rfl⟩
         have HBE := zqd (show HBlk (w.heap.size + 1 + 1) (updR a L1 L2 a.id) w9 by rw [hw9]; exact hbe)
         have HTH := zqd hthr
         have HGE := zqd (show Gr w w9 by rw [hw9]; exact hge)
         have HW9 := zqd hw9
         clear hbe hthr hge hw9
         go_wp2_with (first | (refine wpList_load_row rfl 49 _ rfl (w3.heap.size) rfl 49 _ _ _ HR7'.out Tryd.underlying49 rfl (by kernel_rfl) ?_) | (refine wpList_store_mid rfl 49 _ _ rfl (w.heap.size + 1 + 1) 0 (HCells (updR a L1 L2 a.id)).toArray rfl rfl HTH.out (by kernel_rfl) (hcells_one _) ?_; rw [← HW9.out]))
         exact bodyPost_ret (v := HVal (updR a L1 L2 a.id)) (results_cell_row Tryd.results62 _ _ (w.heap.size + 1 + 1) _ _ _ _ rfl HBE.out Tryd.underlying49 rfl (by kernel_rfl)) rfl ⟨HRES.out, HGE.out⟩
     · have hkb : (a.kind != 2) = true := by simpa using hk
       have HRES := zqd (show Ending.returned (HVal (updU a L1)) = .returned (HVal (predH s f a n)) by
         rw [← rpred_eq]; unfold rpredH; rw [HV.out, HW.out, Bool.and_self, if_pos rfl, if_neg hk, HL1.out])
       clear hk
       have k2 := HR4.out.at 2 rfl
       have f2 := HR4.out.fz 2
       go_upto_region 8 with (fail)
       clear k0 k2 f2
       obtain ⟨w5, hwb⟩ : ∃ y, y = (w4).setCell ⟨w3.heap.size, 2, none⟩ (.int .i64 L1) := ⟨_, rfl⟩
       rw [← hwb]
       have HR5 := zqd (show HBlk w3.heap.size (updU a L1) w5 by rw [hwb]; exact (HR4).out.set 2 _ rfl)
       have HZ5 := zqd (show HBlk (w.heap.size + 1 + 1) zeroH w5 by rw [hwb]; exact (HZ4).out.other _ _ (by have := heap_lt HZ3.out; omega))
       have hgb : Gr w w5 := by rw [hwb]; exact grown_set (HG4).out (a := ⟨w3.heap.size, 2, none⟩) HG3.out.size _
       have HG5 := zqd hgb
       have HW5 := zqd hwb
       clear hwb hgb
       have hr5' := HR5.out
       unfold HBlk at hr5'
       have HR5' := zqd hr5'
       clear hr5'
       have hbe := ((HZ5.out).kept (Gr.refl _)).put (updU a L1)
       have hthr := (HZ5.out).there
       have hge := grown_setCells_new (HG5.out) (g := w.heap.size + 1 + 1) (by omega) (HCells (updU a L1)) 0
       obtain ⟨w9, hw9⟩ : ∃ y, y = (w5).setCells (w.heap.size + 1 + 1) 0 (HCells (updU a L1)).toArray.toList := ⟨_, rfl⟩
       have HBE := zqd (show HBlk (w.heap.size + 1 + 1) (updU a L1) w9 by rw [hw9]; exact hbe)
       have HTH := zqd hthr
       have HGE := zqd (show Gr w w9 by rw [hw9]; exact hge)
       have HW9 := zqd hw9
       clear hbe hthr hge hw9
       go_wp2_with (first | (refine wpList_load_row rfl 49 _ rfl (w3.heap.size) rfl 49 _ _ _ HR5'.out Tryd.underlying49 rfl (by kernel_rfl) ?_) | (refine wpList_store_mid rfl 49 _ _ rfl (w.heap.size + 1 + 1) 0 (HCells (updU a L1)).toArray rfl rfl HTH.out (by kernel_rfl) (hcells_one _) ?_; rw [← HW9.out]))
       exact bodyPost_ret (v := HVal (updU a L1)) (results_cell_row Tryd.results62 _ _ (w.heap.size + 1 + 1) _ _ _ _ rfl HBE.out Tryd.underlying49 rfl (by kernel_rfl)) rfl ⟨HRES.out, HGE.out⟩
theorem tq_storeP {P : Program} {o : Oper} {a : Act} {w : World} {K : Act → World → Prop} (ty : TypeId) (x y : Operand) (ho : o.op = .store ty x y)
   (b off : Nat) (cells : Array Value) (hx : a.eval x = .pointer (some ⟨b, off, none⟩)) (hy : a.eval y = .agg cells)
   (ht : w.there b off cells.size) (hi : (P.info? ty).map (·.size) = some cells.size) (h1 : cells.all (·.oneCell') = true)
   (h : K (a.put o.dst undef) (w.setCells b off cells.toList)) : Sched.tq P o a w K := by
 unfold Sched.tq execOp
 simp only [ho, hx, hy, Instr.storeAt, Instr.sureAddr, Sem.run_bind, Sem.run_pure, Result.andThen_ok, run_storeVar_mid w b off ty cells ht hi h1]
 exact h
theorem rget_is {a : Option Addr} {len cap : Nat} {xs : List Int} {o n : Nat} {v : Int} (hv : getN xs o n = v) (O K : Int) (w : World) (hO : O = o) (hK : K = n) (hr : Rd .u8 w a len xs) (h1 : o + n ≤ len) (h2 : n ≤ 4) (h3 : len ≤ 100000) (h4 : 0 < len) :
   Calls Tryd.prog 54 #[.slice a len cap, .int .i64 O, .int .i64 K] w fun e w' => e = .returned (.int .i64 v) ∧ w = w' := by
 subst hO hK
 exact hv ▸ rget_any a len cap xs o n w hr h1 h2 h3 h4
theorem results_cell_row2 {P : Program} {fn : Func} {p u v : Tmp} {ty : TypeId} (h : fn.results = #[.cell p ty, .tmp u, .tmp v]) (tmps : Array Value) (w : World) (g : Nat) (t : TypeId) (cs : Array Value) (fr : Nat × Nat) (d : TypeDesc)
   (hp : tmps.getD p undef = .pointer (some ⟨g, 0, none⟩)) (hg : w.heap[g]? = some (.cells cs t fr))
   (hu : P.underlying ty = some d) (hd : (match d with | .struct _ | .array _ _ => true | _ => false) = true) (hi : (P.info? ty).map (·.size) = some cs.size) :
   (results fn tmps).run P w = .ok (.tuple #[.agg cs, tmps.getD u undef, tmps.getD v undef]) w := by
 have hp' : tmps[p]?.getD undef = .pointer (some ⟨g, 0, none⟩) := by simpa using hp
 simp [results, h, hp', asAddr, run_loadVar_row w g t ty cs fr d hg hu hd hi]
def NBld (R : Int × List Int) : Sched.NPred := fun _ _ v w => ∃ a n cap, v = .tuple #[.slice a n cap, .int .i64 R.1] ∧ Rd .u8 w a n R.2
theorem NBld.stable (R : Int × List Int) : Sched.Stable (NBld R) := by
 rintro lo hi v w w' ⟨a, n, c, h1, h2⟩ hg
 exact ⟨a, n, c, h1, h2.kept hg⟩
def NBy (xs : List Int) : Sched.NPred := fun _ _ v w => ∃ a n cap, v = .slice a n cap ∧ Rd .u8 w a n xs
theorem NBy.stable (xs : List Int) : Sched.Stable (NBy xs) := by
 rintro lo hi v w w' ⟨a, n, c, h1, h2⟩ hg
 exact ⟨a, n, c, h1, h2.kept hg⟩
def NOwn (B : Nat) (xs : List Int) : Sched.NPred := fun _ _ v w => ∃ a n cap, v = .slice a n cap ∧ OwnI B 5 .u8 w a n cap xs
theorem NOwn.stable (B : Nat) (xs : List Int) : Sched.Stable (NOwn B xs) := by
 rintro lo hi v w w' ⟨a, n, c, h1, h2⟩ hg
 exact ⟨a, n, c, h1, h2.stay hg⟩
theorem rd_from {w : World} {b off len cap : Nat} {xs : List Int} (h : Rd .u8 w (some ⟨b, off, none⟩) len xs) (N : Nat) (hN : N ≤ len) (_hc : N < cap) : Rd .u8 w (some ⟨b, off + N, none⟩) (len - N) (xs.drop N) := by
 obtain ⟨h1, h2, h3, h4⟩ := h
 refine ⟨by simp; omega, fun x hx => h2 x (List.mem_of_mem_drop hx), by omega, ?_⟩
 rcases h4 with h0 | ⟨b', off', e, hb, hc⟩
 · left; omega
 · by_cases hz : len - N = 0
   · exact .inl hz
   · right
     injection e with e
     injection e with e1 e2
     subst e1 e2
     refine ⟨b, off + N, rfl, hb, fun i hi => ?_⟩
     rw [Nat.add_assoc, hc (N + i) (by omega), List.getElem?_drop]
theorem rd_none {w : World} (a : Option Addr) (xs : List Int) (N : Nat) (h : xs.length ≤ N) : Rd .u8 w a 0 (xs.drop N) := by
 rw [List.drop_eq_nil_of_le h]
 exact ⟨rfl, by simp, by simp [maxLen], .inl rfl⟩
theorem parseF_bad {xs : List Int} (h : xs.length < 28 ∨ 1500 < xs.length) : parseF xs = (zeroH, [], 2) := by rw [parseF, if_pos h]
theorem and8_1 : ∀ n : Fin 256, bits .and .u8 (n.val : Int) 1 = (n.val : Int) % 2 := by decide +kernel
theorem and8_127 : ∀ n : Fin 256, bits .and .u8 (n.val : Int) 127 = (n.val : Int) % 128 := by decide +kernel
theorem and8_one {y : Int} (h0 : 0 ≤ y) (h1 : y ≤ 255) : bits .and .u8 y 1 = y % 2 := by
 have h := and8_1 ⟨y.toNat, by omega⟩
 rw [show (((⟨y.toNat, by omega⟩ : Fin 256)).val : Int) = y by simp; omega] at h
 exact h
theorem and8_low {y : Int} (h0 : 0 ≤ y) (h1 : y ≤ 255) : bits .and .u8 y 127 = y % 128 := by
 have h := and8_127 ⟨y.toNat, by omega⟩
 rw [show (((⟨y.toNat, by omega⟩ : Fin 256)).val : Int) = y by simp; omega] at h
 exact h
theorem bsame_is {a b : Option Addr} {l c l' c' : Nat} {xs ys : List Int} {E : Bool} (hE : decide (xs = ys) = E) (w : World) (hx : Rd .u8 w a l xs) (hy : Rd .u8 w b l' ys) :
   Calls Tryd.prog 26 #[.slice a l c, .slice b l' c'] w fun e w' => e = .returned (.bool E) ∧ w = w' := hE ▸ bsame_any a b l c l' c' xs ys w hx hy
theorem nq_appP {P : Program} {o : Oper} {a : Act} {w : World} {N : Sched.NPred} (s x : Operand) (t : TypeId)
   (ho : o.op = .call { callee := .builtin .append, args := #[s, x], argTypes := #[t, t] }) {vs vx v' : Value} {w' : World} (hs : a.eval s = vs) (hx : a.eval x = vx)
   (hrun : (Builtin.append_ #[t, t] o.type #[vs, vx]).run P w = .ok v' w') (h : Gr w w' ∧ N w.heap.size w'.heap.size v' w') : Sched.nq P o a w N := by
 unfold Sched.nq execOp
 simp only [ho, resolve, invoke, builtin, Sem.run_bind, Sem.run_pure, Result.andThen_ok, List.map_toArray, List.map_cons, List.map_nil, hs, hx, hrun]
 exact h
theorem blk_keptP {w w' : World} {g : Nat} {o : Obj} {r : Option Nat} (h : w.heap[g]? = some o) (hg : w.grownBy w' r) (hne : some g ≠ r) : w'.heap[g]? = some o := by
 rw [hg.block _ (heap_lt h) hne]; exact h
theorem buildF_two {h : Hdr} {ys xs : List Int} (h28 : 28 ≤ xs.length) (hn : (buildF h ys).1 ≠ 0) : (buildF h ys).2 ≠ xs := by
 intro he
 unfold buildF at hn he
 split at hn
 · split at hn
   · rename_i h1 h2
     rw [if_pos h1, if_pos h2] at he
     simp only at he
     rw [← he] at h28; simp at h28
   · simp at hn
 · rename_i h1
   rw [if_neg h1] at he
   simp only at he
   rw [← he] at h28; simp at h28
end Go.Proofs.YtlnkofpcidngoaaDoor
namespace Go.Proofs.YtlnkofpcidngoaaDoor
open Go.ChangeShapes Go.WideShapes Go.ChangeAt Go.RowKit
open Crc
end Go.Proofs.YtlnkofpcidngoaaDoor
