/- Layer 9 (compressor), the reference: parts in the formats short and long. -/
import Derived.Test.YtlnkofpcidngoaaDoorA0
import Derived.Test.YtlnkofpcidngoaaDoorA41
namespace Go.Proofs.YtlnkofpcidngoaaDoor
open Go.ChangeShapes Go.WideShapes Go.ChangeAt Go.RowKit
theorem and65535 (x : Int) : bits .and .i64 x 65535 = x % 65536 := and_mask x (k := 16) (by omega)
theorem fld_udp (ctx F n c V : Int) (pa : Option Addr) (pn pc : Nat) (t m i : Int) (k : Int) (hf : F = 1 ∨ F = 2 ∨ F = 3) (hk : k = 1 ∨ k = 2) (hc : 0 ≤ c ∧ c ≤ 65535) (hn : inB n (limN F k) = true) (ht : inB t (limT F k) = true) (hm : inB m (limM F k) = true) (hi : inB i (limI F k) = true) (hv : inB V (limC F) = true) :
  FldOk ⟨ctx, F, n, t, m, i, c, kindH k, 0, 0, V, pa, pn, pc⟩ := ⟨hf, hk, rfl, rfl, rfl, hc, hn, ht, hm, hi, hv⟩
set_option maxRecDepth 100000 in
set_option maxHeartbeats 4000000 in
theorem parts_short (s : Snd) (ctx : Int) (h : Hdr) (pa : Option Addr) (pn pc : Nat) (w : World) (hv : validH h = true) (hd : dynB s.str s.fol = true) (hp : h.kind = 1 → s.str = 0 ∧ s.fol = 0) (hc : inB ctx 15 = true) (hpn : pn ≤ 1500) :
  Calls Tryd.prog 42 #[SVal s, .int .i64 ctx, .int .i64 2, HVal h, .slice pa pn pc] w (PartsPost pa pn pc w) := by
 obtain ⟨V, hV⟩ : ∃ V, sumV (sizeF 2) (headL h) = V := ⟨_, rfl⟩
 have HVV := zqd hV
 have HV := zqd hv
 have HD := zqd hd
 have HP := zqd hp
 have HC := zqd hc
 obtain ⟨X, hX⟩ : ∃ X : Sml, X = ⟨ctx, 2, 0, 0, 0, 0, 0, kindH 0, 0, 0, V, pa, pn, pc⟩ := ⟨_, rfl⟩
 have HX0 := zqd hX
 clear hV hv hd hp hc hX
 go_enter Tryd.func42, Tryd.ntmps42
 go_upto_region 1 with (fail)
 obtain ⟨w1, hw1⟩ : ∃ y, y = ((w.alloc (.cells (SCells s).toArray 46)).alloc (.cells (HCells h).toArray 49)).alloc (.cells (MCells zeroM).toArray 85) := ⟨_, rfl⟩
 have h3 := blocks3 w (.cells (SCells s).toArray 46) (.cells (HCells h).toArray 49) (.cells (MCells zeroM).toArray 85)
 rw [← hw1] at h3
 have HS1 := zqd (show CBlk w.heap.size 46 (SCells s) w1 from h3.1)
 have HH1 := zqd (show CBlk (w.heap.size + 1) 49 (HCells h) w1 from h3.2.1)
 have HT1 := zqd (show CBlk (w.heap.size + 1 + 1) 85 (MCells zeroM) w1 from h3.2.2)
 have HG1 := zqd (show Gr w w1 by rw [hw1]; exact (Gr.alloc _ _).trans ((Gr.alloc _ _).trans (Gr.alloc _ _)))
 simp only [SCells, HCells, MCells, zeroM, kindH] at hw1
 first | rw [← hw1] | (go_show; fail)
 clear hw1 h3
 go_wp2_with (refine cblk_load rfl 49 _ rfl (w.heap.size + 1) rfl HH1.out Tryd.underlying49 rfl (by kernel_rfl) ?_)
 refine (value_is HVV.out w1 HV.out).mono ?_
 rintro e w2 ⟨rfl, hg2⟩
 have HS2 := zqd (HS1.out.kept hg2)
 have HH2 := zqd (HH1.out.kept hg2)
 have HT2 := zqd (HT1.out.kept hg2)
 have HG2 := zqd (HG1.out.trans hg2)
 have hlt := HT2.out.lt
 clear hg2 HS1 HH1 HT1 HG1
 obtain ⟨wz, hwz⟩ : ∃ y, y = w2.alloc (.cells (MCells zeroM).toArray 85) := ⟨_, rfl⟩
 have HZ := zqd (show CBlk w2.heap.size 85 (MCells zeroM) wz by rw [hwz]; exact CBlk.new _ _ _)
 have HGZ := zqd (show Gr w2 wz by rw [hwz]; exact Gr.alloc _ _)
 simp only [MCells, zeroM, kindH] at hwz
 go_upto_region 2 with (first | rw [← hwz]; refine cblk_store rfl 85 _ _ rfl w2.heap.size (MCells X) HZ.out rfl rfl (by rw [HX0.out]; rfl) (by kernel_rfl) rfl ?_; intro w3 hb9 he9; have HX3 := zqd hb9; have HG3 := zqd (show Gr w2 w3 by rw [← he9]; exact gr_setCells HGZ.out (Nat.le_refl _) _ _); clear hb9 he9)
 have HS3 := zqd (HS2.out.kept HG3.out)
 have HH3 := zqd (HH2.out.kept HG3.out)
 have HT3 := zqd (HT2.out.kept HG3.out)
 have HGG := zqd (HG2.out.trans HG3.out)
 rw [HX0.out] at HX3
 have hgx : w.heap.size + 1 + 1 < w2.heap.size := hlt
 obtain ⟨gx, hgg⟩ : ∃ g, w2.heap.size = g := ⟨_, rfl⟩
 rw [hgg] at HX3 hgx
 rw [hgg]
 clear HZ HGZ hwz hgg HS2 HH2 HT2 HG2 HG3 hlt HX0
 have HKD := zqd (valid_all HV.out).1
 have HUD := zqd (show 0 ≤ h.check ∧ h.check ≤ 65535 from (valid_all HV.out).2.2.2.2.2.2.1)
 have hcc : ∀ u, CBlk (w.heap.size + 1) 49 (HCells h) u → u.cell? ⟨w.heap.size + 1, 9, none⟩ = some (.int .i64 h.check) := fun u hu => hu.at 9 rfl
 have hk0 : ∀ u, Gr w3 u → u.cell? ⟨w.heap.size + 1, 0, none⟩ = some (.int .i64 h.kind) := fun u hu => (HH3.out.kept hu).at 0 rfl
 go_upto_region 7 with (fail)
 refine Sched2.wp_region_sched (fun u => CBlk (w.heap.size + 1) 49 (HCells h) u) [2, 3, 7] [] [6, 8] true (fun u hu => HH3.out.kept hu) (by kernel_rfl) (by kernel_rfl) ?_
 repeat (first | (refine Sched2.walk1_ord rfl ?_) | ((first | (refine Sched2.walk1_no rfl rfl rfl (fun K hK => ?_)) | (refine Sched2.walk1_gr rfl rfl rfl rfl (fun K hK => ?_); apply Exists.intro; refine ⟨fun w1 hw1 => ?_, ?_⟩; (focus (go_simp; (try go_ints); (try (simp only [IntWalk.iteOmega]; go_simp)); first | done | (with_reducible rfl) | (with_reducible exact ⟨rfl, rfl⟩)))) | (refine Sched2.walk1_late rfl rfl rfl rfl (fun K hK => ?_); apply Exists.intro; refine ⟨fun w1 hw1 => ?_, ?_⟩; (focus (go_simp; (try go_ints); (try (simp only [IntWalk.iteOmega]; go_simp)); first | done | (with_reducible rfl) | (with_reducible exact ⟨rfl, rfl⟩))))); simp only [Act.put, zqa, zqb, zqc]; refine hK _ ?_; clear hK K))
 refine Sched2.walk1_nil ?_
 intro wq hwq
 have HXQ := zqd (HX3.out.kept hwq)
 have HHQ := zqd (HH3.out.kept hwq)
 have HTQ := zqd (HT3.out.kept hwq)
 have HGQ := zqd (HGG.out.trans hwq)
 clear hwq hcc hk0 HX3 HH3 HS3 HT3 HGG
 have x7 := HXQ.out.at 7 rfl
 have x6 := HXQ.out.at 6 rfl
 have f7 := HXQ.out.fz 7
 have f6 := HXQ.out.fz 6
 dsimp only [Sched.EndN, List.nil_append, List.cons_append, Act.put]
 (try simp only [zqa, zqb, zqc])
 simp only [Sched2.lasts, List.filterMap_cons, List.filterMap_nil, List.getElem?_toArray, List.getElem?_cons_succ, List.getElem?_cons_zero]
 repeat (first | (refine Sched2.walk2_no rfl (fun K hK => ?_); simp only [Act.put, zqa, zqb, zqc]; refine hK _ ?_; clear hK K) | (refine Sched2.walk2_go rfl (fun K hK => ?_); go_simp; (try go_ints); (try (simp only [IntWalk.iteOmega]; go_simp)); first | (refine hK _ _ (by first | exact .inl ⟨rfl, rfl⟩ | exact .inr ((HHQ.out.other _ _ (by omega)))) ?_; clear hK K) | fail))
 refine Sched2.walk2_nil ?_
 obtain ⟨w4, hw4⟩ : ∃ y, y = (wq.setCell ⟨gx, 7, none⟩ (.int .i64 h.kind)).setCell ⟨gx, 6, none⟩ (.int .i64 h.check) := ⟨_, rfl⟩
 first | rw [← hw4] | (go_show; fail)
 have HX4 := zqd (show CBlk gx 85 (MCells ⟨ctx, 2, 0, 0, 0, 0, h.check, kindH h.kind, 0, 0, V, pa, pn, pc⟩) w4 by rw [hw4]; exact (HXQ.out.set 7 (.int .i64 h.kind) (ds := MCells ⟨ctx, 2, 0, 0, 0, 0, 0, kindH h.kind, 0, 0, V, pa, pn, pc⟩) rfl).set 6 _ rfl)
 have HH4 := zqd (show CBlk (w.heap.size + 1) 49 (HCells h) w4 by rw [hw4]; exact (HHQ.out.other _ _ (by omega)).other _ _ (by omega))
 have HT4 := zqd (show CBlk (w.heap.size + 1 + 1) 85 (MCells zeroM) w4 by rw [hw4]; exact (HTQ.out.other _ _ (by omega)).other _ _ (by omega))
 have HG4 := zqd (show Gr w w4 by rw [hw4]; exact gr_setCell (gr_setCell HGQ.out (by omega) _ _) (by omega) _ _)
 clear hw4 x7 x6 f7 f6 HXQ HHQ HTQ HGQ
 go_wp2_with (refine cblk_load rfl 49 _ rfl (w.heap.size + 1) rfl HH4.out Tryd.underlying49 rfl (by kernel_rfl) ?_)
 obtain ⟨N, hN⟩ : ∃ N, numH h = N := ⟨_, rfl⟩
 have hnr := num_rng h
 rw [hN] at hnr
 obtain ⟨n1, n2⟩ := hnr
 have HN := zqd hN
 clear hN
 refine (rnum_is HN.out w4).mono ?_
 rintro e w5 ⟨rfl, hg5⟩
 have HX5 := zqd (HX4.out.kept hg5)
 have HH5 := zqd (HH4.out.kept hg5)
 have HT5 := zqd (HT4.out.kept hg5)
 have HG5 := zqd (HG4.out.trans hg5)
 clear hg5 HX4 HH4 HT4 HG4
 have k0 := HH5.out.at 0 rfl
 have x2 := HX5.out.at 2 rfl
 have f2 := HX5.out.fz 2
 have hand : bits .and .i64 N 31 = N % 32 := and_mask N (k := 5) (by omega)
 rcases HKD.out with hk | hk
 ·have HK := zqd hk
  have hkb : (h.kind == 2) = false := by rw [hk]; rfl
  clear hk
  go_upto_region 20 with (fail)
  obtain ⟨w6, hw6⟩ : ∃ y, y = w5.setCell ⟨gx, 2, none⟩ (.int .i64 (N % 32)) := ⟨_, rfl⟩
  first | rw [← hw6] | (go_show; fail)
  have HX6 := zqd (show CBlk gx 85 (MCells ⟨ctx, 2, N % 32, 0, 0, 0, h.check, kindH h.kind, 0, 0, V, pa, pn, pc⟩) w6 by rw [hw6]; exact HX5.out.set 2 _ rfl)
  have HH6 := zqd (show CBlk (w.heap.size + 1) 49 (HCells h) w6 by rw [hw6]; exact HH5.out.other _ _ (by omega))
  have HT6 := zqd (show CBlk (w.heap.size + 1 + 1) 85 (MCells zeroM) w6 by rw [hw6]; exact HT5.out.other _ _ (by omega))
  have HG6 := zqd (show Gr w w6 by rw [hw6]; exact gr_setCell HG5.out (by omega) _ _)
  clear hw6 k0 x2 f2 HX5 HH5 HT5 HG5
  obtain ⟨Y, hY⟩ : ∃ Y : Sml, Y = ⟨ctx, 2, N % 32, 0, 0, 0, h.check, kindH h.kind, 0, 0, V, pa, pn, pc⟩ := ⟨_, rfl⟩
  have HY := zqd (show CBlk gx 85 (MCells Y) w6 by rw [hY]; exact HX6.out)
  have HOKY := zqd (show SmlOk Y by rw [hY]; exact ⟨HC.out, hpn, .inl (by rw [HK.out]; exact fld_udp _ _ _ _ _ _ _ _ _ _ _ _ (.inr (.inl rfl)) (.inl rfl) HUD.out (in_mod 32 (by omega)) rfl rfl rfl (by rw [← HVV.out]; exact value_rng 2 _))⟩)
  have HYA := zqd (show Y.a = pa ∧ Y.n = pn ∧ Y.c = pc by rw [hY]; exact ⟨rfl, rfl, rfl⟩)
  clear hY
  go_wp2_with (first | (refine cblk_load rfl 85 _ rfl gx rfl HY.out Tryd.underlying85 rfl (by kernel_rfl) ?_) | (refine cblk_store rfl 85 _ _ rfl (w.heap.size + 1 + 1) (MCells Y) HT6.out rfl rfl rfl (by kernel_rfl) rfl ?_; intro w9 hb9 he9; have HB9 := zqd hb9; have HGE := zqd (show Gr w w9 by rw [← he9]; exact gr_setCells HG6.out (by omega) _ _); clear hb9 he9))
  exact bodyPost_ret (results_c0 Tryd.results42 _ _ (w.heap.size + 1 + 1) _ _ rfl HB9.out Tryd.underlying85 rfl (by kernel_rfl)) rfl ⟨Y, rfl, HOKY.out, HYA.out.1, HYA.out.2.1, HYA.out.2.2, HGE.out⟩
 ·have HK := zqd hk
  have HM := zqd (((valid_all HV.out).2.2.2.2.2.2.2.2.2.2.2 hk).1)
  have hkb : (h.kind == 2) = true := by rw [hk]; rfl
  clear hk
  have hand2 : bits .and .i64 h.time 65535 = h.time % 65536 := and65535 _
  go_upto_region 19 with (fail)
  obtain ⟨w6, hw6⟩ : ∃ y, y = w5.setCell ⟨gx, 2, none⟩ (.int .i64 (N % 32)) := ⟨_, rfl⟩
  first | rw [← hw6] | (go_show; fail)
  have HX6 := zqd (show CBlk gx 85 (MCells ⟨ctx, 2, N % 32, 0, 0, 0, h.check, kindH h.kind, 0, 0, V, pa, pn, pc⟩) w6 by rw [hw6]; exact HX5.out.set 2 _ rfl)
  have HH6 := zqd (show CBlk (w.heap.size + 1) 49 (HCells h) w6 by rw [hw6]; exact HH5.out.other _ _ (by omega))
  have HT6 := zqd (show CBlk (w.heap.size + 1 + 1) 85 (MCells zeroM) w6 by rw [hw6]; exact HT5.out.other _ _ (by omega))
  have HG6 := zqd (show Gr w w6 by rw [hw6]; exact gr_setCell HG5.out (by omega) _ _)
  clear hw6 k0 x2 f2 HX5 HH5 HT5 HG5
  have hcc : ∀ u, CBlk (w.heap.size + 1) 49 (HCells h) u → u.cell? ⟨w.heap.size + 1, 13, none⟩ = some (.int .i64 h.time) := fun u hu => hu.at 13 rfl
  have hk0 : ∀ u, Gr w6 u → u.cell? ⟨w.heap.size + 1, 10, none⟩ = some (.int .i64 h.marker) := fun u hu => (HH6.out.kept hu).at 10 rfl
  refine Sched2.wp_region_sched (fun u => CBlk (w.heap.size + 1) 49 (HCells h) u) [2, 3, 4, 7] [] [6, 8] true (fun u hu => HH6.out.kept hu) (by kernel_rfl) (by kernel_rfl) ?_
  repeat (first | (refine Sched2.walk1_ord rfl ?_) | ((first | (refine Sched2.walk1_no rfl rfl rfl (fun K hK => ?_)) | (refine Sched2.walk1_gr rfl rfl rfl rfl (fun K hK => ?_); apply Exists.intro; refine ⟨fun w1 hw1 => ?_, ?_⟩; (focus (go_simp; (try go_ints); (try (simp only [IntWalk.iteOmega]; go_simp)); first | done | (with_reducible rfl) | (with_reducible exact ⟨rfl, rfl⟩)))) | (refine Sched2.walk1_late rfl rfl rfl rfl (fun K hK => ?_); apply Exists.intro; refine ⟨fun w1 hw1 => ?_, ?_⟩; (focus (go_simp; (try go_ints); (try (simp only [IntWalk.iteOmega]; go_simp)); first | done | (with_reducible rfl) | (with_reducible exact ⟨rfl, rfl⟩))))); simp only [Act.put, zqa, zqb, zqc]; refine hK _ ?_; clear hK K))
  refine Sched2.walk1_nil ?_
  intro wq hwq
  have HXQ := zqd (HX6.out.kept hwq)
  have HHQ := zqd (HH6.out.kept hwq)
  have HTQ := zqd (HT6.out.kept hwq)
  have HGQ := zqd (HG6.out.trans hwq)
  clear hwq hcc hk0 HX6 HH6 HT6 HG6
  have x4 := HXQ.out.at 4 rfl
  have x3 := HXQ.out.at 3 rfl
  have f4 := HXQ.out.fz 4
  have f3 := HXQ.out.fz 3
  dsimp only [Sched.EndN, List.nil_append, List.cons_append, Act.put]
  (try simp only [zqa, zqb, zqc])
  simp only [Sched2.lasts, List.filterMap_cons, List.filterMap_nil, List.getElem?_toArray, List.getElem?_cons_succ, List.getElem?_cons_zero]
  repeat (first | (refine Sched2.walk2_no rfl (fun K hK => ?_); simp only [Act.put, zqa, zqb, zqc]; refine hK _ ?_; clear hK K) | (refine Sched2.walk2_go rfl (fun K hK => ?_); go_simp; (try go_ints); (try (simp only [IntWalk.iteOmega]; go_simp)); first | (refine hK _ _ (by first | exact .inl ⟨rfl, rfl⟩ | exact .inr ((HHQ.out.other _ _ (by omega)))) ?_; clear hK K) | fail))
  refine Sched2.walk2_nil ?_
  obtain ⟨w8, hw8⟩ : ∃ y, y = (wq.setCell ⟨gx, 4, none⟩ (.int .i64 h.marker)).setCell ⟨gx, 3, none⟩ (.int .i64 (h.time % 65536)) := ⟨_, rfl⟩
  first | rw [← hw8] | (go_show; fail)
  have HX8 := zqd (show CBlk gx 85 (MCells ⟨ctx, 2, N % 32, h.time % 65536, h.marker, 0, h.check, kindH h.kind, 0, 0, V, pa, pn, pc⟩) w8 by rw [hw8]; exact (HXQ.out.set 4 (.int .i64 h.marker) (ds := MCells ⟨ctx, 2, N % 32, 0, h.marker, 0, h.check, kindH h.kind, 0, 0, V, pa, pn, pc⟩) rfl).set 3 _ rfl)
  have HT8 := zqd (show CBlk (w.heap.size + 1 + 1) 85 (MCells zeroM) w8 by rw [hw8]; exact (HTQ.out.other _ _ (by omega)).other _ _ (by omega))
  have HG8 := zqd (show Gr w w8 by rw [hw8]; exact gr_setCell (gr_setCell HGQ.out (by omega) _ _) (by omega) _ _)
  clear hw8 x4 x3 f4 f3 HXQ HHQ HTQ HGQ
  obtain ⟨Y, hY⟩ : ∃ Y : Sml, Y = ⟨ctx, 2, N % 32, h.time % 65536, h.marker, 0, h.check, kindH h.kind, 0, 0, V, pa, pn, pc⟩ := ⟨_, rfl⟩
  have HY := zqd (show CBlk gx 85 (MCells Y) w8 by rw [hY]; exact HX8.out)
  have HOKY := zqd (show SmlOk Y by rw [hY]; exact ⟨HC.out, hpn, .inl (by rw [HK.out]; exact fld_udp _ _ _ _ _ _ _ _ _ _ _ _ (.inr (.inl rfl)) (.inr rfl) HUD.out (in_mod 32 (by omega)) (in_mod 65536 (by omega)) (in_mk HM.out.1 HM.out.2) rfl (by rw [← HVV.out]; exact value_rng 2 _))⟩)
  have HYA := zqd (show Y.a = pa ∧ Y.n = pn ∧ Y.c = pc by rw [hY]; exact ⟨rfl, rfl, rfl⟩)
  clear hY
  go_wp2_with (first | (refine cblk_load rfl 85 _ rfl gx rfl HY.out Tryd.underlying85 rfl (by kernel_rfl) ?_) | (refine cblk_store rfl 85 _ _ rfl (w.heap.size + 1 + 1) (MCells Y) HT8.out rfl rfl rfl (by kernel_rfl) rfl ?_; intro w9 hb9 he9; have HB9 := zqd hb9; have HGE := zqd (show Gr w w9 by rw [← he9]; exact gr_setCells HG8.out (by omega) _ _); clear hb9 he9))
  exact bodyPost_ret (results_c0 Tryd.results42 _ _ (w.heap.size + 1 + 1) _ _ rfl HB9.out Tryd.underlying85 rfl (by kernel_rfl)) rfl ⟨Y, rfl, HOKY.out, HYA.out.1, HYA.out.2.1, HYA.out.2.2, HGE.out⟩
set_option maxRecDepth 100000 in
set_option maxHeartbeats 4000000 in
theorem parts_long (s : Snd) (ctx : Int) (h : Hdr) (pa : Option Addr) (pn pc : Nat) (w : World) (hv : validH h = true) (hd : dynB s.str s.fol = true) (hp : h.kind = 1 → s.str = 0 ∧ s.fol = 0) (hc : inB ctx 15 = true) (hpn : pn ≤ 1500) :
  Calls Tryd.prog 42 #[SVal s, .int .i64 ctx, .int .i64 3, HVal h, .slice pa pn pc] w (PartsPost pa pn pc w) := by
 obtain ⟨V, hV⟩ : ∃ V, sumV (sizeF 3) (headL h) = V := ⟨_, rfl⟩
 have HVV := zqd hV
 have HV := zqd hv
 have HD := zqd hd
 have HP := zqd hp
 have HC := zqd hc
 obtain ⟨X, hX⟩ : ∃ X : Sml, X = ⟨ctx, 3, 0, 0, 0, 0, 0, kindH 0, 0, 0, V, pa, pn, pc⟩ := ⟨_, rfl⟩
 have HX0 := zqd hX
 clear hV hv hd hp hc hX
 go_enter Tryd.func42, Tryd.ntmps42
 go_upto_region 1 with (fail)
 obtain ⟨w1, hw1⟩ : ∃ y, y = ((w.alloc (.cells (SCells s).toArray 46)).alloc (.cells (HCells h).toArray 49)).alloc (.cells (MCells zeroM).toArray 85) := ⟨_, rfl⟩
 have h3 := blocks3 w (.cells (SCells s).toArray 46) (.cells (HCells h).toArray 49) (.cells (MCells zeroM).toArray 85)
 rw [← hw1] at h3
 have HS1 := zqd (show CBlk w.heap.size 46 (SCells s) w1 from h3.1)
 have HH1 := zqd (show CBlk (w.heap.size + 1) 49 (HCells h) w1 from h3.2.1)
 have HT1 := zqd (show CBlk (w.heap.size + 1 + 1) 85 (MCells zeroM) w1 from h3.2.2)
 have HG1 := zqd (show Gr w w1 by rw [hw1]; exact (Gr.alloc _ _).trans ((Gr.alloc _ _).trans (Gr.alloc _ _)))
 simp only [SCells, HCells, MCells, zeroM, kindH] at hw1
 first | rw [← hw1] | (go_show; fail)
 clear hw1 h3
 go_wp2_with (refine cblk_load rfl 49 _ rfl (w.heap.size + 1) rfl HH1.out Tryd.underlying49 rfl (by kernel_rfl) ?_)
 refine (value_is HVV.out w1 HV.out).mono ?_
 rintro e w2 ⟨rfl, hg2⟩
 have HS2 := zqd (HS1.out.kept hg2)
 have HH2 := zqd (HH1.out.kept hg2)
 have HT2 := zqd (HT1.out.kept hg2)
 have HG2 := zqd (HG1.out.trans hg2)
 have hlt := HT2.out.lt
 clear hg2 HS1 HH1 HT1 HG1
 obtain ⟨wz, hwz⟩ : ∃ y, y = w2.alloc (.cells (MCells zeroM).toArray 85) := ⟨_, rfl⟩
 have HZ := zqd (show CBlk w2.heap.size 85 (MCells zeroM) wz by rw [hwz]; exact CBlk.new _ _ _)
 have HGZ := zqd (show Gr w2 wz by rw [hwz]; exact Gr.alloc _ _)
 simp only [MCells, zeroM, kindH] at hwz
 go_upto_region 2 with (first | rw [← hwz]; refine cblk_store rfl 85 _ _ rfl w2.heap.size (MCells X) HZ.out rfl rfl (by rw [HX0.out]; rfl) (by kernel_rfl) rfl ?_; intro w3 hb9 he9; have HX3 := zqd hb9; have HG3 := zqd (show Gr w2 w3 by rw [← he9]; exact gr_setCells HGZ.out (Nat.le_refl _) _ _); clear hb9 he9)
 have HS3 := zqd (HS2.out.kept HG3.out)
 have HH3 := zqd (HH2.out.kept HG3.out)
 have HT3 := zqd (HT2.out.kept HG3.out)
 have HGG := zqd (HG2.out.trans HG3.out)
 rw [HX0.out] at HX3
 have hgx : w.heap.size + 1 + 1 < w2.heap.size := hlt
 obtain ⟨gx, hgg⟩ : ∃ g, w2.heap.size = g := ⟨_, rfl⟩
 rw [hgg] at HX3 hgx
 rw [hgg]
 clear HZ HGZ hwz hgg HS2 HH2 HT2 HG2 HG3 hlt HX0
 have HKD := zqd (valid_all HV.out).1
 have HUD := zqd (show 0 ≤ h.check ∧ h.check ≤ 65535 from (valid_all HV.out).2.2.2.2.2.2.1)
 have hcc : ∀ u, CBlk (w.heap.size + 1) 49 (HCells h) u → u.cell? ⟨w.heap.size + 1, 9, none⟩ = some (.int .i64 h.check) := fun u hu => hu.at 9 rfl
 have hk0 : ∀ u, Gr w3 u → u.cell? ⟨w.heap.size + 1, 0, none⟩ = some (.int .i64 h.kind) := fun u hu => (HH3.out.kept hu).at 0 rfl
 go_upto_region 7 with (fail)
 refine Sched2.wp_region_sched (fun u => CBlk (w.heap.size + 1) 49 (HCells h) u) [2, 3, 7] [] [6, 8] true (fun u hu => HH3.out.kept hu) (by kernel_rfl) (by kernel_rfl) ?_
 repeat (first | (refine Sched2.walk1_ord rfl ?_) | ((first | (refine Sched2.walk1_no rfl rfl rfl (fun K hK => ?_)) | (refine Sched2.walk1_gr rfl rfl rfl rfl (fun K hK => ?_); apply Exists.intro; refine ⟨fun w1 hw1 => ?_, ?_⟩; (focus (go_simp; (try go_ints); (try (simp only [IntWalk.iteOmega]; go_simp)); first | done | (with_reducible rfl) | (with_reducible exact ⟨rfl, rfl⟩)))) | (refine Sched2.walk1_late rfl rfl rfl rfl (fun K hK => ?_); apply Exists.intro; refine ⟨fun w1 hw1 => ?_, ?_⟩; (focus (go_simp; (try go_ints); (try (simp only [IntWalk.iteOmega]; go_simp)); first | done | (with_reducible rfl) | (with_reducible exact ⟨rfl, rfl⟩))))); simp only [Act.put, zqa, zqb, zqc]; refine hK _ ?_; clear hK K))
 refine Sched2.walk1_nil ?_
 intro wq hwq
 have HXQ := zqd (HX3.out.kept hwq)
 have HHQ := zqd (HH3.out.kept hwq)
 have HTQ := zqd (HT3.out.kept hwq)
 have HGQ := zqd (HGG.out.trans hwq)
 clear hwq hcc hk0 HX3 HH3 HS3 HT3 HGG
 have x7 := HXQ.out.at 7 rfl
 have x6 := HXQ.out.at 6 rfl
 have f7 := HXQ.out.fz 7
 have f6 := HXQ.out.fz 6
 dsimp only [Sched.EndN, List.nil_append, List.cons_append, Act.put]
 (try simp only [zqa, zqb, zqc])
 simp only [Sched2.lasts, List.filterMap_cons, List.filterMap_nil, List.getElem?_toArray, List.getElem?_cons_succ, List.getElem?_cons_zero]
 repeat (first | (refine Sched2.walk2_no rfl (fun K hK => ?_); simp only [Act.put, zqa, zqb, zqc]; refine hK _ ?_; clear hK K) | (refine Sched2.walk2_go rfl (fun K hK => ?_); go_simp; (try go_ints); (try (simp only [IntWalk.iteOmega]; go_simp)); first | (refine hK _ _ (by first | exact .inl ⟨rfl, rfl⟩ | exact .inr ((HHQ.out.other _ _ (by omega)))) ?_; clear hK K) | fail))
 refine Sched2.walk2_nil ?_
 obtain ⟨w4, hw4⟩ : ∃ y, y = (wq.setCell ⟨gx, 7, none⟩ (.int .i64 h.kind)).setCell ⟨gx, 6, none⟩ (.int .i64 h.check) := ⟨_, rfl⟩
 first | rw [← hw4] | (go_show; fail)
 have HX4 := zqd (show CBlk gx 85 (MCells ⟨ctx, 3, 0, 0, 0, 0, h.check, kindH h.kind, 0, 0, V, pa, pn, pc⟩) w4 by rw [hw4]; exact (HXQ.out.set 7 (.int .i64 h.kind) (ds := MCells ⟨ctx, 3, 0, 0, 0, 0, 0, kindH h.kind, 0, 0, V, pa, pn, pc⟩) rfl).set 6 _ rfl)
 have HH4 := zqd (show CBlk (w.heap.size + 1) 49 (HCells h) w4 by rw [hw4]; exact (HHQ.out.other _ _ (by omega)).other _ _ (by omega))
 have HT4 := zqd (show CBlk (w.heap.size + 1 + 1) 85 (MCells zeroM) w4 by rw [hw4]; exact (HTQ.out.other _ _ (by omega)).other _ _ (by omega))
 have HG4 := zqd (show Gr w w4 by rw [hw4]; exact gr_setCell (gr_setCell HGQ.out (by omega) _ _) (by omega) _ _)
 clear hw4 x7 x6 f7 f6 HXQ HHQ HTQ HGQ
 go_wp2_with (refine cblk_load rfl 49 _ rfl (w.heap.size + 1) rfl HH4.out Tryd.underlying49 rfl (by kernel_rfl) ?_)
 obtain ⟨N, hN⟩ : ∃ N, numH h = N := ⟨_, rfl⟩
 have hnr := num_rng h
 rw [hN] at hnr
 obtain ⟨n1, n2⟩ := hnr
 have HN := zqd hN
 clear hN
 refine (rnum_is HN.out w4).mono ?_
 rintro e w5 ⟨rfl, hg5⟩
 have HX5 := zqd (HX4.out.kept hg5)
 have HH5 := zqd (HH4.out.kept hg5)
 have HT5 := zqd (HT4.out.kept hg5)
 have HG5 := zqd (HG4.out.trans hg5)
 clear hg5 HX4 HH4 HT4 HG4
 have k0 := HH5.out.at 0 rfl
 have x2 := HX5.out.at 2 rfl
 have f2 := HX5.out.fz 2
 have hand : bits .and .i64 N 255 = N % 256 := and_mask N (k := 8) (by omega)
 rcases HKD.out with hk | hk
 ·have HK := zqd hk
  have hkb : (h.kind == 2) = false := by rw [hk]; rfl
  clear hk
  go_upto_region 20 with (fail)
  obtain ⟨w6, hw6⟩ : ∃ y, y = w5.setCell ⟨gx, 2, none⟩ (.int .i64 (N)) := ⟨_, rfl⟩
  first | rw [← hw6] | (go_show; fail)
  have HX6 := zqd (show CBlk gx 85 (MCells ⟨ctx, 3, N, 0, 0, 0, h.check, kindH h.kind, 0, 0, V, pa, pn, pc⟩) w6 by rw [hw6]; exact HX5.out.set 2 _ rfl)
  have HH6 := zqd (show CBlk (w.heap.size + 1) 49 (HCells h) w6 by rw [hw6]; exact HH5.out.other _ _ (by omega))
  have HT6 := zqd (show CBlk (w.heap.size + 1 + 1) 85 (MCells zeroM) w6 by rw [hw6]; exact HT5.out.other _ _ (by omega))
  have HG6 := zqd (show Gr w w6 by rw [hw6]; exact gr_setCell HG5.out (by omega) _ _)
  clear hw6 k0 x2 f2 HX5 HH5 HT5 HG5
  obtain ⟨Y, hY⟩ : ∃ Y : Sml, Y = ⟨ctx, 3, N, 0, 0, 0, h.check, kindH h.kind, 0, 0, V, pa, pn, pc⟩ := ⟨_, rfl⟩
  have HY := zqd (show CBlk gx 85 (MCells Y) w6 by rw [hY]; exact HX6.out)
  have HOKY := zqd (show SmlOk Y by rw [hY]; exact ⟨HC.out, hpn, .inl (by rw [HK.out]; exact fld_udp _ _ _ _ _ _ _ _ _ _ _ _ (.inr (.inr rfl)) (.inl rfl) HUD.out (in_mk n1 n2) rfl rfl rfl (by rw [← HVV.out]; exact value_rng 3 _))⟩)
  have HYA := zqd (show Y.a = pa ∧ Y.n = pn ∧ Y.c = pc by rw [hY]; exact ⟨rfl, rfl, rfl⟩)
  clear hY
  go_wp2_with (first | (refine cblk_load rfl 85 _ rfl gx rfl HY.out Tryd.underlying85 rfl (by kernel_rfl) ?_) | (refine cblk_store rfl 85 _ _ rfl (w.heap.size + 1 + 1) (MCells Y) HT6.out rfl rfl rfl (by kernel_rfl) rfl ?_; intro w9 hb9 he9; have HB9 := zqd hb9; have HGE := zqd (show Gr w w9 by rw [← he9]; exact gr_setCells HG6.out (by omega) _ _); clear hb9 he9))
  exact bodyPost_ret (results_c0 Tryd.results42 _ _ (w.heap.size + 1 + 1) _ _ rfl HB9.out Tryd.underlying85 rfl (by kernel_rfl)) rfl ⟨Y, rfl, HOKY.out, HYA.out.1, HYA.out.2.1, HYA.out.2.2, HGE.out⟩
 ·have HK := zqd hk
  have HM := zqd ((valid_all HV.out).2.2.2.2.2.2.2.2.2.2.2 hk)
  have HID := zqd (valid_all HV.out).2.2.2.1
  have hkb : (h.kind == 2) = true := by rw [hk]; rfl
  clear hk
  go_upto_region 13 with (fail)
  obtain ⟨w6, hw6⟩ : ∃ y, y = w5.setCell ⟨gx, 2, none⟩ (.int .i64 (N)) := ⟨_, rfl⟩
  first | rw [← hw6] | (go_show; fail)
  have HX6 := zqd (show CBlk gx 85 (MCells ⟨ctx, 3, N, 0, 0, 0, h.check, kindH h.kind, 0, 0, V, pa, pn, pc⟩) w6 by rw [hw6]; exact HX5.out.set 2 _ rfl)
  have HH6 := zqd (show CBlk (w.heap.size + 1) 49 (HCells h) w6 by rw [hw6]; exact HH5.out.other _ _ (by omega))
  have HT6 := zqd (show CBlk (w.heap.size + 1 + 1) 85 (MCells zeroM) w6 by rw [hw6]; exact HT5.out.other _ _ (by omega))
  have HG6 := zqd (show Gr w w6 by rw [hw6]; exact gr_setCell HG5.out (by omega) _ _)
  clear hw6 k0 x2 f2 HX5 HH5 HT5 HG5
  have hcc : ∀ u, CBlk (w.heap.size + 1) 49 (HCells h) u → u.cell? ⟨w.heap.size + 1, 10, none⟩ = some (.int .i64 h.marker) ∧ u.cell? ⟨w.heap.size + 1, 13, none⟩ = some (.int .i64 h.time) ∧ u.cell? ⟨w.heap.size + 1, 2, none⟩ = some (.int .i64 h.id) := fun u hu => ⟨hu.at 10 rfl, hu.at 13 rfl, hu.at 2 rfl⟩
  refine Sched2.wp_region_sched (fun u => u.cell? ⟨w.heap.size + 1, 10, none⟩ = some (.int .i64 h.marker) ∧ u.cell? ⟨w.heap.size + 1, 13, none⟩ = some (.int .i64 h.time) ∧ u.cell? ⟨w.heap.size + 1, 2, none⟩ = some (.int .i64 h.id)) [2, 3, 4, 5, 6, 7, 10, 12, 14] [] [9, 11, 13, 15] true (fun u hu => hcc u (HH6.out.kept hu)) (by kernel_rfl) (by kernel_rfl) ?_
  repeat (first | (refine Sched2.walk1_ord rfl ?_) | ((first | (refine Sched2.walk1_no rfl rfl rfl (fun K hK => ?_)) | (refine Sched2.walk1_gr rfl rfl rfl rfl (fun K hK => ?_); apply Exists.intro; refine ⟨fun w1 hw1 => ?_, ?_⟩; (focus (go_simp; (try go_ints); (try (simp only [IntWalk.iteOmega]; go_simp)); first | done | (with_reducible rfl) | (with_reducible exact ⟨rfl, rfl⟩)))) | (refine Sched2.walk1_late rfl rfl rfl rfl (fun K hK => ?_); apply Exists.intro; refine ⟨fun w1 hw1 => ?_, ?_⟩; (focus (go_simp; (try go_ints); (try (simp only [IntWalk.iteOmega]; go_simp)); first | done | (with_reducible rfl) | (with_reducible exact ⟨rfl, rfl⟩))))); simp only [Act.put, zqa, zqb, zqc]; refine hK _ ?_; clear hK K))
  refine Sched2.walk1_nil ?_
  intro wq hwq
  have HXQ := zqd (HX6.out.kept hwq)
  have HHQ := zqd (HH6.out.kept hwq)
  have HTQ := zqd (HT6.out.kept hwq)
  have HGQ := zqd (HG6.out.trans hwq)
  clear hwq HX6 HH6 HT6 HG6
  have x2 := HXQ.out.at 2 rfl
  have x4 := HXQ.out.at 4 rfl
  have x3 := HXQ.out.at 3 rfl
  have x5 := HXQ.out.at 5 rfl
  have f2 := HXQ.out.fz 2
  have f4 := HXQ.out.fz 4
  have f3 := HXQ.out.fz 3
  have f5 := HXQ.out.fz 5
  dsimp only [Sched.EndN, List.nil_append, List.cons_append, Act.put]
  (try simp only [zqa, zqb, zqc])
  simp only [Sched2.lasts, List.filterMap_cons, List.filterMap_nil, List.getElem?_toArray, List.getElem?_cons_succ, List.getElem?_cons_zero]
  repeat (first | (refine Sched2.walk2_no rfl (fun K hK => ?_); simp only [Act.put, zqa, zqb, zqc]; refine hK _ ?_; clear hK K) | (refine Sched2.walk2_go rfl (fun K hK => ?_); go_simp; (try go_ints); (try (simp only [IntWalk.iteOmega]; go_simp)); first | (refine hK _ _ (by first | exact .inl ⟨rfl, rfl⟩ | exact .inr ((hcc _ (by ((repeat (refine CBlk.other ?_ _ _ (by omega))); exact HHQ.out))))) ?_; clear hK K) | fail))
  refine Sched2.walk2_nil ?_
  obtain ⟨w8, hw8⟩ : ∃ y, y = (((wq.setCell ⟨gx, 2, none⟩ (.int .i64 (N % 256))).setCell ⟨gx, 4, none⟩ (.int .i64 h.marker)).setCell ⟨gx, 3, none⟩ (.int .i64 h.time)).setCell ⟨gx, 5, none⟩ (.int .i64 h.id) := ⟨_, rfl⟩
  first | rw [← hw8] | (go_show; fail)
  have HX8 := zqd (show CBlk gx 85 (MCells ⟨ctx, 3, N % 256, h.time, h.marker, h.id, h.check, kindH h.kind, 0, 0, V, pa, pn, pc⟩) w8 by
   rw [hw8]
   exact (((HXQ.out.set 2 (.int .i64 (N % 256)) (ds := MCells ⟨ctx, 3, N % 256, 0, 0, 0, h.check, kindH h.kind, 0, 0, V, pa, pn, pc⟩) rfl).set 4 (.int .i64 h.marker) (ds := MCells ⟨ctx, 3, N % 256, 0, h.marker, 0, h.check, kindH h.kind, 0, 0, V, pa, pn, pc⟩) rfl).set 3 (.int .i64 h.time) (ds := MCells ⟨ctx, 3, N % 256, h.time, h.marker, 0, h.check, kindH h.kind, 0, 0, V, pa, pn, pc⟩) rfl).set 5 _ rfl)
  have HT8 := zqd (show CBlk (w.heap.size + 1 + 1) 85 (MCells zeroM) w8 by
   rw [hw8]
   exact (((HTQ.out.other _ _ (by omega)).other _ _ (by omega)).other _ _ (by omega)).other _ _ (by omega))
  have HG8 := zqd (show Gr w w8 by
   rw [hw8]
   exact gr_setCell (gr_setCell (gr_setCell (gr_setCell HGQ.out (by omega) _ _) (by omega) _ _) (by omega) _ _) (by omega) _ _)
  clear hw8 x2 x4 x3 x5 f2 f4 f3 f5 HXQ HHQ HTQ HGQ
  obtain ⟨Y, hY⟩ : ∃ Y : Sml, Y = ⟨ctx, 3, N % 256, h.time, h.marker, h.id, h.check, kindH h.kind, 0, 0, V, pa, pn, pc⟩ := ⟨_, rfl⟩
  have HY := zqd (show CBlk gx 85 (MCells Y) w8 by rw [hY]; exact HX8.out)
  have HOKY := zqd (show SmlOk Y by rw [hY]; exact ⟨HC.out, hpn, .inl (by rw [HK.out]; exact fld_udp _ _ _ _ _ _ _ _ _ _ _ _ (.inr (.inr rfl)) (.inr rfl) HUD.out (in_mod 256 (by omega)) (in_mk HM.out.2.2.2.1.1 HM.out.2.2.2.1.2) (in_mk HM.out.1.1 HM.out.1.2) (in_mk HID.out.1 HID.out.2) (by rw [← HVV.out]; exact value_rng 3 _))⟩)
  have HYA := zqd (show Y.a = pa ∧ Y.n = pn ∧ Y.c = pc by rw [hY]; exact ⟨rfl, rfl, rfl⟩)
  clear hY
  go_wp2_with (first | (refine cblk_load rfl 85 _ rfl gx rfl HY.out Tryd.underlying85 rfl (by kernel_rfl) ?_) | (refine cblk_store rfl 85 _ _ rfl (w.heap.size + 1 + 1) (MCells Y) HT8.out rfl rfl rfl (by kernel_rfl) rfl ?_; intro w9 hb9 he9; have HB9 := zqd hb9; have HGE := zqd (show Gr w w9 by rw [← he9]; exact gr_setCells HG8.out (by omega) _ _); clear hb9 he9))
  exact bodyPost_ret (results_c0 Tryd.results42 _ _ (w.heap.size + 1 + 1) _ _ rfl HB9.out Tryd.underlying85 rfl (by kernel_rfl)) rfl ⟨Y, rfl, HOKY.out, HYA.out.1, HYA.out.2.1, HYA.out.2.2, HGE.out⟩
theorem parts_any (s : Snd) (ctx F : Int) (h : Hdr) (pa : Option Addr) (pn pc : Nat) (w : World) (hF : F = 1 ∨ F = 2 ∨ F = 3 ∨ F = 4 ∨ F = 5) (hv : validH h = true) (hd : dynB s.str s.fol = true) (hp : h.kind = 1 → s.str = 0 ∧ s.fol = 0) (hc : inB ctx 15 = true) (hpn : pn ≤ 1500) :
  Calls Tryd.prog 42 #[SVal s, .int .i64 ctx, .int .i64 F, HVal h, .slice pa pn pc] w (PartsPost pa pn pc w) := by
 rcases hF with rfl | rfl | rfl | rfl | rfl
 ·exact parts_tiny s ctx h pa pn pc w hv hd hp hc hpn
 ·exact parts_short s ctx h pa pn pc w hv hd hp hc hpn
 ·exact parts_long s ctx h pa pn pc w hv hd hp hc hpn
 ·exact parts_refr s ctx h pa pn pc w hv hd hp hc hpn
 ·exact parts_full s ctx h pa pn pc w hv hd hp hc hpn
end Go.Proofs.YtlnkofpcidngoaaDoor