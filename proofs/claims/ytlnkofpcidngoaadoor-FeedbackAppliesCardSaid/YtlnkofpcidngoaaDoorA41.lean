/- Layer 9 (compressor), the reference: parts. -/
import Derived.Test.YtlnkofpcidngoaaDoorA0
import Derived.Test.YtlnkofpcidngoaaDoorA40
import Derived.Test.YtlnkofpcidngoaaDoorA20
import Derived.Test.YtlnkofpcidngoaaDoorA8
import Derived.Test.YtlnkofpcidngoaaDoorA22
import Derived.Test.YtlnkofpcidngoaaDoorA11
namespace Go.Proofs.YtlnkofpcidngoaaDoor
open Go.ChangeShapes Go.WideShapes Go.ChangeAt Go.RowKit
def refH (h : Hdr) : Hdr := ⟨h.kind, h.tos, h.id, h.fixed, h.ttl, 0, 0, 0, 0, h.check, h.marker, h.type, h.seq, h.time, 0⟩
theorem refH_rest {h : Hdr} (hr : restB h = true) : restB (refH h) = true := by
 unfold restB at *
 cases hk : (h.kind == 1)
 ·have hk2 : ((refH h).kind == 1) = false := hk
  rw [hk] at hr
  rw [hk2]
  simp only [Bool.false_eq_true, if_false, Bool.and_eq_true] at hr ⊢
  exact ⟨hr.1, rfl⟩
 ·have hk2 : ((refH h).kind == 1) = true := hk
  rw [hk] at hr
  rw [hk2]
  simp only [if_true, Bool.and_eq_true] at hr ⊢
  exact ⟨hr.1, rfl⟩
theorem refH_valid {h : Hdr} (hv : validH h = true) : validH (refH h) = true := by
 simp only [validH, commonB, Bool.and_eq_true] at hv ⊢
 obtain ⟨h0, ⟨⟨⟨⟨⟨⟨⟨⟨h1, h2⟩, h3⟩, h4⟩, h5⟩, h6⟩, h7⟩, h8⟩, h9⟩, hr⟩ := hv
 exact ⟨h0, ⟨⟨⟨⟨⟨⟨⟨⟨h1, h2⟩, h3⟩, rfl⟩, rfl⟩, h6⟩, h7⟩, rfl⟩, rfl⟩, refH_rest hr⟩
theorem refH_stat (h : Hdr) : statH (refH h) = kindH h.kind := rfl
def PartsPost (pa : Option Addr) (pn pc : Nat) (w : World) (e : Ending) (w' : World) : Prop := ∃ m : Sml, e = .returned (MVal m) ∧ SmlOk m ∧ m.a = pa ∧ m.n = pn ∧ m.c = pc ∧ Gr w w'
theorem low16_rng (x : Int) : 0 ≤ lowS 16 x ∧ lowS 16 x ≤ 65535 := by
 unfold lowS
 rw [if_pos (by decide), show (2 : Int) ^ (16 : Int).toNat = 65536 by decide]
 omega
theorem num_rng (h : Hdr) : 0 ≤ numH h ∧ numH h ≤ 65535 := by
 unfold numH
 split
 ·exact low16_rng h.seq
 ·exact low16_rng h.id
theorem cblk_tmid {P : Program} {o : Oper} {a : Act} {w : World} {K : Act → World → Prop} (ty : TypeId) (x y : Operand) (ho : o.op = .store ty x y) (g off : Nat) (ds : List Value) {t : TypeId} {cs cs' : List Value} (hb : CBlk g t cs w) (hl : off + ds.length ≤ cs.length) (hs : setM cs off ds = cs')
  (hx : a.eval x = .pointer (some ⟨g, off, none⟩)) (hy : a.eval y = .agg ds.toArray) (hi : (P.info? ty).map (·.size) = some ds.toArray.size) (h1 : ds.all (·.oneCell') = true)
  (h : ∀ w9, CBlk g t cs' w9 → w.setCells g off ds = w9 → K (a.put o.dst undef) w9) : Sched.tq P o a w K :=
 tq_store ty x y ho g off ds.toArray hx hy (hb.there (by simpa using hl)) hi (all_oneCell_toArray (List.all_eq_true.1 h1)) (h _ (by
  have := heap_setCells ds off w cs hb
  unfold CBlk
  rw [this, hs]) rfl)
theorem value_is {h : Hdr} {f V : Int} (hV : sumV (sizeF f) (headL h) = V) (w : World) (hv : validH h = true) : Calls Tryd.prog 67 #[HVal h, .int .i64 f] w fun e w' => e = .returned (.int .i64 V) ∧ Gr w w' := hV ▸ value_yes h f w hv
def zeroM : Sml := ⟨0, 0, 0, 0, 0, 0, 0, kindH 0, 0, 0, 0, none, 0, 0⟩
set_option maxRecDepth 100000 in
set_option maxHeartbeats 4000000 in
theorem parts_full (s : Snd) (ctx : Int) (h : Hdr) (pa : Option Addr) (pn pc : Nat) (w : World) (hv : validH h = true) (hd : dynB s.str s.fol = true) (hp : h.kind = 1 → s.str = 0 ∧ s.fol = 0) (hc : inB ctx 15 = true) (hpn : pn ≤ 1500) :
  Calls Tryd.prog 42 #[SVal s, .int .i64 ctx, .int .i64 5, HVal h, .slice pa pn pc] w (PartsPost pa pn pc w) := by
 obtain ⟨V, hV⟩ : ∃ V, sumV (sizeF 5) (headL h) = V := ⟨_, rfl⟩
 have HVV := zqd hV
 have HV := zqd hv
 have HD := zqd hd
 have HP := zqd hp
 have HC := zqd hc
 obtain ⟨X, hX⟩ : ∃ X : Sml, X = ⟨ctx, 5, 0, 0, 0, 0, 0, kindH 0, 0, 0, V, pa, pn, pc⟩ := ⟨_, rfl⟩
 have HX0 := zqd hX
 clear hV hv hd hp hc hX
 go_enter Tryd.func42, Tryd.ntmps42
 go_upto_region 1 with (fail)
 obtain ⟨w1, hw1⟩ : ∃ y, y = ((w.alloc (.cells (SCells s).toArray 46)).alloc (.cells (HCells h).toArray 49)).alloc (.cells (MCells zeroM).toArray 85) := ⟨_, rfl⟩
 have h3 := blocks3 w (.cells (SCells s).toArray 46) (.cells (HCells h).toArray 49) (.cells (MCells zeroM).toArray 85)
 rw [← hw1] at h3
 have HS1 := zqd (show CBlk w.heap.size 46 (SCells s) w1 from h3.1)
 have HH1 := zqd (show CBlk (w.heap.size + 1) 49 (HCells h) w1 from h3.2.1)
 have HT1 := zqd (show CBlk (w.heap.size + 1 + 1) 85 (MCells zeroM) w1 from h3.2.2)
 have HG1 := zqd (show Gr w w1 by rw [hw1]; exact (Gr.alloc _ _).trans ((Gr.alloc _ _).trans (Gr.alloc _ _)))
 simp only [SCells, HCells, MCells, zeroM, kindH] at hw1
 first | rw [← hw1] | (go_show; fail)
 clear hw1 h3
 go_wp2_with (refine cblk_load rfl 49 _ rfl (w.heap.size + 1) rfl HH1.out Tryd.underlying49 rfl (by kernel_rfl) ?_)
 refine (value_is HVV.out w1 HV.out).mono ?_
 rintro e w2 ⟨rfl, hg2⟩
 have HS2 := zqd (HS1.out.kept hg2)
 have HH2 := zqd (HH1.out.kept hg2)
 have HT2 := zqd (HT1.out.kept hg2)
 have HG2 := zqd (HG1.out.trans hg2)
 have hlt := HT2.out.lt
 clear hg2 HS1 HH1 HT1 HG1
 obtain ⟨wz, hwz⟩ : ∃ y, y = w2.alloc (.cells (MCells zeroM).toArray 85) := ⟨_, rfl⟩
 have HZ := zqd (show CBlk w2.heap.size 85 (MCells zeroM) wz by rw [hwz]; exact CBlk.new _ _ _)
 have HGZ := zqd (show Gr w2 wz by rw [hwz]; exact Gr.alloc _ _)
 simp only [MCells, zeroM, kindH] at hwz
 go_upto_region 2 with (first | rw [← hwz]; refine cblk_store rfl 85 _ _ rfl w2.heap.size (MCells X) HZ.out rfl rfl (by rw [HX0.out]; rfl) (by kernel_rfl) rfl ?_; intro w3 hb9 he9; have HX3 := zqd hb9; have HG3 := zqd (show Gr w2 w3 by rw [← he9]; exact gr_setCells HGZ.out (Nat.le_refl _) _ _); clear hb9 he9)
 have HS3 := zqd (HS2.out.kept HG3.out)
 have HH3 := zqd (HH2.out.kept HG3.out)
 have HT3 := zqd (HT2.out.kept HG3.out)
 have HGG := zqd (HG2.out.trans HG3.out)
 rw [HX0.out] at HX3
 have hgx : w.heap.size + 1 + 1 < w2.heap.size := hlt
 obtain ⟨gx, hgg⟩ : ∃ g, w2.heap.size = g := ⟨_, rfl⟩
 rw [hgg] at HX3 hgx
 rw [hgg]
 clear HZ HGZ hwz hgg HS2 HH2 HT2 HG2 HG3 hlt HX0
 go_upto_region 3 with (fail)
 have HHK := zqd (fun u (hu : Gr w3 u) => (HH3.out.kept hu).rng 0 (HCells h) (fun j v hv => by rw [Nat.zero_add]; exact hv))
 refine Sched2.wp_region_sched (fun u => CBlk w.heap.size 46 (SCells s) u) [1, 2, 5] [] [4, 6] true (fun u hu => HS3.out.kept hu) (by kernel_rfl) (by kernel_rfl) ?_
 repeat (first | (refine Sched2.walk1_ord rfl ?_) | ((first | (refine Sched2.walk1_no rfl rfl rfl (fun K hK => ?_)) | (refine Sched2.walk1_gr rfl rfl rfl rfl (fun K hK => ?_); apply Exists.intro; refine ⟨fun w1 hw1 => ?_, ?_⟩; (focus (go_simp; (try go_ints); (try (simp only [IntWalk.iteOmega]; go_simp)); first | done | (with_reducible rfl) | (with_reducible exact ⟨rfl, rfl⟩)))) | (refine Sched2.walk1_late rfl rfl rfl rfl (fun K hK => ?_); apply Exists.intro; refine ⟨fun w1 hw1 => ?_, ?_⟩; (focus (go_simp; (try go_ints); (try (simp only [IntWalk.iteOmega]; go_simp)); first | done | (with_reducible rfl) | (with_reducible exact ⟨rfl, rfl⟩))))); simp only [Act.put, zqa, zqb, zqc]; refine hK _ ?_; clear hK K))
 refine Sched2.walk1_gr rfl rfl rfl rfl (fun K hK => ?_)
 refine ⟨HVal h, fun w1 hw1 => Sched2.gq_load_mid 49 _ rfl (w.heap.size + 1) 0 rfl (HCells h) _ (HHK.out w1 hw1) (by first | exact Tryd.underlying49 | exact Tryd.underlying43) rfl (by kernel_rfl), ?_⟩
 simp only [Act.put, zqa, zqb, zqc]
 refine hK _ ?_
 clear hK K
 repeat (first | (refine Sched2.walk1_ord rfl ?_) | ((first | (refine Sched2.walk1_no rfl rfl rfl (fun K hK => ?_)) | (refine Sched2.walk1_gr rfl rfl rfl rfl (fun K hK => ?_); apply Exists.intro; refine ⟨fun w1 hw1 => ?_, ?_⟩; (focus (go_simp; (try go_ints); (try (simp only [IntWalk.iteOmega]; go_simp)); first | done | (with_reducible rfl) | (with_reducible exact ⟨rfl, rfl⟩)))) | (refine Sched2.walk1_late rfl rfl rfl rfl (fun K hK => ?_); apply Exists.intro; refine ⟨fun w1 hw1 => ?_, ?_⟩; (focus (go_simp; (try go_ints); (try (simp only [IntWalk.iteOmega]; go_simp)); first | done | (with_reducible rfl) | (with_reducible exact ⟨rfl, rfl⟩))))); simp only [Act.put, zqa, zqb, zqc]; refine hK _ ?_; clear hK K))
 refine Sched2.walk1_late rfl rfl rfl rfl (fun K hK => ?_)
 refine ⟨DVal s.str s.fol, fun w1 hw1 => Sched2.gq_load_mid 43 _ rfl w.heap.size 6 rfl [.int .i64 s.str, .int .i64 s.fol] _ ((fun _ h => snd_dyn h) w1 hw1) (by first | exact Tryd.underlying49 | exact Tryd.underlying43) rfl (by kernel_rfl), ?_⟩
 simp only [Act.put, zqa, zqb, zqc]
 refine hK _ ?_
 clear hK K
 repeat (first | (refine Sched2.walk1_ord rfl ?_) | ((first | (refine Sched2.walk1_no rfl rfl rfl (fun K hK => ?_)) | (refine Sched2.walk1_gr rfl rfl rfl rfl (fun K hK => ?_); apply Exists.intro; refine ⟨fun w1 hw1 => ?_, ?_⟩; (focus (go_simp; (try go_ints); (try (simp only [IntWalk.iteOmega]; go_simp)); first | done | (with_reducible rfl) | (with_reducible exact ⟨rfl, rfl⟩)))) | (refine Sched2.walk1_late rfl rfl rfl rfl (fun K hK => ?_); apply Exists.intro; refine ⟨fun w1 hw1 => ?_, ?_⟩; (focus (go_simp; (try go_ints); (try (simp only [IntWalk.iteOmega]; go_simp)); first | done | (with_reducible rfl) | (with_reducible exact ⟨rfl, rfl⟩))))); simp only [Act.put, zqa, zqb, zqc]; refine hK _ ?_; clear hK K))
 refine Sched2.walk1_nil ?_
 intro wq hwq
 dsimp only [Sched.EndN, List.nil_append, List.cons_append, Act.put]
 (try simp only [zqa, zqb, zqc])
 simp only [Sched2.lasts, List.filterMap_cons, List.filterMap_nil, List.getElem?_toArray, List.getElem?_cons_succ, List.getElem?_cons_zero]
 have HXQ := zqd (HX3.out.kept hwq)
 have HSQ := zqd (HS3.out.kept hwq)
 have HTQ := zqd (HT3.out.kept hwq)
 have HGQ := zqd (HGG.out.trans hwq)
 clear hwq HX3 HS3 HH3 HT3 HGG HHK
 refine Sched2.walk2_go rfl (fun K hK => ?_)
 refine cblk_tmid (cs' := MCells ⟨ctx, 5, 0, 0, 0, 0, 0, h, 0, 0, V, pa, pn, pc⟩) 49 _ _ rfl gx 7 (HCells h) HXQ.out (by simp) rfl rfl rfl (by kernel_rfl) rfl ?_
 intro w4 hb4 he4
 have HX4 := zqd hb4
 have HS4 := zqd (show CBlk w.heap.size 46 (SCells s) w4 by rw [← he4]; exact HSQ.out.puts _ _ (by omega))
 have HT4 := zqd (show CBlk (w.heap.size + 1 + 1) 85 (MCells zeroM) w4 by rw [← he4]; exact HTQ.out.puts _ _ (by omega))
 have HG4 := zqd (show Gr w w4 by rw [← he4]; exact gr_setCells HGQ.out (by omega) _ _)
 clear hb4 he4 HXQ HSQ HTQ HGQ
 refine hK _ _ (.inr HS4.out) ?_
 clear hK K
 dsimp only [Act.put]
 refine Sched2.walk2_go rfl (fun K hK => ?_)
 refine cblk_tmid (cs' := MCells ⟨ctx, 5, 0, 0, 0, 0, 0, h, s.str, s.fol, V, pa, pn, pc⟩) 43 _ _ rfl gx 22 [.int .i64 s.str, .int .i64 s.fol] HX4.out (by simp) rfl rfl rfl (by kernel_rfl) rfl ?_
 intro w5 hb5 he5
 have HX5 := zqd hb5
 have HT5 := zqd (show CBlk (w.heap.size + 1 + 1) 85 (MCells zeroM) w5 by rw [← he5]; exact HT4.out.puts _ _ (by omega))
 have HG5 := zqd (show Gr w w5 by rw [← he5]; exact gr_setCells HG4.out (by omega) _ _)
 clear hb5 he5 HX4 HS4 HT4 HG4
 refine hK _ _ (.inl ⟨rfl, rfl⟩) ?_
 clear hK K
 dsimp only [Act.put]
 refine Sched2.walk2_nil ?_
 obtain ⟨Y, hY⟩ : ∃ Y : Sml, Y = ⟨ctx, 5, 0, 0, 0, 0, 0, h, s.str, s.fol, V, pa, pn, pc⟩ := ⟨_, rfl⟩
 have HY := zqd (show CBlk gx 85 (MCells Y) w5 by rw [hY]; exact HX5.out)
 have HOKY := zqd (show SmlOk Y by rw [hY]; exact ⟨HC.out, hpn, .inr (.inl ⟨.inr rfl, rfl, rfl, rfl, rfl, rfl, HV.out, HD.out, HP.out, by rw [← HVV.out]; exact value_rng 5 _, (fun e => by cases e)⟩)⟩)
 have HYA := zqd (show Y.a = pa ∧ Y.n = pn ∧ Y.c = pc by rw [hY]; exact ⟨rfl, rfl, rfl⟩)
 clear hY
 go_wp2_with (first | (refine cblk_load rfl 85 _ rfl gx rfl HY.out Tryd.underlying85 rfl (by kernel_rfl) ?_) | (refine cblk_store rfl 85 _ _ rfl (w.heap.size + 1 + 1) (MCells Y) HT5.out rfl rfl rfl (by kernel_rfl) rfl ?_; intro w9 hb9 he9; have HB9 := zqd hb9; have HGE := zqd (show Gr w w9 by rw [← he9]; exact gr_setCells HG5.out (by omega) _ _); clear hb9 he9))
 exact bodyPost_ret (results_c0 Tryd.results42 _ _ (w.heap.size + 1 + 1) _ _ rfl HB9.out Tryd.underlying85 rfl (by kernel_rfl)) rfl ⟨Y, rfl, HOKY.out, HYA.out.1, HYA.out.2.1, HYA.out.2.2, HGE.out⟩
theorem in_mod {N : Int} (m : Int) (hm : 0 < m) : inB (N % m) (m - 1) = true := by
 unfold inB
 have h1 := Int.emod_nonneg N (show m ≠ 0 by omega)
 have h2 := Int.emod_lt_of_pos N hm
 rw [Bool.and_eq_true, decide_eq_true_eq, decide_eq_true_eq]
 omega
theorem in_mk {n m : Int} (h1 : 0 ≤ n) (h2 : n ≤ m) : inB n m = true := by
 unfold inB
 rw [Bool.and_eq_true, decide_eq_true_eq, decide_eq_true_eq]
 exact ⟨h1, h2⟩
theorem limT1 (k : Int) : limT 1 k = 0 := by unfold limT; split <;> rfl
theorem limM1 (k : Int) : limM 1 k = 0 := by unfold limM; split <;> rfl
theorem limI1 (k : Int) : limI 1 k = 0 := by unfold limI; split <;> rfl
set_option maxRecDepth 100000 in
set_option maxHeartbeats 4000000 in
theorem parts_refr (s : Snd) (ctx : Int) (h : Hdr) (pa : Option Addr) (pn pc : Nat) (w : World) (hv : validH h = true) (hd : dynB s.str s.fol = true) (hp : h.kind = 1 → s.str = 0 ∧ s.fol = 0) (hc : inB ctx 15 = true) (hpn : pn ≤ 1500) :
  Calls Tryd.prog 42 #[SVal s, .int .i64 ctx, .int .i64 4, HVal h, .slice pa pn pc] w (PartsPost pa pn pc w) := by
 obtain ⟨V, hV⟩ : ∃ V, sumV (sizeF 4) (headL h) = V := ⟨_, rfl⟩
 have HVV := zqd hV
 have HV := zqd hv
 have HD := zqd hd
 have HP := zqd hp
 have HC := zqd hc
 obtain ⟨X, hX⟩ : ∃ X : Sml, X = ⟨ctx, 4, 0, 0, 0, 0, 0, kindH 0, 0, 0, V, pa, pn, pc⟩ := ⟨_, rfl⟩
 have HX0 := zqd hX
 clear hV hv hd hp hc hX
 go_enter Tryd.func42, Tryd.ntmps42
 go_upto_region 1 with (fail)
 obtain ⟨w1, hw1⟩ : ∃ y, y = ((w.alloc (.cells (SCells s).toArray 46)).alloc (.cells (HCells h).toArray 49)).alloc (.cells (MCells zeroM).toArray 85) := ⟨_, rfl⟩
 have h3 := blocks3 w (.cells (SCells s).toArray 46) (.cells (HCells h).toArray 49) (.cells (MCells zeroM).toArray 85)
 rw [← hw1] at h3
 have HS1 := zqd (show CBlk w.heap.size 46 (SCells s) w1 from h3.1)
 have HH1 := zqd (show CBlk (w.heap.size + 1) 49 (HCells h) w1 from h3.2.1)
 have HT1 := zqd (show CBlk (w.heap.size + 1 + 1) 85 (MCells zeroM) w1 from h3.2.2)
 have HG1 := zqd (show Gr w w1 by rw [hw1]; exact (Gr.alloc _ _).trans ((Gr.alloc _ _).trans (Gr.alloc _ _)))
 simp only [SCells, HCells, MCells, zeroM, kindH] at hw1
 first | rw [← hw1] | (go_show; fail)
 clear hw1 h3
 go_wp2_with (refine cblk_load rfl 49 _ rfl (w.heap.size + 1) rfl HH1.out Tryd.underlying49 rfl (by kernel_rfl) ?_)
 refine (value_is HVV.out w1 HV.out).mono ?_
 rintro e w2 ⟨rfl, hg2⟩
 have HS2 := zqd (HS1.out.kept hg2)
 have HH2 := zqd (HH1.out.kept hg2)
 have HT2 := zqd (HT1.out.kept hg2)
 have HG2 := zqd (HG1.out.trans hg2)
 have hlt := HT2.out.lt
 clear hg2 HS1 HH1 HT1 HG1
 obtain ⟨wz, hwz⟩ : ∃ y, y = w2.alloc (.cells (MCells zeroM).toArray 85) := ⟨_, rfl⟩
 have HZ := zqd (show CBlk w2.heap.size 85 (MCells zeroM) wz by rw [hwz]; exact CBlk.new _ _ _)
 have HGZ := zqd (show Gr w2 wz by rw [hwz]; exact Gr.alloc _ _)
 simp only [MCells, zeroM, kindH] at hwz
 go_upto_region 2 with (first | rw [← hwz]; refine cblk_store rfl 85 _ _ rfl w2.heap.size (MCells X) HZ.out rfl rfl (by rw [HX0.out]; rfl) (by kernel_rfl) rfl ?_; intro w3 hb9 he9; have HX3 := zqd hb9; have HG3 := zqd (show Gr w2 w3 by rw [← he9]; exact gr_setCells HGZ.out (Nat.le_refl _) _ _); clear hb9 he9)
 have HS3 := zqd (HS2.out.kept HG3.out)
 have HH3 := zqd (HH2.out.kept HG3.out)
 have HT3 := zqd (HT2.out.kept HG3.out)
 have HGG := zqd (HG2.out.trans HG3.out)
 rw [HX0.out] at HX3
 have hgx : w.heap.size + 1 + 1 < w2.heap.size := hlt
 obtain ⟨gx, hgg⟩ : ∃ g, w2.heap.size = g := ⟨_, rfl⟩
 rw [hgg] at HX3 hgx
 rw [hgg]
 clear HZ HGZ hwz hgg HS2 HH2 HT2 HG2 HG3 hlt HX0
 go_upto_region 3 with (fail)
 have HHK := zqd (fun u (hu : Gr w3 u) => (HH3.out.kept hu).rng 0 (HCells h) (fun j v hv => by rw [Nat.zero_add]; exact hv))
 refine Sched2.wp_region_sched (fun u => CBlk w.heap.size 46 (SCells s) u) [1, 2, 5] [] [4, 6] true (fun u hu => HS3.out.kept hu) (by kernel_rfl) (by kernel_rfl) ?_
 repeat (first | (refine Sched2.walk1_ord rfl ?_) | ((first | (refine Sched2.walk1_no rfl rfl rfl (fun K hK => ?_)) | (refine Sched2.walk1_gr rfl rfl rfl rfl (fun K hK => ?_); apply Exists.intro; refine ⟨fun w1 hw1 => ?_, ?_⟩; (focus (go_simp; (try go_ints); (try (simp only [IntWalk.iteOmega]; go_simp)); first | done | (with_reducible rfl) | (with_reducible exact ⟨rfl, rfl⟩)))) | (refine Sched2.walk1_late rfl rfl rfl rfl (fun K hK => ?_); apply Exists.intro; refine ⟨fun w1 hw1 => ?_, ?_⟩; (focus (go_simp; (try go_ints); (try (simp only [IntWalk.iteOmega]; go_simp)); first | done | (with_reducible rfl) | (with_reducible exact ⟨rfl, rfl⟩))))); simp only [Act.put, zqa, zqb, zqc]; refine hK _ ?_; clear hK K))
 refine Sched2.walk1_gr rfl rfl rfl rfl (fun K hK => ?_)
 refine ⟨HVal h, fun w1 hw1 => Sched2.gq_load_mid 49 _ rfl (w.heap.size + 1) 0 rfl (HCells h) _ (HHK.out w1 hw1) (by first | exact Tryd.underlying49 | exact Tryd.underlying43) rfl (by kernel_rfl), ?_⟩
 simp only [Act.put, zqa, zqb, zqc]
 refine hK _ ?_
 clear hK K
 repeat (first | (refine Sched2.walk1_ord rfl ?_) | ((first | (refine Sched2.walk1_no rfl rfl rfl (fun K hK => ?_)) | (refine Sched2.walk1_gr rfl rfl rfl rfl (fun K hK => ?_); apply Exists.intro; refine ⟨fun w1 hw1 => ?_, ?_⟩; (focus (go_simp; (try go_ints); (try (simp only [IntWalk.iteOmega]; go_simp)); first | done | (with_reducible rfl) | (with_reducible exact ⟨rfl, rfl⟩)))) | (refine Sched2.walk1_late rfl rfl rfl rfl (fun K hK => ?_); apply Exists.intro; refine ⟨fun w1 hw1 => ?_, ?_⟩; (focus (go_simp; (try go_ints); (try (simp only [IntWalk.iteOmega]; go_simp)); first | done | (with_reducible rfl) | (with_reducible exact ⟨rfl, rfl⟩))))); simp only [Act.put, zqa, zqb, zqc]; refine hK _ ?_; clear hK K))
 refine Sched2.walk1_late rfl rfl rfl rfl (fun K hK => ?_)
 refine ⟨DVal s.str s.fol, fun w1 hw1 => Sched2.gq_load_mid 43 _ rfl w.heap.size 6 rfl [.int .i64 s.str, .int .i64 s.fol] _ ((fun _ h => snd_dyn h) w1 hw1) (by first | exact Tryd.underlying49 | exact Tryd.underlying43) rfl (by kernel_rfl), ?_⟩
 simp only [Act.put, zqa, zqb, zqc]
 refine hK _ ?_
 clear hK K
 repeat (first | (refine Sched2.walk1_ord rfl ?_) | ((first | (refine Sched2.walk1_no rfl rfl rfl (fun K hK => ?_)) | (refine Sched2.walk1_gr rfl rfl rfl rfl (fun K hK => ?_); apply Exists.intro; refine ⟨fun w1 hw1 => ?_, ?_⟩; (focus (go_simp; (try go_ints); (try (simp only [IntWalk.iteOmega]; go_simp)); first | done | (with_reducible rfl) | (with_reducible exact ⟨rfl, rfl⟩)))) | (refine Sched2.walk1_late rfl rfl rfl rfl (fun K hK => ?_); apply Exists.intro; refine ⟨fun w1 hw1 => ?_, ?_⟩; (focus (go_simp; (try go_ints); (try (simp only [IntWalk.iteOmega]; go_simp)); first | done | (with_reducible rfl) | (with_reducible exact ⟨rfl, rfl⟩))))); simp only [Act.put, zqa, zqb, zqc]; refine hK _ ?_; clear hK K))
 refine Sched2.walk1_nil ?_
 intro wq hwq
 dsimp only [Sched.EndN, List.nil_append, List.cons_append, Act.put]
 (try simp only [zqa, zqb, zqc])
 simp only [Sched2.lasts, List.filterMap_cons, List.filterMap_nil, List.getElem?_toArray, List.getElem?_cons_succ, List.getElem?_cons_zero]
 have HXQ := zqd (HX3.out.kept hwq)
 have HSQ := zqd (HS3.out.kept hwq)
 have HTQ := zqd (HT3.out.kept hwq)
 have HGQ := zqd (HGG.out.trans hwq)
 clear hwq HX3 HS3 HH3 HT3 HGG HHK
 refine Sched2.walk2_go rfl (fun K hK => ?_)
 refine cblk_tmid (cs' := MCells ⟨ctx, 4, 0, 0, 0, 0, 0, h, 0, 0, V, pa, pn, pc⟩) 49 _ _ rfl gx 7 (HCells h) HXQ.out (by simp) rfl rfl rfl (by kernel_rfl) rfl ?_
 intro w4 hb4 he4
 have HX4 := zqd hb4
 have HS4 := zqd (show CBlk w.heap.size 46 (SCells s) w4 by rw [← he4]; exact HSQ.out.puts _ _ (by omega))
 have HT4 := zqd (show CBlk (w.heap.size + 1 + 1) 85 (MCells zeroM) w4 by rw [← he4]; exact HTQ.out.puts _ _ (by omega))
 have HG4 := zqd (show Gr w w4 by rw [← he4]; exact gr_setCells HGQ.out (by omega) _ _)
 clear hb4 he4 HXQ HSQ HTQ HGQ
 refine hK _ _ (.inr HS4.out) ?_
 clear hK K
 dsimp only [Act.put]
 refine Sched2.walk2_go rfl (fun K hK => ?_)
 refine cblk_tmid (cs' := MCells ⟨ctx, 4, 0, 0, 0, 0, 0, h, s.str, s.fol, V, pa, pn, pc⟩) 43 _ _ rfl gx 22 [.int .i64 s.str, .int .i64 s.fol] HX4.out (by simp) rfl rfl rfl (by kernel_rfl) rfl ?_
 intro w5 hb5 he5
 have HX5 := zqd hb5
 have HT5 := zqd (show CBlk (w.heap.size + 1 + 1) 85 (MCells zeroM) w5 by rw [← he5]; exact HT4.out.puts _ _ (by omega))
 have HG5 := zqd (show Gr w w5 by rw [← he5]; exact gr_setCells HG4.out (by omega) _ _)
 clear hb5 he5 HX4 HS4 HT4 HG4
 refine hK _ _ (.inl ⟨rfl, rfl⟩) ?_
 clear hK K
 dsimp only [Act.put]
 refine Sched2.walk2_nil ?_
 have y12 := HX5.out.at 12 rfl
 have y13 := HX5.out.at 13 rfl
 have y14 := HX5.out.at 14 rfl
 have y15 := HX5.out.at 15 rfl
 have y21 := HX5.out.at 21 rfl
 have f12 := HX5.out.fz 12
 have f13 := HX5.out.fz 13
 have f14 := HX5.out.fz 14
 have f15 := HX5.out.fz 15
 have f21 := HX5.out.fz 21
 go_upto_region 6 with (fail)
 obtain ⟨w6, hw6⟩ : ∃ y, y = ((((w5.setCell ⟨gx, 12, none⟩ (.int .i64 0)).setCell ⟨gx, 13, none⟩ (.int .i64 0)).setCell ⟨gx, 14, none⟩ (.int .i64 0)).setCell ⟨gx, 15, none⟩ (.int .i64 0)).setCell ⟨gx, 21, none⟩ (.int .i64 0) := ⟨_, rfl⟩
 first | rw [← hw6] | (go_show; fail)
 have HX6 := zqd (show CBlk gx 85 (MCells ⟨ctx, 4, 0, 0, 0, 0, 0, refH h, s.str, s.fol, V, pa, pn, pc⟩) w6 by
  rw [hw6]
  exact ((((HX5.out.set 12 _ rfl).set 13 _ rfl).set 14 _ rfl).set 15 _ rfl).set 21 _ rfl)
 have HT6 := zqd (show CBlk (w.heap.size + 1 + 1) 85 (MCells zeroM) w6 by
  rw [hw6]
  exact ((((HT5.out.other _ _ (by omega)).other _ _ (by omega)).other _ _ (by omega)).other _ _ (by omega)).other _ _ (by omega))
 have HG6 := zqd (show Gr w w6 by
  rw [hw6]
  exact gr_setCell (gr_setCell (gr_setCell (gr_setCell (gr_setCell HG5.out (by omega) _ _) (by omega) _ _) (by omega) _ _) (by omega) _ _) (by omega) _ _)
 clear hw6 y12 y13 y14 y15 y21 f12 f13 f14 f15 f21 HX5 HT5 HG5
 obtain ⟨Y, hY⟩ : ∃ Y : Sml, Y = ⟨ctx, 4, 0, 0, 0, 0, 0, refH h, s.str, s.fol, V, pa, pn, pc⟩ := ⟨_, rfl⟩
 have HY := zqd (show CBlk gx 85 (MCells Y) w6 by rw [hY]; exact HX6.out)
 have HOKY := zqd (show SmlOk Y by rw [hY]; exact ⟨HC.out, hpn, .inr (.inl ⟨.inl rfl, rfl, rfl, rfl, rfl, rfl, refH_valid HV.out, HD.out, HP.out, by rw [← HVV.out]; exact value_rng 4 _, (fun _ => refH_stat h)⟩)⟩)
 have HYA := zqd (show Y.a = pa ∧ Y.n = pn ∧ Y.c = pc by rw [hY]; exact ⟨rfl, rfl, rfl⟩)
 clear hY
 go_wp2_with (first | (refine cblk_load rfl 85 _ rfl gx rfl HY.out Tryd.underlying85 rfl (by kernel_rfl) ?_) | (refine cblk_store rfl 85 _ _ rfl (w.heap.size + 1 + 1) (MCells Y) HT6.out rfl rfl rfl (by kernel_rfl) rfl ?_; intro w9 hb9 he9; have HB9 := zqd hb9; have HGE := zqd (show Gr w w9 by rw [← he9]; exact gr_setCells HG6.out (by omega) _ _); clear hb9 he9))
 exact bodyPost_ret (results_c0 Tryd.results42 _ _ (w.heap.size + 1 + 1) _ _ rfl HB9.out Tryd.underlying85 rfl (by kernel_rfl)) rfl ⟨Y, rfl, HOKY.out, HYA.out.1, HYA.out.2.1, HYA.out.2.2, HGE.out⟩
set_option maxRecDepth 100000 in
set_option maxHeartbeats 4000000 in
theorem parts_tiny (s : Snd) (ctx : Int) (h : Hdr) (pa : Option Addr) (pn pc : Nat) (w : World) (hv : validH h = true) (hd : dynB s.str s.fol = true) (hp : h.kind = 1 → s.str = 0 ∧ s.fol = 0) (hc : inB ctx 15 = true) (hpn : pn ≤ 1500) :
  Calls Tryd.prog 42 #[SVal s, .int .i64 ctx, .int .i64 1, HVal h, .slice pa pn pc] w (PartsPost pa pn pc w) := by
 obtain ⟨V, hV⟩ : ∃ V, sumV (sizeF 1) (headL h) = V := ⟨_, rfl⟩
 have HVV := zqd hV
 have HV := zqd hv
 have HD := zqd hd
 have HP := zqd hp
 have HC := zqd hc
 obtain ⟨X, hX⟩ : ∃ X : Sml, X = ⟨ctx, 1, 0, 0, 0, 0, 0, kindH 0, 0, 0, V, pa, pn, pc⟩ := ⟨_, rfl⟩
 have HX0 := zqd hX
 clear hV hv hd hp hc hX
 go_enter Tryd.func42, Tryd.ntmps42
 go_upto_region 1 with (fail)
 obtain ⟨w1, hw1⟩ : ∃ y, y = ((w.alloc (.cells (SCells s).toArray 46)).alloc (.cells (HCells h).toArray 49)).alloc (.cells (MCells zeroM).toArray 85) := ⟨_, rfl⟩
 have h3 := blocks3 w (.cells (SCells s).toArray 46) (.cells (HCells h).toArray 49) (.cells (MCells zeroM).toArray 85)
 rw [← hw1] at h3
 have HS1 := zqd (show CBlk w.heap.size 46 (SCells s) w1 from h3.1)
 have HH1 := zqd (show CBlk (w.heap.size + 1) 49 (HCells h) w1 from h3.2.1)
 have HT1 := zqd (show CBlk (w.heap.size + 1 + 1) 85 (MCells zeroM) w1 from h3.2.2)
 have HG1 := zqd (show Gr w w1 by rw [hw1]; exact (Gr.alloc _ _).trans ((Gr.alloc _ _).trans (Gr.alloc _ _)))
 simp only [SCells, HCells, MCells, zeroM, kindH] at hw1
 first | rw [← hw1] | (go_show; fail)
 clear hw1 h3
 go_wp2_with (refine cblk_load rfl 49 _ rfl (w.heap.size + 1) rfl HH1.out Tryd.underlying49 rfl (by kernel_rfl) ?_)
 refine (value_is HVV.out w1 HV.out).mono ?_
 rintro e w2 ⟨rfl, hg2⟩
 have HS2 := zqd (HS1.out.kept hg2)
 have HH2 := zqd (HH1.out.kept hg2)
 have HT2 := zqd (HT1.out.kept hg2)
 have HG2 := zqd (HG1.out.trans hg2)
 have hlt := HT2.out.lt
 clear hg2 HS1 HH1 HT1 HG1
 obtain ⟨wz, hwz⟩ : ∃ y, y = w2.alloc (.cells (MCells zeroM).toArray 85) := ⟨_, rfl⟩
 have HZ := zqd (show CBlk w2.heap.size 85 (MCells zeroM) wz by rw [hwz]; exact CBlk.new _ _ _)
 have HGZ := zqd (show Gr w2 wz by rw [hwz]; exact Gr.alloc _ _)
 simp only [MCells, zeroM, kindH] at hwz
 go_upto_region 2 with (first | rw [← hwz]; refine cblk_store rfl 85 _ _ rfl w2.heap.size (MCells X) HZ.out rfl rfl (by rw [HX0.out]; rfl) (by kernel_rfl) rfl ?_; intro w3 hb9 he9; have HX3 := zqd hb9; have HG3 := zqd (show Gr w2 w3 by rw [← he9]; exact gr_setCells HGZ.out (Nat.le_refl _) _ _); clear hb9 he9)
 have HS3 := zqd (HS2.out.kept HG3.out)
 have HH3 := zqd (HH2.out.kept HG3.out)
 have HT3 := zqd (HT2.out.kept HG3.out)
 have HGG := zqd (HG2.out.trans HG3.out)
 rw [HX0.out] at HX3
 have hgx : w.heap.size + 1 + 1 < w2.heap.size := hlt
 obtain ⟨gx, hgg⟩ : ∃ g, w2.heap.size = g := ⟨_, rfl⟩
 rw [hgg] at HX3 hgx
 rw [hgg]
 clear HZ HGZ hwz hgg HS2 HH2 HT2 HG2 HG3 hlt HX0
 have HKD := zqd (valid_all HV.out).1
 have HUD := zqd (show 0 ≤ h.check ∧ h.check ≤ 65535 from (valid_all HV.out).2.2.2.2.2.2.1)
 have hcc : ∀ u, CBlk (w.heap.size + 1) 49 (HCells h) u → u.cell? ⟨w.heap.size + 1, 9, none⟩ = some (.int .i64 h.check) := fun u hu => hu.at 9 rfl
 have hk0 : ∀ u, Gr w3 u → u.cell? ⟨w.heap.size + 1, 0, none⟩ = some (.int .i64 h.kind) := fun u hu => (HH3.out.kept hu).at 0 rfl
 go_upto_region 7 with (fail)
 refine Sched2.wp_region_sched (fun u => CBlk (w.heap.size + 1) 49 (HCells h) u) [2, 3, 7] [] [6, 8] true (fun u hu => HH3.out.kept hu) (by kernel_rfl) (by kernel_rfl) ?_
 repeat (first | (refine Sched2.walk1_ord rfl ?_) | ((first | (refine Sched2.walk1_no rfl rfl rfl (fun K hK => ?_)) | (refine Sched2.walk1_gr rfl rfl rfl rfl (fun K hK => ?_); apply Exists.intro; refine ⟨fun w1 hw1 => ?_, ?_⟩; (focus (go_simp; (try go_ints); (try (simp only [IntWalk.iteOmega]; go_simp)); first | done | (with_reducible rfl) | (with_reducible exact ⟨rfl, rfl⟩)))) | (refine Sched2.walk1_late rfl rfl rfl rfl (fun K hK => ?_); apply Exists.intro; refine ⟨fun w1 hw1 => ?_, ?_⟩; (focus (go_simp; (try go_ints); (try (simp only [IntWalk.iteOmega]; go_simp)); first | done | (with_reducible rfl) | (with_reducible exact ⟨rfl, rfl⟩))))); simp only [Act.put, zqa, zqb, zqc]; refine hK _ ?_; clear hK K))
 refine Sched2.walk1_nil ?_
 intro wq hwq
 have HXQ := zqd (HX3.out.kept hwq)
 have HHQ := zqd (HH3.out.kept hwq)
 have HTQ := zqd (HT3.out.kept hwq)
 have HGQ := zqd (HGG.out.trans hwq)
 clear hwq hcc hk0 HX3 HH3 HS3 HT3 HGG
 have x7 := HXQ.out.at 7 rfl
 have x6 := HXQ.out.at 6 rfl
 have f7 := HXQ.out.fz 7
 have f6 := HXQ.out.fz 6
 dsimp only [Sched.EndN, List.nil_append, List.cons_append, Act.put]
 (try simp only [zqa, zqb, zqc])
 simp only [Sched2.lasts, List.filterMap_cons, List.filterMap_nil, List.getElem?_toArray, List.getElem?_cons_succ, List.getElem?_cons_zero]
 repeat (first | (refine Sched2.walk2_no rfl (fun K hK => ?_); simp only [Act.put, zqa, zqb, zqc]; refine hK _ ?_; clear hK K) | (refine Sched2.walk2_go rfl (fun K hK => ?_); go_simp; (try go_ints); (try (simp only [IntWalk.iteOmega]; go_simp)); first | (refine hK _ _ (by first | exact .inl ⟨rfl, rfl⟩ | exact .inr ((HHQ.out.other _ _ (by omega)))) ?_; clear hK K) | fail))
 refine Sched2.walk2_nil ?_
 obtain ⟨w4, hw4⟩ : ∃ y, y = (wq.setCell ⟨gx, 7, none⟩ (.int .i64 h.kind)).setCell ⟨gx, 6, none⟩ (.int .i64 h.check) := ⟨_, rfl⟩
 first | rw [← hw4] | (go_show; fail)
 have HX4 := zqd (show CBlk gx 85 (MCells ⟨ctx, 1, 0, 0, 0, 0, h.check, kindH h.kind, 0, 0, V, pa, pn, pc⟩) w4 by rw [hw4]; exact (HXQ.out.set 7 (.int .i64 h.kind) (ds := MCells ⟨ctx, 1, 0, 0, 0, 0, 0, kindH h.kind, 0, 0, V, pa, pn, pc⟩) rfl).set 6 _ rfl)
 have HH4 := zqd (show CBlk (w.heap.size + 1) 49 (HCells h) w4 by rw [hw4]; exact (HHQ.out.other _ _ (by omega)).other _ _ (by omega))
 have HT4 := zqd (show CBlk (w.heap.size + 1 + 1) 85 (MCells zeroM) w4 by rw [hw4]; exact (HTQ.out.other _ _ (by omega)).other _ _ (by omega))
 have HG4 := zqd (show Gr w w4 by rw [hw4]; exact gr_setCell (gr_setCell HGQ.out (by omega) _ _) (by omega) _ _)
 clear hw4 x7 x6 f7 f6 HXQ HHQ HTQ HGQ
 go_wp2_with (refine cblk_load rfl 49 _ rfl (w.heap.size + 1) rfl HH4.out Tryd.underlying49 rfl (by kernel_rfl) ?_)
 obtain ⟨N, hN⟩ : ∃ N, numH h = N := ⟨_, rfl⟩
 have hnr := num_rng h
 rw [hN] at hnr
 obtain ⟨n1, n2⟩ := hnr
 have HN := zqd hN
 clear hN
 refine (rnum_is HN.out w4).mono ?_
 rintro e w5 ⟨rfl, hg5⟩
 have HX5 := zqd (HX4.out.kept hg5)
 have HH5 := zqd (HH4.out.kept hg5)
 have HT5 := zqd (HT4.out.kept hg5)
 have HG5 := zqd (HG4.out.trans hg5)
 clear hg5 HX4 HH4 HT4 HG4
 have k0 := HH5.out.at 0 rfl
 have x2 := HX5.out.at 2 rfl
 have f2 := HX5.out.fz 2
 have hand : bits .and .i64 N 15 = N % 16 := and_mask N (k := 4) (by omega)
 go_upto_region 20 with (fail)
 obtain ⟨w6, hw6⟩ : ∃ y, y = w5.setCell ⟨gx, 2, none⟩ (.int .i64 (N % 16)) := ⟨_, rfl⟩
 first | rw [← hw6] | (go_show; fail)
 have HX6 := zqd (show CBlk gx 85 (MCells ⟨ctx, 1, N % 16, 0, 0, 0, h.check, kindH h.kind, 0, 0, V, pa, pn, pc⟩) w6 by rw [hw6]; exact HX5.out.set 2 _ rfl)
 have HH6 := zqd (show CBlk (w.heap.size + 1) 49 (HCells h) w6 by rw [hw6]; exact HH5.out.other _ _ (by omega))
 have HT6 := zqd (show CBlk (w.heap.size + 1 + 1) 85 (MCells zeroM) w6 by rw [hw6]; exact HT5.out.other _ _ (by omega))
 have HG6 := zqd (show Gr w w6 by rw [hw6]; exact gr_setCell HG5.out (by omega) _ _)
 clear hw6 k0 x2 f2 HX5 HH5 HT5 HG5
 obtain ⟨Y, hY⟩ : ∃ Y : Sml, Y = ⟨ctx, 1, N % 16, 0, 0, 0, h.check, kindH h.kind, 0, 0, V, pa, pn, pc⟩ := ⟨_, rfl⟩
 have HY := zqd (show CBlk gx 85 (MCells Y) w6 by rw [hY]; exact HX6.out)
 have HOKY := zqd (show SmlOk Y by rw [hY]; exact ⟨HC.out, hpn, .inl ⟨.inl rfl, HKD.out, rfl, rfl, rfl, HUD.out, in_mod 16 (by omega), by rw [limT1]; rfl, by rw [limM1]; rfl, by rw [limI1]; rfl, by rw [← HVV.out]; exact value_rng 1 _⟩⟩)
 have HYA := zqd (show Y.a = pa ∧ Y.n = pn ∧ Y.c = pc by rw [hY]; exact ⟨rfl, rfl, rfl⟩)
 clear hY
 go_wp2_with (first | (refine cblk_load rfl 85 _ rfl gx rfl HY.out Tryd.underlying85 rfl (by kernel_rfl) ?_) | (refine cblk_store rfl 85 _ _ rfl (w.heap.size + 1 + 1) (MCells Y) HT6.out rfl rfl rfl (by kernel_rfl) rfl ?_; intro w9 hb9 he9; have HB9 := zqd hb9; have HGE := zqd (show Gr w w9 by rw [← he9]; exact gr_setCells HG6.out (by omega) _ _); clear hb9 he9))
 exact bodyPost_ret (results_c0 Tryd.results42 _ _ (w.heap.size + 1 + 1) _ _ rfl HB9.out Tryd.underlying85 rfl (by kernel_rfl)) rfl ⟨Y, rfl, HOKY.out, HYA.out.1, HYA.out.2.1, HYA.out.2.2, HGE.out⟩
end Go.Proofs.YtlnkofpcidngoaaDoor