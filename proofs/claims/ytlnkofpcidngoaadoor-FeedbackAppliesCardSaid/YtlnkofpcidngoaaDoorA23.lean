/- Layer 8 (format), the reference: packets in parts that are valid, the format of a refresh. -/
import Derived.Test.YtlnkofpcidngoaaDoorA0
import Derived.Test.YtlnkofpcidngoaaDoorA21
import Derived.Test.YtlnkofpcidngoaaDoorA22
namespace Go.Proofs.YtlnkofpcidngoaaDoor
open Go.ChangeShapes Go.WideShapes Go.ChangeAt Go.RowKit
set_option maxRecDepth 100000 in
set_option maxHeartbeats 4000000 in
theorem svalid_refr (s : Sml) (w : World) (hx : inB s.ctx 15 = true) (hp : s.n ≤ 1500) (hway : BigOk s) (hf : s.fmt = 4) : Calls Tryd.prog 64 #[MVal s] w fun e w' => e = .returned (.bool true) ∧ Gr w w' := by
 have HF5 := zqd hf
 clear hf
 have HX := zqd hx
 have HWAY := zqd hway
 have hf16 : 1 ≤ s.fmt ∧ s.fmt ≤ 6 := by have := hway.fmt; omega
 obtain ⟨hf1, hf6⟩ := hf16
 clear hx hway
 go_enter Tryd.func64, Tryd.ntmps64
 go_upto_region 1 with (fail)
 obtain ⟨w1, hw1⟩ : ∃ y, y = w.alloc (.cells (MCells s).toArray 85) := ⟨_, rfl⟩
 have hb1 : CBlk w.heap.size 85 (MCells s) w1 := by rw [hw1]; exact CBlk.new _ _ _
 have hg1 : Gr w w1 := by rw [hw1]; exact Gr.alloc _ _
 simp only [MCells] at hw1
 rw [← hw1]
 have c0 := hb1.at 0 rfl
 have c1 := hb1.at 1 rfl
 have c10 := hb1.at 25 rfl
 have HB1 := zqd hb1
 have HG1 := zqd hg1
 clear hw1 hb1 hg1
 have d1 : decide (s.fmt < 1) = false := by simpa using hf1
 have d2 : decide (6 < s.fmt) = false := by simpa using hf6
 have d3 : decide (1500 < (s.n : Int)) = false := by simp; omega
 go_upto_region 3 with (go_at_call 88; ((with_reducible refine (in8_yes HX.out rfl _).mono ?_)); rintro e w' ⟨rfl, rfl⟩)
 clear c0 c10 d1 d2 d3
 have hf4 : 4 ≤ s.fmt ∧ s.fmt ≤ 5 := by have := HWAY.out.fmt; omega
 obtain ⟨hf4, hf5⟩ := hf4
 have e6 : (s.fmt == 6) = false := by simp; omega
 have c2 : w1.cell? ⟨w.heap.size, 2, none⟩ = some (.int .i64 0) := by have := HB1.out.at 2 rfl; rwa [HWAY.out.num] at this
 have c3 : w1.cell? ⟨w.heap.size, 3, none⟩ = some (.int .i64 0) := by have := HB1.out.at 3 rfl; rwa [HWAY.out.tim] at this
 have c4 : w1.cell? ⟨w.heap.size, 4, none⟩ = some (.int .i64 0) := by have := HB1.out.at 4 rfl; rwa [HWAY.out.mar] at this
 have c5 : w1.cell? ⟨w.heap.size, 5, none⟩ = some (.int .i64 0) := by have := HB1.out.at 5 rfl; rwa [HWAY.out.idn] at this
 have c6 : w1.cell? ⟨w.heap.size, 6, none⟩ = some (.int .i64 0) := by have := HB1.out.at 6 rfl; rwa [HWAY.out.udp] at this
 have HBo := zqd HWAY.out
 clear HWAY
 go_upto_region 9 with (fail)
 clear c2 c3 c4 c5 c6
 have HRH := zqd (show w1.rangeAt w.heap.size 7 (HCells s.hd) from HB1.out.rng 7 _ (by
  intro j v hv
  rcases j with _ | _ | _ | _ | _ | _ | _ | _ | _ | _ | _ | _ | _ | _ | _ | j
  all_goals first | exact hv | (simp at hv)))
 have HZ := zqd (show CBlk w1.heap.size 49 [.int .i64 0, .int .i64 0, .int .i64 0, .int .i64 0, .int .i64 0, .int .i64 0, .int .i64 0, .int .i64 0, .int .i64 0, .int .i64 0, .int .i64 0, .int .i64 0, .int .i64 0, .int .i64 0, .int .i64 0] (w1.alloc (.cells #[.int .i64 0, .int .i64 0, .int .i64 0, .int .i64 0, .int .i64 0, .int .i64 0, .int .i64 0, .int .i64 0, .int .i64 0, .int .i64 0, .int .i64 0, .int .i64 0, .int .i64 0, .int .i64 0, .int .i64 0] 49)) from CBlk.new _ _ _)
 go_upto_region 10 with (first | (refine rng_load rfl 49 _ rfl w.heap.size 7 rfl (HCells s.hd) HRH.out Tryd.underlying49 rfl (by kernel_rfl) ?_) | (refine cblk_store rfl 49 _ _ rfl w1.heap.size (HCells s.hd) HZ.out rfl rfl rfl (by kernel_rfl) rfl ?_; intro w9 hb9 he9; have HB9 := zqd hb9; have HG9 := zqd (show Gr w1 w9 by rw [← he9]; exact gr_setCells (Gr.alloc _ _) (Nat.le_refl _) _ _); clear hb9 he9))
 clear HZ HRH c1
 have HSM := zqd (HB1.out.kept HG9.out)
 have HGG := zqd (HG1.out.trans HG9.out)
 clear HB1 HG1 HG9
 have HK := zqd (valid_all HBo.out.hd).1
 have heD : ∀ u, (binOp .neq 43 (.agg #[.int .i64 0, .int .i64 0]) (.agg #[.int .i64 0, .int .i64 0])).run Tryd.prog u = .ok (.bool false) u := run_neqD0
 have hrng : ∀ u, CBlk w.heap.size 85 (MCells s) u → u.rangeAt w.heap.size 22 [.int .i64 s.str, .int .i64 s.fol] := fun u hu => hu.rng 22 _ (by
  intro j v hv
  rcases j with _ | _ | j
  ·exact hv
  ·exact hv
  ·simp at hv)
 have HRNG := zqd hrng
 clear hrng
 rcases HK.out with hk | hk
 ·have hkb : (s.hd.kind == 1) = true := by rw [hk]; rfl
  have HD0 := zqd (HBo.out.plain hk)
  clear hk
  go_upto_region 12 with (first | (refine cblk_load rfl 49 _ rfl w1.heap.size rfl HB9.out Tryd.underlying49 rfl (by kernel_rfl) ?_) | (go_at_call 60; ((with_reducible refine (rvalid_is HBo.out.hd w9).mono ?_)); rintro e w10 ⟨rfl, hg10⟩; have HG10 := zqd hg10; have HR10 := zqd (HRNG.out w10 (HSM.out.kept hg10)); clear hg10) | (refine rng_load rfl 43 _ rfl w.heap.size 22 rfl [.int .i64 s.str, .int .i64 s.fol] HR10.out Tryd.underlying43 rfl (by kernel_rfl) ?_) | (go_at_call 76; ((with_reducible refine (rdyn_is HBo.out.dyn w10).mono ?_)); rintro e w11 ⟨rfl, hg11⟩; have HG11 := zqd (HG10.out.trans hg11); have k0 := (HB9.out.kept HG11.out).at 0 rfl; have k24 := (HSM.out.kept HG11.out).at 24 rfl; have HR11 := zqd (show w11.rangeAt w.heap.size 22 [.int .i64 0, .int .i64 0] by have := HRNG.out w11 (HSM.out.kept HG11.out); rwa [HD0.out.1, HD0.out.2] at this); clear hg11) | (go_at_call 76; ((with_reducible refine (rdyn_is HBo.out.dyn w10).mono ?_)); rintro e w11 ⟨rfl, hg11⟩; have HG11 := zqd (HG10.out.trans hg11); have k0 := (HB9.out.kept HG11.out).at 0 rfl; have k24 := (HSM.out.kept HG11.out).at 24 rfl; clear hg11) | (refine rng_load rfl 43 _ rfl w.heap.size 22 rfl [.int .i64 0, .int .i64 0] HR11.out Tryd.underlying43 rfl (by kernel_rfl) ?_) | (go_at_call 88; ((with_reducible refine (in8_yes HBo.out.chk rfl _).mono ?_)); rintro e w' ⟨rfl, rfl⟩))
  clear k0 k24 heD hkb
  have HE11 := zqd (HGG.out.trans HG11.out)
  have hc1 : ∀ u, Gr w11 u → u.cell? ⟨w.heap.size, 1, none⟩ = some (.int .i64 s.fmt) := fun u hu => (HSM.out.kept (HG11.out.trans hu)).at 1 rfl
  have HB11 := zqd (HB9.out.kept HG11.out)
  have e5 : (s.fmt == 5) = false := by rw [HF5.out]; rfl
  have hc0 : ∀ u, Gr w11 u → u.cell? ⟨w1.heap.size, 0, none⟩ = some (.int .i64 s.hd.kind) := fun u hu => (HB11.out.kept hu).at 0 rfl
  have HBK := zqd (fun u (hu : Gr w11 u) => show HBlk w1.heap.size s.hd u from HB11.out.kept hu)
  have HST := zqd (show ∀ u, Calls Tryd.prog 77 #[HVal s.hd] u fun e w' => e = .returned (.agg #[.int .i64 s.hd.kind, .int .i64 0, .int .i64 0, .int .i64 0, .int .i64 0, .int .i64 0, .int .i64 0, .int .i64 0, .int .i64 0, .int .i64 0, .int .i64 0, .int .i64 0, .int .i64 0, .int .i64 0, .int .i64 0]) ∧ Gr u w' from fun u => rstat_is (HBo.out.stat HF5.out) u)
  have heH : ∀ u, (binOp .eql 49 (.agg #[.int .i64 s.hd.kind, .int .i64 0, .int .i64 0, .int .i64 0, .int .i64 0, .int .i64 0, .int .i64 0, .int .i64 0, .int .i64 0, .int .i64 0, .int .i64 0, .int .i64 0, .int .i64 0, .int .i64 0, .int .i64 0]) (.agg #[.int .i64 s.hd.kind, .int .i64 0, .int .i64 0, .int .i64 0, .int .i64 0, .int .i64 0, .int .i64 0, .int .i64 0, .int .i64 0, .int .i64 0, .int .i64 0, .int .i64 0, .int .i64 0, .int .i64 0, .int .i64 0])).run Tryd.prog u = .ok (.bool true) u := fun u => by
   have := run_eqH (kindH s.hd.kind) (kindH s.hd.kind) u
   rwa [eqH_refl] at this
  refine Sched.wp_region_sched 11 [] [] (by kernel_rfl) (by kernel_rfl) ?_
  simp only [List.take_succ_cons, List.take_zero, List.drop_succ_cons, List.drop_zero]
  repeat (first | ((first | ((with_reducible refine Sched.walk1_no ?_ ?_ (fun K hK => ?_)); (focus rfl); (focus rfl)) | ((with_reducible refine Sched.walk1_gr ?_ ?_ ?_ (fun K hK => ?_)); (focus rfl); (focus rfl); (focus rfl); apply Exists.intro; refine ⟨fun w1 hw1 => ?_, ?_⟩; (focus (go_simp; (try go_ints); (try (simp only [IntWalk.iteOmega]; go_simp)); first | done | (with_reducible rfl) | (with_reducible exact ⟨rfl, rfl⟩))))); simp only [Act.put, zqa, zqb, zqc]; refine hK _ ?_; clear hK K))
  refine Sched.walk1_gr rfl rfl rfl (fun K hK => ?_)
  refine ⟨HVal s.hd, fun w1 hw1 => (HBK.out w1 hw1).load _ rfl rfl, ?_⟩
  simp only [Act.put, zqa, zqb, zqc]
  refine hK _ ?_
  clear hK K
  repeat (first | ((first | ((with_reducible refine Sched.walk1_no ?_ ?_ (fun K hK => ?_)); (focus rfl); (focus rfl)) | ((with_reducible refine Sched.walk1_gr ?_ ?_ ?_ (fun K hK => ?_)); (focus rfl); (focus rfl); (focus rfl); apply Exists.intro; refine ⟨fun w1 hw1 => ?_, ?_⟩; (focus (go_simp; (try go_ints); (try (simp only [IntWalk.iteOmega]; go_simp)); first | done | (go_at_call 77; (with_reducible exact HST.out _)) | (with_reducible rfl) | (with_reducible exact ⟨rfl, rfl⟩))))); simp only [Act.put, zqa, zqb, zqc]; refine hK _ ?_; clear hK K))
  refine Sched.walk1_nil ?_
  intro wq hwq
  repeat (first | (refine Sched.walk2_no rfl (fun K hK => ?_); simp only [Act.put, zqa, zqb, zqc]; refine hK _ ?_; clear hK K) | (refine Sched.walk2_go rfl (fun K hK => ?_); go_simp; (try go_ints); (try (simp only [IntWalk.iteOmega]; go_simp)); (refine hK _ _ ?_; clear hK K)))
  refine Sched.walk2_nil ?_
  have HQ := zqd (HE11.out.trans hwq)
  clear hwq hc1 hc0 heH
  go_wp2_with fail
  go_ret
  exact ⟨rfl, HQ.out⟩
 ·have hkb : (s.hd.kind == 1) = false := by rw [hk]; rfl
  clear hk
  go_upto_region 12 with (first | (refine cblk_load rfl 49 _ rfl w1.heap.size rfl HB9.out Tryd.underlying49 rfl (by kernel_rfl) ?_) | (go_at_call 60; ((with_reducible refine (rvalid_is HBo.out.hd w9).mono ?_)); rintro e w10 ⟨rfl, hg10⟩; have HG10 := zqd hg10; have HR10 := zqd (HRNG.out w10 (HSM.out.kept hg10)); clear hg10) | (refine rng_load rfl 43 _ rfl w.heap.size 22 rfl [.int .i64 s.str, .int .i64 s.fol] HR10.out Tryd.underlying43 rfl (by kernel_rfl) ?_) | (go_at_call 76; ((with_reducible refine (rdyn_is HBo.out.dyn w10).mono ?_)); rintro e w11 ⟨rfl, hg11⟩; have HG11 := zqd (HG10.out.trans hg11); have k0 := (HB9.out.kept HG11.out).at 0 rfl; have k24 := (HSM.out.kept HG11.out).at 24 rfl; have HR11 := zqd (show w11.rangeAt w.heap.size 22 [.int .i64 0, .int .i64 0] by have := HRNG.out w11 (HSM.out.kept HG11.out); rwa [HD0.out.1, HD0.out.2] at this); clear hg11) | (go_at_call 76; ((with_reducible refine (rdyn_is HBo.out.dyn w10).mono ?_)); rintro e w11 ⟨rfl, hg11⟩; have HG11 := zqd (HG10.out.trans hg11); have k0 := (HB9.out.kept HG11.out).at 0 rfl; have k24 := (HSM.out.kept HG11.out).at 24 rfl; clear hg11) | (refine rng_load rfl 43 _ rfl w.heap.size 22 rfl [.int .i64 0, .int .i64 0] HR11.out Tryd.underlying43 rfl (by kernel_rfl) ?_) | (go_at_call 88; ((with_reducible refine (in8_yes HBo.out.chk rfl _).mono ?_)); rintro e w' ⟨rfl, rfl⟩))
  clear k0 k24 heD hkb
  have HE11 := zqd (HGG.out.trans HG11.out)
  have hc1 : ∀ u, Gr w11 u → u.cell? ⟨w.heap.size, 1, none⟩ = some (.int .i64 s.fmt) := fun u hu => (HSM.out.kept (HG11.out.trans hu)).at 1 rfl
  have HB11 := zqd (HB9.out.kept HG11.out)
  have e5 : (s.fmt == 5) = false := by rw [HF5.out]; rfl
  have hc0 : ∀ u, Gr w11 u → u.cell? ⟨w1.heap.size, 0, none⟩ = some (.int .i64 s.hd.kind) := fun u hu => (HB11.out.kept hu).at 0 rfl
  have HBK := zqd (fun u (hu : Gr w11 u) => show HBlk w1.heap.size s.hd u from HB11.out.kept hu)
  have HST := zqd (show ∀ u, Calls Tryd.prog 77 #[HVal s.hd] u fun e w' => e = .returned (.agg #[.int .i64 s.hd.kind, .int .i64 0, .int .i64 0, .int .i64 0, .int .i64 0, .int .i64 0, .int .i64 0, .int .i64 0, .int .i64 0, .int .i64 0, .int .i64 0, .int .i64 0, .int .i64 0, .int .i64 0, .int .i64 0]) ∧ Gr u w' from fun u => rstat_is (HBo.out.stat HF5.out) u)
  have heH : ∀ u, (binOp .eql 49 (.agg #[.int .i64 s.hd.kind, .int .i64 0, .int .i64 0, .int .i64 0, .int .i64 0, .int .i64 0, .int .i64 0, .int .i64 0, .int .i64 0, .int .i64 0, .int .i64 0, .int .i64 0, .int .i64 0, .int .i64 0, .int .i64 0]) (.agg #[.int .i64 s.hd.kind, .int .i64 0, .int .i64 0, .int .i64 0, .int .i64 0, .int .i64 0, .int .i64 0, .int .i64 0, .int .i64 0, .int .i64 0, .int .i64 0, .int .i64 0, .int .i64 0, .int .i64 0, .int .i64 0])).run Tryd.prog u = .ok (.bool true) u := fun u => by
   have := run_eqH (kindH s.hd.kind) (kindH s.hd.kind) u
   rwa [eqH_refl] at this
  refine Sched.wp_region_sched 11 [] [] (by kernel_rfl) (by kernel_rfl) ?_
  simp only [List.take_succ_cons, List.take_zero, List.drop_succ_cons, List.drop_zero]
  repeat (first | ((first | ((with_reducible refine Sched.walk1_no ?_ ?_ (fun K hK => ?_)); (focus rfl); (focus rfl)) | ((with_reducible refine Sched.walk1_gr ?_ ?_ ?_ (fun K hK => ?_)); (focus rfl); (focus rfl); (focus rfl); apply Exists.intro; refine ⟨fun w1 hw1 => ?_, ?_⟩; (focus (go_simp; (try go_ints); (try (simp only [IntWalk.iteOmega]; go_simp)); first | done | (with_reducible rfl) | (with_reducible exact ⟨rfl, rfl⟩))))); simp only [Act.put, zqa, zqb, zqc]; refine hK _ ?_; clear hK K))
  refine Sched.walk1_gr rfl rfl rfl (fun K hK => ?_)
  refine ⟨HVal s.hd, fun w1 hw1 => (HBK.out w1 hw1).load _ rfl rfl, ?_⟩
  simp only [Act.put, zqa, zqb, zqc]
  refine hK _ ?_
  clear hK K
  repeat (first | ((first | ((with_reducible refine Sched.walk1_no ?_ ?_ (fun K hK => ?_)); (focus rfl); (focus rfl)) | ((with_reducible refine Sched.walk1_gr ?_ ?_ ?_ (fun K hK => ?_)); (focus rfl); (focus rfl); (focus rfl); apply Exists.intro; refine ⟨fun w1 hw1 => ?_, ?_⟩; (focus (go_simp; (try go_ints); (try (simp only [IntWalk.iteOmega]; go_simp)); first | done | (go_at_call 77; (with_reducible exact HST.out _)) | (with_reducible rfl) | (with_reducible exact ⟨rfl, rfl⟩))))); simp only [Act.put, zqa, zqb, zqc]; refine hK _ ?_; clear hK K))
  refine Sched.walk1_nil ?_
  intro wq hwq
  repeat (first | (refine Sched.walk2_no rfl (fun K hK => ?_); simp only [Act.put, zqa, zqb, zqc]; refine hK _ ?_; clear hK K) | (refine Sched.walk2_go rfl (fun K hK => ?_); go_simp; (try go_ints); (try (simp only [IntWalk.iteOmega]; go_simp)); (refine hK _ _ ?_; clear hK K)))
  refine Sched.walk2_nil ?_
  have HQ := zqd (HE11.out.trans hwq)
  clear hwq hc1 hc0 heH
  go_wp2_with fail
  go_ret
  exact ⟨rfl, HQ.out⟩
theorem svalid_yes (s : Sml) (w : World) (hs : SmlOk s) : Calls Tryd.prog 64 #[MVal s] w fun e w' => e = .returned (.bool true) ∧ Gr w w' := by
 obtain ⟨h1, h2, h3⟩ := hs
 rcases h3 with h | h | h
 ·exact svalid_small s w h1 h2 h
 ·rcases h.fmt with h4 | h5
  ·exact svalid_refr s w h1 h2 h h4
  ·exact svalid_full s w h1 h2 h h5
 ·exact svalid_raw s w h1 h2 h
end Go.Proofs.YtlnkofpcidngoaaDoor