/- Layer 9 (compressor), the reference: Compress, walked. -/
import Derived.Test.YtlnkofpcidngoaaDoorA0
import Derived.Test.YtlnkofpcidngoaaDoorA26
import Derived.Test.YtlnkofpcidngoaaDoorA27
import Derived.Test.YtlnkofpcidngoaaDoorA31
import Derived.Test.YtlnkofpcidngoaaDoorA42
import Derived.Test.YtlnkofpcidngoaaDoorA12
import Derived.Test.YtlnkofpcidngoaaDoorA43
import Derived.Test.YtlnkofpcidngoaaDoorA44
import Derived.Test.YtlnkofpcidngoaaDoorA14
import Derived.Deep.CutRange
import Derived.Deep.CutBlock
namespace Go.Proofs.YtlnkofpcidngoaaDoor
open Go.ChangeShapes Go.WideShapes Go.ChangeAt Go.RowKit
set_option maxRecDepth 100000 in
set_option maxHeartbeats 8000000 in
theorem compress_any (mode W : Int) (a : Option Addr) (n c : Nat) (L : List Snd) (b : Option Addr) (bn bc : Nat) (xs : List Int) (w : World) (hr : RdC w a n c L) (hv : validC mode W L = true) (hb : Rd .u8 w b bn xs) (hb1 : 1 ≤ bn) (hb2 : bn ≤ 1500) (hbc : bn ≤ bc) :
  Calls Tryd.prog 14 #[CVal mode W a n c, .slice b bn bc] w (CmpPost mode W L (parseF xs) w) := by
 obtain ⟨F, hF⟩ : ∃ F, parseF xs = F := ⟨_, rfl⟩
 rw [hF]
 have HF := zqd hF
 have HV := zqd hv
 have HB := zqd hb
 have hsh := (valid_parts hv).1
 have HSH := zqd hsh
 have HW1 := zqd (shaped_yes hsh).2.2
 have HWR := zqd (show 0 ≤ W ∧ W ≤ W by have := (shaped_yes hsh).2.2; omega)
 obtain rfl : n = 16 := by rw [← hr.1]; exact (valid_parts hv).2.1
 have HR := zqd hr
 have HSM := zqd (show ∀ t ∈ L, t.n ≤ 1000 from fun t ht => by
  obtain ⟨k, hk⟩ := List.getElem?_of_mem ht
  have h1 := (valid_small hv hk).1
  have h2 := (hr.2.2.2.2.2 t ht).1
  omega)
 clear hF hv hb hsh hr
 go_enter Tryd.func14, Tryd.ntmps14
 go_upto_region 1 with (fail)
 obtain ⟨w1, hw1⟩ : ∃ y, y = (w.alloc (.cells #[.int .i64 mode, .int .i64 W, .slice a 16 c] 24)).alloc (.cells #[.int .i64 0, .int .i64 0, .slice none 0 0] 24) := ⟨_, rfl⟩
 have HC1 := zqd (show CBlk w.heap.size 24 [.int .i64 mode, .int .i64 W, .slice a 16 c] w1 by rw [hw1]; exact (CBlk.new _ _ _).kept (Gr.alloc _ _))
 have HZ1 := zqd (show CBlk (w.heap.size + 1) 24 [.int .i64 0, .int .i64 0, .slice none 0 0] w1 by rw [hw1]; exact heap_two _ _ _)
 have HG1 := zqd (show Gr w w1 by rw [hw1]; exact (Gr.alloc _ _).trans (Gr.alloc _ _))
 first | rw [← hw1] | (go_show; fail)
 clear hw1
 go_wp2_with (refine cblk_load rfl 24 _ rfl w.heap.size rfl HC1.out Tryd.underlying24 rfl (by kernel_rfl) ?_)
 refine (rvalid_yes mode W a 16 c L w1 (HR.out.kept HG1.out) HV.out).mono ?_
 rintro e w2 ⟨rfl, hg2⟩
 have HC2 := zqd (HC1.out.kept hg2)
 have HZ2 := zqd (HZ1.out.kept hg2)
 have HG2 := zqd (HG1.out.trans hg2)
 clear hg2 HC1 HZ1 HG1
 have hbb1 : ((bn : Int) == 0) = false := by simp; omega
 have hbb2 : decide ((1500 : Int) < (bn : Int)) = false := decide_eq_false (by omega)
 go_wp2_with (refine cblk_load rfl 24 _ rfl w.heap.size rfl HC2.out Tryd.underlying24 rfl (by kernel_rfl) ?_)
 clear hbb1 hbb2
 refine (copy_c mode W a 16 c L w2 (HR.out.kept HG2.out) (by omega) HSM.out).mono ?_
 rintro e w3 ⟨a3, c3, M, rfl, hsm, hown, hg3⟩
 obtain ⟨g3, rfl⟩ : ∃ g3, a3 = some ⟨g3, 0, none⟩ := by
  rcases hown.1.2 with ⟨hv, h0⟩ | ⟨g, cap', cur, hv, _⟩
  ·omega
  ·injection hv with e1; exact ⟨g, e1⟩
 have HSAME := zqd hsm
 have HVM := zqd (show validC mode W M = true by rw [hsm.valid]; exact HV.out)
 have HOWN3 := zqd hown
 have HB2 : w.heap.size + 1 < w2.heap.size := HZ2.out.lt
 have HC3 := zqd (HC2.out.kept hg3)
 have HZ3 := zqd (HZ2.out.kept hg3)
 have HG3 := zqd (HG2.out.trans hg3)
 obtain ⟨B, hBB⟩ : ∃ B, w2.heap.size = B := ⟨_, rfl⟩
 rw [hBB] at HOWN3 HB2
 clear hsm hown hg3 hBB HC2 HZ2 HG2
 obtain ⟨wz, hwz⟩ : ∃ y, y = w3.alloc (.cells #[.int .i64 0, .int .i64 0, .slice none 0 0] 24) := ⟨_, rfl⟩
 have HZZ := zqd (show CBlk w3.heap.size 24 [.int .i64 0, .int .i64 0, .slice none 0 0] wz by rw [hwz]; exact CBlk.new _ _ _)
 have HGZ := zqd (show Gr w3 wz by rw [hwz]; exact Gr.alloc _ _)
 have HLT3 : w.heap.size + 1 < w3.heap.size := HZ3.out.lt
 go_upto_region 6 with (first | rw [← hwz]; refine cblk_store rfl 24 _ _ rfl w3.heap.size [.int .i64 mode, .int .i64 W, .slice (some ⟨g3, 0, none⟩) 16 c3] HZZ.out rfl rfl rfl (by kernel_rfl) rfl ?_; intro w4 hb9 he9; have HO4 := zqd hb9; have HE4 := zqd (show Gr w3 w4 by rw [← he9]; exact gr_setCells HGZ.out (Nat.le_refl _) _ _); clear hb9 he9)
 have HC4 := zqd (HC3.out.kept HE4.out)
 have HZ4 := zqd (HZ3.out.kept HE4.out)
 have HG4 := zqd (HG3.out.trans HE4.out)
 have HOWN4 := zqd (HOWN3.out.stay HE4.out)
 obtain ⟨g7, hg7⟩ : ∃ g, w3.heap.size = g := ⟨_, rfl⟩
 rw [hg7] at HO4 HLT3
 rw [hg7]
 have HLOW := zqd (show (B ≤ g3 ∧ g3 < g7) ∧ ∀ t ∈ M, ∀ q, ownB t.a t.n t.c = some q → B ≤ q ∧ q < g7 by
  refine ⟨?_, fun t ht q hq => ?_⟩
  ·have h1 := own_blockG HOWN3.out.1 rfl
   have h2 := h1.2.2.2
   exact ⟨h1.2.2.1, by omega⟩
  ·have h1 := (HOWN3.out.2.1 t ht).1.lt q hq
   exact ⟨h1.1, by omega⟩)
 clear hwz HZZ HGZ hg7 HC3 HZ3 HG3 HOWN3 HE4
 go_wp2_with fail
 refine (rparse2_any b bn bc xs w4 (HB.out.kept HG4.out) hbc (by omega)).mono ?_
 rw [HF.out]
 obtain ⟨h, ys, E⟩ := F
 rintro e w5 ⟨pa, pn, pc, rfl, hpl, hpr, hg5, hfr⟩
 have HFR := zqd (show ∀ q off, pa = some ⟨q, off, none⟩ → g7 < q from fun q off he => by have := hfr q off he; have := HO4.out.lt; omega)
 clear hfr
 have HPL := zqd hpl
 have HPR := zqd hpr
 have HC5 := zqd (HC4.out.kept hg5)
 have HZ5 := zqd (HZ4.out.kept hg5)
 have HO5 := zqd (HO4.out.kept hg5)
 have HG5 := zqd (HG4.out.trans hg5)
 have HOWN5 := zqd (HOWN4.out.stay hg5)
 clear hpl hpr hg5 HC4 HZ4 HO4 HG4 HOWN4
 have HLT5 : g7 < w5.heap.size := HO5.out.lt
 obtain ⟨wz, hwz⟩ : ∃ y, y = w5.alloc (.cells (HCells (kindH 0)).toArray 49) := ⟨_, rfl⟩
 have HZZ := zqd (show CBlk w5.heap.size 49 (HCells (kindH 0)) wz by rw [hwz]; exact CBlk.new _ _ _)
 have HGZ := zqd (show Gr w5 wz by rw [hwz]; exact Gr.alloc _ _)
 simp only [HCells, kindH] at hwz
 go_upto_region 7 with (first | rw [← hwz]; refine cblk_store rfl 49 _ _ rfl w5.heap.size (HCells h) HZZ.out rfl rfl rfl (by kernel_rfl) rfl ?_; intro w6 hb9 he9; have HH6 := zqd hb9; have HE6 := zqd (show Gr w5 w6 by rw [← he9]; exact gr_setCells HGZ.out (Nat.le_refl _) _ _); clear hb9 he9)
 have HC6 := zqd (HC5.out.kept HE6.out)
 have HZ6 := zqd (HZ5.out.kept HE6.out)
 have HO6 := zqd (HO5.out.kept HE6.out)
 have HG6 := zqd (HG5.out.trans HE6.out)
 have HPR6 := zqd (HPR.out.kept HE6.out)
 have HOWN6 := zqd (HOWN5.out.stay HE6.out)
 obtain ⟨g8, hg8⟩ : ∃ g, w5.heap.size = g := ⟨_, rfl⟩
 rw [hg8] at HH6 HLT5
 rw [hg8]
 clear hwz HZZ HGZ hg8 HC5 HZ5 HO5 HG5 HOWN5 HE6 HPR
 by_cases hE : E = 0
 rotate_left
 ·have hEb : (E != 0) = true := by simpa using hE
  have HEN := zqd hE
  clear hE
  go_upto_region 8 with (fail)
  have HLTW := zqd (show w.heap.size + 1 + 1 ≤ w6.heap.size by have := HZ6.out.lt; omega)
  refine Sched.wp_region_sched 3 [] [2] (by kernel_rfl) (by kernel_rfl) ?_
  simp only [List.take_succ_cons, List.take_zero, List.drop_succ_cons, List.drop_zero]
  repeat (first | ((first | (refine Sched.walk1_no rfl rfl (fun K hK => ?_)) | (refine Sched.walk1_gr rfl rfl rfl (fun K hK => ?_); apply Exists.intro; refine ⟨fun w1 hw1 => ?_, ?_⟩; (focus (go_simp; (try go_ints); (try (simp only [IntWalk.iteOmega]; go_simp)); first | done | (with_reducible rfl) | (with_reducible exact ⟨rfl, rfl⟩))))); simp only [Act.put, zqa, zqb, zqc]; refine hK _ ?_; clear hK K) | (refine Sched.walk1_box rfl rfl ?_; apply Exists.intro; refine ⟨fun w1 hw1 => ?_, ?_⟩; (focus (go_simp; exact ⟨Gr.alloc _ _, rfl, by simp, heap_alloc_new _ _⟩))))
  (with_reducible refine Sched.walk1_gr ?_ ?_ ?_ (fun K hK => ?_)); (focus rfl); (focus rfl); (focus rfl)
  refine ⟨CVal mode W (some ⟨g3, 0, none⟩) 16 c3, fun w1 hw1 => ((HO6.out).kept hw1).load _ rfl rfl Tryd.underlying24 rfl (by kernel_rfl), ?_⟩
  simp only [Act.put, zqa, zqb, zqc]
  refine hK _ ?_
  clear hK K
  repeat (first | ((first | (refine Sched.walk1_no rfl rfl (fun K hK => ?_)) | (refine Sched.walk1_gr rfl rfl rfl (fun K hK => ?_); apply Exists.intro; refine ⟨fun w1 hw1 => ?_, ?_⟩; (focus (go_simp; (try go_ints); (try (simp only [IntWalk.iteOmega]; go_simp)); first | done | (with_reducible rfl) | (with_reducible exact ⟨rfl, rfl⟩))))); simp only [Act.put, zqa, zqb, zqc]; refine hK _ ?_; clear hK K) | (refine Sched.walk1_box rfl rfl ?_; apply Exists.intro; refine ⟨fun w1 hw1 => ?_, ?_⟩; (focus (go_simp; exact ⟨Gr.alloc _ _, rfl, by simp, heap_alloc_new _ _⟩))))
  refine Sched.walk1_new NRaw rfl rfl NRaw.stable (fun u hu => ?_) ?_
  ·go_simp
   go_at_call 34
   refine (raw_any b bn bc xs u (HB.out.kept (Gr.trans HG6.out hu)) hb2).mono ?_
   rintro e wr ⟨ar, nr, cr, yr, rfl, hr1, hr2, hro, hrg⟩
   exact ⟨_, rfl, hrg, ar, nr, cr, yr, rfl, hr1, hr2, hro⟩
  (with_reducible refine Sched.walk1_nil ?_)
  intro wq hwq
  dsimp only [Sched.EndN, List.nil_append, List.cons_append, Act.put]
  rintro lo hi v5 ⟨ar, nr, cr, yr, rfl, hr1, hr2, hro⟩ hlo - - -
  (try simp only [zqa, zqb, zqc])
  have HRO := zqd hro
  have HZQ := zqd ((HZ6.out).kept hwq)
  have HGQ := zqd (Gr.trans HG6.out hwq)
  have HOQ := zqd ((HOWN6.out).stay hwq)
  have HLO := zqd hlo
  clear hro hwq hlo
  refine Sched.walk2_go rfl (fun K hK => ?_)
  refine cblk_tstore 24 _ _ rfl (w.heap.size + 1) [.int .i64 mode, .int .i64 W, .slice (some ⟨g3, 0, none⟩) 16 c3] HZQ.out rfl rfl rfl (by kernel_rfl) rfl ?_
  intro w9 hb9 he9
  have HB9 := zqd hb9
  have HO9 := zqd (show OwnC B w9 (some ⟨g3, 0, none⟩) 16 c3 M by rw [← he9]; exact HOQ.out.but (grown_setCells (w.heap.size + 1) _ 0 _) (by simp; omega))
  have HG9 := zqd (show Gr w w9 by rw [← he9]; exact gr_setCells HGQ.out (by omega) _ _)
  have HR9 := zqd (show Rd .u8 w9 ar nr yr by rw [← he9]; exact (owni_other HRO.out (B := w.heap.size + 1 + 1) (grown_setCells (w.heap.size + 1) _ 0 _) (by omega) (by have := HLO.out; have := HGQ.out.size; have := HLTW.out; omega)).rd)
  clear hb9 he9
  refine hK _ _ ?_
  clear hK K
  dsimp only [Act.put]
  (try simp only [zqa, zqb, zqc])
  repeat (first | (refine Sched.walk2_no rfl (fun K hK => ?_); simp only [Act.put, zqa, zqb, zqc]; refine hK _ ?_; clear hK K) | (refine Sched.walk2_go rfl (fun K hK => ?_); go_simp; (try go_ints); (try (simp only [IntWalk.iteOmega]; go_simp)); (refine hK _ _ ?_; clear hK K)))
  refine Sched.walk2_nil ?_
  go_wp2_with fail
  refine bodyPost_ret (results_c2 Tryd.results14 _ _ (w.heap.size + 1) _ _ rfl HB9.out Tryd.underlying24 rfl (by kernel_rfl)) rfl ⟨_, _, M, ar, nr, cr, yr, rfl, HO9.out.rd, HVM.out, hr1, hr2, HR9.out, HG9.out, HO9.out.aboveC (by omega), (fun e => absurd e HEN.out)⟩
 subst hE
 have HHV := zqd (show validH h = true ∧ ys.length ≤ 1500 by have := parseF_ok (xs := xs) (by rw [HF.out]); rw [HF.out] at this; exact this)
 have HML := zqd (show ∀ t ∈ M, HasRef t from fun t ht => by
  obtain ⟨k, hk⟩ := List.getElem?_of_mem ht
  have h1 := (valid_parts HVM.out).2.2 k (lt_someG hk)
  rw [okAt_at hk, Bool.and_eq_true] at h1
  exact ctx_has h1.1)
 go_wp2_with (first | (refine cblk_load rfl 24 _ rfl g7 rfl HO6.out Tryd.underlying24 rfl (by kernel_rfl) ?_) | (refine cblk_load rfl 49 _ rfl g8 rfl HH6.out Tryd.underlying49 rfl (by kernel_rfl) ?_))
 refine (find_any mode W (some ⟨g3, 0, none⟩) 16 c3 M h w6 HOWN6.out.rd HML.out (by omega)).mono ?_
 rintro e w7 ⟨hg7, hcase⟩
 have HC7 := zqd (HC6.out.kept hg7)
 have HZ7 := zqd (HZ6.out.kept hg7)
 have HO7 := zqd (HO6.out.kept hg7)
 have HH7 := zqd (HH6.out.kept hg7)
 have HG7 := zqd (HG6.out.trans hg7)
 have HPR7 := zqd (HPR6.out.kept hg7)
 have HOWN7 := zqd (HOWN6.out.stay hg7)
 have HLT8 : g8 < w7.heap.size := HH7.out.lt
 clear hg7 HC6 HZ6 HO6 HH6 HG6 HPR6 HOWN6
 have HACT := zqd (same_act HSAME.out)
 rcases hcase with ⟨i, rfl, hfound⟩ | ⟨rfl, hall⟩
 rotate_left
 ·have HALL := zqd hall
  clear hall
  go_upto_region 11 with (fail)
  have HLTW := zqd (show w.heap.size + 1 + 1 ≤ w7.heap.size by have := HZ7.out.lt; omega)
  refine Sched.wp_region_sched 3 [] [2] (by kernel_rfl) (by kernel_rfl) ?_
  simp only [List.take_succ_cons, List.take_zero, List.drop_succ_cons, List.drop_zero]
  repeat (first | ((first | (refine Sched.walk1_no rfl rfl (fun K hK => ?_)) | (refine Sched.walk1_gr rfl rfl rfl (fun K hK => ?_); apply Exists.intro; refine ⟨fun w1 hw1 => ?_, ?_⟩; (focus (go_simp; (try go_ints); (try (simp only [IntWalk.iteOmega]; go_simp)); first | done | (with_reducible rfl) | (with_reducible exact ⟨rfl, rfl⟩))))); simp only [Act.put, zqa, zqb, zqc]; refine hK _ ?_; clear hK K) | (refine Sched.walk1_box rfl rfl ?_; apply Exists.intro; refine ⟨fun w1 hw1 => ?_, ?_⟩; (focus (go_simp; exact ⟨Gr.alloc _ _, rfl, by simp, heap_alloc_new _ _⟩))))
  (with_reducible refine Sched.walk1_gr ?_ ?_ ?_ (fun K hK => ?_)); (focus rfl); (focus rfl); (focus rfl)
  refine ⟨CVal mode W (some ⟨g3, 0, none⟩) 16 c3, fun w1 hw1 => ((HO7.out).kept hw1).load _ rfl rfl Tryd.underlying24 rfl (by kernel_rfl), ?_⟩
  simp only [Act.put, zqa, zqb, zqc]
  refine hK _ ?_
  clear hK K
  repeat (first | ((first | (refine Sched.walk1_no rfl rfl (fun K hK => ?_)) | (refine Sched.walk1_gr rfl rfl rfl (fun K hK => ?_); apply Exists.intro; refine ⟨fun w1 hw1 => ?_, ?_⟩; (focus (go_simp; (try go_ints); (try (simp only [IntWalk.iteOmega]; go_simp)); first | done | (with_reducible rfl) | (with_reducible exact ⟨rfl, rfl⟩))))); simp only [Act.put, zqa, zqb, zqc]; refine hK _ ?_; clear hK K) | (refine Sched.walk1_box rfl rfl ?_; apply Exists.intro; refine ⟨fun w1 hw1 => ?_, ?_⟩; (focus (go_simp; exact ⟨Gr.alloc _ _, rfl, by simp, heap_alloc_new _ _⟩))))
  refine Sched.walk1_new NRaw rfl rfl NRaw.stable (fun u hu => ?_) ?_
  ·go_simp
   go_at_call 34
   refine (raw_any b bn bc xs u (HB.out.kept (Gr.trans HG7.out hu)) hb2).mono ?_
   rintro e wr ⟨ar, nr, cr, yr, rfl, hr1, hr2, hro, hrg⟩
   exact ⟨_, rfl, hrg, ar, nr, cr, yr, rfl, hr1, hr2, hro⟩
  (with_reducible refine Sched.walk1_nil ?_)
  intro wq hwq
  dsimp only [Sched.EndN, List.nil_append, List.cons_append, Act.put]
  rintro lo hi v5 ⟨ar, nr, cr, yr, rfl, hr1, hr2, hro⟩ hlo - - -
  (try simp only [zqa, zqb, zqc])
  have HRO := zqd hro
  have HZQ := zqd ((HZ7.out).kept hwq)
  have HGQ := zqd (Gr.trans HG7.out hwq)
  have HOQ := zqd ((HOWN7.out).stay hwq)
  have HLO := zqd hlo
  clear hro hwq hlo
  refine Sched.walk2_go rfl (fun K hK => ?_)
  refine cblk_tstore 24 _ _ rfl (w.heap.size + 1) [.int .i64 mode, .int .i64 W, .slice (some ⟨g3, 0, none⟩) 16 c3] HZQ.out rfl rfl rfl (by kernel_rfl) rfl ?_
  intro w9 hb9 he9
  have HB9 := zqd hb9
  have HO9 := zqd (show OwnC B w9 (some ⟨g3, 0, none⟩) 16 c3 M by rw [← he9]; exact HOQ.out.but (grown_setCells (w.heap.size + 1) _ 0 _) (by simp; omega))
  have HG9 := zqd (show Gr w w9 by rw [← he9]; exact gr_setCells HGQ.out (by omega) _ _)
  have HR9 := zqd (show Rd .u8 w9 ar nr yr by rw [← he9]; exact (owni_other HRO.out (B := w.heap.size + 1 + 1) (grown_setCells (w.heap.size + 1) _ 0 _) (by omega) (by have := HLO.out; have := HGQ.out.size; have := HLTW.out; omega)).rd)
  clear hb9 he9
  refine hK _ _ ?_
  clear hK K
  dsimp only [Act.put]
  (try simp only [zqa, zqb, zqc])
  repeat (first | (refine Sched.walk2_no rfl (fun K hK => ?_); simp only [Act.put, zqa, zqb, zqc]; refine hK _ ?_; clear hK K) | (refine Sched.walk2_go rfl (fun K hK => ?_); go_simp; (try go_ints); (try (simp only [IntWalk.iteOmega]; go_simp)); (refine hK _ _ ?_; clear hK K)))
  refine Sched.walk2_nil ?_
  go_wp2_with fail
  refine bodyPost_ret (results_c2 Tryd.results14 _ _ (w.heap.size + 1) _ _ rfl HB9.out Tryd.underlying24 rfl (by kernel_rfl)) rfl ⟨_, _, M, ar, nr, cr, yr, rfl, HO9.out.rd, HVM.out, hr1, hr2, HR9.out, HG9.out, HO9.out.aboveC (by omega), (fun _ _ hz => absurd hz (all_act HVM.out HALL.out HACT.out))⟩
 have HFD := zqd hfound
 obtain ⟨S0, hs0, hs1⟩ := hfound
 have hi16 : i < 16 := by have := lt_someG hs0; have := (valid_parts HVM.out).2.1; omega
 have hctx : ctxB mode W S0 = true := by
  have h1 := (valid_parts HVM.out).2.2 i (lt_someG hs0)
  rw [okAt_at hs0, Bool.and_eq_true] at h1
  exact h1.1
 have hrl : S0.refs.length = S0.n := (HOWN7.out.rd.2.2.2.2.2 S0 (List.mem_of_getElem? hs0)).1
 obtain ⟨A, hA⟩ : ∃ A, S0.act = A := ⟨_, rfl⟩
 have HA := zqd hA
 have HS0 := zqd hs0
 have HI1 := zqd (show A = true → CI mode W h true S0 ∧ S0.ser ≤ S0.n ∧ 1 ≤ S0.n from fun e => by
  subst e
  rcases hs1 with ⟨h1, h2⟩ | ⟨h1, _⟩
  ·exact CI.of_act HSH.out hctx hA h2 hrl
  ·rw [hA] at h1; cases h1)
 have HI0 := zqd (show A = false → S0.n = 0 ∧ S0.ser = 0 ∧ S0.full = 0 ∧ S0.refr = 0 ∧ S0.since = 0 ∧ S0.refs = [] ∧ CI mode W h false ⟨true, W, S0.refr, S0.ser, S0.since, S0.long, S0.str, S0.fol, S0.a, S0.n, S0.c, S0.refs⟩ from fun e => CI.of_new HSH.out hctx (hA.trans e) hrl)
 have HN32 := zqd (show S0.n ≤ 32 by have := (valid_small HVM.out hs0).1; omega)
 have HRNG := zqd (Elt.rng (B := B) (n := 16) (c := c3) (M := M) ⟨HOWN7.out.1, hs0⟩)
 have x2 := HO7.out.at 2 rfl
 obtain ⟨wz, hwz⟩ : ∃ y, y = w7.alloc (.cells (SCells zeroS').toArray 46) := ⟨_, rfl⟩
 have HZZ := zqd (show CBlk w7.heap.size 46 (SCells zeroS') wz by rw [hwz]; exact CBlk.new _ _ _)
 have HGZ := zqd (show Gr w7 wz by rw [hwz]; exact Gr.alloc _ _)
 simp only [SCells, zeroS'] at hwz
 clear hs0 hs1 hctx hrl hA
 go_upto_region 13 with (first | (refine rng_load rfl 46 _ rfl g3 (i * 9) rfl (SCells S0) HRNG.out Tryd.underlying46 rfl (by kernel_rfl) ?_) | rw [← hwz]; refine cblk_store rfl 46 _ _ rfl w7.heap.size (SCells S0) HZZ.out rfl rfl rfl (by kernel_rfl) rfl ?_; intro w8 hb9 he9; have HS8 := zqd hb9; have HE8 := zqd (show Gr w7 w8 by rw [← he9]; exact gr_setCells HGZ.out (Nat.le_refl _) _ _); clear hb9 he9)
 obtain ⟨g13, hg13⟩ : ∃ g, w7.heap.size = g := ⟨_, rfl⟩
 rw [hg13] at HS8
 rw [hg13]
 have HL13 := zqd (show w7.heap.size ≤ g13 by omega)
 clear hwz HZZ HGZ x2 hg13
 have p8 := HS8.out.at 8 rfl
 go_upto_region 16 with (fail)
 obtain ⟨w9, hw9⟩ : ∃ y, y = w8.alloc (.cells (HCells (kindH 0)).toArray 49) := ⟨_, rfl⟩
 have HT9 := zqd (show CBlk w8.heap.size 49 (HCells (kindH 0)) w9 by rw [hw9]; exact CBlk.new _ _ _)
 have HS9 := zqd (show CBlk g13 46 (SCells S0) w9 by rw [hw9]; exact HS8.out.kept (Gr.alloc _ _))
 have HE9 := zqd (show Gr w7 w9 by rw [hw9]; exact HE8.out.trans (Gr.alloc _ _))
 simp only [HCells, kindH] at hw9
 first | rw [← hw9] | (go_show; fail)
 obtain ⟨g16, hg16⟩ : ∃ g, w8.heap.size = g := ⟨_, rfl⟩
 rw [hg16] at HT9
 rw [hg16]
 have HL16 := zqd (show w7.heap.size ≤ g16 ∧ g13 ≠ g16 by have h1 := HE8.out.size; have h2 := HS8.out.lt; exact ⟨by omega, by omega⟩)
 clear hw9 hg16 HS8 HE8 p8
 go_upto_if 69 with (fail)
 go_cut [] from 70 to 75 (fun wc => LstRel g13 g16 S0 w7 wc)
 case first =>
  by_cases hn0 : 0 < S0.n
  ·have hrd := HOWN7.out.rd.2.2.2.2.2 S0 (List.mem_of_getElem? HS0.out)
   obtain ⟨bb, oo, ea, -, hrow⟩ := hrd.row hn0
   obtain ⟨l0, hl0, -⟩ := hrd.get (show S0.n - 1 < S0.n by omega)
   have HK := zqd (range_gr (hrow (S0.n - 1) l0 hl0) HE9.out)
   have p8 : w9.cell? ⟨g13, 8, none⟩ = some (.slice (some ⟨bb, oo, none⟩) S0.n S0.c) := by rw [← ea]; exact HS9.out.at 8 rfl
   clear hrd ea hrow hl0
   have h32 : S0.n ≤ 32 := HN32.out
   go_wp2_with (first | (refine rng_load rfl 49 _ rfl bb (oo + (S0.n - 1) * 15) rfl (HCells l0) HK.out Tryd.underlying49 rfl (by kernel_rfl) ?_) | (refine cblk_store rfl 49 _ _ rfl g16 (HCells l0) HT9.out rfl rfl rfl (by kernel_rfl) rfl ?_; intro wl hb9 he9; have HT10 := zqd hb9; have HS10 := zqd (show CBlk g13 46 (SCells S0) wl by rw [← he9]; exact HS9.out.puts _ _ HL16.out.2); have HE10 := zqd (show Gr w7 wl by rw [← he9]; exact gr_setCells HE9.out HL16.out.1 _ _); clear hb9 he9))
   go_meet
   exact ⟨l0, HS10.out, HT10.out, HE10.out⟩
  ·go_wp2_with fail
   go_meet
   exact ⟨kindH 0, HS9.out, HT9.out, HE9.out⟩
 case rest =>
  obtain ⟨last, hs, ht, hg⟩ := hcut
  have HSa := zqd hs
  have HTa := zqd ht
  have HEa := zqd hg
  clear hs ht hg HS9 HT9 HE9
  obtain ⟨wa, hwa⟩ : ∃ y, y = wc := ⟨_, rfl⟩
  rw [← hwa] at HSa HTa HEa ⊢
  clear hwa wc
  obtain ⟨M3, hM3⟩ : ∃ b, (mode == 3) = b := ⟨_, rfl⟩
  have HM3 := zqd hM3
  clear hM3
  go_upto_region 18 with (fail)
  obtain ⟨C, hC⟩ : ∃ C, (A && M3) = C := ⟨_, rfl⟩
  have HCC := zqd hC
  clear hC
  go_cut [82] from 76 to 82 (fun v wc => v = .bool C ∧ wa = wc)
  case first =>
   have x0 := (HC7.out.kept HEa.out).at 0 rfl
   have p0 : wa.cell? ⟨g13, 0, none⟩ = some (.bool A) := by rw [← HA.out]; exact HSa.out.at 0 rfl
   have hm3 := HM3.out
   have hc := HCC.out
   cases A
   ·subst hc
    go_wp2_with fail
    go_meet
    exact ⟨rfl, rfl⟩
   ·cases M3
    ·subst hc
     go_wp2_with fail
     go_meet
     exact ⟨rfl, rfl⟩
    ·subst hc
     go_wp2_with fail
     go_meet
     exact ⟨rfl, rfl⟩
  obtain ⟨rfl, rfl⟩ := hcut
  go_upto_if 82 with (fail)
  go_cut [17] from 83 to 96 (fun v wc => SgnRel g13 g16 S0 last w7 wc)
  case first =>
   cases C
   ·go_wp2_with fail
    go_meet
    exact ⟨HSa.out, HTa.out, HEa.out⟩
   ·obtain rfl : A = true := by have := HCC.out; simp at this; exact this.1
    go_upto_region 19 with (fail)
    obtain ⟨N1, hN1⟩ : ∃ t, numH last = t := ⟨_, rfl⟩
    obtain ⟨N2, hN2⟩ : ∃ t, numH h = t := ⟨_, rfl⟩
    obtain ⟨ST, hST⟩ : ∃ t, signedS 16 N1 N2 = t := ⟨_, rfl⟩
    have HN1 := zqd hN1
    have HN2 := zqd hN2
    have HST := zqd hST
    have HHa := zqd (HH7.out.kept HEa.out)
    clear hN1 hN2 hST
    refine Sched.wp_region_sched 5 [] [] (by kernel_rfl) (by kernel_rfl) ?_
    simp only [List.take_succ_cons, List.take_zero, List.drop_succ_cons, List.drop_zero]
    repeat (first | ((first | (refine Sched.walk1_no rfl rfl (fun K hK => ?_)) | (refine Sched.walk1_gr rfl rfl rfl (fun K hK => ?_); apply Exists.intro; refine ⟨fun w1 hw1 => ?_, ?_⟩; (focus (go_simp; (try go_ints); (try (simp only [IntWalk.iteOmega]; go_simp)); first | done | (with_reducible rfl) | (with_reducible exact ⟨rfl, rfl⟩))))); simp only [Act.put, zqa, zqb, zqc]; refine hK _ ?_; clear hK K))
    (with_reducible refine Sched.walk1_gr ?_ ?_ ?_ (fun K hK => ?_)); (focus rfl); (focus rfl); (focus rfl)
    refine ⟨HVal last, fun w1 hw1 => ((HTa.out).kept hw1).load _ rfl rfl (by first | exact Tryd.underlying49 | exact Tryd.underlying46 | exact Tryd.underlying24) rfl (by kernel_rfl), ?_⟩
    simp only [Act.put, zqa, zqb, zqc]
    refine hK _ ?_
    clear hK K
    repeat (first | ((first | (refine Sched.walk1_no rfl rfl (fun K hK => ?_)) | (refine Sched.walk1_gr rfl rfl rfl (fun K hK => ?_); apply Exists.intro; refine ⟨fun w1 hw1 => ?_, ?_⟩; (focus (go_simp; (try go_ints); (try (simp only [IntWalk.iteOmega]; go_simp)); first | done | (go_at_call 15; (with_reducible exact rnum_is HN1.out _)) | (with_reducible rfl) | (with_reducible exact ⟨rfl, rfl⟩))))); simp only [Act.put, zqa, zqb, zqc]; refine hK _ ?_; clear hK K))
    (with_reducible refine Sched.walk1_gr ?_ ?_ ?_ (fun K hK => ?_)); (focus rfl); (focus rfl); (focus rfl)
    refine ⟨HVal h, fun w1 hw1 => ((HHa.out).kept hw1).load _ rfl rfl (by first | exact Tryd.underlying49 | exact Tryd.underlying46 | exact Tryd.underlying24) rfl (by kernel_rfl), ?_⟩
    simp only [Act.put, zqa, zqb, zqc]
    refine hK _ ?_
    clear hK K
    repeat (first | ((first | (refine Sched.walk1_no rfl rfl (fun K hK => ?_)) | (refine Sched.walk1_gr rfl rfl rfl (fun K hK => ?_); apply Exists.intro; refine ⟨fun w1 hw1 => ?_, ?_⟩; (focus (go_simp; (try go_ints); (try (simp only [IntWalk.iteOmega]; go_simp)); first | done | (first | (go_at_call 15; (with_reducible exact rnum_is HN2.out _)) | (go_at_call 36; (with_reducible exact gr_same (rsigned_is HST.out _)))) | (with_reducible rfl) | (with_reducible exact ⟨rfl, rfl⟩))))); simp only [Act.put, zqa, zqb, zqc]; refine hK _ ?_; clear hK K))
    (with_reducible refine Sched.walk1_nil ?_)
    intro wb hwb
    dsimp only [Sched.EndN, List.nil_append, List.cons_append, Act.put]
    (try simp only [zqa, zqb, zqc])
    repeat (first | (refine Sched.walk2_no rfl (fun K hK => ?_); simp only [Act.put, zqa, zqb, zqc]; refine hK _ ?_; clear hK K) | (refine Sched.walk2_go rfl (fun K hK => ?_); go_simp; (try go_ints); (try (simp only [IntWalk.iteOmega]; go_simp)); (refine hK _ _ ?_; clear hK K)))
    refine Sched.walk2_nil ?_
    have HEb := zqd (HEa.out.trans hwb)
    have HSb := zqd (HSa.out.kept hwb)
    have HTb := zqd (HTa.out.kept hwb)
    clear hwb HHa HEa HSa HTa
    by_cases hd1 : ST < 1
    ·go_upto_region 21 with (fail)
     have HLTW := zqd (show w.heap.size + 1 + 1 ≤ wb.heap.size by have := (HZ7.out.kept HEb.out).lt; omega)
     have HOb := zqd (HO7.out.kept HEb.out)
     have HZb := zqd (HZ7.out.kept HEb.out)
     have HGb := zqd (HG7.out.trans HEb.out)
     have HOWNb := zqd (HOWN7.out.stay HEb.out)
     refine Sched.wp_region_sched 3 [] [2] (by kernel_rfl) (by kernel_rfl) ?_
     simp only [List.take_succ_cons, List.take_zero, List.drop_succ_cons, List.drop_zero]
     repeat (first | ((first | (refine Sched.walk1_no rfl rfl (fun K hK => ?_)) | (refine Sched.walk1_gr rfl rfl rfl (fun K hK => ?_); apply Exists.intro; refine ⟨fun w1 hw1 => ?_, ?_⟩; (focus (go_simp; (try go_ints); (try (simp only [IntWalk.iteOmega]; go_simp)); first | done | (with_reducible rfl) | (with_reducible exact ⟨rfl, rfl⟩))))); simp only [Act.put, zqa, zqb, zqc]; refine hK _ ?_; clear hK K) | (refine Sched.walk1_box rfl rfl ?_; apply Exists.intro; refine ⟨fun w1 hw1 => ?_, ?_⟩; (focus (go_simp; exact ⟨Gr.alloc _ _, rfl, by simp, heap_alloc_new _ _⟩))))
     (with_reducible refine Sched.walk1_gr ?_ ?_ ?_ (fun K hK => ?_)); (focus rfl); (focus rfl); (focus rfl)
     refine ⟨CVal mode W (some ⟨g3, 0, none⟩) 16 c3, fun w1 hw1 => ((HOb.out).kept hw1).load _ rfl rfl Tryd.underlying24 rfl (by kernel_rfl), ?_⟩
     simp only [Act.put, zqa, zqb, zqc]
     refine hK _ ?_
     clear hK K
     repeat (first | ((first | (refine Sched.walk1_no rfl rfl (fun K hK => ?_)) | (refine Sched.walk1_gr rfl rfl rfl (fun K hK => ?_); apply Exists.intro; refine ⟨fun w1 hw1 => ?_, ?_⟩; (focus (go_simp; (try go_ints); (try (simp only [IntWalk.iteOmega]; go_simp)); first | done | (with_reducible rfl) | (with_reducible exact ⟨rfl, rfl⟩))))); simp only [Act.put, zqa, zqb, zqc]; refine hK _ ?_; clear hK K) | (refine Sched.walk1_box rfl rfl ?_; apply Exists.intro; refine ⟨fun w1 hw1 => ?_, ?_⟩; (focus (go_simp; exact ⟨Gr.alloc _ _, rfl, by simp, heap_alloc_new _ _⟩))))
     refine Sched.walk1_new NRaw rfl rfl NRaw.stable (fun u hu => ?_) ?_
     ·go_simp
      go_at_call 34
      refine (raw_any b bn bc xs u (HB.out.kept (Gr.trans HGb.out hu)) hb2).mono ?_
      rintro e wr ⟨ar, nr, cr, yr, rfl, hr1, hr2, hro, hrg⟩
      exact ⟨_, rfl, hrg, ar, nr, cr, yr, rfl, hr1, hr2, hro⟩
     (with_reducible refine Sched.walk1_nil ?_)
     intro wq hwq
     dsimp only [Sched.EndN, List.nil_append, List.cons_append, Act.put]
     rintro lo hi v5 ⟨ar, nr, cr, yr, rfl, hr1, hr2, hro⟩ hlo - - -
     (try simp only [zqa, zqb, zqc])
     have HRO := zqd hro
     have HZQ := zqd ((HZb.out).kept hwq)
     have HGQ := zqd (Gr.trans HGb.out hwq)
     have HOQ := zqd ((HOWNb.out).stay hwq)
     have HLO := zqd hlo
     clear hro hwq hlo
     refine Sched.walk2_go rfl (fun K hK => ?_)
     refine cblk_tstore 24 _ _ rfl (w.heap.size + 1) [.int .i64 mode, .int .i64 W, .slice (some ⟨g3, 0, none⟩) 16 c3] HZQ.out rfl rfl rfl (by kernel_rfl) rfl ?_
     intro w9 hb9 he9
     have HB9 := zqd hb9
     have HO9 := zqd (show OwnC B w9 (some ⟨g3, 0, none⟩) 16 c3 M by rw [← he9]; exact HOQ.out.but (grown_setCells (w.heap.size + 1) _ 0 _) (by simp; omega))
     have HG9 := zqd (show Gr w w9 by rw [← he9]; exact gr_setCells HGQ.out (by omega) _ _)
     have HR9 := zqd (show Rd .u8 w9 ar nr yr by rw [← he9]; exact (owni_other HRO.out (B := w.heap.size + 1 + 1) (grown_setCells (w.heap.size + 1) _ 0 _) (by omega) (by have := HLO.out; have := HGQ.out.size; have := HLTW.out; omega)).rd)
     clear hb9 he9
     refine hK _ _ ?_
     clear hK K
     dsimp only [Act.put]
     (try simp only [zqa, zqb, zqc])
     repeat (first | (refine Sched.walk2_no rfl (fun K hK => ?_); simp only [Act.put, zqa, zqb, zqc]; refine hK _ ?_; clear hK K) | (refine Sched.walk2_go rfl (fun K hK => ?_); go_simp; (try go_ints); (try (simp only [IntWalk.iteOmega]; go_simp)); (refine hK _ _ ?_; clear hK K)))
     refine Sched.walk2_nil ?_
     go_wp2_with fail
     refine bodyPost_ret (results_c2 Tryd.results14 _ _ (w.heap.size + 1) _ _ rfl HB9.out Tryd.underlying24 rfl (by kernel_rfl)) rfl ⟨_, _, M, ar, nr, cr, yr, rfl, HO9.out.rd, HVM.out, hr1, hr2, HR9.out, HG9.out, HO9.out.aboveC (by omega), (fun _ _ hz => by have := HACT.out hz S0 (List.mem_of_getElem? HS0.out); rw [HA.out] at this; cases this)⟩
    by_cases hd2 : 255 < ST
    ·go_upto_region 21 with (fail)
     have HLTW := zqd (show w.heap.size + 1 + 1 ≤ wb.heap.size by have := (HZ7.out.kept HEb.out).lt; omega)
     have HOb := zqd (HO7.out.kept HEb.out)
     have HZb := zqd (HZ7.out.kept HEb.out)
     have HGb := zqd (HG7.out.trans HEb.out)
     have HOWNb := zqd (HOWN7.out.stay HEb.out)
     refine Sched.wp_region_sched 3 [] [2] (by kernel_rfl) (by kernel_rfl) ?_
     simp only [List.take_succ_cons, List.take_zero, List.drop_succ_cons, List.drop_zero]
     repeat (first | ((first | (refine Sched.walk1_no rfl rfl (fun K hK => ?_)) | (refine Sched.walk1_gr rfl rfl rfl (fun K hK => ?_); apply Exists.intro; refine ⟨fun w1 hw1 => ?_, ?_⟩; (focus (go_simp; (try go_ints); (try (simp only [IntWalk.iteOmega]; go_simp)); first | done | (with_reducible rfl) | (with_reducible exact ⟨rfl, rfl⟩))))); simp only [Act.put, zqa, zqb, zqc]; refine hK _ ?_; clear hK K) | (refine Sched.walk1_box rfl rfl ?_; apply Exists.intro; refine ⟨fun w1 hw1 => ?_, ?_⟩; (focus (go_simp; exact ⟨Gr.alloc _ _, rfl, by simp, heap_alloc_new _ _⟩))))
     (with_reducible refine Sched.walk1_gr ?_ ?_ ?_ (fun K hK => ?_)); (focus rfl); (focus rfl); (focus rfl)
     refine ⟨CVal mode W (some ⟨g3, 0, none⟩) 16 c3, fun w1 hw1 => ((HOb.out).kept hw1).load _ rfl rfl Tryd.underlying24 rfl (by kernel_rfl), ?_⟩
     simp only [Act.put, zqa, zqb, zqc]
     refine hK _ ?_
     clear hK K
     repeat (first | ((first | (refine Sched.walk1_no rfl rfl (fun K hK => ?_)) | (refine Sched.walk1_gr rfl rfl rfl (fun K hK => ?_); apply Exists.intro; refine ⟨fun w1 hw1 => ?_, ?_⟩; (focus (go_simp; (try go_ints); (try (simp only [IntWalk.iteOmega]; go_simp)); first | done | (with_reducible rfl) | (with_reducible exact ⟨rfl, rfl⟩))))); simp only [Act.put, zqa, zqb, zqc]; refine hK _ ?_; clear hK K) | (refine Sched.walk1_box rfl rfl ?_; apply Exists.intro; refine ⟨fun w1 hw1 => ?_, ?_⟩; (focus (go_simp; exact ⟨Gr.alloc _ _, rfl, by simp, heap_alloc_new _ _⟩))))
     refine Sched.walk1_new NRaw rfl rfl NRaw.stable (fun u hu => ?_) ?_
     ·go_simp
      go_at_call 34
      refine (raw_any b bn bc xs u (HB.out.kept (Gr.trans HGb.out hu)) hb2).mono ?_
      rintro e wr ⟨ar, nr, cr, yr, rfl, hr1, hr2, hro, hrg⟩
      exact ⟨_, rfl, hrg, ar, nr, cr, yr, rfl, hr1, hr2, hro⟩
     (with_reducible refine Sched.walk1_nil ?_)
     intro wq hwq
     dsimp only [Sched.EndN, List.nil_append, List.cons_append, Act.put]
     rintro lo hi v5 ⟨ar, nr, cr, yr, rfl, hr1, hr2, hro⟩ hlo - - -
     (try simp only [zqa, zqb, zqc])
     have HRO := zqd hro
     have HZQ := zqd ((HZb.out).kept hwq)
     have HGQ := zqd (Gr.trans HGb.out hwq)
     have HOQ := zqd ((HOWNb.out).stay hwq)
     have HLO := zqd hlo
     clear hro hwq hlo
     refine Sched.walk2_go rfl (fun K hK => ?_)
     refine cblk_tstore 24 _ _ rfl (w.heap.size + 1) [.int .i64 mode, .int .i64 W, .slice (some ⟨g3, 0, none⟩) 16 c3] HZQ.out rfl rfl rfl (by kernel_rfl) rfl ?_
     intro w9 hb9 he9
     have HB9 := zqd hb9
     have HO9 := zqd (show OwnC B w9 (some ⟨g3, 0, none⟩) 16 c3 M by rw [← he9]; exact HOQ.out.but (grown_setCells (w.heap.size + 1) _ 0 _) (by simp; omega))
     have HG9 := zqd (show Gr w w9 by rw [← he9]; exact gr_setCells HGQ.out (by omega) _ _)
     have HR9 := zqd (show Rd .u8 w9 ar nr yr by rw [← he9]; exact (owni_other HRO.out (B := w.heap.size + 1 + 1) (grown_setCells (w.heap.size + 1) _ 0 _) (by omega) (by have := HLO.out; have := HGQ.out.size; have := HLTW.out; omega)).rd)
     clear hb9 he9
     refine hK _ _ ?_
     clear hK K
     dsimp only [Act.put]
     (try simp only [zqa, zqb, zqc])
     repeat (first | (refine Sched.walk2_no rfl (fun K hK => ?_); simp only [Act.put, zqa, zqb, zqc]; refine hK _ ?_; clear hK K) | (refine Sched.walk2_go rfl (fun K hK => ?_); go_simp; (try go_ints); (try (simp only [IntWalk.iteOmega]; go_simp)); (refine hK _ _ ?_; clear hK K)))
     refine Sched.walk2_nil ?_
     go_wp2_with fail
     refine bodyPost_ret (results_c2 Tryd.results14 _ _ (w.heap.size + 1) _ _ rfl HB9.out Tryd.underlying24 rfl (by kernel_rfl)) rfl ⟨_, _, M, ar, nr, cr, yr, rfl, HO9.out.rd, HVM.out, hr1, hr2, HR9.out, HG9.out, HO9.out.aboveC (by omega), (fun _ _ hz => by have := HACT.out hz S0 (List.mem_of_getElem? HS0.out); rw [HA.out] at this; cases this)⟩
    go_wp2_with fail
    go_meet
    exact ⟨HSb.out, HTb.out, HEb.out⟩
  case rest =>
   obtain ⟨hs, ht, hg⟩ := hcut
   have HSb := zqd hs
   have HTb := zqd ht
   have HEb := zqd hg
   clear hs ht hg HSa HTa HEa
   obtain ⟨wb, hwb⟩ : ∃ y, y = wc := ⟨_, rfl⟩
   rw [← hwb] at HSb HTb HEb ⊢
   clear hwb wc
   have p0 : wb.cell? ⟨g13, 0, none⟩ = some (.bool A) := by rw [← HA.out]; exact HSb.out.at 0 rfl
   go_upto_region 23 with (fail)
   obtain ⟨NA, hNA⟩ : ∃ C, (!A) = C := ⟨_, rfl⟩
   have HNA := zqd hNA
   clear hNA
   go_cut [101] from 99 to 101 (fun v wc => v = .bool NA ∧ wb = wc)
   case first =>
    have hc := HNA.out
    subst hc
    go_wp2_with fail
    go_meet
    exact ⟨rfl, rfl⟩
   obtain ⟨rfl, rfl⟩ := hcut
   clear p0
   go_upto_if 101 with (fail)
   go_cut [15] from 102 to 105 (fun v wc => BegRel (SameRef S0) mode W h A g13 g16 last w7 v wc)
   case first =>
    cases NA
    rotate_left
    ·obtain rfl : A = false := by have := HNA.out; simpa using this
     obtain ⟨z1, z2, z3, z4, z5, z6, hci⟩ := HI0.out rfl
     have HCI := zqd hci
     clear z1 z2 z3 z4 z5 z6 hci
     go_upto_region 24 with (fail)
     have HCb := zqd (HC7.out.kept HEb.out)
     have hcc : ∀ u, CBlk w.heap.size 24 [.int .i64 mode, .int .i64 W, .slice a 16 c] u → u.cell? ⟨w.heap.size, 1, none⟩ = some (.int .i64 W) := fun u hu => hu.at 1 rfl
     refine Sched2.wp_region_sched (fun u => CBlk w.heap.size 24 [.int .i64 mode, .int .i64 W, .slice a 16 c] u) [0, 1, 4] [] [3, 5, 6] true (fun u hu => HCb.out.kept hu) (by kernel_rfl) (by kernel_rfl) ?_
     repeat (first | (refine Sched2.walk1_ord rfl ?_) | ((first | (refine Sched2.walk1_no rfl rfl rfl (fun K hK => ?_)) | (refine Sched2.walk1_gr rfl rfl rfl rfl (fun K hK => ?_); apply Exists.intro; refine ⟨fun w1 hw1 => ?_, ?_⟩; (focus (go_simp; (try go_ints); (try (simp only [IntWalk.iteOmega]; go_simp)); first | done | (with_reducible rfl) | (with_reducible exact ⟨rfl, rfl⟩)))) | (refine Sched2.walk1_late rfl rfl rfl rfl (fun K hK => ?_); apply Exists.intro; refine ⟨fun w1 hw1 => ?_, ?_⟩; (focus (go_simp; (try go_ints); (try (simp only [IntWalk.iteOmega]; go_simp)); first | done | (with_reducible rfl) | (with_reducible exact ⟨rfl, rfl⟩))))); simp only [Act.put, zqa, zqb, zqc]; refine hK _ ?_; clear hK K))
     refine Sched2.walk1_nil ?_
     intro wq hwq
     have HCq := zqd (HCb.out.kept hwq)
     have HSq := zqd (HSb.out.kept hwq)
     have HTq := zqd (HTb.out.kept hwq)
     have HEq := zqd (HEb.out.trans hwq)
     have HNE := zqd (show w.heap.size < w7.heap.size by have := HC7.out.lt; omega)
     clear hwq hcc HCb HSb HTb HEb
     have x0 := HSq.out.at 0 rfl
     have x1 := HSq.out.at 1 rfl
     have f0 := HSq.out.fz 0
     have f1 := HSq.out.fz 1
     dsimp only [Sched.EndN, List.nil_append, List.cons_append, Act.put]
     (try simp only [zqa, zqb, zqc])
     simp only [Sched2.lasts, List.filterMap_cons, List.filterMap_nil, List.getElem?_toArray, List.getElem?_cons_succ, List.getElem?_cons_zero]
     repeat (first | (refine Sched2.walk2_no rfl (fun K hK => ?_); simp only [Act.put, zqa, zqb, zqc]; refine hK _ ?_; clear hK K) | (refine Sched2.walk2_go rfl (fun K hK => ?_); go_simp; (try go_ints); (try (simp only [IntWalk.iteOmega]; go_simp)); first | (refine hK _ _ (by first | exact .inl ⟨rfl, rfl⟩ | exact .inr ((by ((repeat (refine CBlk.other ?_ _ _ (by have := HL13.out; have := HNE.out; omega))); exact HCq.out)))) ?_; clear hK K) | fail))
     refine Sched2.walk2_nil ?_
     obtain ⟨wd, hwd⟩ : ∃ y, y = (wq.setCell ⟨g13, 0, none⟩ (.bool true)).setCell ⟨g13, 1, none⟩ (.int .i64 W) := ⟨_, rfl⟩
     first | rw [← hwd] | (go_show; fail)
     have HSd := zqd (show CBlk g13 46 (SCells ⟨true, W, S0.refr, S0.ser, S0.since, S0.long, S0.str, S0.fol, S0.a, S0.n, S0.c, S0.refs⟩) wd by rw [hwd]; exact (HSq.out.set 0 (.bool true) (ds := SCells ⟨true, S0.full, S0.refr, S0.ser, S0.since, S0.long, S0.str, S0.fol, S0.a, S0.n, S0.c, S0.refs⟩) rfl).set 1 _ rfl)
     have HTd := zqd (show CBlk g16 49 (HCells last) wd by rw [hwd]; exact (HTq.out.other _ _ (Ne.symm HL16.out.2)).other _ _ (Ne.symm HL16.out.2))
     have HEd := zqd (show Gr w7 wd by rw [hwd]; exact gr_setCell (gr_setCell HEq.out HL13.out _ _) HL13.out _ _)
     clear hwd x0 x1 f0 f1
     go_wp2_with fail
     go_meet
     exact ⟨true, rfl, _, HCI.out, ⟨rfl, rfl, rfl, rfl⟩, (fun e => by cases e), HSd.out, HTd.out, HEd.out⟩
    ·obtain rfl : A = true := by have := HNA.out; simpa using this
     obtain ⟨hci, hs1, hs2⟩ := HI1.out rfl
     have HCI := zqd hci
     clear hci
     go_wp2_with fail
     go_meet
     exact ⟨false, rfl, S0, HCI.out, ⟨rfl, rfl, rfl, rfl⟩, (fun _ => ⟨hs1, rfl⟩), HSb.out, HTb.out, HEb.out⟩
   case rest =>
    obtain ⟨beg, rfl, P, hci, hE, hbg, hs, ht, hg⟩ := hcut
    have HCI := zqd hci
    have HSR := zqd hE
    have HBG := zqd hbg
    have HS := zqd hs
    have HT := zqd ht
    have HE := zqd hg
    clear hci hE hbg hs ht hg
    obtain ⟨wd, hwd⟩ : ∃ y, y = wc := ⟨_, rfl⟩
    rw [← hwd] at HS HT HE ⊢
    clear hwd wc
    clear HSb HTb HEb
    go_upto_region 25 with (fail)
    go_cut [125] from 106 to 125 (fun v wc => BoolRel (fun _ => True) wd v wc)
    case first =>
     cases A
     ·refine Sched.wp_region_sched 19 [] [] (by kernel_rfl) (by kernel_rfl) ?_
      simp only [List.take_succ_cons, List.take_zero, List.drop_succ_cons, List.drop_zero]
      repeat (first | ((first | ((with_reducible refine Sched.walk1_no ?_ ?_ (fun K hK => ?_)); (focus rfl); (focus rfl)) | ((with_reducible refine Sched.walk1_gr ?_ ?_ ?_ (fun K hK => ?_)); (focus rfl); (focus rfl); (focus rfl); apply Exists.intro; refine ⟨fun w1 hw1 => ?_, ?_⟩; (focus (go_simp; (try go_ints); (try (simp only [IntWalk.iteOmega]; go_simp)); first | done | (with_reducible rfl) | (with_reducible exact ⟨rfl, rfl⟩))))); simp only [Act.put, zqa, zqb, zqc]; refine hK _ ?_; clear hK K))
      (with_reducible refine Sched.walk1_nil ?_)
      intro wq hwq
      dsimp only [Sched.EndN, List.nil_append, List.cons_append, Act.put]
      (try simp only [zqa, zqb, zqc])
      repeat (first | (refine Sched.walk2_no rfl (fun K hK => ?_); simp only [Act.put, zqa, zqb, zqc]; refine hK _ ?_; clear hK K) | (refine Sched.walk2_go rfl (fun K hK => ?_); go_simp; (try go_ints); (try (simp only [IntWalk.iteOmega]; go_simp)); (refine hK _ _ ?_; clear hK K)))
      refine Sched.walk2_nil ?_
      go_wp2_with fail
      go_meet
      exact ⟨false, rfl, trivial, hwq⟩
     obtain ⟨CH, hCH⟩ : ∃ x, chH last h = x := ⟨_, rfl⟩
     have HCH := zqd hCH
     clear hCH
     have HHd := zqd (HH7.out.kept HE.out)
     by_cases hch : CH = 0
     rotate_left
     ·have hcb : (CH != 0) = true := by simpa using hch
      clear hch
      refine Sched.wp_region_sched 19 [] [] (by kernel_rfl) (by kernel_rfl) ?_
      simp only [List.take_succ_cons, List.take_zero, List.drop_succ_cons, List.drop_zero]
      repeat (first | ((first | ((with_reducible refine Sched.walk1_no ?_ ?_ (fun K hK => ?_)); (focus rfl); (focus rfl)) | ((with_reducible refine Sched.walk1_gr ?_ ?_ ?_ (fun K hK => ?_)); (focus rfl); (focus rfl); (focus rfl); apply Exists.intro; refine ⟨fun w1 hw1 => ?_, ?_⟩; (focus (go_simp; (try go_ints); (try (simp only [IntWalk.iteOmega]; go_simp)); first | done | (with_reducible rfl) | (with_reducible exact ⟨rfl, rfl⟩))))); simp only [Act.put, zqa, zqb, zqc]; refine hK _ ?_; clear hK K))
      (with_reducible refine Sched.walk1_gr ?_ ?_ ?_ (fun K hK => ?_)); (focus rfl); (focus rfl); (focus rfl)
      refine ⟨HVal last, fun w1 hw1 => ((HT.out).kept hw1).load _ rfl rfl (by first | exact Tryd.underlying49 | exact Tryd.underlying46 | exact Tryd.underlying24) rfl (by kernel_rfl), ?_⟩
      simp only [Act.put, zqa, zqb, zqc]
      refine hK _ ?_
      clear hK K
      repeat (first | ((first | ((with_reducible refine Sched.walk1_no ?_ ?_ (fun K hK => ?_)); (focus rfl); (focus rfl)) | ((with_reducible refine Sched.walk1_gr ?_ ?_ ?_ (fun K hK => ?_)); (focus rfl); (focus rfl); (focus rfl); apply Exists.intro; refine ⟨fun w1 hw1 => ?_, ?_⟩; (focus (go_simp; (try go_ints); (try (simp only [IntWalk.iteOmega]; go_simp)); first | done | (with_reducible rfl) | (with_reducible exact ⟨rfl, rfl⟩))))); simp only [Act.put, zqa, zqb, zqc]; refine hK _ ?_; clear hK K))
      (with_reducible refine Sched.walk1_gr ?_ ?_ ?_ (fun K hK => ?_)); (focus rfl); (focus rfl); (focus rfl)
      refine ⟨HVal h, fun w1 hw1 => ((HHd.out).kept hw1).load _ rfl rfl (by first | exact Tryd.underlying49 | exact Tryd.underlying46 | exact Tryd.underlying24) rfl (by kernel_rfl), ?_⟩
      simp only [Act.put, zqa, zqb, zqc]
      refine hK _ ?_
      clear hK K
      repeat (first | ((first | ((with_reducible refine Sched.walk1_no ?_ ?_ (fun K hK => ?_)); (focus rfl); (focus rfl)) | ((with_reducible refine Sched.walk1_gr ?_ ?_ ?_ (fun K hK => ?_)); (focus rfl); (focus rfl); (focus rfl); apply Exists.intro; refine ⟨fun w1 hw1 => ?_, ?_⟩; (focus (go_simp; (try go_ints); (try (simp only [IntWalk.iteOmega]; go_simp)); first | done | (go_at_call 37; (with_reducible exact rchg_is HCH.out _)) | (with_reducible rfl) | (with_reducible exact ⟨rfl, rfl⟩))))); simp only [Act.put, zqa, zqb, zqc]; refine hK _ ?_; clear hK K))
      refine Sched.walk1_nil ?_
      intro wq hwq
      dsimp only [Sched.EndN, List.nil_append, List.cons_append, Act.put]
      (try simp only [zqa, zqb, zqc])
      repeat (first | (refine Sched.walk2_no rfl (fun K hK => ?_); simp only [Act.put, zqa, zqb, zqc]; refine hK _ ?_; clear hK K) | (refine Sched.walk2_go rfl (fun K hK => ?_); go_simp; (try go_ints); (try (simp only [IntWalk.iteOmega]; go_simp)); (refine hK _ _ ?_; clear hK K)))
      refine Sched.walk2_nil ?_
      go_wp2_with fail
      go_meet
      exact ⟨true, rfl, trivial, hwq⟩
     have hcb : (CH != 0) = false := by simpa using hch
     clear hch
     have p5 : ∀ u, Gr wd u → u.cell? ⟨g13, 5, none⟩ = some (.int .i64 P.long) := fun u hu => (HS.out.kept hu).at 5 rfl
     by_cases h3 : P.long = 3
     rotate_left
     ·have h3b : (P.long == 3) = false := by simpa using h3
      clear h3
      refine Sched.wp_region_sched 19 [] [] (by kernel_rfl) (by kernel_rfl) ?_
      simp only [List.take_succ_cons, List.take_zero, List.drop_succ_cons, List.drop_zero]
      repeat (first | ((first | ((with_reducible refine Sched.walk1_no ?_ ?_ (fun K hK => ?_)); (focus rfl); (focus rfl)) | ((with_reducible refine Sched.walk1_gr ?_ ?_ ?_ (fun K hK => ?_)); (focus rfl); (focus rfl); (focus rfl); apply Exists.intro; refine ⟨fun w1 hw1 => ?_, ?_⟩; (focus (go_simp; (try go_ints); (try (simp only [IntWalk.iteOmega]; go_simp)); first | done | (with_reducible rfl) | (with_reducible exact ⟨rfl, rfl⟩))))); simp only [Act.put, zqa, zqb, zqc]; refine hK _ ?_; clear hK K))
      (with_reducible refine Sched.walk1_gr ?_ ?_ ?_ (fun K hK => ?_)); (focus rfl); (focus rfl); (focus rfl)
      refine ⟨HVal last, fun w1 hw1 => ((HT.out).kept hw1).load _ rfl rfl (by first | exact Tryd.underlying49 | exact Tryd.underlying46 | exact Tryd.underlying24) rfl (by kernel_rfl), ?_⟩
      simp only [Act.put, zqa, zqb, zqc]
      refine hK _ ?_
      clear hK K
      repeat (first | ((first | ((with_reducible refine Sched.walk1_no ?_ ?_ (fun K hK => ?_)); (focus rfl); (focus rfl)) | ((with_reducible refine Sched.walk1_gr ?_ ?_ ?_ (fun K hK => ?_)); (focus rfl); (focus rfl); (focus rfl); apply Exists.intro; refine ⟨fun w1 hw1 => ?_, ?_⟩; (focus (go_simp; (try go_ints); (try (simp only [IntWalk.iteOmega]; go_simp)); first | done | (with_reducible rfl) | (with_reducible exact ⟨rfl, rfl⟩))))); simp only [Act.put, zqa, zqb, zqc]; refine hK _ ?_; clear hK K))
      (with_reducible refine Sched.walk1_gr ?_ ?_ ?_ (fun K hK => ?_)); (focus rfl); (focus rfl); (focus rfl)
      refine ⟨HVal h, fun w1 hw1 => ((HHd.out).kept hw1).load _ rfl rfl (by first | exact Tryd.underlying49 | exact Tryd.underlying46 | exact Tryd.underlying24) rfl (by kernel_rfl), ?_⟩
      simp only [Act.put, zqa, zqb, zqc]
      refine hK _ ?_
      clear hK K
      repeat (first | ((first | ((with_reducible refine Sched.walk1_no ?_ ?_ (fun K hK => ?_)); (focus rfl); (focus rfl)) | ((with_reducible refine Sched.walk1_gr ?_ ?_ ?_ (fun K hK => ?_)); (focus rfl); (focus rfl); (focus rfl); apply Exists.intro; refine ⟨fun w1 hw1 => ?_, ?_⟩; (focus (go_simp; (try go_ints); (try (simp only [IntWalk.iteOmega]; go_simp)); first | done | (go_at_call 37; (with_reducible exact rchg_is HCH.out _)) | (with_reducible rfl) | (with_reducible exact ⟨rfl, rfl⟩))))); simp only [Act.put, zqa, zqb, zqc]; refine hK _ ?_; clear hK K))
      refine Sched.walk1_nil ?_
      intro wq hwq
      dsimp only [Sched.EndN, List.nil_append, List.cons_append, Act.put]
      (try simp only [zqa, zqb, zqc])
      repeat (first | (refine Sched.walk2_no rfl (fun K hK => ?_); simp only [Act.put, zqa, zqb, zqc]; refine hK _ ?_; clear hK K) | (refine Sched.walk2_go rfl (fun K hK => ?_); go_simp; (try go_ints); (try (simp only [IntWalk.iteOmega]; go_simp)); (refine hK _ _ ?_; clear hK K)))
      refine Sched.walk2_nil ?_
      go_wp2_with fail
      go_meet
      exact ⟨false, rfl, trivial, hwq⟩
     have h3b : (P.long == 3) = true := by simpa using h3
     clear h3
     obtain ⟨LS, hLS⟩ : ∃ x, learnS last h = x := ⟨_, rfl⟩
     obtain ⟨LF, hLF⟩ : ∃ x, learnF last h = x := ⟨_, rfl⟩
     have HLS := zqd hLS
     have HLF := zqd hLF
     clear hLS hLF
     obtain ⟨ND, hND⟩ : ∃ x, (!(decide (LS = P.str) && decide (LF = P.fol))) = x := ⟨_, rfl⟩
     have hnd : ∀ u, (binOp .neq 43 (DVal LS LF) (DVal P.str P.fol)).run Tryd.prog u = .ok (.bool ND) u := fun u => by rw [← hND]; exact run_neqD _ _ _ _ u
     clear hND
     have HDY := zqd (fun u (hu : Gr wd u) => snd_dyn (HS.out.kept hu))
     refine Sched.wp_region_sched 19 [] [] (by kernel_rfl) (by kernel_rfl) ?_
     simp only [List.take_succ_cons, List.take_zero, List.drop_succ_cons, List.drop_zero]
     repeat (first | ((first | ((with_reducible refine Sched.walk1_no ?_ ?_ (fun K hK => ?_)); (focus rfl); (focus rfl)) | ((with_reducible refine Sched.walk1_gr ?_ ?_ ?_ (fun K hK => ?_)); (focus rfl); (focus rfl); (focus rfl); apply Exists.intro; refine ⟨fun w1 hw1 => ?_, ?_⟩; (focus (go_simp; (try go_ints); (try (simp only [IntWalk.iteOmega]; go_simp)); first | done | (with_reducible rfl) | (with_reducible exact ⟨rfl, rfl⟩))))); simp only [Act.put, zqa, zqb, zqc]; refine hK _ ?_; clear hK K))
     (with_reducible refine Sched.walk1_gr ?_ ?_ ?_ (fun K hK => ?_)); (focus rfl); (focus rfl); (focus rfl)
     refine ⟨HVal last, fun w1 hw1 => ((HT.out).kept hw1).load _ rfl rfl (by first | exact Tryd.underlying49 | exact Tryd.underlying46 | exact Tryd.underlying24) rfl (by kernel_rfl), ?_⟩
     simp only [Act.put, zqa, zqb, zqc]
     refine hK _ ?_
     clear hK K
     repeat (first | ((first | ((with_reducible refine Sched.walk1_no ?_ ?_ (fun K hK => ?_)); (focus rfl); (focus rfl)) | ((with_reducible refine Sched.walk1_gr ?_ ?_ ?_ (fun K hK => ?_)); (focus rfl); (focus rfl); (focus rfl); apply Exists.intro; refine ⟨fun w1 hw1 => ?_, ?_⟩; (focus (go_simp; (try go_ints); (try (simp only [IntWalk.iteOmega]; go_simp)); first | done | (with_reducible rfl) | (with_reducible exact ⟨rfl, rfl⟩))))); simp only [Act.put, zqa, zqb, zqc]; refine hK _ ?_; clear hK K))
     (with_reducible refine Sched.walk1_gr ?_ ?_ ?_ (fun K hK => ?_)); (focus rfl); (focus rfl); (focus rfl)
     refine ⟨HVal h, fun w1 hw1 => ((HHd.out).kept hw1).load _ rfl rfl (by first | exact Tryd.underlying49 | exact Tryd.underlying46 | exact Tryd.underlying24) rfl (by kernel_rfl), ?_⟩
     simp only [Act.put, zqa, zqb, zqc]
     refine hK _ ?_
     clear hK K
     repeat (first | ((first | ((with_reducible refine Sched.walk1_no ?_ ?_ (fun K hK => ?_)); (focus rfl); (focus rfl)) | ((with_reducible refine Sched.walk1_gr ?_ ?_ ?_ (fun K hK => ?_)); (focus rfl); (focus rfl); (focus rfl); apply Exists.intro; refine ⟨fun w1 hw1 => ?_, ?_⟩; (focus (go_simp; (try go_ints); (try (simp only [IntWalk.iteOmega]; go_simp)); first | done | (go_at_call 37; (with_reducible exact rchg_is HCH.out _)) | (with_reducible rfl) | (with_reducible exact ⟨rfl, rfl⟩))))); simp only [Act.put, zqa, zqb, zqc]; refine hK _ ?_; clear hK K))
     (with_reducible refine Sched.walk1_gr ?_ ?_ ?_ (fun K hK => ?_)); (focus rfl); (focus rfl); (focus rfl)
     refine ⟨HVal last, fun w1 hw1 => ((HT.out).kept hw1).load _ rfl rfl (by first | exact Tryd.underlying49 | exact Tryd.underlying46 | exact Tryd.underlying24) rfl (by kernel_rfl), ?_⟩
     simp only [Act.put, zqa, zqb, zqc]
     refine hK _ ?_
     clear hK K
     repeat (first | ((first | ((with_reducible refine Sched.walk1_no ?_ ?_ (fun K hK => ?_)); (focus rfl); (focus rfl)) | ((with_reducible refine Sched.walk1_gr ?_ ?_ ?_ (fun K hK => ?_)); (focus rfl); (focus rfl); (focus rfl); apply Exists.intro; refine ⟨fun w1 hw1 => ?_, ?_⟩; (focus (go_simp; (try go_ints); (try (simp only [IntWalk.iteOmega]; go_simp)); first | done | (with_reducible rfl) | (with_reducible exact ⟨rfl, rfl⟩))))); simp only [Act.put, zqa, zqb, zqc]; refine hK _ ?_; clear hK K))
     (with_reducible refine Sched.walk1_gr ?_ ?_ ?_ (fun K hK => ?_)); (focus rfl); (focus rfl); (focus rfl)
     refine ⟨HVal h, fun w1 hw1 => ((HHd.out).kept hw1).load _ rfl rfl (by first | exact Tryd.underlying49 | exact Tryd.underlying46 | exact Tryd.underlying24) rfl (by kernel_rfl), ?_⟩
     simp only [Act.put, zqa, zqb, zqc]
     refine hK _ ?_
     clear hK K
     repeat (first | ((first | ((with_reducible refine Sched.walk1_no ?_ ?_ (fun K hK => ?_)); (focus rfl); (focus rfl)) | ((with_reducible refine Sched.walk1_gr ?_ ?_ ?_ (fun K hK => ?_)); (focus rfl); (focus rfl); (focus rfl); apply Exists.intro; refine ⟨fun w1 hw1 => ?_, ?_⟩; (focus (go_simp; (try go_ints); (try (simp only [IntWalk.iteOmega]; go_simp)); first | done | (go_at_call 38; (with_reducible exact rlearn_is HLS.out HLF.out _)) | (with_reducible rfl) | (with_reducible exact ⟨rfl, rfl⟩))))); simp only [Act.put, zqa, zqb, zqc]; refine hK _ ?_; clear hK K))
     (with_reducible refine Sched.walk1_gr ?_ ?_ ?_ (fun K hK => ?_)); (focus rfl); (focus rfl); (focus rfl)
     refine ⟨DVal P.str P.fol, fun w1 hw1 => rng_gq (HDY.out w1 hw1) 43 _ rfl rfl Tryd.underlying43 rfl (by kernel_rfl), ?_⟩
     simp only [Act.put, zqa, zqb, zqc]
     refine hK _ ?_
     clear hK K
     repeat (first | ((first | ((with_reducible refine Sched.walk1_no ?_ ?_ (fun K hK => ?_)); (focus rfl); (focus rfl)) | ((with_reducible refine Sched.walk1_gr ?_ ?_ ?_ (fun K hK => ?_)); (focus rfl); (focus rfl); (focus rfl); apply Exists.intro; refine ⟨fun w1 hw1 => ?_, ?_⟩; (focus (go_simp; (try go_ints); (try (simp only [IntWalk.iteOmega]; go_simp)); first | done | (with_reducible rfl) | (with_reducible exact ⟨rfl, rfl⟩))))); simp only [Act.put, zqa, zqb, zqc]; refine hK _ ?_; clear hK K))
     refine Sched.walk1_nil ?_
     intro wq hwq
     dsimp only [Sched.EndN, List.nil_append, List.cons_append, Act.put]
     (try simp only [zqa, zqb, zqc])
     repeat (first | (refine Sched.walk2_no rfl (fun K hK => ?_); simp only [Act.put, zqa, zqb, zqc]; refine hK _ ?_; clear hK K) | (refine Sched.walk2_go rfl (fun K hK => ?_); go_simp; (try go_ints); (try (simp only [IntWalk.iteOmega]; go_simp)); (refine hK _ _ ?_; clear hK K)))
     refine Sched.walk2_nil ?_
     go_wp2_with fail
     go_meet
     exact ⟨ND, rfl, trivial, hwq⟩
    obtain ⟨C, rfl, -, hgc⟩ := hcut
    obtain ⟨we, hwe⟩ : ∃ y, y = wc := ⟨_, rfl⟩
    rw [← hwe] at hgc ⊢
    replace HS := zqd (HS.out.kept hgc)
    replace HT := zqd (HT.out.kept hgc)
    replace HE := zqd (HE.out.trans hgc)
    clear hwe hgc wc
    go_upto_if 125 with (fail)
    go_cut [15] from 126 to 135 (fun v wc => BegRel (SameRef S0) mode W h A g13 g16 last w7 v wc)
    case first =>
     cases C
     ·go_wp2_with fail
      go_meet
      exact ⟨beg, rfl, P, HCI.out, HSR.out, HBG.out, HS.out, HT.out, HE.out⟩
     have x1 := (HC7.out.kept HE.out).at 1 rfl
     have p1 := HS.out.at 1 rfl
     have p2 := HS.out.at 2 rfl
     have p5 := HS.out.at 5 rfl
     have f1 := HS.out.fz 1
     have f2 := HS.out.fz 2
     have f5 := HS.out.fz 5
     by_cases hf : 0 < P.full
     ·go_wp2_with fail
      obtain ⟨wf, hwn⟩ : ∃ y, y = (we.setCell ⟨g13, 5, none⟩ (.int .i64 0)).setCell ⟨g13, 1, none⟩ (.int .i64 W) := ⟨_, rfl⟩
      first | rw [← hwn] | (go_show; fail)
      have HSN := zqd (show CBlk g13 46 (SCells (⟨P.act, W, P.refr, P.ser, P.since, 0, P.str, P.fol, P.a, P.n, P.c, P.refs⟩)) wf by rw [hwn]; exact (HS.out.set 5 (.int .i64 0) rfl).set 1 (.int .i64 W) rfl)
      have HTN := zqd (show CBlk g16 49 (HCells last) wf by rw [hwn]; ((repeat (refine CBlk.other ?_ _ _ (Ne.symm HL16.out.2))); exact HT.out))
      have HEN := zqd (show Gr w7 wf by rw [hwn]; ((repeat (refine gr_setCell ?_ HL13.out _ _)); exact HE.out))
      clear hwn
      go_meet
      exact ⟨true, rfl, _, HCI.out.upd W P.refr P.ser P.since 0 HWR.out HCI.out.refr (.inr (by have := HCI.out.both; omega)) HCI.out.ser HCI.out.since ⟨by omega, by omega⟩ (fun e1 e2 => ⟨rfl, (HCI.out.new e1 e2).2.1⟩), HSR.out, (fun e => by cases e), HSN.out, HTN.out, HEN.out⟩
     ·go_wp2_with fail
      obtain ⟨wf, hwn⟩ : ∃ y, y = (we.setCell ⟨g13, 5, none⟩ (.int .i64 0)).setCell ⟨g13, 2, none⟩ (.int .i64 W) := ⟨_, rfl⟩
      first | rw [← hwn] | (go_show; fail)
      have HSN := zqd (show CBlk g13 46 (SCells (⟨P.act, P.full, W, P.ser, P.since, 0, P.str, P.fol, P.a, P.n, P.c, P.refs⟩)) wf by rw [hwn]; exact (HS.out.set 5 (.int .i64 0) rfl).set 2 (.int .i64 W) rfl)
      have HTN := zqd (show CBlk g16 49 (HCells last) wf by rw [hwn]; ((repeat (refine CBlk.other ?_ _ _ (Ne.symm HL16.out.2))); exact HT.out))
      have HEN := zqd (show Gr w7 wf by rw [hwn]; ((repeat (refine gr_setCell ?_ HL13.out _ _)); exact HE.out))
      clear hwn
      go_meet
      exact ⟨true, rfl, _, HCI.out.upd P.full W P.ser P.since 0 HCI.out.full HWR.out (.inl (by omega)) HCI.out.ser HCI.out.since ⟨by omega, by omega⟩ (fun e1 e2 => by have := (HCI.out.new e1 e2).1; have := HW1.out; omega), HSR.out, (fun e => by cases e), HSN.out, HTN.out, HEN.out⟩
    clear HS HT HE HCI HSR HBG
    obtain ⟨beg, rfl, P, hci, hE, hbg, hs, ht, hg⟩ := hcut
    have HCI := zqd hci
    have HSR := zqd hE
    have HBG := zqd hbg
    have HS := zqd hs
    have HT := zqd ht
    have HE := zqd hg
    clear hci hE hbg hs ht hg
    obtain ⟨wf, hwd⟩ : ∃ y, y = wc := ⟨_, rfl⟩
    rw [← hwd] at HS HT HE ⊢
    clear hwd wc
    go_upto_region 31 with (fail)
    go_cut [148] from 136 to 148 (fun v wc => BoolRel (fun C => C = true → mode = 1) wf v wc)
    case first =>
     have x0 := (HC7.out.kept HE.out).at 0 rfl
     have p1 := HS.out.at 1 rfl
     have p4 := HS.out.at 4 rfl
     by_cases hm : mode = 1
     rotate_left
     ·have hmb : (mode == 1) = false := by simpa using hm
      clear hm
      go_wp2_with fail
      go_meet
      exact ⟨false, rfl, (fun e => by cases e), Gr.refl _⟩
     have HM1 := zqd hm
     have hmb : (mode == 1) = true := by simpa using hm
     clear hm
     by_cases h4 : P.since = 32
     rotate_left
     ·have h4b : (P.since == 32) = false := by simpa using h4
      clear h4
      go_wp2_with fail
      go_meet
      exact ⟨false, rfl, (fun e => by cases e), Gr.refl _⟩
     have h4b : (P.since == 32) = true := by simpa using h4
     clear h4
     obtain ⟨Z, hZ⟩ : ∃ b, (P.full == 0) = b := ⟨_, rfl⟩
     go_wp2_with fail
     go_meet
     exact ⟨Z, rfl, (fun _ => HM1.out), Gr.refl _⟩
    obtain ⟨C, rfl, hC, hgc⟩ := hcut
    have HCM := zqd hC
    clear hC
    obtain ⟨wg, hwe⟩ : ∃ y, y = wc := ⟨_, rfl⟩
    rw [← hwe] at hgc ⊢
    replace HS := zqd (HS.out.kept hgc)
    replace HT := zqd (HT.out.kept hgc)
    replace HE := zqd (HE.out.trans hgc)
    clear hwe hgc wc
    go_upto_if 148 with (fail)
    go_cut [15] from 149 to 152 (fun v wc => BegRel (SameRef S0) mode W h A g13 g16 last w7 v wc)
    case first =>
     cases C
     ·go_wp2_with fail
      go_meet
      exact ⟨beg, rfl, P, HCI.out, HSR.out, HBG.out, HS.out, HT.out, HE.out⟩
     have x1 := (HC7.out.kept HE.out).at 1 rfl
     have p1 := HS.out.at 1 rfl
     have p2 := HS.out.at 2 rfl
     have f1 := HS.out.fz 1
     have f2 := HS.out.fz 2
     go_wp2_with fail
     obtain ⟨wh, hwn⟩ : ∃ y, y = (wg.setCell ⟨g13, 1, none⟩ (.int .i64 W)).setCell ⟨g13, 2, none⟩ (.int .i64 0) := ⟨_, rfl⟩
     first | rw [← hwn] | (go_show; fail)
     have HSN := zqd (show CBlk g13 46 (SCells (⟨P.act, W, 0, P.ser, P.since, P.long, P.str, P.fol, P.a, P.n, P.c, P.refs⟩)) wh by rw [hwn]; exact (HS.out.set 1 (.int .i64 W) rfl).set 2 (.int .i64 0) rfl)
     have HTN := zqd (show CBlk g16 49 (HCells last) wh by rw [hwn]; ((repeat (refine CBlk.other ?_ _ _ (Ne.symm HL16.out.2))); exact HT.out))
     have HEN := zqd (show Gr w7 wh by rw [hwn]; ((repeat (refine gr_setCell ?_ HL13.out _ _)); exact HE.out))
     clear hwn
     go_meet
     exact ⟨true, rfl, _, HCI.out.upd W 0 P.ser P.since P.long HWR.out ⟨by omega, by have := HW1.out; omega⟩ (.inr (Int.le_refl _)) HCI.out.ser HCI.out.since HCI.out.long (fun _ e2 => by have := HCM.out (by trivial); omega), HSR.out, (fun e => by cases e), HSN.out, HTN.out, HEN.out⟩
    clear HS HT HE HCI HSR HBG HCM
    obtain ⟨beg, rfl, P, hci, hE, hbg, hs, ht, hg⟩ := hcut
    have HCI := zqd hci
    have HSR := zqd hE
    have HBG := zqd hbg
    have HS := zqd hs
    have HT := zqd ht
    have HE := zqd hg
    clear hci hE hbg hs ht hg
    obtain ⟨wh, hwd⟩ : ∃ y, y = wc := ⟨_, rfl⟩
    rw [← hwd] at HS HT HE ⊢
    clear hwd wc
    go_upto_region 33 with (fail)
    go_cut [159] from 153 to 159 (fun v wc => BoolRel (fun C => C = false → mode = 3 → S0.n ≠ 32) wh v wc)
    case first =>
     have x0 := (HC7.out.kept HE.out).at 0 rfl
     by_cases hm : mode = 3
     rotate_left
     ·have hmb : (mode == 3) = false := by simpa using hm
      have HM1 := zqd hm
      clear hm
      go_wp2_with fail
      go_meet
      exact ⟨false, rfl, (fun _ e => absurd e HM1.out), Gr.refl _⟩
     have hmb : (mode == 3) = true := by simpa using hm
     clear hm
     by_cases h4 : S0.n = 32
     ·have h4b : ((S0.n : Int) == 32) = true := by simp; omega
      clear h4
      go_wp2_with fail
      go_meet
      exact ⟨true, rfl, (fun e => by cases e), Gr.refl _⟩
     ·have h4b : ((S0.n : Int) == 32) = false := by simp; omega
      have H4 := zqd h4
      clear h4
      go_wp2_with fail
      go_meet
      exact ⟨false, rfl, (fun _ _ => H4.out), Gr.refl _⟩
    obtain ⟨C, rfl, hC, hgc⟩ := hcut
    have HCM := zqd hC
    clear hC
    obtain ⟨wi, hwe⟩ : ∃ y, y = wc := ⟨_, rfl⟩
    rw [← hwe] at hgc ⊢
    replace HS := zqd (HS.out.kept hgc)
    replace HT := zqd (HT.out.kept hgc)
    replace HE := zqd (HE.out.trans hgc)
    clear hwe hgc wc
    go_upto_if 159 with (fail)
    go_cut [15] from 160 to 164 (fun v wc => BegRel (RefE mode S0) mode W h A g13 g16 last w7 v wc)
    case first =>
     cases C
     ·go_wp2_with fail
      go_meet
      exact ⟨beg, rfl, P, HCI.out, ⟨.inl HSR.out, fun e => by have := HCM.out (by trivial) e; have := HN32.out; have := HSR.out.2.1; omega⟩, HBG.out, HS.out, HT.out, HE.out⟩
     have x1 := (HC7.out.kept HE.out).at 1 rfl
     have p1 := HS.out.at 1 rfl
     have p2 := HS.out.at 2 rfl
     have p8 := HS.out.at 8 rfl
     have f1 := HS.out.fz 1
     have f2 := HS.out.fz 2
     have f8 := HS.out.fz 8
     go_wp2_with fail
     obtain ⟨wj, hwn⟩ : ∃ y, y = ((wi.setCell ⟨g13, 1, none⟩ (.int .i64 W)).setCell ⟨g13, 2, none⟩ (.int .i64 0)).setCell ⟨g13, 8, none⟩ (.slice none 0 0) := ⟨_, rfl⟩
     first | rw [← hwn] | (go_show; fail)
     have HSN := zqd (show CBlk g13 46 (SCells (⟨P.act, W, 0, P.ser, P.since, P.long, P.str, P.fol, none, 0, 0, []⟩)) wj by rw [hwn]; exact ((HS.out.set 1 (.int .i64 W) rfl).set 2 (.int .i64 0) rfl).set 8 (.slice none 0 0) rfl)
     have HTN := zqd (show CBlk g16 49 (HCells last) wj by rw [hwn]; ((repeat (refine CBlk.other ?_ _ _ (Ne.symm HL16.out.2))); exact HT.out))
     have HEN := zqd (show Gr w7 wj by rw [hwn]; ((repeat (refine gr_setCell ?_ HL13.out _ _)); exact HE.out))
     clear hwn
     go_meet
     exact ⟨true, rfl, _, HCI.out.cut HSH.out, ⟨.inr ⟨rfl, rfl, rfl, rfl⟩, fun _ => by show 0 ≤ 31; omega⟩, (fun e => by cases e), HSN.out, HTN.out, HEN.out⟩
    clear HS HT HE HCI HSR HBG HCM
    obtain ⟨beg, rfl, P, hci, hE, hbg, hs, ht, hg⟩ := hcut
    have HCI := zqd hci
    have HSR := zqd hE
    have HBG := zqd hbg
    have HS := zqd hs
    have HT := zqd ht
    have HE := zqd hg
    clear hci hE hbg hs ht hg
    obtain ⟨wj, hwd⟩ : ∃ y, y = wc := ⟨_, rfl⟩
    rw [← hwd] at HS HT HE ⊢
    clear hwd wc
    go_upto_region 36 with (fail)
    go_cut [183] from 165 to 183 (fun v wc => BoolRel (fun C => C = false → beg = false) wj v wc)
    case first =>
     cases beg
     rotate_left
     ·go_wp2_with fail
      go_meet
      exact ⟨true, rfl, (fun e => by cases e), Gr.refl _⟩
     have p1 := HS.out.at 1 rfl
     have p2 := HS.out.at 2 rfl
     have p3 := HS.out.at 3 rfl
     have p8 := HS.out.at 8 rfl
     by_cases hs : P.ser = P.n
     rotate_left
     ·have hsb : (P.ser == (P.n : Int)) = false := by simpa using hs
      clear hs
      go_wp2_with fail
      go_meet
      exact ⟨false, rfl, (fun _ => by first | trivial | rfl), Gr.refl _⟩
     have hsb : (P.ser == (P.n : Int)) = true := by simpa using hs
     clear hs
     by_cases hf : 0 < P.full
     ·have hfb : decide (0 < P.full) = true := decide_eq_true hf
      clear hf
      go_wp2_with fail
      go_meet
      exact ⟨true, rfl, (fun _ => by first | trivial | rfl), Gr.refl _⟩
     have hfb : decide (0 < P.full) = false := decide_eq_false hf
     clear hf
     obtain ⟨Z, hZ⟩ : ∃ b, decide (0 < P.refr) = b := ⟨_, rfl⟩
     go_wp2_with fail
     go_meet
     exact ⟨Z, rfl, (fun _ => by first | trivial | rfl), Gr.refl _⟩
    obtain ⟨C, rfl, hC, hgc⟩ := hcut
    have HCM := zqd hC
    clear hC
    obtain ⟨wk, hwe⟩ : ∃ y, y = wc := ⟨_, rfl⟩
    rw [← hwe] at hgc ⊢
    replace HS := zqd (HS.out.kept hgc)
    replace HT := zqd (HT.out.kept hgc)
    replace HE := zqd (HE.out.trans hgc)
    clear hwe hgc wc
    go_upto_if 183 with (fail)
    go_cut [] from 184 to 188 (fun wc => CmRel (FinE mode S0) mode W h A g13 g16 last w7 wc)
    case first =>
     cases C
     ·go_wp2_with fail
      go_meet
      exact ⟨P, HCI.out, ⟨HSR.out, (HBG.out (HCM.out (by trivial))).1⟩, HS.out, HT.out, HE.out⟩
     have HHk := zqd (HH7.out.kept HE.out)
     go_wp2_with (first | (refine cblk_load rfl 46 _ rfl g13 rfl HS.out Tryd.underlying46 rfl (by kernel_rfl) ?_) | (refine cblk_load rfl 49 _ rfl g16 rfl HT.out Tryd.underlying49 rfl (by kernel_rfl) ?_) | (refine cblk_load rfl 49 _ rfl g8 rfl HHk.out Tryd.underlying49 rfl (by kernel_rfl) ?_))
     have hbeg := begin_any P last A h wk (by have := HCI.out.n; omega)
     obtain ⟨Q, hQ⟩ : ∃ Q, begS P last A h = Q := ⟨_, rfl⟩
     rw [hQ] at hbeg
     have HQ := zqd hQ
     refine hbeg.mono ?_
     clear hbeg hQ
     rintro e wl ⟨rfl, hgc⟩
     replace HS := zqd (HS.out.kept hgc)
     replace HT := zqd (HT.out.kept hgc)
     replace HE := zqd (HE.out.trans hgc)
     clear hgc
     go_wp2_with (refine cblk_store rfl 46 _ _ rfl g13 (SCells Q) HS.out rfl rfl rfl (by kernel_rfl) rfl ?_; intro wm hb9 he9; have HSN := zqd hb9; have HTN := zqd (show CBlk g16 49 (HCells last) wm by rw [← he9]; exact HT.out.puts _ _ (Ne.symm HL16.out.2)); have HEN := zqd (show Gr w7 wm by rw [← he9]; exact gr_setCells HE.out HL13.out _ _); clear hb9 he9)
     go_meet
     refine ⟨Q, by rw [← HQ.out]; exact HCI.out.begin last, by rw [← HQ.out]; exact ⟨⟨HSR.out.1, HSR.out.2⟩, Int.le_refl _⟩, HSN.out, HTN.out, HEN.out⟩
    clear HS HT HE HCI HSR HBG HCM
    obtain ⟨P, hci, hE, hs, ht, hg⟩ := hcut
    have HCI := zqd hci
    have HSR := zqd hE
    have HS := zqd hs
    have HT := zqd ht
    have HE := zqd hg
    clear hci hE hs ht hg
    obtain ⟨wl, hwd⟩ : ∃ y, y = wc := ⟨_, rfl⟩
    rw [← hwd] at HS HT HE ⊢
    clear hwd wc
    go_upto_region 38 with (fail)
    go_upto_block 0 with fail
    --FAST
    go_cut [19] from 189 to 218 (fun v wc => FmtRel mode W h A S0 g13 g16 last w7 v wc)
    case first =>
     have p1 := HS.out.at 1 rfl
     have p2 := HS.out.at 2 rfl
     by_cases hf : 0 < P.full
     ·have HFU := zqd hf
      go_wp2_with fail
      go_meet
      exact ⟨5, rfl, by omega, P, HCI.out, HSR.out, ⟨(fun _ => HFU.out), (fun e => by omega)⟩, HS.out, HT.out, HE.out⟩
     by_cases hg : 0 < P.refr
     ·have HFU := zqd hg
      go_wp2_with fail
      go_meet
      exact ⟨4, rfl, by omega, P, HCI.out, HSR.out, ⟨(fun e => by omega), (fun _ => HFU.out)⟩, HS.out, HT.out, HE.out⟩
     have HNF := zqd (show P.full ≤ 0 by omega)
     go_wp2_with fail
     clear hf hg p1 p2
     go_loopw [19] (fun f wr => ∃ F : Int, f = .int .i64 F ∧ (F = 1 ∨ F = 2 ∨ F = 3 ∨ F = 4) ∧ Gr wl wr) (fun f _ => (5 - intOf f).toNat)
     case atStart => exact ⟨1, rfl, by omega, Gr.refl _⟩
     case round =>
      obtain ⟨F, rfl, hF, hgr⟩ := hrel
      replace HS := zqd (HS.out.kept hgr)
      replace HT := zqd (HT.out.kept hgr)
      replace HE := zqd (HE.out.trans hgr)
      have HGR := zqd hgr
      clear hgr
      by_cases hF3 : F = 1 ∨ F = 2 ∨ F = 3
      ·have HHk := zqd (HH7.out.kept HE.out)
       have hF4 : F ≤ 3 := by omega
       have hF1 : 1 ≤ F := by omega
       have hF5 : (F == 4) = false := by simp; omega
       have HF3 := zqd hF3
       clear hF hF3
       go_wp2_with (first | (refine cblk_load rfl 46 _ rfl g13 rfl HS.out Tryd.underlying46 rfl (by kernel_rfl) ?_) | (refine cblk_load rfl 49 _ rfl g8 rfl HHk.out Tryd.underlying49 rfl (by kernel_rfl) ?_))
       have hrd : RdH wr P.a P.n P.c P.refs := ref_rd (mode := mode) HSR.out.1 (((HOWN7.out.rd.2.2.2.2.2 S0 (List.mem_of_getElem? HS0.out))).kept HE.out)
       refine (possible_any P h F wr hrd (by have := HCI.out.n; omega) HF3.out).mono ?_
       clear hrd
       rintro e wn ⟨b', rfl, hgn⟩
       have HGN := zqd hgn
       clear hgn
       cases b'
       ·go_wp2_with fail
        go_roundw
        case rel => exact ⟨F + 1, by go_num, by have := HF3.out; omega, HGR.out.trans HGN.out⟩
        case measure => (simp [intOf] <;> omega)
       ·go_wp2_with fail
        go_meet
        exact ⟨F, rfl, by have := HF3.out; omega, P, HCI.out, HSR.out, ⟨(fun e => by have := HF3.out; omega), (fun e => by have := HF3.out; omega)⟩, HS.out.kept HGN.out, HT.out.kept HGN.out, HE.out.trans HGN.out⟩
      ·obtain rfl : F = 4 := by omega
       clear hF hF3
       have x1 := (HC7.out.kept HE.out).at 1 rfl
       have p2 := HS.out.at 2 rfl
       have p5 := HS.out.at 5 rfl
       have f2 := HS.out.fz 2
       have f5 := HS.out.fz 5
       go_upto_region 43 with (fail)
       obtain ⟨wo, hwn⟩ : ∃ y, y = (wr.setCell ⟨g13, 2, none⟩ (.int .i64 W)).setCell ⟨g13, 5, none⟩ (.int .i64 0) := ⟨_, rfl⟩
       first | rw [← hwn] | (go_show; fail)
       have HSN := zqd (show CBlk g13 46 (SCells (⟨P.act, P.full, W, P.ser, P.since, 0, P.str, P.fol, P.a, P.n, P.c, P.refs⟩)) wo by rw [hwn]; exact (HS.out.set 2 (.int .i64 W) rfl).set 5 (.int .i64 0) rfl)
       have HTN := zqd (show CBlk g16 49 (HCells last) wo by rw [hwn]; ((repeat (refine CBlk.other ?_ _ _ (Ne.symm HL16.out.2))); exact HT.out))
       have HEN := zqd (show Gr w7 wo by rw [hwn]; ((repeat (refine gr_setCell ?_ HL13.out _ _)); exact HE.out))
       clear hwn
       obtain ⟨P1, hP1⟩ : ∃ P1 : Snd, P1 = ⟨P.act, P.full, W, P.ser, P.since, 0, P.str, P.fol, P.a, P.n, P.c, P.refs⟩ := ⟨_, rfl⟩
       have HC1 := zqd (show CI mode W h A P1 by rw [hP1]; exact HCI.out.upd P.full W P.ser P.since 0 HCI.out.full HWR.out (.inl HNF.out) HCI.out.ser HCI.out.since ⟨by omega, by omega⟩ (fun e1 e2 => by have := (HCI.out.new e1 e2).1; have := HW1.out; have := HNF.out; omega))
       have HR1 := zqd (show RefE mode S0 P1 by rw [hP1]; exact HSR.out.1)
       have HRW := zqd (show P1.refr = W by rw [hP1])
       have HFW := zqd (show P1.full ≤ 0 by rw [hP1]; exact HNF.out)
       rw [← hP1] at HSN
       have HHk := zqd (HH7.out.kept HEN.out)
       clear hP1 x1 p2 p5 f2 f5
       go_wp2_with (first | (refine cblk_load rfl 46 _ rfl g13 rfl HSN.out Tryd.underlying46 rfl (by kernel_rfl) ?_) | (refine cblk_load rfl 49 _ rfl g16 rfl HTN.out Tryd.underlying49 rfl (by kernel_rfl) ?_) | (refine cblk_load rfl 49 _ rfl g8 rfl HHk.out Tryd.underlying49 rfl (by kernel_rfl) ?_))
       have hbeg := begin_any P1 last A h wo (by have := HC1.out.n; omega)
       obtain ⟨Q, hQ⟩ : ∃ Q, begS P1 last A h = Q := ⟨_, rfl⟩
       rw [hQ] at hbeg
       have HQ := zqd hQ
       refine hbeg.mono ?_
       clear hbeg hQ
       rintro e wp ⟨rfl, hgc⟩
       replace HS := zqd (HSN.out.kept hgc)
       replace HT := zqd (HTN.out.kept hgc)
       replace HE := zqd (HEN.out.trans hgc)
       clear hgc HSN HTN HEN
       go_wp2_with (refine cblk_store rfl 46 _ _ rfl g13 (SCells Q) HS.out rfl rfl rfl (by kernel_rfl) rfl ?_; intro wm hb9 he9; have HSN := zqd hb9; have HTN := zqd (show CBlk g16 49 (HCells last) wm by rw [← he9]; exact HT.out.puts _ _ (Ne.symm HL16.out.2)); have HEN := zqd (show Gr w7 wm by rw [← he9]; exact gr_setCells HE.out HL13.out _ _); clear hb9 he9)
       go_meet
       refine ⟨4, rfl, by omega, Q, by rw [← HQ.out]; exact HC1.out.begin last, by rw [← HQ.out]; exact ⟨⟨HR1.out.1, HR1.out.2⟩, Int.le_refl _⟩, ⟨(fun e => by omega), (fun _ => by rw [← HQ.out]; show 0 < P1.refr; rw [HRW.out]; have := HW1.out; omega)⟩, HSN.out, HTN.out, HEN.out⟩
    clear HS HT HE HCI HSR
    obtain ⟨F, rfl, hF, P, hci, hfe, hff, hs, ht, hg⟩ := hcut
    have HFV := zqd hF
    have HFF := zqd hff
    have HCI := zqd hci
    have HSR := zqd hfe
    have HS := zqd hs
    have HT := zqd ht
    have HE := zqd hg
    clear hF hci hfe hff hs ht hg
    obtain ⟨wm, hwd⟩ : ∃ y, y = wc := ⟨_, rfl⟩
    rw [← hwd] at HS HT HE ⊢
    clear hwd wc
    go_upto_region 48 with (fail)
    obtain ⟨C, hC⟩ : ∃ C, (mode != 3) = C := ⟨_, rfl⟩
    have HCM := zqd hC
    go_cut [221] from 219 to 221 (fun v wc => v = .bool C ∧ wm = wc)
    case first =>
     have x0 := (HC7.out.kept HE.out).at 0 rfl
     go_wp2_with fail
     go_meet
     exact ⟨rfl, rfl⟩
    obtain ⟨rfl, rfl⟩ := hcut
    clear hC
    go_upto_if 221 with (fail)
    go_cut [] from 222 to 233 (fun wc => CmRel (FinE mode S0) mode W h A g13 g16 last w7 wc)
    case first =>
     cases C
     ·go_wp2_with fail
      go_meet
      exact ⟨P, HCI.out, HSR.out, HS.out, HT.out, HE.out⟩
     have HNM := zqd (show mode ≠ 3 by have := HCM.out; simpa using this)
     have p1 := HS.out.at 1 rfl
     have p2 := HS.out.at 2 rfl
     have f1 := HS.out.fz 1
     have f2 := HS.out.fz 2
     have b1 := HCI.out.full
     have b2 := HCI.out.refr
     have b3 := HW1.out
     by_cases h5 : F = 5
     ·have HP5 := zqd (HFF.out.1 h5)
      have h5b : (F == 5) = true := by simpa using h5
      have h4b : (F == 4) = false := by rw [h5]; rfl
      clear h5
      go_wp2_with fail
      obtain ⟨wn, hwn⟩ : ∃ y, y = wm.setCell ⟨g13, 1, none⟩ (.int .i64 (P.full - 1)) := ⟨_, rfl⟩
      first | rw [← hwn] | (go_show; fail)
      have HSN := zqd (show CBlk g13 46 (SCells (⟨P.act, P.full - 1, P.refr, P.ser, P.since, P.long, P.str, P.fol, P.a, P.n, P.c, P.refs⟩)) wn by rw [hwn]; exact HS.out.set 1 (.int .i64 (P.full - 1)) rfl)
      have HTN := zqd (show CBlk g16 49 (HCells last) wn by rw [hwn]; ((repeat (refine CBlk.other ?_ _ _ (Ne.symm HL16.out.2))); exact HT.out))
      have HEN := zqd (show Gr w7 wn by rw [hwn]; ((repeat (refine gr_setCell ?_ HL13.out _ _)); exact HE.out))
      clear hwn
      go_meet
      exact ⟨_, HCI.out.upd (P.full - 1) P.refr P.ser P.since P.long (by have := HP5.out; omega) HCI.out.refr (by have := HP5.out; have := HCI.out.both; omega) HCI.out.ser HCI.out.since HCI.out.long (fun _ e => absurd e HNM.out), HSR.out, HSN.out, HTN.out, HEN.out⟩
     have h5b : (F == 5) = false := by simpa using h5
     clear h5
     by_cases h4 : F = 4
     ·have HP4 := zqd (HFF.out.2 h4)
      have h4b : (F == 4) = true := by simpa using h4
      clear h4
      go_wp2_with fail
      obtain ⟨wn, hwn⟩ : ∃ y, y = wm.setCell ⟨g13, 2, none⟩ (.int .i64 (P.refr - 1)) := ⟨_, rfl⟩
      first | rw [← hwn] | (go_show; fail)
      have HSN := zqd (show CBlk g13 46 (SCells (⟨P.act, P.full, P.refr - 1, P.ser, P.since, P.long, P.str, P.fol, P.a, P.n, P.c, P.refs⟩)) wn by rw [hwn]; exact HS.out.set 2 (.int .i64 (P.refr - 1)) rfl)
      have HTN := zqd (show CBlk g16 49 (HCells last) wn by rw [hwn]; ((repeat (refine CBlk.other ?_ _ _ (Ne.symm HL16.out.2))); exact HT.out))
      have HEN := zqd (show Gr w7 wn by rw [hwn]; ((repeat (refine gr_setCell ?_ HL13.out _ _)); exact HE.out))
      clear hwn
      go_meet
      exact ⟨_, HCI.out.upd P.full (P.refr - 1) P.ser P.since P.long HCI.out.full (by have := HP4.out; omega) (by have := HP4.out; have := HCI.out.both; omega) HCI.out.ser HCI.out.since HCI.out.long (fun _ e => absurd e HNM.out), HSR.out, HSN.out, HTN.out, HEN.out⟩
     have h4b : (F == 4) = false := by simpa using h4
     clear h4
     go_wp2_with fail
     go_meet
     exact ⟨P, HCI.out, HSR.out, HS.out, HT.out, HE.out⟩
    clear HS HT HE HCI HSR HFF HCM
    obtain ⟨P, hci, hE, hs, ht, hg⟩ := hcut
    have HCI := zqd hci
    have HSR := zqd hE
    have HS := zqd hs
    have HT := zqd ht
    have HE := zqd hg
    clear hci hE hs ht hg
    obtain ⟨wn, hwd⟩ : ∃ y, y = wc := ⟨_, rfl⟩
    rw [← hwd] at HS HT HE ⊢
    clear hwd wc
    go_upto_region 53 with (fail)
    go_cut [] from 234 to 238 (fun wc => CmRel (FinE mode S0) mode W h A g13 g16 last w7 wc)
    case first =>
     have p4 := HS.out.at 4 rfl
     have f4 := HS.out.fz 4
     have b1 := HCI.out.since
     by_cases h32 : P.since + 1 ≤ 32
     ·go_wp2_with fail
      obtain ⟨wx, hwn⟩ : ∃ y, y = wn.setCell ⟨g13, 4, none⟩ (.int .i64 (P.since + 1)) := ⟨_, rfl⟩
      first | rw [← hwn] | (go_show; fail)
      have HSN := zqd (show CBlk g13 46 (SCells (⟨P.act, P.full, P.refr, P.ser, P.since + 1, P.long, P.str, P.fol, P.a, P.n, P.c, P.refs⟩)) wx by rw [hwn]; exact HS.out.set 4 (.int .i64 (P.since + 1)) rfl)
      have HTN := zqd (show CBlk g16 49 (HCells last) wx by rw [hwn]; ((repeat (refine CBlk.other ?_ _ _ (Ne.symm HL16.out.2))); exact HT.out))
      have HEN := zqd (show Gr w7 wx by rw [hwn]; ((repeat (refine gr_setCell ?_ HL13.out _ _)); exact HE.out))
      clear hwn
      go_meet
      exact ⟨_, HCI.out.upd P.full P.refr P.ser (P.since + 1) P.long HCI.out.full HCI.out.refr HCI.out.both HCI.out.ser (by omega) HCI.out.long (fun e1 e2 => ⟨(HCI.out.new e1 e2).1, (HCI.out.new e1 e2).2.1⟩), HSR.out, HSN.out, HTN.out, HEN.out⟩
     ·go_wp2_with fail
      obtain ⟨wx, hwn⟩ : ∃ y, y = wn.setCell ⟨g13, 4, none⟩ (.int .i64 32) := ⟨_, rfl⟩
      first | rw [← hwn] | (go_show; fail)
      have HSN := zqd (show CBlk g13 46 (SCells (⟨P.act, P.full, P.refr, P.ser, 32, P.long, P.str, P.fol, P.a, P.n, P.c, P.refs⟩)) wx by rw [hwn]; exact HS.out.set 4 (.int .i64 32) rfl)
      have HTN := zqd (show CBlk g16 49 (HCells last) wx by rw [hwn]; ((repeat (refine CBlk.other ?_ _ _ (Ne.symm HL16.out.2))); exact HT.out))
      have HEN := zqd (show Gr w7 wx by rw [hwn]; ((repeat (refine gr_setCell ?_ HL13.out _ _)); exact HE.out))
      clear hwn
      go_meet
      exact ⟨_, HCI.out.upd P.full P.refr P.ser 32 P.long HCI.out.full HCI.out.refr HCI.out.both HCI.out.ser (by omega) HCI.out.long (fun e1 e2 => ⟨(HCI.out.new e1 e2).1, (HCI.out.new e1 e2).2.1⟩), HSR.out, HSN.out, HTN.out, HEN.out⟩
    clear HS HT HE HCI HSR
    obtain ⟨P, hci, hE, hs, ht, hg⟩ := hcut
    have HCI := zqd hci
    have HSR := zqd hE
    have HS := zqd hs
    have HT := zqd ht
    have HE := zqd hg
    clear hci hE hs ht hg
    obtain ⟨wo, hwd⟩ : ∃ y, y = wc := ⟨_, rfl⟩
    rw [← hwd] at HS HT HE ⊢
    clear hwd wc
    go_upto_region 54 with (fail)
    obtain ⟨C, hC⟩ : ∃ C, (F == 5) = C := ⟨_, rfl⟩
    go_cut [240] from 239 to 240 (fun v wc => v = .bool C ∧ wo = wc)
    case first =>
     go_wp2_with fail
     go_meet
     exact ⟨rfl, rfl⟩
    obtain ⟨rfl, rfl⟩ := hcut
    clear hC
    go_upto_if 240 with (fail)
    go_cut [] from 241 to 241 (fun wc => CmRel (FinE mode S0) mode W h A g13 g16 last w7 wc)
    case first =>
     cases C
     ·go_wp2_with fail
      go_meet
      exact ⟨P, HCI.out, HSR.out, HS.out, HT.out, HE.out⟩
     have p4 := HS.out.at 4 rfl
     have f4 := HS.out.fz 4
     go_wp2_with fail
     obtain ⟨wx, hwn⟩ : ∃ y, y = wo.setCell ⟨g13, 4, none⟩ (.int .i64 0) := ⟨_, rfl⟩
     first | rw [← hwn] | (go_show; fail)
     have HSN := zqd (show CBlk g13 46 (SCells (⟨P.act, P.full, P.refr, P.ser, 0, P.long, P.str, P.fol, P.a, P.n, P.c, P.refs⟩)) wx by rw [hwn]; exact HS.out.set 4 (.int .i64 0) rfl)
     have HTN := zqd (show CBlk g16 49 (HCells last) wx by rw [hwn]; ((repeat (refine CBlk.other ?_ _ _ (Ne.symm HL16.out.2))); exact HT.out))
     have HEN := zqd (show Gr w7 wx by rw [hwn]; ((repeat (refine gr_setCell ?_ HL13.out _ _)); exact HE.out))
     clear hwn
     go_meet
     exact ⟨_, HCI.out.upd P.full P.refr P.ser 0 P.long HCI.out.full HCI.out.refr HCI.out.both HCI.out.ser (by omega) HCI.out.long (fun e1 e2 => ⟨(HCI.out.new e1 e2).1, (HCI.out.new e1 e2).2.1⟩), HSR.out, HSN.out, HTN.out, HEN.out⟩
    clear HS HT HE HCI HSR
    obtain ⟨P, hci, hE, hs, ht, hg⟩ := hcut
    have HCI := zqd hci
    have HSR := zqd hE
    have HS := zqd hs
    have HT := zqd ht
    have HE := zqd hg
    clear hci hE hs ht hg
    obtain ⟨wp, hwd⟩ : ∃ y, y = wc := ⟨_, rfl⟩
    rw [← hwd] at HS HT HE ⊢
    clear hwd wc
    go_upto_region 56 with (fail)
    go_cut [252] from 242 to 252 (fun v wc => BoolRel (fun _ => True) wp v wc)
    case first =>
     have k0 := (HH7.out.kept HE.out).at 0 rfl
     obtain ⟨KD, hKD⟩ : ∃ b, (h.kind == 2) = b := ⟨_, rfl⟩
     by_cases h2 : F = 2
     ·have h2b : (F == 2) = true := by simpa using h2
      clear h2
      go_wp2_with fail
      go_meet
      exact ⟨KD, rfl, trivial, Gr.refl _⟩
     have h2b : (F == 2) = false := by simpa using h2
     clear h2
     by_cases h3 : F = 3
     ·have h3b : (F == 3) = true := by simpa using h3
      clear h3
      go_wp2_with fail
      go_meet
      exact ⟨KD, rfl, trivial, Gr.refl _⟩
     have h3b : (F == 3) = false := by simpa using h3
     clear h3
     go_wp2_with fail
     go_meet
     exact ⟨false, rfl, trivial, Gr.refl _⟩
    obtain ⟨C, rfl, -, hgc⟩ := hcut
    obtain ⟨wq, hwe⟩ : ∃ y, y = wc := ⟨_, rfl⟩
    rw [← hwe] at hgc ⊢
    replace HS := zqd (HS.out.kept hgc)
    replace HT := zqd (HT.out.kept hgc)
    replace HE := zqd (HE.out.trans hgc)
    clear hwe hgc wc
    go_upto_if 252 with (fail)
    go_cut [] from 253 to 258 (fun wc => CmRel (FinE mode S0) mode W h A g13 g16 last w7 wc)
    case first =>
     have p5 := HS.out.at 5 rfl
     have f5 := HS.out.fz 5
     have b1 := HCI.out.long
     cases C
     ·go_wp2_with fail
      obtain ⟨wx, hwn⟩ : ∃ y, y = wq.setCell ⟨g13, 5, none⟩ (.int .i64 0) := ⟨_, rfl⟩
      first | rw [← hwn] | (go_show; fail)
      have HSN := zqd (show CBlk g13 46 (SCells (⟨P.act, P.full, P.refr, P.ser, P.since, 0, P.str, P.fol, P.a, P.n, P.c, P.refs⟩)) wx by rw [hwn]; exact HS.out.set 5 (.int .i64 0) rfl)
      have HTN := zqd (show CBlk g16 49 (HCells last) wx by rw [hwn]; ((repeat (refine CBlk.other ?_ _ _ (Ne.symm HL16.out.2))); exact HT.out))
      have HEN := zqd (show Gr w7 wx by rw [hwn]; ((repeat (refine gr_setCell ?_ HL13.out _ _)); exact HE.out))
      clear hwn
      go_meet
      exact ⟨_, HCI.out.upd P.full P.refr P.ser P.since 0 HCI.out.full HCI.out.refr HCI.out.both HCI.out.ser HCI.out.since (by omega) (fun e1 e2 => ⟨(HCI.out.new e1 e2).1, (HCI.out.new e1 e2).2.1⟩), HSR.out, HSN.out, HTN.out, HEN.out⟩
     by_cases h32 : P.long + 1 ≤ 3
     ·go_wp2_with fail
      obtain ⟨wx, hwn⟩ : ∃ y, y = wq.setCell ⟨g13, 5, none⟩ (.int .i64 (P.long + 1)) := ⟨_, rfl⟩
      first | rw [← hwn] | (go_show; fail)
      have HSN := zqd (show CBlk g13 46 (SCells (⟨P.act, P.full, P.refr, P.ser, P.since, P.long + 1, P.str, P.fol, P.a, P.n, P.c, P.refs⟩)) wx by rw [hwn]; exact HS.out.set 5 (.int .i64 (P.long + 1)) rfl)
      have HTN := zqd (show CBlk g16 49 (HCells last) wx by rw [hwn]; ((repeat (refine CBlk.other ?_ _ _ (Ne.symm HL16.out.2))); exact HT.out))
      have HEN := zqd (show Gr w7 wx by rw [hwn]; ((repeat (refine gr_setCell ?_ HL13.out _ _)); exact HE.out))
      clear hwn
      go_meet
      exact ⟨_, HCI.out.upd P.full P.refr P.ser P.since (P.long + 1) HCI.out.full HCI.out.refr HCI.out.both HCI.out.ser HCI.out.since (by omega) (fun e1 e2 => ⟨(HCI.out.new e1 e2).1, (HCI.out.new e1 e2).2.1⟩), HSR.out, HSN.out, HTN.out, HEN.out⟩
     ·go_wp2_with fail
      obtain ⟨wx, hwn⟩ : ∃ y, y = wq.setCell ⟨g13, 5, none⟩ (.int .i64 3) := ⟨_, rfl⟩
      first | rw [← hwn] | (go_show; fail)
      have HSN := zqd (show CBlk g13 46 (SCells (⟨P.act, P.full, P.refr, P.ser, P.since, 3, P.str, P.fol, P.a, P.n, P.c, P.refs⟩)) wx by rw [hwn]; exact HS.out.set 5 (.int .i64 3) rfl)
      have HTN := zqd (show CBlk g16 49 (HCells last) wx by rw [hwn]; ((repeat (refine CBlk.other ?_ _ _ (Ne.symm HL16.out.2))); exact HT.out))
      have HEN := zqd (show Gr w7 wx by rw [hwn]; ((repeat (refine gr_setCell ?_ HL13.out _ _)); exact HE.out))
      clear hwn
      go_meet
      exact ⟨_, HCI.out.upd P.full P.refr P.ser P.since 3 HCI.out.full HCI.out.refr HCI.out.both HCI.out.ser HCI.out.since (by omega) (fun e1 e2 => ⟨(HCI.out.new e1 e2).1, (HCI.out.new e1 e2).2.1⟩), HSR.out, HSN.out, HTN.out, HEN.out⟩
    clear HS HT HE HCI HSR
    obtain ⟨P, hci, hE, hs, ht, hg⟩ := hcut
    have HCI := zqd hci
    have HSR := zqd hE
    have HS := zqd hs
    have HT := zqd ht
    have HE := zqd hg
    clear hci hE hs ht hg
    obtain ⟨wv, hwd⟩ : ∃ y, y = wc := ⟨_, rfl⟩
    rw [← hwd] at HS HT HE ⊢
    clear hwd wc
    --FAST
    have hm0 := List.mem_of_getElem? HS0.out
    have hgal : Gr wv (wv.alloc (.cells (HCells h).toArray 49)) := Gr.alloc _ _
    have hsz : w7.heap.size ≤ wv.heap.size := HE.out.size
    have hl3 : B ≤ g3 ∧ g3 < g7 := HLOW.out.1
    have hq : (wv.alloc (.cells (HCells h).toArray 49)).heap[wv.heap.size]? = some (.cells (HCells h).toArray 49 (0, 0)) := heap_alloc_new _ _
    have hseg : Seg (wv.alloc (.cells (HCells h).toArray 49)) (some ⟨wv.heap.size, 0, none⟩) ([h].flatMap HCells) := .inr ⟨wv.heap.size, 0, rfl, heap_lt hq, fun i hi => by rw [Nat.zero_add, cell_of_block hq]; simp⟩
    have hownP := ref_own HSR.out.1 (own_stayG (HOWN7.out.2.1 S0 hm0).1 HE.out)
    obtain ⟨a', c', wx, hrun, ho, hgx, hfo⟩ := app_hdr B _ P.a P.n P.c P.refs (own_stayG hownP hgal) (some ⟨wv.heap.size, 0, none⟩) 1 1 [h] rfl hseg (fun e => by cases e) (by have := HCI.out.n; omega) (by have := hgal.size; omega)
    have hblk := ref_blk HSR.out.1
    have hlow : ∀ q, ownB P.a P.n P.c = some q → (B ≤ q ∧ q < g7) ∧ q ≠ g3 := fun q hq => by
     rcases hblk with hb | hb
     ·rw [hb] at hq; cases hq
     ·rw [hb] at hq
      exact ⟨HLOW.out.2 S0 hm0 q hq, fun e => HOWN7.out.2.2.1 S0 hm0 q hq (by rw [e]; rfl)⟩
    have hTI := after_app (HOWN7.out.stay (HE.out.trans hgal)) HS0.out HLOW.out hgx hblk
    have h78 : g7 ≤ g8 := Nat.le_of_lt HLT5
    have h713 : g7 < g13 := by have := HO7.out.lt; have := HL13.out; omega
    have hw13 : g13 < wv.heap.size := HS.out.lt
    have HHv := zqd (HH7.out.kept HE.out)
    have HSx := zqd (cblk_far (g7 := g7) (B := B) (HS.out.kept hgal) hgx (fun q hq => (hlow q hq).1) (.inr (Nat.le_of_lt h713)))
    have HHx := zqd (cblk_far (g7 := g7) (B := B) (HHv.out.kept hgal) hgx (fun q hq => (hlow q hq).1) (.inr h78))
    have HOx := zqd (cblk_far (g7 := g7) (B := B) (HO7.out.kept (HE.out.trans hgal)) hgx (fun q hq => (hlow q hq).1) (.inr (Nat.le_refl _)))
    have HCx := zqd (cblk_far (g7 := g7) (B := B) (HC7.out.kept (HE.out.trans hgal)) hgx (fun q hq => (hlow q hq).1) (.inl (by omega)))
    have HZx := zqd (cblk_far (g7 := g7) (B := B) (HZ7.out.kept (HE.out.trans hgal)) hgx (fun q hq => (hlow q hq).1) (.inl (by omega)))
    have HPx := zqd (rd_keptBut (HPR7.out.kept (HE.out.trans hgal)) hgx (fun q off _ e e2 => by have h1 := HFR.out q off e; have h2 := (hlow q e2.symm).1; omega))
    have HGX := zqd (gr_own (HG7.out.trans (HE.out.trans hgal)) hgx (fun q hq => by have h2 := (hlow q hq).1; omega))
    have HTI := zqd hTI
    have HOX := zqd ho
    have HFAR := zqd (show ∀ q, ownB a' (P.n + 1) c' = some q → q ≠ g3 ∧ q ≠ g13 ∧ B ≤ q from fun q hq => by
     rcases hfo with hf | ⟨g, hf, hg⟩
     ·have h2 := hlow q (hf.symm.trans hq)
      exact ⟨h2.2, by omega, by omega⟩
     ·have h3 := hgal.size
      have h4 : ownB a' (P.n + 1) c' = some g := hf
      rw [hq] at h4
      injection h4 with h4
      exact ⟨by omega, by omega, by omega⟩)
    have HOKX := zqd (show ∀ x ∈ P.refs ++ [h], HOk x from fun x hx => by
     rcases List.mem_append.1 hx with hx | hx
     ·exact hok_valid (HCI.out.refs x hx).1
     ·simp only [List.mem_singleton] at hx; subst hx; exact hok_valid HHV.out.1)
    simp only [HCells] at hrun
    have HRUN := zqd hrun
    have p8 := HS.out.at 8 rfl
    have x8 := HSx.out.at 8 rfl
    have f8 := HSx.out.fz 8
    clear hm0 hgal hsz hl3 hq hseg hownP hrun ho hgx hfo hblk hlow hTI hw13
    go_upto_region 60 with (first | (refine cblk_load rfl 49 _ rfl g8 rfl HHv.out Tryd.underlying49 rfl (by kernel_rfl) ?_) | (at_builtin; refine wpList_app rfl _ _ _ rfl rfl rfl HRUN.out ?_))
    obtain ⟨wy, hwy⟩ : ∃ y, y = wx.setCell ⟨g13, 8, none⟩ (.slice a' (P.n + 1) c') := ⟨_, rfl⟩
    first | rw [← hwy] | (go_show; fail)
    obtain ⟨R0, hR0⟩ : ∃ R0 : Snd, R0 = ⟨P.act, P.full, P.refr, P.ser, P.since, P.long, P.str, P.fol, a', P.n + 1, c', P.refs ++ [h]⟩ := ⟨_, rfl⟩
    have hgy : wx.grownBy wy (some g13) := by rw [hwy]; exact grown_setAt wx g13 8 _
    have HSy := zqd (show CBlk g13 46 (SCells R0) wy by rw [hwy, hR0]; exact HSx.out.set 8 _ rfl)
    have HHy := zqd (HHx.out.but hgy (fun e => by injection e with e; have := HH7.out.lt; have := HL13.out; omega))
    have HOy := zqd (HOx.out.but hgy (fun e => by injection e with e; omega))
    have HCy := zqd (HCx.out.but hgy (fun e => by injection e with e; omega))
    have HZy := zqd (HZx.out.but hgy (fun e => by injection e with e; omega))
    have HPy := zqd (rd_keptBut HPx.out hgy (fun q off hl e e2 => by
     obtain ⟨b9, o9, e9, hb9, -⟩ := HPR7.out.some hl
     rw [e9] at e
     injection e with e; injection e with e3 e4
     injection e2 with e2
     have := HL13.out; omega))
    have HGy := zqd (gr_own HGX.out hgy (fun q hq => by injection hq with hq; omega))
    have HTy := zqd (HTI.out.but hgy (.inl (by omega)))
    have HRy := zqd (show RdH wy R0.a R0.n R0.c R0.refs by
     rw [hR0]
     exact OwnHd.rd (B := B) (HOX.out.kept hgy (by
      cases hv : (Value.slice a' (P.n + 1) c').ownBlock with
      | none => exact .inl rfl
      | some q => right; intro e; injection e with e; exact (HFAR.out q hv).2.1 e)) HOKX.out)
    have HQ0 := zqd (show ∃ ga, R0.a = some ⟨ga, 0, none⟩ ∧ ga ≠ g3 ∧ ga ≠ g13 ∧ B ≤ ga by
     rw [hR0]
     rcases HOX.out.2 with ⟨hv, h0⟩ | ⟨g, cap', cur, hv, _⟩
     ·omega
     ·injection hv with e1
      subst e1
      exact ⟨g, rfl, (HFAR.out g rfl).1, (HFAR.out g rfl).2.1, (HFAR.out g rfl).2.2⟩)
    have HRP := zqd hR0
    have hRn : R0.n = P.n + 1 := by rw [hR0]
    have hRs : 0 ≤ R0.ser ∧ R0.ser ≤ P.n := by rw [hR0]; exact ⟨HCI.out.ser.1, HSR.out.2⟩
    have hPn := HCI.out.n.1
    clear hwy hR0 hgy p8 x8 f8 HSx HHx HOx HCx HZx HPx HTI HOX HRUN HOKX HFAR HHv
    obtain ⟨ga, hga, hga3, hga13, hgaB⟩ := HQ0.out
    have p8 : wy.cell? ⟨g13, 8, none⟩ = some (.slice (some ⟨ga, 0, none⟩) R0.n R0.c) := by rw [← hga]; exact HSy.out.at 8 rfl
    have x1 := HCy.out.at 1 rfl
    have HGA := zqd hga
    clear hga
    have hWb := HW1.out
    go_upto_region 61 with (fail)
    clear x1 p8
    obtain ⟨OV, hOV⟩ : ∃ OV, (P.n : Int) + 1 - W = OV := ⟨_, rfl⟩
    rw [hOV]
    have HOV := zqd hOV
    have hov1 : -10 ≤ OV ∧ OV ≤ 100 := by omega
    clear hOV
    go_cut [277] from 271 to 277 (fun v wc => BoolRel (fun C => (C = true → (W : Int) < P.n + 1 ∧ mode ≠ 3) ∧ (C = false → mode = 3 ∨ (P.n : Int) + 1 ≤ W)) wy v wc)
    case first =>
     have x0 := HCy.out.at 0 rfl
     by_cases hov : 0 < OV
     ·by_cases hm : mode = 3
      ·have hmb : (mode != 3) = false := by simpa using hm
       have HM1 := zqd hm
       clear hm
       go_wp2_with fail
       go_meet
       exact ⟨false, rfl, ⟨(fun e => by cases e), (fun _ => .inl HM1.out)⟩, Gr.refl _⟩
      ·have hmb : (mode != 3) = true := by simpa using hm
       have HM1 := zqd hm
       clear hm
       go_wp2_with fail
       go_meet
       exact ⟨true, rfl, ⟨(fun _ => ⟨by have := HOV.out; omega, HM1.out⟩), (fun e => by cases e)⟩, Gr.refl _⟩
     ·go_wp2_with fail
      go_meet
      exact ⟨false, rfl, ⟨(fun e => by cases e), (fun _ => .inr (by have := HOV.out; omega))⟩, Gr.refl _⟩
    obtain ⟨C, rfl, hC, hgc⟩ := hcut
    have HCM := zqd hC
    clear hC
    have HGC := zqd hgc
    clear hgc
    obtain ⟨wz2, hwz⟩ : ∃ y, y = wc := ⟨_, rfl⟩
    rw [← hwz] at HGC ⊢
    clear hwz wc
    have HSz := zqd (HSy.out.kept HGC.out)
    have HRz := zqd (HRy.out.kept HGC.out)
    have HBD := zqd (beg_dyn2 HCI.out)
    go_upto_if 277 with (fail)
    go_cut [] from 278 to 288 (fun wc => TailRel mode W h A B g3 g13 wz2 wc)
    case first =>
     have HAW := zqd (show A = false → mode = 3 → R0.full = W ∧ R0.refr = 0 ∧ R0.ser = 0 ∧ R0.refs = [h] from fun e1 e2 => by
      have h1 := HCI.out.new e1 e2
      have h2 := HSR.out.2
      have h3 := HCI.out.ser.1
      have h4 := HCI.out.len
      have h5 : P.refs = [] := List.eq_nil_of_length_eq_zero (by omega)
      rw [HRP.out]
      exact ⟨h1.1, h1.2.1, by show P.ser = 0; omega, by show P.refs ++ [h] = [h]; rw [h5]; rfl⟩)
     cases C
     ·go_wp2_with fail
      go_meet
      refine ⟨R0, CI.fin HSH.out HHV.out.1 HCI.out R0 0 (by omega) HSR.out.2 (by rw [HRP.out]) (by rw [HRP.out]) (by rw [HRP.out]) (by rw [HRP.out]; show P.ser = _; rw [if_pos (by have := HCI.out.ser.1; omega)]; omega) (by rw [HRP.out]) (by rw [HRP.out]) (by rw [HRP.out]) (by rw [HRP.out]) (by rw [HRP.out]; rfl) ?_, by rw [HRP.out]; exact HBD.out, HAW.out, HSz.out, HRz.out, (fun q off e => by rw [HGA.out] at e; injection e with e; injection e with e1 e2; exact ⟨by omega, by omega, by omega⟩), grown_weak (Gr.refl _) _⟩
      have h1 := HCM.out.2 (by trivial)
      have h2 := HSR.out.1.2
      unfold most
      split
      ·have := h2 (by assumption); omega
      ·rcases h1 with h1 | h1
       ·exact absurd h1 (by assumption)
       ·omega
     have hc := HCM.out.1 (by trivial)
     have HNM := zqd hc.2
     have hov := hc.1
     clear hc
     obtain ⟨k, rfl⟩ : ∃ k : Nat, OV = (k : Int) := ⟨OV.toNat, by have := HOV.out; omega⟩
     have hkn : k ≤ P.n := by have := HOV.out; omega
     have hcap : P.n + 1 ≤ R0.c := by have := HRz.out.2.1; omega
     have p8 : wz2.cell? ⟨g13, 8, none⟩ = some (.slice (some ⟨ga, 0, none⟩) R0.n R0.c) := by rw [← HGA.out]; exact HSz.out.at 8 rfl
     have p3 := HSz.out.at 3 rfl
     have f8 := HSz.out.fz 8
     have f3 := HSz.out.fz 3
     by_cases hsk : 0 < R0.ser - (k : Int)
     ·go_wp2_with fail
      obtain ⟨wu, hwu⟩ : ∃ y, y = (wz2.setCell ⟨g13, 8, none⟩ (.slice (some ⟨ga, k * 15, none⟩) (P.n + 1 - k) (R0.c - k))).setCell ⟨g13, 3, none⟩ (.int .i64 (R0.ser - (k : Int))) := ⟨_, rfl⟩
      first | rw [← hwu] | (go_show; fail)
      obtain ⟨R, hR⟩ : ∃ R : Snd, R = ⟨R0.act, R0.full, R0.refr, R0.ser - (k : Int), R0.since, R0.long, R0.str, R0.fol, some ⟨ga, k * 15, none⟩, P.n + 1 - k, R0.c - k, R0.refs.drop k⟩ := ⟨_, rfl⟩
      have HSu := zqd (show CBlk g13 46 (SCells R) wu by rw [hwu, hR]; exact (HSz.out.set 8 _ rfl).set 3 _ rfl)
      have hgu : wz2.grownBy wu (some g13) := by rw [hwu]; exact grown_setE (grown_setAt _ _ _ _) _ _
      have HRu := zqd (show RdH wu R.a R.n R.c R.refs by
       have h1 := HRz.out
       rw [HGA.out] at h1
       have h2 := h1.drop k (by omega)
       rw [Nat.zero_add, hRn] at h2
       rw [hR]
       exact rdh_but h2 hgu (fun b off e => by injection e with e; injection e with e1 e2; intro e3; injection e3 with e3; omega))
      go_meet
      refine ⟨R, CI.fin HSH.out HHV.out.1 HCI.out R k hkn HSR.out.2 (by rw [hR, HRP.out]) (by rw [hR, HRP.out]) (by rw [hR, HRP.out]) ?_ (by rw [hR, HRP.out]) (by rw [hR, HRP.out]) (by rw [hR, HRP.out]) (by rw [hR, HRP.out]) (by rw [hR, HRP.out]) ?_, by rw [hR, HRP.out]; exact HBD.out, (fun _ e => absurd e HNM.out), HSu.out, HRu.out, (fun q off e => by rw [hR] at e; injection e with e; injection e with e1 e2; exact ⟨by omega, by omega, by omega⟩), hgu⟩
      ·rw [HRP.out] at hsk
       have hsk2 : _ := hsk
       simp only at hsk2
       rw [hR, HRP.out]
       simp only
       split <;> omega
      ·unfold most
       rw [if_neg HNM.out]
       have := HOV.out
       omega
     ·go_wp2_with fail
      obtain ⟨wu, hwu⟩ : ∃ y, y = (wz2.setCell ⟨g13, 8, none⟩ (.slice (some ⟨ga, k * 15, none⟩) (P.n + 1 - k) (R0.c - k))).setCell ⟨g13, 3, none⟩ (.int .i64 (0)) := ⟨_, rfl⟩
      first | rw [← hwu] | (go_show; fail)
      obtain ⟨R, hR⟩ : ∃ R : Snd, R = ⟨R0.act, R0.full, R0.refr, 0, R0.since, R0.long, R0.str, R0.fol, some ⟨ga, k * 15, none⟩, P.n + 1 - k, R0.c - k, R0.refs.drop k⟩ := ⟨_, rfl⟩
      have HSu := zqd (show CBlk g13 46 (SCells R) wu by rw [hwu, hR]; exact (HSz.out.set 8 _ rfl).set 3 _ rfl)
      have hgu : wz2.grownBy wu (some g13) := by rw [hwu]; exact grown_setE (grown_setAt _ _ _ _) _ _
      have HRu := zqd (show RdH wu R.a R.n R.c R.refs by
       have h1 := HRz.out
       rw [HGA.out] at h1
       have h2 := h1.drop k (by omega)
       rw [Nat.zero_add, hRn] at h2
       rw [hR]
       exact rdh_but h2 hgu (fun b off e => by injection e with e; injection e with e1 e2; intro e3; injection e3 with e3; omega))
      go_meet
      refine ⟨R, CI.fin HSH.out HHV.out.1 HCI.out R k hkn HSR.out.2 (by rw [hR, HRP.out]) (by rw [hR, HRP.out]) (by rw [hR, HRP.out]) ?_ (by rw [hR, HRP.out]) (by rw [hR, HRP.out]) (by rw [hR, HRP.out]) (by rw [hR, HRP.out]) (by rw [hR, HRP.out]) ?_, by rw [hR, HRP.out]; exact HBD.out, (fun _ e => absurd e HNM.out), HSu.out, HRu.out, (fun q off e => by rw [hR] at e; injection e with e; injection e with e1 e2; exact ⟨by omega, by omega, by omega⟩), hgu⟩
      ·rw [HRP.out] at hsk
       have hsk2 : _ := hsk
       simp only at hsk2
       rw [hR, HRP.out]
       simp only
       split <;> omega
      ·unfold most
       rw [if_neg HNM.out]
       have := HOV.out
       omega
    obtain ⟨R, ⟨c1, c2, c4⟩, ⟨d1, d2⟩, haw, hs, hrr, hfar, hgw⟩ := hcut
    have HAW := zqd haw
    have HCTX := zqd (show ctxB mode W R = true ∧ R.act = true ∧ sameB (headS R) h = true from ⟨c1, c2, c4⟩)
    have HDY := zqd (show dynB R.str R.fol = true ∧ (h.kind = 1 → R.str = 0 ∧ R.fol = 0) from ⟨d1, d2⟩)
    have HSu := zqd hs
    have HRu := zqd hrr
    have HFA := zqd hfar
    obtain ⟨wu, hwu⟩ : ∃ y, y = wc := ⟨_, rfl⟩
    rw [← hwu] at HSu HRu hgw ⊢
    have hl3 : B ≤ g3 ∧ g3 < g7 := HLOW.out.1
    have hl8 : g8 < g13 := by have := HL13.out; omega
    have HHu := zqd ((HHy.out.kept HGC.out).but hgw (fun e => by injection e with e; omega))
    have HOu := zqd ((HOy.out.kept HGC.out).but hgw (fun e => by injection e with e; omega))
    have HZu := zqd ((HZy.out.kept HGC.out).but hgw (fun e => by injection e with e; omega))
    have HPu := zqd (rd_keptBut (HPy.out.kept HGC.out) hgw (fun q off hl e e2 => by
     obtain ⟨b9, o9, e9, hb9, -⟩ := HPR7.out.some hl
     rw [e9] at e
     injection e with e; injection e with e3 e4
     injection e2 with e2
     have := HL13.out; omega))
    have HGu := zqd (gr_own (HGy.out.trans HGC.out) hgw (fun q hq => by injection hq with hq; omega))
    have HTu := zqd ((HTy.out.gr HGC.out).but hgw (.inl (by omega)))
    clear hwu hs hrr hfar hgw haw c1 c2 c4 d1 d2 HSy HHy HOy HCy HZy HPy HGy HTy HRy HSz HRz HGC HBD hRn hRs HRP HQ0 HGA hga3 hga13 hgaB
    have x2 := HOu.out.at 2 rfl
    have HTH := zqd HTu.out.there
    go_upto_region 65 with (first | (refine cblk_load rfl 46 _ rfl g13 rfl HSu.out Tryd.underlying46 rfl (by kernel_rfl) ?_) | (refine wpList_store_mid rfl 46 _ _ rfl g3 (i * 9) (SCells R).toArray rfl rfl HTH.out (by kernel_rfl) (all_oneCell_toArray (scells_1 R)) ?_))
    obtain ⟨w64, hw64⟩ : ∃ y, y = wu.setCells g3 (i * 9) (SCells R) := ⟨_, rfl⟩
    first | rw [← hw64] | (go_show; fail)
    have hg64 : wu.grownBy w64 (some g3) := by rw [hw64]; exact grown_setCells g3 _ _ wu
    have HRC := zqd (HTu.out.done HRu.out (fun q off e => (HFA.out q off e).1) hw64.symm)
    have HAB := zqd (fun (hp : w.heap.size + 1 < B) => HTu.out.above (R := R) (fun q off e => (HFA.out q off e).2.2) hp)
    have HAC := zqd (show AboveC w.heap.size (some ⟨g3, 0, none⟩) (M.set i R) from HTu.out.aboveC (fun q off e => (HFA.out q off e).2.2) (by omega))
    have HS4 := zqd (HSu.out.but hg64 (fun e => by injection e with e; omega))
    have HH4 := zqd (HHu.out.but hg64 (fun e => by injection e with e; omega))
    have HO4 := zqd (HOu.out.but hg64 (fun e => by injection e with e; omega))
    have HZ4 := zqd (HZu.out.but hg64 (fun e => by injection e with e; omega))
    have HP4 := zqd (rd_keptBut HPu.out hg64 (fun q off _ e e2 => by have h1 := HFR.out q off e; injection e2 with e2; omega))
    have HG4 := zqd (gr_own HGu.out hg64 (fun q hq => by injection hq with hq; omega))
    clear hw64 hg64 x2 HTH HSu HHu HOu HZu HPu HGu HTu HRu HFA
    go_wp2_with (first | (refine cblk_load rfl 46 _ rfl g13 rfl HS4.out Tryd.underlying46 rfl (by kernel_rfl) ?_) | (refine cblk_load rfl 49 _ rfl g8 rfl HH4.out Tryd.underlying49 rfl (by kernel_rfl) ?_))
    refine (parts_any R i F h pa pn pc w64 HFV.out HHV.out.1 HDY.out.1 HDY.out.2 (in_mk (by omega) (by omega)) (by rw [HPL.out]; exact HHV.out.2)).mono ?_
    rintro e w65 ⟨m, rfl, hok, hma, hmn, hmc, hg65⟩
    have HRd := zqd (show Rd .u8 w65 m.a m.n ys by rw [hma, hmn]; exact HP4.out.kept hg65)
    have HOKM := zqd hok
    have HG65 := zqd hg65
    clear hok hma hmn hmc hg65
    go_wp2_with fail
    refine (enc8_yes m ys w65 HOKM.out HRd.out).mono ?_
    rintro e w66 ⟨ab, nb, cb, xb, rfl, hn1, hn2, hob, hg66⟩
    have HOB := zqd hob
    have HGE := zqd (HG65.out.trans hg66)
    have HLO := zqd (show w.heap.size + 1 < w65.heap.size by have := HG65.out.size; have := HZ4.out.lt; omega)
    clear hob hg66
    have HZ6 := zqd (HZ4.out.kept HGE.out)
    have HO6 := zqd (HO4.out.kept HGE.out)
    have HR6 := zqd (HRC.out.kept HGE.out)
    have HG6 := zqd (HG4.out.trans HGE.out)
    go_wp2_with (first | (refine cblk_load rfl 24 _ rfl g7 rfl HO6.out Tryd.underlying24 rfl (by kernel_rfl) ?_) | (refine cblk_store rfl 24 _ _ rfl (w.heap.size + 1) [.int .i64 mode, .int .i64 W, .slice (some ⟨g3, 0, none⟩) 16 c3] HZ6.out rfl rfl rfl (by kernel_rfl) rfl ?_; intro w9 hb9 he9; have HB9 := zqd hb9; have HGZ := zqd (show Gr w w9 by rw [← he9]; exact gr_setCells HG6.out (by omega) _ _); have HR9 := zqd (show RdC w9 (some ⟨g3, 0, none⟩) 16 c3 (M.set i R) by rw [← he9]; exact rdc_but HR6.out (grown_setCells (w.heap.size + 1) _ 0 w66) (fun b' off' e he => by injection e with e; injection e with e1 e2; omega) (HAB.out HB2)); have HB0 := zqd (show Rd .u8 w9 ab nb xb by rw [← he9]; exact (owni_other HOB.out (B := w.heap.size + 1 + 1) (grown_setCells (w.heap.size + 1) _ 0 w66) (by omega) (by have := HLO.out; omega)).rd); clear hb9 he9))
    refine bodyPost_ret (results_c2 Tryd.results14 _ _ (w.heap.size + 1) _ _ rfl HB9.out Tryd.underlying24 rfl (by kernel_rfl)) rfl ⟨_, _, M.set i R, ab, nb, cb, xb, rfl, HR9.out, valid_set HVM.out HFD.out HCTX.out.1 HCTX.out.2.1 HCTX.out.2.2, hn1, hn2, HB0.out, HGZ.out, HAC.out, fun _ hm3 hz => ?_⟩
    have hi0 := found_zero HFD.out (HACT.out hz)
    have hAf : A = false := by have := HACT.out hz S0 (List.mem_of_getElem? HS0.out); rw [HA.out] at this; exact this
    have h9 := HAW.out hAf hm3
    exact ⟨R, by rw [hi0]; exact List.getElem?_set_self (by have := (valid_parts HVM.out).2.1; omega), HCTX.out.2.1, h9.1, h9.2.1, h9.2.2.1, h9.2.2.2⟩
end Go.Proofs.YtlnkofpcidngoaaDoor