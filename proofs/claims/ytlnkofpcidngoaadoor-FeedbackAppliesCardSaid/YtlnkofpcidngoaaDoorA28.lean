/- Layer 11 (feedback), the reference: Apply. -/
import Derived.Test.YtlnkofpcidngoaaDoorA0
import Derived.Test.YtlnkofpcidngoaaDoorA27
import Derived.Test.YtlnkofpcidngoaaDoorA12
import Derived.Test.YtlnkofpcidngoaaDoorA26
import Derived.Deep.CutRange
import Derived.Deep.CutBlock
namespace Go.Proofs.YtlnkofpcidngoaaDoor
open Go.ChangeShapes Go.WideShapes Go.ChangeAt Go.RowKit
def RaRel (mode width : Int) (s : Snd) (fk fn : Int) (t : Snd) (gs : Nat) (w6 : World) (wc : World) : Prop := ∃ P : Snd, plainS P = fbP mode width s fk fn ∧ CBlk gs 46 (SCells P) wc ∧ RdH wc P.a P.n P.c P.refs ∧ (∀ q off, P.a = some ⟨q, off, none⟩ → ∃ o, t.a = some ⟨q, o, none⟩) ∧ w6.grownBy wc (some gs)
set_option maxRecDepth 100000 in
set_option maxHeartbeats 4000000 in
theorem rapply_of (mode width : Int) (a : Option Addr) (n c : Nat) (L : List Snd) (fc fk fn : Int) (w : World) (hr : RdC w a n c L) (hval : ∀ u, Gr w u → Calls Tryd.prog 20 #[CVal mode width a n c] u fun e w' => e = .returned (.bool (validC mode width L)) ∧ Gr u w') :
  Calls Tryd.prog 17 #[CVal mode width a n c, FVal fc fk fn] w (ApPost2 mode width (apE mode width L fc fk fn) (apL mode width L fc fk fn) w) := by
 obtain ⟨E, hE⟩ : ∃ E, apE mode width L fc fk fn = E := ⟨_, rfl⟩
 obtain ⟨PL, hPL⟩ : ∃ E, apL mode width L fc fk fn = E := ⟨_, rfl⟩
 rw [hE, hPL]
 have HE := zqd hE
 have HPL := zqd hPL
 have HR := zqd hr
 have HVAL := zqd hval
 have HN := zqd hr.1
 obtain ⟨V, hV⟩ : ∃ V, validC mode width L = V := ⟨_, rfl⟩
 obtain ⟨U, hU⟩ : ∃ U, fbB fc fk fn = U := ⟨_, rfl⟩
 have HV := zqd hV
 have HU := zqd hU
 clear hE hPL hr hV hU hval
 go_enter Tryd.func17, Tryd.ntmps17
 go_upto_region 1 with (fail)
 obtain ⟨w1, hw1⟩ : ∃ y, y = ((w.alloc (.cells #[.int .i64 mode, .int .i64 width, .slice a n c] 24)).alloc (.cells #[.int .i64 fc, .int .i64 fk, .int .i64 fn] 26)).alloc (.cells #[.int .i64 0, .int .i64 0, .slice none 0 0] 24) := ⟨_, rfl⟩
 have h3 := blocks3 w (.cells #[.int .i64 mode, .int .i64 width, .slice a n c] 24) (.cells #[.int .i64 fc, .int .i64 fk, .int .i64 fn] 26) (.cells #[.int .i64 0, .int .i64 0, .slice none 0 0] 24)
 rw [← hw1] at h3
 have HB1 := zqd (show CBlk w.heap.size 24 [.int .i64 mode, .int .i64 width, .slice a n c] w1 from h3.1)
 have HF1 := zqd (show CBlk (w.heap.size + 1) 26 [.int .i64 fc, .int .i64 fk, .int .i64 fn] w1 from h3.2.1)
 have HZ1 := zqd (show CBlk (w.heap.size + 1 + 1) 24 [.int .i64 0, .int .i64 0, .slice none 0 0] w1 from h3.2.2)
 have HG1 := zqd (show Gr w w1 by rw [hw1]; exact (Gr.alloc _ _).trans ((Gr.alloc _ _).trans (Gr.alloc _ _)))
 rw [← hw1]
 clear hw1 h3
 go_wp2_with (refine cblk_load rfl 24 _ rfl w.heap.size rfl HB1.out Tryd.underlying24 rfl (by kernel_rfl) ?_)
 have hv1 := HVAL.out w1 HG1.out
 rw [HV.out] at hv1
 refine hv1.mono ?_
 clear hv1
 rintro e w2 ⟨rfl, hg2⟩
 have HB2 := zqd (HB1.out.kept hg2)
 have HF2 := zqd (HF1.out.kept hg2)
 have HZ2 := zqd (HZ1.out.kept hg2)
 have HG2 := zqd (HG1.out.trans hg2)
 clear hg2 HB1 HF1 HZ1 HG1
 cases V
 ·have HEE := zqd (show E = 1 by rw [← HE.out, apE, HV.out]; rfl)
  go_wp2_with (refine cblk_store rfl 24 _ _ rfl (w.heap.size + 1 + 1) [.int .i64 0, .int .i64 0, .slice none 0 0] (HZ2.out) rfl rfl rfl (by kernel_rfl) rfl ?_; intro w9 hb9 he9; have HB9 := zqd hb9; have HGE := zqd (show Gr w w9 by rw [← he9]; exact gr_setCells (HG2.out) (by omega) _ _); clear hb9 he9)
  refine bodyPost_ret (results_c1 Tryd.results17 _ _ (w.heap.size + 1 + 1) _ _ rfl HB9.out Tryd.underlying24 rfl (by kernel_rfl)) rfl ⟨HGE.out, .inr ⟨by rw [HEE.out]; decide, by rw [HEE.out]; rfl⟩⟩
 go_wp2_with (refine cblk_load rfl 26 _ rfl (w.heap.size + 1) rfl HF2.out Tryd.underlying26 rfl (by kernel_rfl) ?_)
 refine (rfbvalid_is HU.out w2).mono ?_
 rintro e w3 ⟨rfl, hg3⟩
 have HB3 := zqd (HB2.out.kept hg3)
 have HF3 := zqd (HF2.out.kept hg3)
 have HZ3 := zqd (HZ2.out.kept hg3)
 have HG3 := zqd (HG2.out.trans hg3)
 clear hg3 HB2 HF2 HZ2 HG2
 cases U
 ·have HEE := zqd (show E = 1 by rw [← HE.out, apE, HV.out, HU.out]; rfl)
  go_wp2_with (refine cblk_store rfl 24 _ _ rfl (w.heap.size + 1 + 1) [.int .i64 0, .int .i64 0, .slice none 0 0] (HZ3.out) rfl rfl rfl (by kernel_rfl) rfl ?_; intro w9 hb9 he9; have HB9 := zqd hb9; have HGE := zqd (show Gr w w9 by rw [← he9]; exact gr_setCells (HG3.out) (by omega) _ _); clear hb9 he9)
  refine bodyPost_ret (results_c1 Tryd.results17 _ _ (w.heap.size + 1 + 1) _ _ rfl HB9.out Tryd.underlying24 rfl (by kernel_rfl)) rfl ⟨HGE.out, .inr ⟨by rw [HEE.out]; decide, by rw [HEE.out]; rfl⟩⟩
 have x0 : w3.cell? ⟨w.heap.size, 0, none⟩ = some (.int .i64 mode) := HB3.out.at 0 rfl
 have HE2 := zqd (show (if mode = 1 then 16 else if (sndAt L fc).act = false then 8 else 0 : Int) = E by rw [← HE.out, apE, HV.out, HU.out]; rfl)
 by_cases hm1 : mode = 1
 ·have HEE := zqd (show E = 16 by rw [← HE2.out, if_pos hm1])
  have hmb : (mode == 1) = true := by simpa using hm1
  clear hm1
  go_wp2_with (refine cblk_store rfl 24 _ _ rfl (w.heap.size + 1 + 1) [.int .i64 0, .int .i64 0, .slice none 0 0] (HZ3.out) rfl rfl rfl (by kernel_rfl) rfl ?_; intro w9 hb9 he9; have HB9 := zqd hb9; have HGE := zqd (show Gr w w9 by rw [← he9]; exact gr_setCells (HG3.out) (by omega) _ _); clear hb9 he9)
  refine bodyPost_ret (results_c1 Tryd.results17 _ _ (w.heap.size + 1 + 1) _ _ rfl HB9.out Tryd.underlying24 rfl (by kernel_rfl)) rfl ⟨HGE.out, .inr ⟨by rw [HEE.out]; decide, by rw [HEE.out]; rfl⟩⟩
 have HE3 := zqd (show (if (sndAt L fc).act = false then 8 else 0 : Int) = E by rw [← HE2.out, if_neg hm1])
 have hmb : (mode == 1) = false := by simpa using hm1
 obtain ⟨f1, f2, f3, f4, f5, f6⟩ := fb_yes HU.out
 obtain ⟨i, rfl⟩ : ∃ i : Nat, fc = i := ⟨fc.toNat, by omega⟩
 obtain ⟨hsh, h16, -⟩ := valid_parts HV.out
 obtain rfl : n = 16 := by rw [← HN.out]; exact h16
 obtain ⟨s, hs, hrs⟩ := HR.out.get (show i < 16 by omega)
 have HS := zqd hs
 have HSA := zqd (show sndAt L i = s by unfold sndAt; rw [Int.toNat_natCast, hs]; rfl)
 obtain ⟨b, off, ea, -, hrow⟩ := HR.out.row (by omega)
 subst ea
 have x2 : w3.cell? ⟨w.heap.size, 2, none⟩ = some (.slice (some ⟨b, off, none⟩) 16 c) := HB3.out.at 2 rfl
 have y0 : w3.cell? ⟨w.heap.size + 1, 0, none⟩ = some (.int .i64 i) := HF3.out.at 0 rfl
 obtain ⟨A, hA⟩ : ∃ A, s.act = A := ⟨_, rfl⟩
 have HA := zqd hA
 have s0 : w3.cell? ⟨b, off + i * 9, none⟩ = some (.bool A) := by rw [← hA]; exact (range_gr (hrow i s hs) HG3.out) 0 _ rfl
 clear hm1 hs hrs hrow hA hsh h16
 cases A
 ·have HEE := zqd (show E = 8 by rw [← HE3.out, HSA.out, HA.out]; rfl)
  go_wp2_with (refine cblk_store rfl 24 _ _ rfl (w.heap.size + 1 + 1) [.int .i64 0, .int .i64 0, .slice none 0 0] (HZ3.out) rfl rfl rfl (by kernel_rfl) rfl ?_; intro w9 hb9 he9; have HB9 := zqd hb9; have HGE := zqd (show Gr w w9 by rw [← he9]; exact gr_setCells (HG3.out) (by omega) _ _); clear hb9 he9)
  refine bodyPost_ret (results_c1 Tryd.results17 _ _ (w.heap.size + 1 + 1) _ _ rfl HB9.out Tryd.underlying24 rfl (by kernel_rfl)) rfl ⟨HGE.out, .inr ⟨by rw [HEE.out]; decide, by rw [HEE.out]; rfl⟩⟩
 have HEE := zqd (show E = 0 by rw [← HE3.out, HSA.out, HA.out]; rfl)
 have hsmall : ∀ t ∈ L, t.n ≤ 1000 := fun t ht => by
  obtain ⟨k, hk⟩ := List.getElem?_of_mem ht
  have h1 := (valid_small HV.out hk).1
  have h2 := (HR.out.2.2.2.2.2 t ht).1
  omega
 have HSM := zqd hsmall
 have hss := valid_small HV.out HS.out
 have HSS := zqd hss
 clear hsmall hss
 go_wp2_with (refine cblk_load rfl 24 _ rfl w.heap.size rfl HB3.out Tryd.underlying24 rfl (by kernel_rfl) ?_)
 refine (copy_c mode width (some ⟨b, off, none⟩) 16 c L w3 (HR.out.kept HG3.out) (by omega) HSM.out).mono ?_
 rintro e w4 ⟨a4, c4, M, rfl, hsm, hown, hg4⟩
 obtain ⟨g0, rfl⟩ : ∃ g0, a4 = some ⟨g0, 0, none⟩ := by
  rcases hown.1.2 with ⟨hv, h0⟩ | ⟨g, cap', cur, hv, _⟩
  ·omega
  ·injection hv with e1; exact ⟨g, e1⟩
 have HSAM := zqd hsm
 have HOWN := zqd hown
 have HB4 := zqd (HB3.out.kept hg4)
 have HF4 := zqd (HF3.out.kept hg4)
 have HZ4 := zqd (HZ3.out.kept hg4)
 have HG4 := zqd (HG3.out.trans hg4)
 have hl3 := HZ3.out.lt
 clear hsm hown hg4 x0 x2 y0 s0 HB3 HF3 HZ3 HG3
 go_upto_region 8 with (fail)
 obtain ⟨w5, hw5⟩ : ∃ y, y = w4.alloc (.cells #[.int .i64 mode, .int .i64 width, .slice (some ⟨g0, 0, none⟩) 16 c4] 24) := ⟨_, rfl⟩
 have HO5 := zqd (show CBlk w4.heap.size 24 [.int .i64 mode, .int .i64 width, .slice (some ⟨g0, 0, none⟩) 16 c4] w5 by rw [hw5]; exact CBlk.new _ _ _)
 have hg5 : Gr w4 w5 := by rw [hw5]; exact Gr.alloc _ _
 first | rw [← hw5] | (go_show; fail)
 obtain ⟨t, ht, hpl⟩ := HSAM.out.get HS.out
 have htm := List.mem_of_getElem? ht
 have HOWN5 := zqd (HOWN.out.stay hg5)
 have HB5 := zqd (HB4.out.kept hg5)
 have HF5 := zqd (HF4.out.kept hg5)
 have HZ5 := zqd (HZ4.out.kept hg5)
 have HG5 := zqd (HG4.out.trans hg5)
 have HTP := zqd hpl
 have HTM := zqd htm
 have HT0 := zqd ht
 have hl4 : g0 < w4.heap.size := (own_blockG HOWN.out.1 rfl).2.2.2
 have hg03 : w3.heap.size ≤ g0 := (own_blockG HOWN.out.1 rfl).2.2.1
 have HLOW := zqd (show ∀ q off, t.a = some ⟨q, off, none⟩ → w3.heap.size ≤ q ∧ q < w4.heap.size ∧ q ≠ g0 from fun q off e => by
  have h1 := own_blockG (HOWN.out.2.1 t htm).1 e
  exact ⟨h1.2.2.1, h1.2.2.2, fun e2 => HOWN.out.2.2.1 t htm q h1.2.1 (by rw [e2]; rfl)⟩)
 have htn : t.n ≤ 32 := by
  have h1 : t.refs.length = t.n := (HOWN.out.2.1 t htm).1.len
  have h2 : t.refs = s.refs := (congrArg Snd.refs hpl : (plainS t).refs = (plainS s).refs)
  rw [← h1, h2]; exact HSS.out.1
 have hts : 0 ≤ t.ser ∧ t.ser ≤ 32 := by
  have h2 : t.ser = s.ser := (congrArg Snd.ser hpl : (plainS t).ser = (plainS s).ser)
  rw [h2]; exact HSS.out.2
 have HRNG := zqd (Elt.rng (B := w3.heap.size) (n := 16) (c := c4) (M := M) ⟨HOWN5.out.1, ht⟩)
 have HRT := zqd ((HOWN5.out.2.1 t htm).1.rd (HOWN5.out.2.1 t htm).2)
 have HLM := zqd (show (w3.heap.size ≤ g0 ∧ g0 < w4.heap.size) ∧ ∀ y ∈ M, ∀ q, ownB y.a y.n y.c = some q → w3.heap.size ≤ q ∧ q < w4.heap.size from ⟨⟨hg03, hl4⟩, fun y hy q hq => (HOWN.out.2.1 y hy).1.lt q hq⟩)
 clear hw5 hg5 hpl htm ht HOWN HB4 HF4 HZ4 HG4
 have o2 := HO5.out.at 2 rfl
 have y0 := HF5.out.at 0 rfl
 obtain ⟨wz, hwz⟩ : ∃ y, y = w5.alloc (.cells (SCells zeroS').toArray 46) := ⟨_, rfl⟩
 have HZZ := zqd (show CBlk w5.heap.size 46 (SCells zeroS') wz by rw [hwz]; exact CBlk.new _ _ _)
 have HGZ := zqd (show Gr w5 wz by rw [hwz]; exact Gr.alloc _ _)
 simp only [SCells, zeroS'] at hwz
 go_upto_region 9 with (first | (refine rng_load rfl 46 _ rfl g0 (i * 9) rfl (SCells t) HRNG.out Tryd.underlying46 rfl (by kernel_rfl) ?_) | rw [← hwz]; refine cblk_store rfl 46 _ _ rfl w5.heap.size (SCells t) HZZ.out rfl rfl rfl (by kernel_rfl) rfl ?_; intro w6 hb9 he9; have HS6 := zqd hb9; have HE6 := zqd (show Gr w5 w6 by rw [← he9]; exact gr_setCells HGZ.out (Nat.le_refl _) _ _); clear hb9 he9)
 have hls : w4.heap.size < w5.heap.size := HO5.out.lt
 obtain ⟨gs, hgs⟩ : ∃ g, w5.heap.size = g := ⟨_, rfl⟩
 rw [hgs] at HS6 hls
 rw [hgs]
 have HO6 := zqd (HO5.out.kept HE6.out)
 have HB6 := zqd (HB5.out.kept HE6.out)
 have HF6 := zqd (HF5.out.kept HE6.out)
 have HZ6 := zqd (HZ5.out.kept HE6.out)
 have HG6 := zqd (HG5.out.trans HE6.out)
 have HOWN6 := zqd (HOWN5.out.stay HE6.out)
 have HRT6 := zqd (HRT.out.kept HE6.out)
 clear hwz HZZ HGZ hgs o2 y0 HRNG HO5 HB5 HF5 HZ5 HG5 HOWN5 HRT HE6
 have p8 := HS6.out.at 8 rfl
 have y1 := HF6.out.at 1 rfl
 go_upto_region 10 with (fail)
 clear p8
 go_upto_block 1 with fail
 go_cut [9] from 48 to 108 (fun _ wc => RaRel mode width s fk fn t gs w6 wc)
 case first =>
  have HGX := zqd (Gr.refl w6)
  by_cases hk0 : fk = 0
  ·have hkb : (fk == 0) = true := by simpa using hk0
   have HFP := zqd (show fbP mode width s fk fn = ackP mode t fn by
    rw [fbP, if_pos hk0]
    have h1 := congrArg (fun z => ackP mode z fn) HTP.out
    exact h1.symm)
   have HRL := zqd HRT6.out.1
   clear hk0 HGX
   go_wp2_with fail
   clear y1 hkb
   go_loopw [9] (fun k wr => ∃ j : Nat, j ≤ t.n ∧ k = .int .i64 ((j : Int) - 1) ∧ lastK t.refs fn t.n = lastK t.refs fn j ∧ Gr w6 wr) (fun k _ => (intOf k + 1).toNat)
   case atStart => exact ⟨t.n, by omega, by go_num, rfl, Gr.refl _⟩
   case round =>
    obtain ⟨j, hj, rfl, hlk, hg⟩ := hrel
    have HLK := zqd hlk
    have HGX := zqd hg
    clear hlk hg
    have c8 : ∀ u, Gr wr u → u.cell? ⟨gs, 8, none⟩ = some (.slice t.a t.n t.c) := fun u hu => (HS6.out.kept (HGX.out.trans hu)).at 8 rfl
    have c2 : ∀ u, Gr wr u → u.cell? ⟨w.heap.size + 1, 2, none⟩ = some (.int .i64 fn) := fun u hu => (HF6.out.kept (HGX.out.trans hu)).at 2 rfl
    cases j with
    | zero =>
     clear c8 c2
     go_upto_region 14 with (fail)
     refine Sched.wp_region_sched 12 [] [] (by kernel_rfl) (by kernel_rfl) ?_
     simp only [List.take_succ_cons, List.take_zero, List.drop_succ_cons, List.drop_zero]
     repeat (first | ((first | ((with_reducible refine Sched.walk1_no ?_ ?_ (fun K hK => ?_)); (focus rfl); (focus rfl)) | ((with_reducible refine Sched.walk1_gr ?_ ?_ ?_ (fun K hK => ?_)); (focus rfl); (focus rfl); (focus rfl); apply Exists.intro; refine ⟨fun w1 hw1 => ?_, ?_⟩; (focus (go_simp; (try go_ints); (try (simp only [IntWalk.iteOmega]; go_simp)); first | done | (with_reducible rfl) | (with_reducible exact ⟨rfl, rfl⟩))))); simp only [Act.put, zqa, zqb, zqc]; refine hK _ ?_; clear hK K))
     (with_reducible refine Sched.walk1_nil ?_)
     intro wq hwq
     dsimp only [Sched.EndN, List.nil_append, List.cons_append, Act.put]
     (try simp only [zqa, zqb, zqc])
     repeat (first | (refine Sched.walk2_no rfl (fun K hK => ?_); simp only [Act.put, zqa, zqb, zqc]; refine hK _ ?_; clear hK K) | (refine Sched.walk2_go rfl (fun K hK => ?_); go_simp; (try go_ints); (try (simp only [IntWalk.iteOmega]; go_simp)); (refine hK _ _ ?_; clear hK K)))
     refine Sched.walk2_nil ?_
     have HGW := zqd (HGX.out.trans hwq)
     have HOW := zqd (HO6.out.kept HGW.out)
     have HZW := zqd (HZ6.out.kept HGW.out)
     have HMW := zqd (HOWN6.out.stay HGW.out)
     clear hwq
     go_wp2_with (first | (refine cblk_load rfl 24 _ rfl w4.heap.size rfl HOW.out Tryd.underlying24 rfl (by kernel_rfl) ?_) | (refine cblk_store rfl 24 _ _ rfl (w.heap.size + 1 + 1) [.int .i64 mode, .int .i64 width, .slice (some ⟨g0, 0, none⟩) 16 c4] HZW.out rfl rfl rfl (by kernel_rfl) rfl ?_; intro w9 hb9 he9; have HB9 := zqd hb9; have HGE := zqd (show Gr w w9 by rw [← he9]; exact gr_setCells (HG6.out.trans HGW.out) (by omega) _ _); have HM9 := zqd (show OwnC w3.heap.size w9 (some ⟨g0, 0, none⟩) 16 c4 M by rw [← he9]; exact HMW.out.but (grown_setCells (w.heap.size + 1 + 1) _ 0 _) (by simp; omega)); clear hb9 he9))
     refine bodyPost_ret (results_c1 Tryd.results17 _ _ (w.heap.size + 1 + 1) _ _ rfl HB9.out Tryd.underlying24 rfl (by kernel_rfl)) rfl ⟨HGE.out, .inl ⟨HEE.out, _, _, M, rfl, ?_, HM9.out.rd, HM9.out.aboveC (by omega)⟩⟩
     have hak : fbP mode width s fk fn = plainS t := by rw [HFP.out, ackP, HRL.out, HLK.out]; rfl
     rw [← HPL.out, apL, HSA.out, Int.toNat_natCast, hak, ← HSAM.out]
     exact (set_same (by rw [List.getElem?_map, HT0.out]; rfl)).symm
    | succ j =>
     have hq : ((j + 1 : Nat) : Int) - 1 = (j : Int) := by omega
     rw [hq]
     obtain ⟨x, hx, -⟩ := HRT6.out.get (show j < t.n by omega)
     obtain ⟨b, off, ea, -, hrow⟩ := (HRT6.out.kept HGX.out).row (by omega)
     have HRG := zqd (hrow j x hx)
     have HEA := zqd ea
     rw [ea] at c8
     obtain ⟨NN, hN⟩ : ∃ N, numH x = N := ⟨_, rfl⟩
     have HNN := zqd hN
     have HLS := zqd (show lastK t.refs fn (j + 1) = if NN = fn then some j else lastK t.refs fn j by rw [lastK, hx, Option.getD_some, hN])
     clear hrow hx ea hN
     go_upto_region 14 with (fail)
     refine Sched.wp_region_sched 12 [] [] (by kernel_rfl) (by kernel_rfl) ?_
     simp only [List.take_succ_cons, List.take_zero, List.drop_succ_cons, List.drop_zero]
     repeat (first | ((first | ((with_reducible refine Sched.walk1_no ?_ ?_ (fun K hK => ?_)); (focus rfl); (focus rfl)) | ((with_reducible refine Sched.walk1_gr ?_ ?_ ?_ (fun K hK => ?_)); (focus rfl); (focus rfl); (focus rfl); apply Exists.intro; refine ⟨fun w1 hw1 => ?_, ?_⟩; (focus (go_simp; (try go_ints); (try (simp only [IntWalk.iteOmega]; go_simp)); first | done | (with_reducible rfl) | (with_reducible exact ⟨rfl, rfl⟩))))); simp only [Act.put, zqa, zqb, zqc]; refine hK _ ?_; clear hK K))
     (with_reducible refine Sched.walk1_gr ?_ ?_ ?_ (fun K hK => ?_)); (focus rfl); (focus rfl); (focus rfl)
     refine ⟨HVal x, fun w1 hw1 => rng_gq (range_gr HRG.out hw1) 49 _ rfl rfl Tryd.underlying49 rfl (by kernel_rfl), ?_⟩
     simp only [Act.put, zqa, zqb, zqc]
     refine hK _ ?_
     clear hK K
     repeat (first | ((first | ((with_reducible refine Sched.walk1_no ?_ ?_ (fun K hK => ?_)); (focus rfl); (focus rfl)) | ((with_reducible refine Sched.walk1_gr ?_ ?_ ?_ (fun K hK => ?_)); (focus rfl); (focus rfl); (focus rfl); apply Exists.intro; refine ⟨fun w1 hw1 => ?_, ?_⟩; (focus (go_simp; (try go_ints); (try (simp only [IntWalk.iteOmega]; go_simp)); first | done | (go_at_call 15; (with_reducible exact rnum_is HNN.out _)) | (with_reducible rfl) | (with_reducible exact ⟨rfl, rfl⟩))))); simp only [Act.put, zqa, zqb, zqc]; refine hK _ ?_; clear hK K))
     refine Sched.walk1_nil ?_
     intro wq hwq
     dsimp only [Sched.EndN, List.nil_append, List.cons_append, Act.put]
     (try simp only [zqa, zqb, zqc])
     repeat (first | (refine Sched.walk2_no rfl (fun K hK => ?_); simp only [Act.put, zqa, zqb, zqc]; refine hK _ ?_; clear hK K) | (refine Sched.walk2_go rfl (fun K hK => ?_); go_simp; (try go_ints); (try (simp only [IntWalk.iteOmega]; go_simp)); (refine hK _ _ ?_; clear hK K)))
     refine Sched.walk2_nil ?_
     have HG2 := zqd (HGX.out.trans hwq)
     clear hwq c8 c2
     by_cases hnum : NN = fn
     rotate_left
     ·have hb : (NN != fn) = true := by simpa using hnum
      go_wp2_with fail
      go_roundw
      case rel => exact ⟨j, by omega, by go_num, by rw [HLK.out, HLS.out, if_neg hnum], HG2.out⟩
      case measure => (simp [intOf] <;> omega)
     ·have hb : (NN != fn) = false := by simpa using hnum
      have HLJ := zqd (show lastK t.refs fn t.n = some j by rw [HLK.out, HLS.out, if_pos hnum])
      clear hnum HGX
      have HGX := HG2
      have HSX := zqd (HS6.out.kept HGX.out)
      have HRX := zqd (show RdH wq (some ⟨b, off, none⟩) t.n t.c t.refs by rw [← HEA.out]; exact HRT6.out.kept HGX.out)
      have hcap : t.n ≤ t.c := HRX.out.2.1
      have x0 := (HB6.out.kept HGX.out).at 0 rfl
      have p1 := HSX.out.at 1 rfl
      have p2 := HSX.out.at 2 rfl
      have p3 := HSX.out.at 3 rfl
      have p8 : wq.cell? ⟨gs, 8, none⟩ = some (.slice (some ⟨b, off, none⟩) t.n t.c) := by rw [← HEA.out]; exact HSX.out.at 8 rfl
      have f1 := HSX.out.fz 1
      have f2 := HSX.out.fz 2
      have f3 := HSX.out.fz 3
      have f8 := HSX.out.fz 8
      by_cases hle : t.ser ≤ j
      ·by_cases hm3 : mode = 3
       ·have hmb : (mode == 3) = true := by simpa using hm3
        have HM3 := zqd hm3
        clear hm3
        go_wp2_with fail
        have HFA := zqd (show plainS (⟨t.act, 0, 0, 0, t.since, t.long, t.str, t.fol, some ⟨b, off + j * 15, none⟩, t.n - j, t.c - j, t.refs.drop j⟩ : Snd) = fbP mode width s fk fn by
         rw [HFP.out, ackP, HRL.out, HLJ.out]
         simp only
         rw [if_pos hle, if_pos hle]
         rw [if_pos HM3.out, if_pos HM3.out, if_neg (by omega)]
         rfl)
        obtain ⟨wn, hwn⟩ : ∃ y, y = ((((wq.setCell ⟨gs, 1, none⟩ (.int .i64 0)).setCell ⟨gs, 2, none⟩ (.int .i64 0)).setCell ⟨gs, 8, none⟩ (.slice (some ⟨b, off + j * 15, none⟩) (t.n - j) (t.c - j))).setCell ⟨gs, 3, none⟩ (.int .i64 0)) := ⟨_, rfl⟩
        first | rw [← hwn] | (go_show; fail)
        have HSN := zqd (show CBlk gs 46 (SCells (⟨t.act, 0, 0, 0, t.since, t.long, t.str, t.fol, some ⟨b, off + j * 15, none⟩, t.n - j, t.c - j, t.refs.drop j⟩)) wn by rw [hwn]; exact (((HSX.out.set 1 (.int .i64 0) rfl).set 2 (.int .i64 0) rfl).set 8 (.slice (some ⟨b, off + j * 15, none⟩) (t.n - j) (t.c - j)) rfl).set 3 (.int .i64 0) rfl)
        have HGN := zqd (show w6.grownBy wn (some gs) by rw [hwn]; ((repeat (refine grown_setE ?_ _ _)); exact gr_some HGX.out _))
        have HGQ := zqd (show wq.grownBy wn (some gs) by rw [hwn]; ((repeat (refine grown_setE ?_ _ _)); exact gr_some (Gr.refl _) _))
        clear hwn
        go_meet
        exact ⟨_, HFA.out, HSN.out, rdh_but (w := wq) (w' := wn) (by have := HRX.out.drop j (by omega); exact this) HGQ.out (fun q o e => by injection e with e; injection e with e1 e2; have := HLOW.out b off HEA.out; intro e3; injection e3 with e3; omega), fun q o e => by injection e with e; injection e with e1 e2; exact ⟨off, by rw [HEA.out, e1]⟩, HGN.out⟩
       ·have hmb : (mode == 3) = false := by simpa using hm3
        have HM3 := zqd hm3
        clear hm3
        go_wp2_with fail
        have HFA := zqd (show plainS (⟨t.act, 0, 0, t.ser, t.since, t.long, t.str, t.fol, t.a, t.n, t.c, t.refs⟩ : Snd) = fbP mode width s fk fn by
         rw [HFP.out, ackP, HRL.out, HLJ.out]
         simp only
         rw [if_pos hle, if_pos hle]
         rw [if_neg HM3.out, if_neg HM3.out]
         rfl)
        obtain ⟨wn, hwn⟩ : ∃ y, y = (wq.setCell ⟨gs, 1, none⟩ (.int .i64 0)).setCell ⟨gs, 2, none⟩ (.int .i64 0) := ⟨_, rfl⟩
        first | rw [← hwn] | (go_show; fail)
        have HSN := zqd (show CBlk gs 46 (SCells (⟨t.act, 0, 0, t.ser, t.since, t.long, t.str, t.fol, t.a, t.n, t.c, t.refs⟩)) wn by rw [hwn]; exact (HSX.out.set 1 (.int .i64 0) rfl).set 2 (.int .i64 0) rfl)
        have HGN := zqd (show w6.grownBy wn (some gs) by rw [hwn]; ((repeat (refine grown_setE ?_ _ _)); exact gr_some HGX.out _))
        have HGQ := zqd (show wq.grownBy wn (some gs) by rw [hwn]; ((repeat (refine grown_setE ?_ _ _)); exact gr_some (Gr.refl _) _))
        clear hwn
        go_meet
        exact ⟨_, HFA.out, HSN.out, rdh_but (w := wq) (w' := wn) (by have := HRX.out; rw [← HEA.out] at this; exact this) HGQ.out (fun q o e => by have := HLOW.out q o e; intro e3; injection e3 with e3; omega), fun q o e => ⟨o, e⟩, HGN.out⟩
      ·by_cases hm3 : mode = 3
       ·have hmb : (mode == 3) = true := by simpa using hm3
        have HM3 := zqd hm3
        clear hm3
        go_wp2_with fail
        have HFA := zqd (show plainS (⟨t.act, t.full, t.refr, t.ser - (j : Int), t.since, t.long, t.str, t.fol, some ⟨b, off + j * 15, none⟩, t.n - j, t.c - j, t.refs.drop j⟩ : Snd) = fbP mode width s fk fn by
         rw [HFP.out, ackP, HRL.out, HLJ.out]
         simp only
         rw [if_neg (show ¬ t.ser ≤ (j : Int) by omega), if_neg (show ¬ t.ser ≤ (j : Int) by omega)]
         rw [if_pos HM3.out, if_pos HM3.out, if_pos (by omega)]
         rfl)
        obtain ⟨wn, hwn⟩ : ∃ y, y = (wq.setCell ⟨gs, 8, none⟩ (.slice (some ⟨b, off + j * 15, none⟩) (t.n - j) (t.c - j))).setCell ⟨gs, 3, none⟩ (.int .i64 (t.ser - (j : Int))) := ⟨_, rfl⟩
        first | rw [← hwn] | (go_show; fail)
        have HSN := zqd (show CBlk gs 46 (SCells (⟨t.act, t.full, t.refr, t.ser - (j : Int), t.since, t.long, t.str, t.fol, some ⟨b, off + j * 15, none⟩, t.n - j, t.c - j, t.refs.drop j⟩)) wn by rw [hwn]; exact (HSX.out.set 8 (.slice (some ⟨b, off + j * 15, none⟩) (t.n - j) (t.c - j)) rfl).set 3 (.int .i64 (t.ser - (j : Int))) rfl)
        have HGN := zqd (show w6.grownBy wn (some gs) by rw [hwn]; ((repeat (refine grown_setE ?_ _ _)); exact gr_some HGX.out _))
        have HGQ := zqd (show wq.grownBy wn (some gs) by rw [hwn]; ((repeat (refine grown_setE ?_ _ _)); exact gr_some (Gr.refl _) _))
        clear hwn
        go_meet
        exact ⟨_, HFA.out, HSN.out, rdh_but (w := wq) (w' := wn) (by have := HRX.out.drop j (by omega); exact this) HGQ.out (fun q o e => by injection e with e; injection e with e1 e2; have := HLOW.out b off HEA.out; intro e3; injection e3 with e3; omega), fun q o e => by injection e with e; injection e with e1 e2; exact ⟨off, by rw [HEA.out, e1]⟩, HGN.out⟩
       ·have hmb : (mode == 3) = false := by simpa using hm3
        have HM3 := zqd hm3
        clear hm3
        go_wp2_with fail
        have HFA := zqd (show plainS (⟨t.act, t.full, t.refr, t.ser, t.since, t.long, t.str, t.fol, t.a, t.n, t.c, t.refs⟩ : Snd) = fbP mode width s fk fn by
         rw [HFP.out, ackP, HRL.out, HLJ.out]
         simp only
         rw [if_neg (show ¬ t.ser ≤ (j : Int) by omega), if_neg (show ¬ t.ser ≤ (j : Int) by omega)]
         rw [if_neg HM3.out, if_neg HM3.out]
         rfl)
        go_meet
        exact ⟨_, HFA.out, HSX.out, by have := HRX.out; rw [← HEA.out] at this; exact this, fun q o e => ⟨o, e⟩, gr_some HGX.out _⟩
  have hkb : (fk == 0) = false := by simpa using hk0
  have q8 := HS6.out.at 8 rfl
  have q1 := HS6.out.at 1 rfl
  have q2 := HS6.out.at 2 rfl
  have q3 := HS6.out.at 3 rfl
  have z1 := HS6.out.fz 1
  have z2 := HS6.out.fz 2
  have z3 := HS6.out.fz 3
  have x1 := HB6.out.at 1 rfl
  have HTF := zqd (show t.full = s.full from (congrArg Snd.full HTP.out : (plainS t).full = (plainS s).full))
  by_cases hk2 : fk = 2
  ·have hkb2 : (fk == 1) = false := by rw [hk2]; rfl
   have HFP := zqd (show plainS (⟨t.act, width, 0, t.n, t.since, t.long, t.str, t.fol, t.a, t.n, t.c, t.refs⟩ : Snd) = fbP mode width s fk fn by
    rw [fbP, if_neg hk0, if_pos hk2, ← HRT6.out.1]
    have h1 := congrArg (fun z : Snd => (⟨z.act, width, 0, z.refs.length, z.since, z.long, z.str, z.fol, none, 0, 0, z.refs⟩ : Snd)) HTP.out
    exact h1)
   clear hk0 hk2
   go_wp2_with fail
   obtain ⟨wn, hwn⟩ : ∃ y, y = ((w6.setCell ⟨gs, 1, none⟩ (.int .i64 width)).setCell ⟨gs, 2, none⟩ (.int .i64 0)).setCell ⟨gs, 3, none⟩ (.int .i64 (t.n : Int)) := ⟨_, rfl⟩
   first | rw [← hwn] | (go_show; fail)
   have HSN := zqd (show CBlk gs 46 (SCells (⟨t.act, width, 0, t.n, t.since, t.long, t.str, t.fol, t.a, t.n, t.c, t.refs⟩)) wn by rw [hwn]; exact ((HS6.out.set 1 (.int .i64 width) rfl).set 2 (.int .i64 0) rfl).set 3 (.int .i64 (t.n : Int)) rfl)
   have HGN := zqd (show w6.grownBy wn (some gs) by rw [hwn]; ((repeat (refine grown_setE ?_ _ _)); exact gr_some HGX.out _))
   clear hwn
   go_meet
   exact ⟨_, HFP.out, HSN.out, rdh_but HRT6.out HGN.out (fun q off e => by have := HLOW.out q off e; intro e2; injection e2 with e2; omega), fun q off e => ⟨off, e⟩, HGN.out⟩
  ·have hk1 : fk = 1 := by have := fb_yes HU.out; omega
   have hkb2 : (fk == 1) = true := by rw [hk1]; rfl
   have HK0 := zqd hk0
   have HK2 := zqd hk2
   clear hk0 hk2 hk1
   by_cases hf : 0 < t.full
   ·have HFP := zqd (show plainS (⟨t.act, width, t.refr, t.n, t.since, t.long, t.str, t.fol, t.a, t.n, t.c, t.refs⟩ : Snd) = fbP mode width s fk fn by
     rw [fbP, if_neg HK0.out, if_neg HK2.out, if_pos (by rw [← HTF.out]; exact hf), ← HRT6.out.1]
     have h1 := congrArg (fun z : Snd => (⟨z.act, width, z.refr, z.refs.length, z.since, z.long, z.str, z.fol, none, 0, 0, z.refs⟩ : Snd)) HTP.out
     exact h1)
    go_wp2_with fail
    obtain ⟨wn, hwn⟩ : ∃ y, y = (w6.setCell ⟨gs, 3, none⟩ (.int .i64 (t.n : Int))).setCell ⟨gs, 1, none⟩ (.int .i64 width) := ⟨_, rfl⟩
    first | rw [← hwn] | (go_show; fail)
    have HSN := zqd (show CBlk gs 46 (SCells (⟨t.act, width, t.refr, t.n, t.since, t.long, t.str, t.fol, t.a, t.n, t.c, t.refs⟩)) wn by rw [hwn]; exact (HS6.out.set 3 (.int .i64 (t.n : Int)) rfl).set 1 (.int .i64 width) rfl)
    have HGN := zqd (show w6.grownBy wn (some gs) by rw [hwn]; ((repeat (refine grown_setE ?_ _ _)); exact gr_some HGX.out _))
    clear hwn
    go_meet
    exact ⟨_, HFP.out, HSN.out, rdh_but HRT6.out HGN.out (fun q off e => by have := HLOW.out q off e; intro e2; injection e2 with e2; omega), fun q off e => ⟨off, e⟩, HGN.out⟩
   ·have HFP := zqd (show plainS (⟨t.act, t.full, width, t.n, t.since, t.long, t.str, t.fol, t.a, t.n, t.c, t.refs⟩ : Snd) = fbP mode width s fk fn by
     rw [fbP, if_neg HK0.out, if_neg HK2.out, if_neg (by rw [← HTF.out]; exact hf), ← HRT6.out.1]
     have h1 := congrArg (fun z : Snd => (⟨z.act, z.full, width, z.refs.length, z.since, z.long, z.str, z.fol, none, 0, 0, z.refs⟩ : Snd)) HTP.out
     exact h1)
    go_wp2_with fail
    obtain ⟨wn, hwn⟩ : ∃ y, y = (w6.setCell ⟨gs, 3, none⟩ (.int .i64 (t.n : Int))).setCell ⟨gs, 2, none⟩ (.int .i64 width) := ⟨_, rfl⟩
    first | rw [← hwn] | (go_show; fail)
    have HSN := zqd (show CBlk gs 46 (SCells (⟨t.act, t.full, width, t.n, t.since, t.long, t.str, t.fol, t.a, t.n, t.c, t.refs⟩)) wn by rw [hwn]; exact (HS6.out.set 3 (.int .i64 (t.n : Int)) rfl).set 2 (.int .i64 width) rfl)
    have HGN := zqd (show w6.grownBy wn (some gs) by rw [hwn]; ((repeat (refine grown_setE ?_ _ _)); exact gr_some HGX.out _))
    clear hwn
    go_meet
    exact ⟨_, HFP.out, HSN.out, rdh_but HRT6.out HGN.out (fun q off e => by have := HLOW.out q off e; intro e2; injection e2 with e2; omega), fun q off e => ⟨off, e⟩, HGN.out⟩
 obtain ⟨P, hpl, hs, hr6, hq6, hg6⟩ := hcut
 have HPP := zqd hpl
 have HSP := zqd hs
 have HRP := zqd hr6
 have HQP := zqd hq6
 obtain ⟨wu, hwu⟩ : ∃ y, y = wc := ⟨_, rfl⟩
 rw [← hwu] at HSP HRP hg6 ⊢
 have HOu := zqd (HO6.out.but hg6 (fun e => by injection e with e; omega))
 have HFu := zqd (HF6.out.but hg6 (fun e => by injection e with e; omega))
 have HZu := zqd (HZ6.out.but hg6 (fun e => by injection e with e; omega))
 have HGu := zqd (gr_own HG6.out hg6 (fun q hq => by injection hq with hq; omega))
 have HTu := zqd ((after_app HOWN6.out HT0.out HLM.out (Gr.refl _) (.inl rfl)).but hg6 (.inl (by omega)))
 clear hwu hpl hs hr6 hq6 hg6 HO6 HB6 HF6 HZ6 HG6 HS6
 have x2 := HOu.out.at 2 rfl
 have y0 := HFu.out.at 0 rfl
 have HTH := zqd HTu.out.there
 go_upto_region 29 with (first | (refine cblk_load rfl 46 _ rfl gs rfl HSP.out Tryd.underlying46 rfl (by kernel_rfl) ?_) | (refine wpList_store_mid rfl 46 _ _ rfl g0 (i * 9) (SCells P).toArray rfl rfl HTH.out (by kernel_rfl) (all_oneCell_toArray (scells_1 P)) ?_))
 obtain ⟨w64, hw64⟩ : ∃ y, y = wu.setCells g0 (i * 9) (SCells P) := ⟨_, rfl⟩
 first | rw [← hw64] | (go_show; fail)
 have hg64 : wu.grownBy w64 (some g0) := by rw [hw64]; exact grown_setCells g0 _ _ wu
 have HRC := zqd (HTu.out.done HRP.out (fun q off e => by obtain ⟨o, ho⟩ := HQP.out q off e; exact (HLOW.out q o ho).2.2) hw64.symm)
 have HAC := zqd (show AboveC w3.heap.size (some ⟨g0, 0, none⟩) (M.set i P) from HTu.out.aboveC (fun q off e => by obtain ⟨o, ho⟩ := HQP.out q off e; exact (HLOW.out q o ho).1) (Nat.le_refl _))
 have HAB := zqd (fun (p : Nat) (hp : p < w3.heap.size) => HTu.out.above (R := P) (fun q off e => by obtain ⟨o, ho⟩ := HQP.out q off e; exact (HLOW.out q o ho).1) hp)
 have HO4 := zqd (HOu.out.but hg64 (fun e => by injection e with e; omega))
 have HZ4 := zqd (HZu.out.but hg64 (fun e => by injection e with e; omega))
 have HG4 := zqd (gr_own HGu.out hg64 (fun q hq => by injection hq with hq; omega))
 clear hw64 hg64 x2 y0 HTH HOu HFu HZu HGu HTu
 go_wp2_with (first | (refine cblk_load rfl 24 _ rfl w4.heap.size rfl HO4.out Tryd.underlying24 rfl (by kernel_rfl) ?_) | (refine cblk_store rfl 24 _ _ rfl (w.heap.size + 1 + 1) [.int .i64 mode, .int .i64 width, .slice (some ⟨g0, 0, none⟩) 16 c4] HZ4.out rfl rfl rfl (by kernel_rfl) rfl ?_; intro w9 hb9 he9; have HB9 := zqd hb9; have HGE := zqd (show Gr w w9 by rw [← he9]; exact gr_setCells HG4.out (by omega) _ _); have HR9 := zqd (show RdC w9 (some ⟨g0, 0, none⟩) 16 c4 (M.set i P) by rw [← he9]; exact rdc_but HRC.out (grown_setCells (w.heap.size + 1 + 1) _ 0 w64) (fun b' off' e he => by injection e with e; injection e with e1 e2; omega) (HAB.out _ hl3)); clear hb9 he9))
 refine bodyPost_ret (results_c1 Tryd.results17 _ _ (w.heap.size + 1 + 1) _ _ rfl HB9.out Tryd.underlying24 rfl (by kernel_rfl)) rfl ⟨HGE.out, .inl ⟨HEE.out, _, _, M.set i P, rfl, ?_, HR9.out, ⟨fun b off e => by have := HAC.out.1 b off e; omega, fun y hy b off e => by have := HAC.out.2 y hy b off e; omega⟩⟩⟩
 rw [← HPL.out, apL, List.map_set, HPP.out, HSA.out, Int.toNat_natCast]
 exact congrArg (fun z => List.set z i (fbP mode width s fk fn)) HSAM.out
end Go.Proofs.YtlnkofpcidngoaaDoor