/- Several texts in one. -/
import Derived.Test.YtlnkofpcidngoaaDoorA0
import Derived.Test.YtlnkofpcidngoaaDoorA15
import Derived.Test.YtlnkofpcidngoaaDoorA26
import Derived.Test.YtlnkofpcidngoaaDoorA14
/- Layer 11 (feedback): Apply of the program once more: where its contexts lie. -/
namespace Go.Proofs.YtlnkofpcidngoaaDoor
open Go.ChangeShapes Go.WideShapes Go.ChangeAt Go.RowKit
def ApPost2 (mode width E : Int) (PL : List Snd) (w : World) (e : Ending) (w' : World) : Prop :=
 Gr w w' ∧ ((E = 0 ∧ ∃ a' c' M, e = .returned (.tuple #[CVal mode width a' 16 c', .int .i64 0]) ∧ M.map plainS = PL ∧ RdC w' a' 16 c' M ∧ AboveC w.heap.size a' M) ∨ (E ≠ 0 ∧ e = .returned (.tuple #[CVal 0 0 none 0 0, .int .i64 E])))
set_option maxRecDepth 100000 in
set_option maxHeartbeats 4000000 in
theorem apply2_any (mode width : Int) (a : Option Addr) (n c : Nat) (L : List Snd) (fc fk fn : Int) (w : World) (hr : RdC w a n c L) :
  Calls Tryd.prog 16 #[CVal mode width a n c, FVal fc fk fn] w (ApPost2 mode width (apE mode width L fc fk fn) (apL mode width L fc fk fn) w) := by
 obtain ⟨E, hE⟩ : ∃ E, apE mode width L fc fk fn = E := ⟨_, rfl⟩
 obtain ⟨PL, hPL⟩ : ∃ E, apL mode width L fc fk fn = E := ⟨_, rfl⟩
 rw [hE, hPL]
 have HE := zqd hE
 have HPL := zqd hPL
 have HR := zqd hr
 have HN := zqd hr.1
 obtain ⟨V, hV⟩ : ∃ V, validC mode width L = V := ⟨_, rfl⟩
 obtain ⟨U, hU⟩ : ∃ U, fbB fc fk fn = U := ⟨_, rfl⟩
 have HV := zqd hV
 have HU := zqd hU
 clear hE hPL hr hV hU
 go_enter Tryd.func16, Tryd.ntmps16
 go_upto_region 1 with (fail)
 obtain ⟨w1, hw1⟩ : ∃ y, y = ((w.alloc (.cells #[.int .i64 mode, .int .i64 width, .slice a n c] 24)).alloc (.cells #[.int .i64 fc, .int .i64 fk, .int .i64 fn] 26)).alloc (.cells #[.int .i64 0, .int .i64 0, .slice none 0 0] 24) := ⟨_, rfl⟩
 have h3 := blocks3 w (.cells #[.int .i64 mode, .int .i64 width, .slice a n c] 24) (.cells #[.int .i64 fc, .int .i64 fk, .int .i64 fn] 26) (.cells #[.int .i64 0, .int .i64 0, .slice none 0 0] 24)
 rw [← hw1] at h3
 have HB1 := zqd (show CBlk w.heap.size 24 [.int .i64 mode, .int .i64 width, .slice a n c] w1 from h3.1)
 have HF1 := zqd (show CBlk (w.heap.size + 1) 26 [.int .i64 fc, .int .i64 fk, .int .i64 fn] w1 from h3.2.1)
 have HZ1 := zqd (show CBlk (w.heap.size + 1 + 1) 24 [.int .i64 0, .int .i64 0, .slice none 0 0] w1 from h3.2.2)
 have HG1 := zqd (show Gr w w1 by rw [hw1]; exact (Gr.alloc _ _).trans ((Gr.alloc _ _).trans (Gr.alloc _ _)))
 rw [← hw1]
 clear hw1 h3
 go_wp2_with (refine cblk_load rfl 24 _ rfl w.heap.size rfl HB1.out Tryd.underlying24 rfl (by kernel_rfl) ?_)
 refine (cvalid_is HV.out w1 (HR.out.kept HG1.out)).mono ?_
 rintro e w2 ⟨rfl, hg2⟩
 have HB2 := zqd (HB1.out.kept hg2)
 have HF2 := zqd (HF1.out.kept hg2)
 have HZ2 := zqd (HZ1.out.kept hg2)
 have HG2 := zqd (HG1.out.trans hg2)
 clear hg2 HB1 HF1 HZ1 HG1
 cases V
 ·have HEE := zqd (show E = 1 by rw [← HE.out, apE, HV.out]; rfl)
  go_wp2_with (refine cblk_store rfl 24 _ _ rfl (w.heap.size + 1 + 1) [.int .i64 0, .int .i64 0, .slice none 0 0] (HZ2.out) rfl rfl rfl (by kernel_rfl) rfl ?_; intro w9 hb9 he9; have HB9 := zqd hb9; have HGE := zqd (show Gr w w9 by rw [← he9]; exact gr_setCells (HG2.out) (by omega) _ _); clear hb9 he9)
  refine bodyPost_ret (results_c1 Tryd.results16 _ _ (w.heap.size + 1 + 1) _ _ rfl HB9.out Tryd.underlying24 rfl (by kernel_rfl)) rfl ⟨HGE.out, .inr ⟨by rw [HEE.out]; decide, by rw [HEE.out]; rfl⟩⟩
 go_wp2_with (refine cblk_load rfl 26 _ rfl (w.heap.size + 1) rfl HF2.out Tryd.underlying26 rfl (by kernel_rfl) ?_)
 refine (fbvalid_is HU.out w2).mono ?_
 rintro e w3 ⟨rfl, hg3⟩
 have HB3 := zqd (HB2.out.kept hg3)
 have HF3 := zqd (HF2.out.kept hg3)
 have HZ3 := zqd (HZ2.out.kept hg3)
 have HG3 := zqd (HG2.out.trans hg3)
 clear hg3 HB2 HF2 HZ2 HG2
 cases U
 ·have HEE := zqd (show E = 1 by rw [← HE.out, apE, HV.out, HU.out]; rfl)
  go_wp2_with (refine cblk_store rfl 24 _ _ rfl (w.heap.size + 1 + 1) [.int .i64 0, .int .i64 0, .slice none 0 0] (HZ3.out) rfl rfl rfl (by kernel_rfl) rfl ?_; intro w9 hb9 he9; have HB9 := zqd hb9; have HGE := zqd (show Gr w w9 by rw [← he9]; exact gr_setCells (HG3.out) (by omega) _ _); clear hb9 he9)
  refine bodyPost_ret (results_c1 Tryd.results16 _ _ (w.heap.size + 1 + 1) _ _ rfl HB9.out Tryd.underlying24 rfl (by kernel_rfl)) rfl ⟨HGE.out, .inr ⟨by rw [HEE.out]; decide, by rw [HEE.out]; rfl⟩⟩
 have x0 : w3.cell? ⟨w.heap.size, 0, none⟩ = some (.int .i64 mode) := HB3.out.at 0 rfl
 have HE2 := zqd (show (if mode = 1 then 16 else if (sndAt L fc).act = false then 8 else 0 : Int) = E by rw [← HE.out, apE, HV.out, HU.out]; rfl)
 by_cases hm1 : mode = 1
 ·have HEE := zqd (show E = 16 by rw [← HE2.out, if_pos hm1])
  have hmb : (mode == 1) = true := by simpa using hm1
  clear hm1
  go_wp2_with (refine cblk_store rfl 24 _ _ rfl (w.heap.size + 1 + 1) [.int .i64 0, .int .i64 0, .slice none 0 0] (HZ3.out) rfl rfl rfl (by kernel_rfl) rfl ?_; intro w9 hb9 he9; have HB9 := zqd hb9; have HGE := zqd (show Gr w w9 by rw [← he9]; exact gr_setCells (HG3.out) (by omega) _ _); clear hb9 he9)
  refine bodyPost_ret (results_c1 Tryd.results16 _ _ (w.heap.size + 1 + 1) _ _ rfl HB9.out Tryd.underlying24 rfl (by kernel_rfl)) rfl ⟨HGE.out, .inr ⟨by rw [HEE.out]; decide, by rw [HEE.out]; rfl⟩⟩
 have HE3 := zqd (show (if (sndAt L fc).act = false then 8 else 0 : Int) = E by rw [← HE2.out, if_neg hm1])
 have hmb : (mode == 1) = false := by simpa using hm1
 obtain ⟨f1, f2, f3, f4, f5, f6⟩ := fb_yes HU.out
 obtain ⟨i, rfl⟩ : ∃ i : Nat, fc = i := ⟨fc.toNat, by omega⟩
 obtain ⟨hsh, h16, -⟩ := valid_parts HV.out
 obtain rfl : n = 16 := by rw [← HN.out]; exact h16
 obtain ⟨s, hs, hrs⟩ := HR.out.get (show i < 16 by omega)
 have HS := zqd hs
 have HSA := zqd (show sndAt L i = s by unfold sndAt; rw [Int.toNat_natCast, hs]; rfl)
 obtain ⟨b, off, ea, -, hrow⟩ := HR.out.row (by omega)
 subst ea
 have x2 : w3.cell? ⟨w.heap.size, 2, none⟩ = some (.slice (some ⟨b, off, none⟩) 16 c) := HB3.out.at 2 rfl
 have y0 : w3.cell? ⟨w.heap.size + 1, 0, none⟩ = some (.int .i64 i) := HF3.out.at 0 rfl
 obtain ⟨A, hA⟩ : ∃ A, s.act = A := ⟨_, rfl⟩
 have HA := zqd hA
 have s0 : w3.cell? ⟨b, off + i * 9, none⟩ = some (.bool A) := by rw [← hA]; exact (range_gr (hrow i s hs) HG3.out) 0 _ rfl
 clear hm1 hs hrs hrow hA hsh h16
 cases A
 ·have HEE := zqd (show E = 8 by rw [← HE3.out, HSA.out, HA.out]; rfl)
  go_wp2_with (refine cblk_store rfl 24 _ _ rfl (w.heap.size + 1 + 1) [.int .i64 0, .int .i64 0, .slice none 0 0] (HZ3.out) rfl rfl rfl (by kernel_rfl) rfl ?_; intro w9 hb9 he9; have HB9 := zqd hb9; have HGE := zqd (show Gr w w9 by rw [← he9]; exact gr_setCells (HG3.out) (by omega) _ _); clear hb9 he9)
  refine bodyPost_ret (results_c1 Tryd.results16 _ _ (w.heap.size + 1 + 1) _ _ rfl HB9.out Tryd.underlying24 rfl (by kernel_rfl)) rfl ⟨HGE.out, .inr ⟨by rw [HEE.out]; decide, by rw [HEE.out]; rfl⟩⟩
 have HEE := zqd (show E = 0 by rw [← HE3.out, HSA.out, HA.out]; rfl)
 have hsmall : ∀ t ∈ L, t.n ≤ 1000 := fun t ht => by
  obtain ⟨k, hk⟩ := List.getElem?_of_mem ht
  have h1 := (valid_small HV.out hk).1
  have h2 := (HR.out.2.2.2.2.2 t ht).1
  omega
 have HSM := zqd hsmall
 have hss := valid_small HV.out HS.out
 have HSS := zqd hss
 clear hsmall hss
 go_wp2_with (refine cblk_load rfl 24 _ rfl w.heap.size rfl HB3.out Tryd.underlying24 rfl (by kernel_rfl) ?_)
 refine (clone_c mode width (some ⟨b, off, none⟩) 16 c L w3 (HR.out.kept HG3.out) (by omega) (by omega) HSM.out).mono ?_
 rintro e w4 ⟨a4, c4, M, rfl, hsm, hown, hg4⟩
 obtain ⟨g0, rfl⟩ : ∃ g0, a4 = some ⟨g0, 0, none⟩ := by
  rcases hown.1.2 with ⟨hv, h0⟩ | ⟨g, cap', cur, hv, _⟩
  ·omega
  ·injection hv with e1; exact ⟨g, e1⟩
 have HSAM := zqd hsm
 have HOWN := zqd hown
 have HB4 := zqd (HB3.out.kept hg4)
 have HF4 := zqd (HF3.out.kept hg4)
 have HZ4 := zqd (HZ3.out.kept hg4)
 have HG4 := zqd (HG3.out.trans hg4)
 have hl3 := HZ3.out.lt
 clear hsm hown hg4 x0 x2 y0 s0 HB3 HF3 HZ3 HG3
 go_upto_region 8 with (fail)
 obtain ⟨w5, hw5⟩ : ∃ y, y = w4.alloc (.cells #[.int .i64 mode, .int .i64 width, .slice (some ⟨g0, 0, none⟩) 16 c4] 24) := ⟨_, rfl⟩
 have HO5 := zqd (show CBlk w4.heap.size 24 [.int .i64 mode, .int .i64 width, .slice (some ⟨g0, 0, none⟩) 16 c4] w5 by rw [hw5]; exact CBlk.new _ _ _)
 have hg5 : Gr w4 w5 := by rw [hw5]; exact Gr.alloc _ _
 rw [← hw5]
 have HOWN5 := zqd (HOWN.out.stay hg5)
 have HB5 := zqd (HB4.out.kept hg5)
 have HF5 := zqd (HF4.out.kept hg5)
 have HZ5 := zqd (HZ4.out.kept hg5)
 have HG5 := zqd (HG4.out.trans hg5)
 obtain ⟨t, ht, hpl⟩ := HSAM.out.get HS.out
 have htm := List.mem_of_getElem? ht
 have hlen : t.refs.length = t.n := (HOWN.out.2.1 t htm).1.len
 have hrefs : t.refs = s.refs := (congrArg Snd.refs hpl : (plainS t).refs = (plainS s).refs)
 have hser : t.ser = s.ser := (congrArg Snd.ser hpl : (plainS t).ser = (plainS s).ser)
 have HTP := zqd hpl
 have HTM := zqd htm
 have HTL := zqd hlen
 have HEL5 := zqd (show Elt w3.heap.size g0 16 c4 M i t w5 from ⟨HOWN5.out.1, ht⟩)
 have htn : t.n ≤ 32 := by rw [← hlen, hrefs]; exact HSS.out.1
 have hts : 0 ≤ t.ser ∧ t.ser ≤ 32 := by rw [hser]; exact HSS.out.2
 have hgl := HEL5.out.lt
 have hl4 : g0 < w4.heap.size := (own_blockG HOWN.out.1 rfl).2.2.2
 have HTS := zqd hts
 clear hw5 hg5 hpl ht htm hlen hrefs hser hts HOWN HB4 HF4 HZ4 HG4
 have o2 := HO5.out.at 2 rfl
 have y0 := HF5.out.at 0 rfl
 have y1 := HF5.out.at 1 rfl
 have y2 := HF5.out.at 2 rfl
 have x0 := HB5.out.at 0 rfl
 have x1 := HB5.out.at 1 rfl
 go_upto_region 10 with (fail)
 by_cases hk0 : fk = 0
 ·have HFP := zqd (show fbP mode width s fk fn = ackP mode t fn by
   rw [fbP, if_pos hk0]
   have h1 := congrArg (fun z => ackP mode z fn) HTP.out
   exact h1.symm)
  have hkb : (fk == 0) = true := by simpa using hk0
  have HK0 := zqd hk0
  clear hk0
  go_wp2_with fail
  refine (ack_any w3.heap.size g0 16 c4 M i t mode fn w5 HEL5.out ((HOWN5.out.2.1 t HTM.out).1.rd (HOWN5.out.2.1 t HTM.out).2) (HOWN5.out.notin HTM.out) (by omega) (by have := HTS.out; omega)).mono ?_
  rintro e w6 ⟨t', rfl, hpl6, hel6, hrd6, hsub6, hgr6⟩
  have HEL6 := zqd hel6
  have HRD6 := zqd hrd6
  have HSUB := zqd hsub6
  have HGR6 := zqd hgr6
  have HPL6 := zqd (hpl6.trans HFP.out.symm)
  clear hpl6 hel6 hrd6 hsub6 hgr6 o2 y0 y1 y2 x0 x1
  have HO6 := zqd (HO5.out.but HGR6.out (by simp; omega))
  have HZ6 := zqd (HZ5.out.but HGR6.out (by simp; omega))
  have HG6 := zqd (show Gr w w6 from grownBy_trans HG5.out HGR6.out (.inr (.inr ⟨g0, rfl, by have := HG5.out.size; omega⟩)))
  have HRC := zqd (rdc_set HOWN5.out HGR6.out HEL6.out HRD6.out)
  have HNT := zqd (show ∀ y ∈ M.set i t', NotIn (w.heap.size + 1 + 1) y.a from fun y hy => by
   rcases mem_set hy with hm | rfl
   ·exact HOWN5.out.above hm hl3
   ·intro b' off' e he
    obtain ⟨o, ho⟩ := HSUB.out b' off' e
    exact HOWN5.out.above HTM.out hl3 b' o ho he)
  have HAC := zqd (show AboveC w.heap.size (some ⟨g0, 0, none⟩) (M.set i t') from ⟨fun b off e => by
   injection e with e; injection e with e1 e2
   have := (own_blockG HOWN5.out.1 rfl).2.2.1
   omega, fun y hy b off e => by
   rcases mem_set hy with hm | rfl
   ·have := (own_blockG (HOWN5.out.2.1 y hm).1 e).2.2.1; omega
   ·obtain ⟨o, ho⟩ := HSUB.out b off e
    have := (own_blockG (HOWN5.out.2.1 t HTM.out).1 ho).2.2.1; omega⟩)
  go_wp2_with (first | (refine cblk_load rfl 24 _ rfl w4.heap.size rfl HO6.out Tryd.underlying24 rfl (by kernel_rfl) ?_) | (refine cblk_store rfl 24 _ _ rfl (w.heap.size + 1 + 1) [.int .i64 mode, .int .i64 width, .slice (some ⟨g0, 0, none⟩) 16 c4] HZ6.out rfl rfl rfl (by kernel_rfl) rfl ?_; intro w9 hb9 he9; have HB9 := zqd hb9; have HGE := zqd (show Gr w w9 by rw [← he9]; exact gr_setCells HG6.out (by omega) _ _); have HRC9 := zqd (show RdC w9 (some ⟨g0, 0, none⟩) 16 c4 (M.set i t') by rw [← he9]; exact rdc_but HRC.out (grown_setCells (w.heap.size + 1 + 1) _ 0 w6) (fun b' off' e he => by injection e with e; injection e with e1 e2; omega) HNT.out); clear hb9 he9))
  refine bodyPost_ret (results_c1 Tryd.results16 _ _ (w.heap.size + 1 + 1) _ _ rfl HB9.out Tryd.underlying24 rfl (by kernel_rfl)) rfl ⟨HGE.out, .inl ⟨HEE.out, _, _, M.set i t', rfl, ?_, HRC9.out, HAC.out⟩⟩
  rw [← HPL.out, apL, List.map_set, HPL6.out, HSA.out, Int.toNat_natCast]
  exact congrArg (fun z => List.set z i (fbP mode width s fk fn)) HSAM.out
 ·have hkb : (fk == 0) = false := by simpa using hk0
  have hcap : t.n ≤ t.c := ((HOWN5.out.2.1 t HTM.out).1.rd (HOWN5.out.2.1 t HTM.out).2).2.1
  have q8 : w5.cell? ⟨g0, i * 9 + 8, none⟩ = some (.slice t.a t.n t.c) := HEL5.out.cell 8 rfl
  have q1 : w5.cell? ⟨g0, i * 9 + 1, none⟩ = some (.int .i64 t.full) := HEL5.out.cell 1 rfl
  have q2 : w5.cell? ⟨g0, i * 9 + 2, none⟩ = some (.int .i64 t.refr) := HEL5.out.cell 2 rfl
  have q3 : w5.cell? ⟨g0, i * 9 + 3, none⟩ = some (.int .i64 t.ser) := HEL5.out.cell 3 rfl
  have z1 := HEL5.out.fz (i * 9 + 1)
  have z2 := HEL5.out.fz (i * 9 + 2)
  have z3 := HEL5.out.fz (i * 9 + 3)
  have HTF := zqd (show t.full = s.full from (congrArg Snd.full HTP.out : (plainS t).full = (plainS s).full))
  by_cases hk2 : fk = 2
  ·have hkb2 : (fk == 2) = true := by simpa using hk2
   have HFP := zqd (show fbP mode width s fk fn = plainS ⟨t.act, width, 0, t.n, t.since, t.long, t.str, t.fol, t.a, t.n, t.c, t.refs⟩ by
    rw [fbP, if_neg hk0, if_pos hk2, ← HTL.out]
    have h1 := congrArg (fun z : Snd => (⟨z.act, width, 0, z.refs.length, z.since, z.long, z.str, z.fol, none, 0, 0, z.refs⟩ : Snd)) HTP.out
    exact h1.symm)
   clear hk0 hk2
   go_upto_region 20 with (fail)
   obtain ⟨w6, hw6⟩ : ∃ y, y = ((w5.setCell ⟨g0, i * 9 + 1, none⟩ (.int .i64 width)).setCell ⟨g0, i * 9 + 2, none⟩ (.int .i64 0)).setCell ⟨g0, i * 9 + 3, none⟩ (.int .i64 t.n) := ⟨_, rfl⟩
   rw [← hw6]
   obtain ⟨t', ht'⟩ : ∃ t' : Snd, t' = ⟨t.act, width, 0, t.n, t.since, t.long, t.str, t.fol, t.a, t.n, t.c, t.refs⟩ := ⟨_, rfl⟩
   have HEL6 := zqd (show Elt w3.heap.size g0 16 c4 (M.set i t') i t' w6 by
    rw [hw6, ht']
    have h1 := HEL5.out.set 1 (.int .i64 width) ⟨t.act, width, t.refr, t.ser, t.since, t.long, t.str, t.fol, t.a, t.n, t.c, t.refs⟩ (by omega) rfl
    have h2 := h1.set 2 (.int .i64 0) ⟨t.act, width, 0, t.ser, t.since, t.long, t.str, t.fol, t.a, t.n, t.c, t.refs⟩ (by omega) rfl
    have h3 := h2.set 3 (.int .i64 t.n) ⟨t.act, width, 0, t.n, t.since, t.long, t.str, t.fol, t.a, t.n, t.c, t.refs⟩ (by omega) rfl
    rw [List.set_set, List.set_set] at h3
    exact h3)
   have HGR6 := zqd (show w5.grownBy w6 (some g0) by rw [hw6]; exact grown_setE (grown_setE (grown_setAt w5 g0 _ _) _ _) _ _)
   have HRD6 := zqd (show RdH w6 t'.a t'.n t'.c t'.refs by rw [ht']; exact rdh_but ((HOWN5.out.2.1 t HTM.out).1.rd (HOWN5.out.2.1 t HTM.out).2) HGR6.out (fun b off e => by have := HOWN5.out.notin HTM.out b off e; simpa using this))
   have HSUB := zqd (show SubA t.a t'.a by rw [ht']; exact fun b off h => ⟨off, h⟩)
   have HPL6 := zqd (show plainS t' = fbP mode width s fk fn by rw [HFP.out, ht'])
   clear hw6 ht' o2 y0 y1 y2 x0 x1 q8 q1 q2 q3 z1 z2 z3
   have HO6 := zqd (HO5.out.but HGR6.out (by simp; omega))
   have HZ6 := zqd (HZ5.out.but HGR6.out (by simp; omega))
   have HG6 := zqd (show Gr w w6 from grownBy_trans HG5.out HGR6.out (.inr (.inr ⟨g0, rfl, by have := HG5.out.size; omega⟩)))
   have HRC := zqd (rdc_set HOWN5.out HGR6.out HEL6.out HRD6.out)
   have HNT := zqd (show ∀ y ∈ M.set i t', NotIn (w.heap.size + 1 + 1) y.a from fun y hy => by
    rcases mem_set hy with hm | rfl
    ·exact HOWN5.out.above hm hl3
    ·intro b' off' e he
     obtain ⟨o, ho⟩ := HSUB.out b' off' e
     exact HOWN5.out.above HTM.out hl3 b' o ho he)
   have HAC := zqd (show AboveC w.heap.size (some ⟨g0, 0, none⟩) (M.set i t') from ⟨fun b off e => by
    injection e with e; injection e with e1 e2
    have := (own_blockG HOWN5.out.1 rfl).2.2.1
    omega, fun y hy b off e => by
    rcases mem_set hy with hm | rfl
    ·have := (own_blockG (HOWN5.out.2.1 y hm).1 e).2.2.1; omega
    ·obtain ⟨o, ho⟩ := HSUB.out b off e
     have := (own_blockG (HOWN5.out.2.1 t HTM.out).1 ho).2.2.1; omega⟩)
   go_wp2_with (first | (refine cblk_load rfl 24 _ rfl w4.heap.size rfl HO6.out Tryd.underlying24 rfl (by kernel_rfl) ?_) | (refine cblk_store rfl 24 _ _ rfl (w.heap.size + 1 + 1) [.int .i64 mode, .int .i64 width, .slice (some ⟨g0, 0, none⟩) 16 c4] HZ6.out rfl rfl rfl (by kernel_rfl) rfl ?_; intro w9 hb9 he9; have HB9 := zqd hb9; have HGE := zqd (show Gr w w9 by rw [← he9]; exact gr_setCells HG6.out (by omega) _ _); have HRC9 := zqd (show RdC w9 (some ⟨g0, 0, none⟩) 16 c4 (M.set i t') by rw [← he9]; exact rdc_but HRC.out (grown_setCells (w.heap.size + 1 + 1) _ 0 w6) (fun b' off' e he => by injection e with e; injection e with e1 e2; omega) HNT.out); clear hb9 he9))
   refine bodyPost_ret (results_c1 Tryd.results16 _ _ (w.heap.size + 1 + 1) _ _ rfl HB9.out Tryd.underlying24 rfl (by kernel_rfl)) rfl ⟨HGE.out, .inl ⟨HEE.out, _, _, M.set i t', rfl, ?_, HRC9.out, HAC.out⟩⟩
   rw [← HPL.out, apL, List.map_set, HPL6.out, HSA.out, Int.toNat_natCast]
   exact congrArg (fun z => List.set z i (fbP mode width s fk fn)) HSAM.out
  ·have hkb2 : (fk == 2) = false := by simpa using hk2
   have hk1 : fk = 1 := by omega
   have hkb1 : (fk == 1) = true := by simpa using hk1
   by_cases hfl : 0 < t.full
   ·have HFP := zqd (show fbP mode width s fk fn = plainS ⟨t.act, width, t.refr, t.n, t.since, t.long, t.str, t.fol, t.a, t.n, t.c, t.refs⟩ by
     rw [fbP, if_neg hk0, if_neg hk2, if_pos (by rw [← HTF.out]; exact hfl), ← HTL.out]
     have h1 := congrArg (fun z : Snd => (⟨z.act, width, z.refr, z.refs.length, z.since, z.long, z.str, z.fol, none, 0, 0, z.refs⟩ : Snd)) HTP.out
     exact h1.symm)
    clear hk0 hk2 hk1
    go_upto_region 20 with (fail)
    obtain ⟨w6, hw6⟩ : ∃ y, y = (w5.setCell ⟨g0, i * 9 + 1, none⟩ (.int .i64 width)).setCell ⟨g0, i * 9 + 3, none⟩ (.int .i64 t.n) := ⟨_, rfl⟩
    rw [← hw6]
    obtain ⟨t', ht'⟩ : ∃ t' : Snd, t' = ⟨t.act, width, t.refr, t.n, t.since, t.long, t.str, t.fol, t.a, t.n, t.c, t.refs⟩ := ⟨_, rfl⟩
    have HEL6 := zqd (show Elt w3.heap.size g0 16 c4 (M.set i t') i t' w6 by
     rw [hw6, ht']
     have h1 := HEL5.out.set 1 (.int .i64 width) ⟨t.act, width, t.refr, t.ser, t.since, t.long, t.str, t.fol, t.a, t.n, t.c, t.refs⟩ (by omega) rfl
     have h3 := h1.set 3 (.int .i64 t.n) ⟨t.act, width, t.refr, t.n, t.since, t.long, t.str, t.fol, t.a, t.n, t.c, t.refs⟩ (by omega) rfl
     rw [List.set_set] at h3
     exact h3)
    have HGR6 := zqd (show w5.grownBy w6 (some g0) by rw [hw6]; exact grown_setE (grown_setAt w5 g0 _ _) _ _)
    have HRD6 := zqd (show RdH w6 t'.a t'.n t'.c t'.refs by rw [ht']; exact rdh_but ((HOWN5.out.2.1 t HTM.out).1.rd (HOWN5.out.2.1 t HTM.out).2) HGR6.out (fun b off e => by have := HOWN5.out.notin HTM.out b off e; simpa using this))
    have HSUB := zqd (show SubA t.a t'.a by rw [ht']; exact fun b off h => ⟨off, h⟩)
    have HPL6 := zqd (show plainS t' = fbP mode width s fk fn by rw [HFP.out, ht'])
    clear hw6 ht' o2 y0 y1 y2 x0 x1 q8 q1 q2 q3 z1 z2 z3
    have HO6 := zqd (HO5.out.but HGR6.out (by simp; omega))
    have HZ6 := zqd (HZ5.out.but HGR6.out (by simp; omega))
    have HG6 := zqd (show Gr w w6 from grownBy_trans HG5.out HGR6.out (.inr (.inr ⟨g0, rfl, by have := HG5.out.size; omega⟩)))
    have HRC := zqd (rdc_set HOWN5.out HGR6.out HEL6.out HRD6.out)
    have HNT := zqd (show ∀ y ∈ M.set i t', NotIn (w.heap.size + 1 + 1) y.a from fun y hy => by
     rcases mem_set hy with hm | rfl
     ·exact HOWN5.out.above hm hl3
     ·intro b' off' e he
      obtain ⟨o, ho⟩ := HSUB.out b' off' e
      exact HOWN5.out.above HTM.out hl3 b' o ho he)
    have HAC := zqd (show AboveC w.heap.size (some ⟨g0, 0, none⟩) (M.set i t') from ⟨fun b off e => by
     injection e with e; injection e with e1 e2
     have := (own_blockG HOWN5.out.1 rfl).2.2.1
     omega, fun y hy b off e => by
     rcases mem_set hy with hm | rfl
     ·have := (own_blockG (HOWN5.out.2.1 y hm).1 e).2.2.1; omega
     ·obtain ⟨o, ho⟩ := HSUB.out b off e
      have := (own_blockG (HOWN5.out.2.1 t HTM.out).1 ho).2.2.1; omega⟩)
    go_wp2_with (first | (refine cblk_load rfl 24 _ rfl w4.heap.size rfl HO6.out Tryd.underlying24 rfl (by kernel_rfl) ?_) | (refine cblk_store rfl 24 _ _ rfl (w.heap.size + 1 + 1) [.int .i64 mode, .int .i64 width, .slice (some ⟨g0, 0, none⟩) 16 c4] HZ6.out rfl rfl rfl (by kernel_rfl) rfl ?_; intro w9 hb9 he9; have HB9 := zqd hb9; have HGE := zqd (show Gr w w9 by rw [← he9]; exact gr_setCells HG6.out (by omega) _ _); have HRC9 := zqd (show RdC w9 (some ⟨g0, 0, none⟩) 16 c4 (M.set i t') by rw [← he9]; exact rdc_but HRC.out (grown_setCells (w.heap.size + 1 + 1) _ 0 w6) (fun b' off' e he => by injection e with e; injection e with e1 e2; omega) HNT.out); clear hb9 he9))
    refine bodyPost_ret (results_c1 Tryd.results16 _ _ (w.heap.size + 1 + 1) _ _ rfl HB9.out Tryd.underlying24 rfl (by kernel_rfl)) rfl ⟨HGE.out, .inl ⟨HEE.out, _, _, M.set i t', rfl, ?_, HRC9.out, HAC.out⟩⟩
    rw [← HPL.out, apL, List.map_set, HPL6.out, HSA.out, Int.toNat_natCast]
    exact congrArg (fun z => List.set z i (fbP mode width s fk fn)) HSAM.out
   ·have HFP := zqd (show fbP mode width s fk fn = plainS ⟨t.act, t.full, width, t.n, t.since, t.long, t.str, t.fol, t.a, t.n, t.c, t.refs⟩ by
     rw [fbP, if_neg hk0, if_neg hk2, if_neg (by rw [← HTF.out]; exact hfl), ← HTL.out]
     have h1 := congrArg (fun z : Snd => (⟨z.act, z.full, width, z.refs.length, z.since, z.long, z.str, z.fol, none, 0, 0, z.refs⟩ : Snd)) HTP.out
     exact h1.symm)
    clear hk0 hk2 hk1
    go_upto_region 20 with (fail)
    obtain ⟨w6, hw6⟩ : ∃ y, y = (w5.setCell ⟨g0, i * 9 + 2, none⟩ (.int .i64 width)).setCell ⟨g0, i * 9 + 3, none⟩ (.int .i64 t.n) := ⟨_, rfl⟩
    rw [← hw6]
    obtain ⟨t', ht'⟩ : ∃ t' : Snd, t' = ⟨t.act, t.full, width, t.n, t.since, t.long, t.str, t.fol, t.a, t.n, t.c, t.refs⟩ := ⟨_, rfl⟩
    have HEL6 := zqd (show Elt w3.heap.size g0 16 c4 (M.set i t') i t' w6 by
     rw [hw6, ht']
     have h1 := HEL5.out.set 2 (.int .i64 width) ⟨t.act, t.full, width, t.ser, t.since, t.long, t.str, t.fol, t.a, t.n, t.c, t.refs⟩ (by omega) rfl
     have h3 := h1.set 3 (.int .i64 t.n) ⟨t.act, t.full, width, t.n, t.since, t.long, t.str, t.fol, t.a, t.n, t.c, t.refs⟩ (by omega) rfl
     rw [List.set_set] at h3
     exact h3)
    have HGR6 := zqd (show w5.grownBy w6 (some g0) by rw [hw6]; exact grown_setE (grown_setAt w5 g0 _ _) _ _)
    have HRD6 := zqd (show RdH w6 t'.a t'.n t'.c t'.refs by rw [ht']; exact rdh_but ((HOWN5.out.2.1 t HTM.out).1.rd (HOWN5.out.2.1 t HTM.out).2) HGR6.out (fun b off e => by have := HOWN5.out.notin HTM.out b off e; simpa using this))
    have HSUB := zqd (show SubA t.a t'.a by rw [ht']; exact fun b off h => ⟨off, h⟩)
    have HPL6 := zqd (show plainS t' = fbP mode width s fk fn by rw [HFP.out, ht'])
    clear hw6 ht' o2 y0 y1 y2 x0 x1 q8 q1 q2 q3 z1 z2 z3
    have HO6 := zqd (HO5.out.but HGR6.out (by simp; omega))
    have HZ6 := zqd (HZ5.out.but HGR6.out (by simp; omega))
    have HG6 := zqd (show Gr w w6 from grownBy_trans HG5.out HGR6.out (.inr (.inr ⟨g0, rfl, by have := HG5.out.size; omega⟩)))
    have HRC := zqd (rdc_set HOWN5.out HGR6.out HEL6.out HRD6.out)
    have HNT := zqd (show ∀ y ∈ M.set i t', NotIn (w.heap.size + 1 + 1) y.a from fun y hy => by
     rcases mem_set hy with hm | rfl
     ·exact HOWN5.out.above hm hl3
     ·intro b' off' e he
      obtain ⟨o, ho⟩ := HSUB.out b' off' e
      exact HOWN5.out.above HTM.out hl3 b' o ho he)
    have HAC := zqd (show AboveC w.heap.size (some ⟨g0, 0, none⟩) (M.set i t') from ⟨fun b off e => by
     injection e with e; injection e with e1 e2
     have := (own_blockG HOWN5.out.1 rfl).2.2.1
     omega, fun y hy b off e => by
     rcases mem_set hy with hm | rfl
     ·have := (own_blockG (HOWN5.out.2.1 y hm).1 e).2.2.1; omega
     ·obtain ⟨o, ho⟩ := HSUB.out b off e
      have := (own_blockG (HOWN5.out.2.1 t HTM.out).1 ho).2.2.1; omega⟩)
    go_wp2_with (first | (refine cblk_load rfl 24 _ rfl w4.heap.size rfl HO6.out Tryd.underlying24 rfl (by kernel_rfl) ?_) | (refine cblk_store rfl 24 _ _ rfl (w.heap.size + 1 + 1) [.int .i64 mode, .int .i64 width, .slice (some ⟨g0, 0, none⟩) 16 c4] HZ6.out rfl rfl rfl (by kernel_rfl) rfl ?_; intro w9 hb9 he9; have HB9 := zqd hb9; have HGE := zqd (show Gr w w9 by rw [← he9]; exact gr_setCells HG6.out (by omega) _ _); have HRC9 := zqd (show RdC w9 (some ⟨g0, 0, none⟩) 16 c4 (M.set i t') by rw [← he9]; exact rdc_but HRC.out (grown_setCells (w.heap.size + 1 + 1) _ 0 w6) (fun b' off' e he => by injection e with e; injection e with e1 e2; omega) HNT.out); clear hb9 he9))
    refine bodyPost_ret (results_c1 Tryd.results16 _ _ (w.heap.size + 1 + 1) _ _ rfl HB9.out Tryd.underlying24 rfl (by kernel_rfl)) rfl ⟨HGE.out, .inl ⟨HEE.out, _, _, M.set i t', rfl, ?_, HRC9.out, HAC.out⟩⟩
    rw [← HPL.out, apL, List.map_set, HPL6.out, HSA.out, Int.toNat_natCast]
    exact congrArg (fun z => List.set z i (fbP mode width s fk fn)) HSAM.out
end Go.Proofs.YtlnkofpcidngoaaDoor
/- Layer 9 (compressor), the reference: Compress, the memory behind the append. -/
namespace Go.Proofs.YtlnkofpcidngoaaDoor
open Go.ChangeShapes Go.WideShapes Go.ChangeAt Go.RowKit
theorem gr_own {w wa wx : World} {r : Option Nat} (h : Gr w wa) (k : wa.grownBy wx r) (hr : ∀ q, r = some q → w.heap.size ≤ q) : Gr w wx := by
 cases r with
 | none => exact h.trans k
 | some q => exact grownBy_trans h k (.inr (.inr ⟨q, rfl, hr q rfl⟩))
theorem cblk_far {g B g7 : Nat} {t : TypeId} {cs : List Value} {w w' : World} {r : Option Nat} (hb : CBlk g t cs w) (hg : w.grownBy w' r) (hr : ∀ q, r = some q → B ≤ q ∧ q < g7) (h : g < B ∨ g7 ≤ g) : CBlk g t cs w' :=
 hb.but hg (fun e => by have := hr g e.symm; omega)
theorem ref_own {mode : Int} {S0 P : Snd} {B : Nat} {w : World} (h : RefE mode S0 P) (ho : OwnHd B w S0.a S0.n S0.c S0.refs) : OwnHd B w P.a P.n P.c P.refs := by
 rcases h.1 with ⟨e1, e2, e3, e4⟩ | ⟨e1, e2, e3, e4⟩
 ·rw [e1, e2, e3, e4]; exact ho
 ·rw [e1, e2, e3, e4]; exact OwnHd.nil B w
theorem ref_blk {mode : Int} {S0 P : Snd} (h : RefE mode S0 P) : ownB P.a P.n P.c = none ∨ ownB P.a P.n P.c = ownB S0.a S0.n S0.c := by
 rcases h.1 with ⟨e1, e2, e3, e4⟩ | ⟨e1, e2, e3, e4⟩
 ·rw [e1, e2, e3]; exact .inr rfl
 ·rw [e1, e2, e3]; exact .inl rfl
theorem hok_valid {h : Hdr} (hv : validH h = true) : HOk h := by
 obtain ⟨hk, h1, h2, h3, h4, h5, h6, h7, h8, h9, hu, hr⟩ := valid_all hv
 unfold HOk i64
 rcases hk with hk | hk
 ·have := hu hk; omega
 ·have := hr hk; omega
def TInv (B g7 g3 c3 : Nat) (M : List Snd) (i : Nat) (S0 : Snd) (w : World) : Prop :=
 Elt B g3 16 c3 M i S0 w ∧ (B ≤ g3 ∧ g3 < g7) ∧ ∀ k t, k ≠ i → M[k]? = some t → RdH w t.a t.n t.c t.refs ∧ ∀ q off, t.a = some ⟨q, off, none⟩ → B ≤ q ∧ q < g7 ∧ q ≠ g3
theorem pair_ne {L : List Snd} (hp : L.Pairwise (fun s t => ∀ g, ownB s.a s.n s.c = some g → ownB t.a t.n t.c ≠ some g)) {k i : Nat} {t s : Snd} (hk : L[k]? = some t) (hi : L[i]? = some s) (hne : k ≠ i) : ∀ g, ownB t.a t.n t.c = some g → ownB s.a s.n s.c ≠ some g := by
 rw [List.pairwise_iff_getElem] at hp
 obtain ⟨hk1, hk2⟩ := List.getElem?_eq_some_iff.1 hk
 obtain ⟨hi1, hi2⟩ := List.getElem?_eq_some_iff.1 hi
 intro g hg hs
 rcases Nat.lt_or_gt_of_ne hne with h | h
 ·have := hp k i hk1 hi1 h g (by rw [hk2]; exact hg)
  rw [hi2] at this
  exact this hs
 ·have := hp i k hi1 hk1 h g (by rw [hi2]; exact hs)
  rw [hk2] at this
  exact this hg
theorem after_app {B g7 g3 c3 : Nat} {M : List Snd} {i : Nat} {S0 : Snd} {w w' : World} {r : Option Nat} (h : OwnC B w (some ⟨g3, 0, none⟩) 16 c3 M) (hi : M[i]? = some S0) (hl : (B ≤ g3 ∧ g3 < g7) ∧ ∀ t ∈ M, ∀ q, ownB t.a t.n t.c = some q → B ≤ q ∧ q < g7) (hg : w.grownBy w' r) (hr : r = none ∨ r = ownB S0.a S0.n S0.c) : TInv B g7 g3 c3 M i S0 w' := by
 refine ⟨⟨h.1.kept hg ?_, hi⟩, hl.1, fun k t hne hk => ?_⟩
 ·right
  rcases hr with rfl | rfl
  ·intro e; cases e
  ·intro e
   exact h.2.2.1 S0 (List.mem_of_getElem? hi) g3 e.symm rfl
 ·have hm := List.mem_of_getElem? hk
  have ho := (h.2.1 t hm).1
  refine ⟨OwnHd.rd (B := B) (ho.kept hg ?_) (h.2.1 t hm).2, fun q off e => ?_⟩
  ·cases hv : (Value.slice t.a t.n t.c).ownBlock with
   | none => exact .inl rfl
   | some q =>
    right
    rcases hr with rfl | rfl
    ·intro e; cases e
    ·intro e
     exact pair_ne h.2.2.2 hk hi hne q hv e.symm
  ·have hb := (own_blockG ho e).2.1
   have h2 := hl.2 t hm q hb
   refine ⟨h2.1, h2.2, fun e3 => ?_⟩
   subst e3
   exact h.2.2.1 t hm q hb rfl
theorem TInv.but {B g7 g3 c3 : Nat} {M : List Snd} {i : Nat} {S0 : Snd} {w w' : World} {g : Nat} (h : TInv B g7 g3 c3 M i S0 w) (hg : w.grownBy w' (some g)) (hh : g7 ≤ g ∨ g < B) : TInv B g7 g3 c3 M i S0 w' := by
 obtain ⟨h1, h2, h3⟩ := h
 have hne3 : g3 ≠ g := by omega
 refine ⟨⟨h1.1.kept hg (.inr (fun e => hne3 (Option.some.inj e))), h1.2⟩, h2, fun k t hne hk => ?_⟩
 obtain ⟨q1, q2⟩ := h3 k t hne hk
 exact ⟨rdh_but q1 hg (fun b off e => by have := q2 b off e; intro e2; injection e2 with e2; omega), q2⟩
theorem TInv.gr {B g7 g3 c3 : Nat} {M : List Snd} {i : Nat} {S0 : Snd} {w w' : World} (h : TInv B g7 g3 c3 M i S0 w) (hg : Gr w w') : TInv B g7 g3 c3 M i S0 w' :=
 ⟨h.1.kept hg, h.2.1, fun k t hne hk => ⟨(h.2.2 k t hne hk).1.kept hg, (h.2.2 k t hne hk).2⟩⟩
theorem TInv.done {B g7 g3 c3 : Nat} {M : List Snd} {i : Nat} {S0 R : Snd} {w w' : World} (h : TInv B g7 g3 c3 M i S0 w) (hR : RdH w R.a R.n R.c R.refs) (hq : ∀ q off, R.a = some ⟨q, off, none⟩ → q ≠ g3) (hw : w.setCells g3 (i * 9) (SCells R) = w') : RdC w' (some ⟨g3, 0, none⟩) 16 c3 (M.set i R) := by
 obtain ⟨h1, h2, h3⟩ := h
 have hil := lt_someG h1.2
 have ho := own_set scells_len h1.1 i 0 S0 R (SCells R) h1.2 (by simp) (setM_whole _ _ rfl)
 rw [Nat.add_zero, hw] at ho
 obtain ⟨c1, c2, c4⟩ := own_capG ho
 have hlen := flat_lenG scells_len M
 have hlM : M.length = 16 := by have := h1.1.1; rw [hlen] at this; omega
 have hgg : w.grownBy w' (some g3) := by rw [← hw]; exact grown_setCells g3 _ _ w
 refine ⟨by simpa using hlM, c1, c2, c4, own_segG ho, fun y hy => ?_⟩
 obtain ⟨k, hk⟩ := List.getElem?_of_mem hy
 by_cases hki : k = i
 ·subst hki
  rw [List.getElem?_set_self hil] at hk
  injection hk with hk
  subst hk
  exact rdh_but hR hgg (fun b off e => by have := hq b off e; intro e2; injection e2 with e2; omega)
 ·rw [List.getElem?_set_ne (fun e => hki e.symm)] at hk
  obtain ⟨q1, q2⟩ := h3 k y hki hk
  exact rdh_but q1 hgg (fun b off e => by have := q2 b off e; intro e2; injection e2 with e2; omega)
theorem TInv.above {B g7 g3 c3 : Nat} {M : List Snd} {i : Nat} {S0 R : Snd} {w : World} (h : TInv B g7 g3 c3 M i S0 w) (hq : ∀ q off, R.a = some ⟨q, off, none⟩ → B ≤ q) {p : Nat} (hp : p < B) : ∀ y ∈ M.set i R, NotIn p y.a := by
 intro y hy b off e
 obtain ⟨k, hk⟩ := List.getElem?_of_mem hy
 by_cases hki : k = i
 ·subst hki
  rw [List.getElem?_set_self (lt_someG h.1.2)] at hk
  injection hk with hk
  subst hk
  have := hq b off e
  omega
 ·rw [List.getElem?_set_ne (fun e => hki e.symm)] at hk
  have := (h.2.2 k y hki hk).2 b off e
  omega
theorem TInv.aboveC {B g7 g3 c3 : Nat} {M : List Snd} {i : Nat} {S0 R : Snd} {w : World} (h : TInv B g7 g3 c3 M i S0 w) (hq : ∀ q off, R.a = some ⟨q, off, none⟩ → B ≤ q) {B' : Nat} (hB : B' ≤ B) : AboveC B' (some ⟨g3, 0, none⟩) (M.set i R) := by
 refine ⟨fun b off e => ?_, fun y hy b off e => ?_⟩
 ·injection e with e; injection e with e1 e2
  have := h.2.1.1; omega
 ·obtain ⟨k, hk⟩ := List.getElem?_of_mem hy
  by_cases hki : k = i
  ·subst hki
   rw [List.getElem?_set_self (lt_someG h.1.2)] at hk
   injection hk with hk
   subst hk
   have := hq b off e
   omega
  ·rw [List.getElem?_set_ne (fun e => hki e.symm)] at hk
   have := (h.2.2 k y hki hk).2 b off e
   omega
theorem TInv.there {B g7 g3 c3 : Nat} {M : List Snd} {i : Nat} {S0 : Snd} {w : World} (h : TInv B g7 g3 c3 M i S0 w) : w.there g3 (i * 9) 9 := by
 have := own_thereG scells_len h.1.1 i (lt_someG h.1.2) 0 9 (by omega)
 rwa [Nat.add_zero] at this
def TailRel (mode W : Int) (h : Hdr) (A : Bool) (B g3 g13 : Nat) (wy wc : World) : Prop := ∃ R : Snd, (ctxB mode W R = true ∧ R.act = true ∧ sameB (headS R) h = true) ∧ (dynB R.str R.fol = true ∧ (h.kind = 1 → R.str = 0 ∧ R.fol = 0)) ∧ (A = false → mode = 3 → R.full = W ∧ R.refr = 0 ∧ R.ser = 0 ∧ R.refs = [h]) ∧ CBlk g13 46 (SCells R) wc ∧ RdH wc R.a R.n R.c R.refs ∧ (∀ q off, R.a = some ⟨q, off, none⟩ → q ≠ g3 ∧ q ≠ g13 ∧ B ≤ q) ∧ wy.grownBy wc (some g13)
theorem found_zero {M : List Snd} {h : Hdr} {i : Nat} (hf : Found M h i) (hz : ∀ t ∈ M, t.act = false) : i = 0 := by
 obtain ⟨s, hs, ⟨h1, _⟩ | ⟨_, _, h3⟩⟩ := hf
 ·have := hz s (List.mem_of_getElem? hs)
  rw [h1] at this; cases this
 ·rcases Nat.eq_zero_or_pos i with h0 | h0
  ·exact h0
  ·have hl := lt_someG hs
   have hl0 : 0 < M.length := by omega
   have h4 := h3 0 M[0] h0 (List.getElem?_eq_getElem hl0)
   have h5 := hz _ (List.getElem_mem hl0)
   rw [h4] at h5; cases h5
end Go.Proofs.YtlnkofpcidngoaaDoor
