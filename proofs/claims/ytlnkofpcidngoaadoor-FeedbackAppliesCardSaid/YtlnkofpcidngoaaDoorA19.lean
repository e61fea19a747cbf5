/- Layer 8 (format), the reference: fields, where they fit. -/
import Derived.Test.YtlnkofpcidngoaaDoorA0
import Derived.Test.YtlnkofpcidngoaaDoorA18
import Derived.Deep.CutRange
namespace Go.Proofs.YtlnkofpcidngoaaDoor
open Go.ChangeShapes Go.WideShapes Go.ChangeAt Go.RowKit
set_option maxRecDepth 100000 in
set_option maxHeartbeats 4000000 in
theorem fields_yes (s : Sml) (w : World) (hs : FldOk s) : Calls Tryd.prog 89 #[MVal s] w fun e w' => e = .returned (.bool true) ∧ Gr w w' := by
 obtain ⟨hf, hk, hhd, hst, hfo, ⟨hu0, hu1⟩, hn, ht, hm, hi, hc⟩ := hs
 have HSF := zqd (show s.hd = kindH s.hd.kind ∧ s.str = 0 ∧ s.fol = 0 from ⟨hhd, hst, hfo⟩)
 have HN := zqd hn
 have HT := zqd ht
 have HM := zqd hm
 have HI := zqd hi
 have HC := zqd hc
 have HFF := zqd hf
 have HKK := zqd hk
 clear hhd hst hfo hn ht hm hi hc hf hk
 go_enter Tryd.func89, Tryd.ntmps89
 go_upto_region 1 with (fail)
 obtain ⟨w1, hw1⟩ : ∃ y, y = w.alloc (.cells (MCells s).toArray 85) := ⟨_, rfl⟩
 have hb1 : CBlk w.heap.size 85 (MCells s) w1 := by rw [hw1]; exact CBlk.new _ _ _
 have hg1 : Gr w w1 := by rw [hw1]; exact Gr.alloc _ _
 simp only [MCells] at hw1
 rw [← hw1]
 have HRH := zqd (show w1.rangeAt w.heap.size 7 [.int .i64 s.hd.kind, .int .i64 0, .int .i64 0, .int .i64 0, .int .i64 0, .int .i64 0, .int .i64 0, .int .i64 0, .int .i64 0, .int .i64 0, .int .i64 0, .int .i64 0, .int .i64 0, .int .i64 0, .int .i64 0] by
  rw [show ([.int .i64 s.hd.kind, .int .i64 0, .int .i64 0, .int .i64 0, .int .i64 0, .int .i64 0, .int .i64 0, .int .i64 0, .int .i64 0, .int .i64 0, .int .i64 0, .int .i64 0, .int .i64 0, .int .i64 0, .int .i64 0] : List Value) = HCells (kindH s.hd.kind) from rfl, ← HSF.out.1]
  exact hb1.rng 7 _ (by
   intro j v hv
   rcases j with _ | _ | _ | _ | _ | _ | _ | _ | _ | _ | _ | _ | _ | _ | _ | j
   all_goals first | exact hv | (simp at hv)))
 have HRD := zqd (show w1.rangeAt w.heap.size 22 [.int .i64 0, .int .i64 0] by
  have := hb1.rng 22 [.int .i64 s.str, .int .i64 s.fol] (by
   intro j v hv
   rcases j with _ | _ | j
   ·exact hv
   ·exact hv
   ·simp at hv)
  rwa [HSF.out.2.1, HSF.out.2.2] at this)
 have HG1 := zqd hg1
 have c1 := hb1.at 1 rfl
 have c2 := hb1.at 2 rfl
 have c3 := hb1.at 3 rfl
 have c4 := hb1.at 4 rfl
 have c5 := hb1.at 5 rfl
 have c6 := hb1.at 6 rfl
 have c7 := hb1.at 7 rfl
 have c24 := hb1.at 24 rfl
 clear hw1 hb1 hg1
 obtain ⟨k, hkk⟩ : ∃ k, s.hd.kind = k := ⟨_, rfl⟩
 rw [hkk] at HN HT HM HI HRH HKK c7
 have heH : ∀ u, (binOp .neq 49 (.agg #[.int .i64 k, .int .i64 0, .int .i64 0, .int .i64 0, .int .i64 0, .int .i64 0, .int .i64 0, .int .i64 0, .int .i64 0, .int .i64 0, .int .i64 0, .int .i64 0, .int .i64 0, .int .i64 0, .int .i64 0]) (.agg #[.int .i64 k, .int .i64 0, .int .i64 0, .int .i64 0, .int .i64 0, .int .i64 0, .int .i64 0, .int .i64 0, .int .i64 0, .int .i64 0, .int .i64 0, .int .i64 0, .int .i64 0, .int .i64 0, .int .i64 0])).run Tryd.prog u = .ok (.bool false) u := fun u => run_neqH0 k u
 have heD : ∀ u, (binOp .neq 43 (.agg #[.int .i64 0, .int .i64 0]) (.agg #[.int .i64 0, .int .i64 0])).run Tryd.prog u = .ok (.bool false) u := run_neqD0
 clear hkk
 rcases HKK.out with hk | hk
 ·have HK := zqd hk
  have hkn : (k != 1) = false := by rw [hk]; rfl
  clear hk
  go_upto_region 4 with (first | (refine rng_load rfl 49 _ rfl w.heap.size 7 rfl _ HRH.out Tryd.underlying49 rfl (by kernel_rfl) ?_) | (refine rng_load rfl 43 _ rfl w.heap.size 22 rfl _ HRD.out Tryd.underlying43 rfl (by kernel_rfl) ?_))
  clear heH heD HRH HRD hkn c6 c7
  rcases HFF.out with hf | hf | hf
  ·have HF := zqd hf
   rw [hf] at HN HT HM HI
   rw [hf] at HC
   have he2 : (s.fmt == 2) = false := by rw [HF.out]; rfl
   have he3 : (s.fmt == 3) = false := by rw [HF.out]; rfl
   have hk2 : (k == 2) = false := by rw [HK.out]; rfl
   rw [HK.out] at HN HT HM HI
   clear hf
   replace HN := zqd (show inB s.num 15 = true by simpa [limN] using HN.out)
   replace HT := zqd (show inB s.tim 0 = true by simpa [limT] using HT.out)
   replace HM := zqd (show inB s.mar 0 = true by simpa [limM] using HM.out)
   replace HI := zqd (show inB s.idn 0 = true by simpa [limI] using HI.out)
   replace HC := zqd (show inB s.chk 7 = true by simpa [limC] using HC.out)
   go_wp2_with (first | (go_at_call 88; ((with_reducible refine (in8_yes HN.out rfl _).mono ?_)); rintro e w' ⟨rfl, rfl⟩) | (go_at_call 88; ((with_reducible refine (in8_yes HT.out rfl _).mono ?_)); rintro e w' ⟨rfl, rfl⟩) | (go_at_call 88; ((with_reducible refine (in8_yes HM.out rfl _).mono ?_)); rintro e w' ⟨rfl, rfl⟩) | (go_at_call 88; ((with_reducible refine (in8_yes HI.out rfl _).mono ?_)); rintro e w' ⟨rfl, rfl⟩) | (go_at_call 88; ((with_reducible refine (in8_yes HC.out rfl _).mono ?_)); rintro e w' ⟨rfl, rfl⟩))
   go_ret
   exact ⟨rfl, HG1.out⟩
  ·have HF := zqd hf
   rw [hf] at HN HT HM HI
   rw [hf] at HC
   have he2 : (s.fmt == 2) = true := by rw [HF.out]; rfl
   have he3 : (s.fmt == 3) = false := by rw [HF.out]; rfl
   have hk2 : (k == 2) = false := by rw [HK.out]; rfl
   rw [HK.out] at HN HT HM HI
   clear hf
   replace HN := zqd (show inB s.num 31 = true by simpa [limN] using HN.out)
   replace HT := zqd (show inB s.tim 0 = true by simpa [limT] using HT.out)
   replace HM := zqd (show inB s.mar 0 = true by simpa [limM] using HM.out)
   replace HI := zqd (show inB s.idn 0 = true by simpa [limI] using HI.out)
   replace HC := zqd (show inB s.chk 127 = true by simpa [limC] using HC.out)
   go_wp2_with (first | (go_at_call 88; ((with_reducible refine (in8_yes HN.out rfl _).mono ?_)); rintro e w' ⟨rfl, rfl⟩) | (go_at_call 88; ((with_reducible refine (in8_yes HT.out rfl _).mono ?_)); rintro e w' ⟨rfl, rfl⟩) | (go_at_call 88; ((with_reducible refine (in8_yes HM.out rfl _).mono ?_)); rintro e w' ⟨rfl, rfl⟩) | (go_at_call 88; ((with_reducible refine (in8_yes HI.out rfl _).mono ?_)); rintro e w' ⟨rfl, rfl⟩) | (go_at_call 88; ((with_reducible refine (in8_yes HC.out rfl _).mono ?_)); rintro e w' ⟨rfl, rfl⟩))
   go_ret
   exact ⟨rfl, HG1.out⟩
  ·have HF := zqd hf
   rw [hf] at HN HT HM HI
   rw [hf] at HC
   have he2 : (s.fmt == 2) = false := by rw [HF.out]; rfl
   have he3 : (s.fmt == 3) = true := by rw [HF.out]; rfl
   have hk2 : (k == 2) = false := by rw [HK.out]; rfl
   rw [HK.out] at HN HT HM HI
   clear hf
   replace HN := zqd (show inB s.num 65535 = true by simpa [limN] using HN.out)
   replace HT := zqd (show inB s.tim 0 = true by simpa [limT] using HT.out)
   replace HM := zqd (show inB s.mar 0 = true by simpa [limM] using HM.out)
   replace HI := zqd (show inB s.idn 0 = true by simpa [limI] using HI.out)
   replace HC := zqd (show inB s.chk 255 = true by simpa [limC] using HC.out)
   go_wp2_with (first | (go_at_call 88; ((with_reducible refine (in8_yes HN.out rfl _).mono ?_)); rintro e w' ⟨rfl, rfl⟩) | (go_at_call 88; ((with_reducible refine (in8_yes HT.out rfl _).mono ?_)); rintro e w' ⟨rfl, rfl⟩) | (go_at_call 88; ((with_reducible refine (in8_yes HM.out rfl _).mono ?_)); rintro e w' ⟨rfl, rfl⟩) | (go_at_call 88; ((with_reducible refine (in8_yes HI.out rfl _).mono ?_)); rintro e w' ⟨rfl, rfl⟩) | (go_at_call 88; ((with_reducible refine (in8_yes HC.out rfl _).mono ?_)); rintro e w' ⟨rfl, rfl⟩))
   go_ret
   exact ⟨rfl, HG1.out⟩
 ·have HK := zqd hk
  have hkn : (k != 1) = true := by rw [hk]; rfl
  have hkn2 : (k != 2) = false := by rw [hk]; rfl
  clear hk
  go_upto_region 4 with (first | (refine rng_load rfl 49 _ rfl w.heap.size 7 rfl _ HRH.out Tryd.underlying49 rfl (by kernel_rfl) ?_) | (refine rng_load rfl 43 _ rfl w.heap.size 22 rfl _ HRD.out Tryd.underlying43 rfl (by kernel_rfl) ?_))
  clear heH heD HRH HRD hkn hkn2 c6 c7
  rcases HFF.out with hf | hf | hf
  ·have HF := zqd hf
   rw [hf] at HN HT HM HI
   rw [hf] at HC
   have he2 : (s.fmt == 2) = false := by rw [HF.out]; rfl
   have he3 : (s.fmt == 3) = false := by rw [HF.out]; rfl
   have hk2 : (k == 2) = true := by rw [HK.out]; rfl
   rw [HK.out] at HN HT HM HI
   clear hf
   replace HN := zqd (show inB s.num 15 = true by simpa [limN] using HN.out)
   replace HT := zqd (show inB s.tim 0 = true by simpa [limT] using HT.out)
   replace HM := zqd (show inB s.mar 0 = true by simpa [limM] using HM.out)
   replace HI := zqd (show inB s.idn 0 = true by simpa [limI] using HI.out)
   replace HC := zqd (show inB s.chk 7 = true by simpa [limC] using HC.out)
   go_wp2_with (first | (go_at_call 88; ((with_reducible refine (in8_yes HN.out rfl _).mono ?_)); rintro e w' ⟨rfl, rfl⟩) | (go_at_call 88; ((with_reducible refine (in8_yes HT.out rfl _).mono ?_)); rintro e w' ⟨rfl, rfl⟩) | (go_at_call 88; ((with_reducible refine (in8_yes HM.out rfl _).mono ?_)); rintro e w' ⟨rfl, rfl⟩) | (go_at_call 88; ((with_reducible refine (in8_yes HI.out rfl _).mono ?_)); rintro e w' ⟨rfl, rfl⟩) | (go_at_call 88; ((with_reducible refine (in8_yes HC.out rfl _).mono ?_)); rintro e w' ⟨rfl, rfl⟩))
   go_ret
   exact ⟨rfl, HG1.out⟩
  ·have HF := zqd hf
   rw [hf] at HN HT HM HI
   rw [hf] at HC
   have he2 : (s.fmt == 2) = true := by rw [HF.out]; rfl
   have he3 : (s.fmt == 3) = false := by rw [HF.out]; rfl
   have hk2 : (k == 2) = true := by rw [HK.out]; rfl
   rw [HK.out] at HN HT HM HI
   clear hf
   replace HN := zqd (show inB s.num 31 = true by simpa [limN] using HN.out)
   replace HT := zqd (show inB s.tim 65535 = true by simpa [limT] using HT.out)
   replace HM := zqd (show inB s.mar 1 = true by simpa [limM] using HM.out)
   replace HI := zqd (show inB s.idn 0 = true by simpa [limI] using HI.out)
   replace HC := zqd (show inB s.chk 127 = true by simpa [limC] using HC.out)
   go_wp2_with (first | (go_at_call 88; ((with_reducible refine (in8_yes HN.out rfl _).mono ?_)); rintro e w' ⟨rfl, rfl⟩) | (go_at_call 88; ((with_reducible refine (in8_yes HT.out rfl _).mono ?_)); rintro e w' ⟨rfl, rfl⟩) | (go_at_call 88; ((with_reducible refine (in8_yes HM.out rfl _).mono ?_)); rintro e w' ⟨rfl, rfl⟩) | (go_at_call 88; ((with_reducible refine (in8_yes HI.out rfl _).mono ?_)); rintro e w' ⟨rfl, rfl⟩) | (go_at_call 88; ((with_reducible refine (in8_yes HC.out rfl _).mono ?_)); rintro e w' ⟨rfl, rfl⟩))
   go_ret
   exact ⟨rfl, HG1.out⟩
  ·have HF := zqd hf
   rw [hf] at HN HT HM HI
   rw [hf] at HC
   have he2 : (s.fmt == 2) = false := by rw [HF.out]; rfl
   have he3 : (s.fmt == 3) = true := by rw [HF.out]; rfl
   have hk2 : (k == 2) = true := by rw [HK.out]; rfl
   rw [HK.out] at HN HT HM HI
   clear hf
   replace HN := zqd (show inB s.num 255 = true by simpa [limN] using HN.out)
   replace HT := zqd (show inB s.tim 4294967295 = true by simpa [limT] using HT.out)
   replace HM := zqd (show inB s.mar 1 = true by simpa [limM] using HM.out)
   replace HI := zqd (show inB s.idn 65535 = true by simpa [limI] using HI.out)
   replace HC := zqd (show inB s.chk 255 = true by simpa [limC] using HC.out)
   go_wp2_with (first | (go_at_call 88; ((with_reducible refine (in8_yes HN.out rfl _).mono ?_)); rintro e w' ⟨rfl, rfl⟩) | (go_at_call 88; ((with_reducible refine (in8_yes HT.out rfl _).mono ?_)); rintro e w' ⟨rfl, rfl⟩) | (go_at_call 88; ((with_reducible refine (in8_yes HM.out rfl _).mono ?_)); rintro e w' ⟨rfl, rfl⟩) | (go_at_call 88; ((with_reducible refine (in8_yes HI.out rfl _).mono ?_)); rintro e w' ⟨rfl, rfl⟩) | (go_at_call 88; ((with_reducible refine (in8_yes HC.out rfl _).mono ?_)); rintro e w' ⟨rfl, rfl⟩))
   go_ret
   exact ⟨rfl, HG1.out⟩
end Go.Proofs.YtlnkofpcidngoaaDoor