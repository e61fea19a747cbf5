/- Several texts in one. -/
import Derived.Test.YtlnkofpcidngoaaDoorA0
import Derived.Test.YtlnkofpcidngoaaDoorA7
import Derived.Test.YtlnkofpcidngoaaDoorA19
import Derived.Test.YtlnkofpcidngoaaDoorA10
/- Layer 06 (flow): the sanity check of the laws. -/
namespace Go.Proofs.YtlnkofpcidngoaaDoor
open Go.ChangeShapes Go.WideShapes Go.ChangeAt Go.RowKit
theorem rlearn_is {a b : Hdr} {S F : Int} (h1 : learnS a b = S) (h2 : learnF a b = F) (w : World) : Calls Tryd.prog 38 #[HVal a, HVal b] w fun e w' => e = .returned (DVal S F) ∧ Gr w w' := by
 subst h1; subst h2; exact rlearn_any a b w
theorem rpredict_is {s f n : Int} {a R : Hdr} (h : predH s f a n = R) (w : World) : Calls Tryd.prog 62 #[DVal s f, HVal a, .int .i64 n] w fun e w' => e = .returned (HVal R) ∧ Gr w w' := h ▸ rpredict_any s f a n w
theorem eqH_refl (a : Hdr) : eqH a a = true := by simp [eqH]
end Go.Proofs.YtlnkofpcidngoaaDoor
/- Layer 8 (format), the reference: packets in parts that are valid. -/
namespace Go.Proofs.YtlnkofpcidngoaaDoor
open Go.ChangeShapes Go.WideShapes Go.ChangeAt Go.RowKit
structure BigOk (s : Sml) : Prop where
 fmt : s.fmt = 4 ∨ s.fmt = 5
 num : s.num = 0
 tim : s.tim = 0
 mar : s.mar = 0
 idn : s.idn = 0
 udp : s.udp = 0
 hd : validH s.hd = true
 dyn : dynB s.str s.fol = true
 plain : s.hd.kind = 1 → s.str = 0 ∧ s.fol = 0
 chk : inB s.chk 255 = true
 stat : s.fmt = 4 → statH s.hd = kindH s.hd.kind
structure RawOk (s : Sml) : Prop where
 fmt : s.fmt = 6
 ctx : s.ctx = 0
 num : s.num = 0
 tim : s.tim = 0
 mar : s.mar = 0
 idn : s.idn = 0
 udp : s.udp = 0
 hd : s.hd = kindH 0
 str : s.str = 0
 fol : s.fol = 0
 chk : s.chk = 0
structure SmlOk (s : Sml) : Prop where
 ctx : inB s.ctx 15 = true
 pay : s.n ≤ 1500
 way : FldOk s ∨ BigOk s ∨ RawOk s
set_option maxRecDepth 100000 in
set_option maxHeartbeats 4000000 in
theorem svalid_small (s : Sml) (w : World) (hx : inB s.ctx 15 = true) (hp : s.n ≤ 1500) (hway : FldOk s) : Calls Tryd.prog 64 #[MVal s] w fun e w' => e = .returned (.bool true) ∧ Gr w w' := by
 have HX := zqd hx
 have HWAY := zqd hway
 have hf16 : 1 ≤ s.fmt ∧ s.fmt ≤ 6 := by have := hway.fmt; omega
 obtain ⟨hf1, hf6⟩ := hf16
 clear hx hway
 go_enter Tryd.func64, Tryd.ntmps64
 go_upto_region 1 with (fail)
 obtain ⟨w1, hw1⟩ : ∃ y, y = w.alloc (.cells (MCells s).toArray 85) := ⟨_, rfl⟩
 have hb1 : CBlk w.heap.size 85 (MCells s) w1 := by rw [hw1]; exact CBlk.new _ _ _
 have hg1 : Gr w w1 := by rw [hw1]; exact Gr.alloc _ _
 simp only [MCells] at hw1
 rw [← hw1]
 have c0 := hb1.at 0 rfl
 have c1 := hb1.at 1 rfl
 have c10 := hb1.at 25 rfl
 have HB1 := zqd hb1
 have HG1 := zqd hg1
 clear hw1 hb1 hg1
 have d1 : decide (s.fmt < 1) = false := by simpa using hf1
 have d2 : decide (6 < s.fmt) = false := by simpa using hf6
 have d3 : decide (1500 < (s.n : Int)) = false := by simp; omega
 go_upto_region 3 with (go_at_call 88; ((with_reducible refine (in8_yes HX.out rfl _).mono ?_)); rintro e w' ⟨rfl, rfl⟩)
 clear c0 c10 d1 d2 d3
 have h4 : s.fmt < 4 := by have := HWAY.out.fmt; omega
 have HFo := zqd HWAY.out
 have hb1' : w1.heap[w.heap.size]? = some (.cells (MCells s).toArray 85 (0, 0)) := HB1.out
 have HB1' := zqd hb1'
 clear hb1' HWAY
 go_wp2_with (refine wpList_load_w rfl 85 _ rfl w.heap.size rfl 85 _ _ _ HB1'.out Tryd.underlying85 rfl (by kernel_rfl) ?_)
 refine (fields_yes s w1 HFo.out).mono ?_
 rintro e w2 ⟨rfl, hg2⟩
 have HG2 := zqd (HG1.out.trans hg2)
 clear hg2
 go_wp2_with fail
 go_ret
 exact ⟨rfl, HG2.out⟩
set_option maxRecDepth 100000 in
set_option maxHeartbeats 4000000 in
theorem svalid_raw (s : Sml) (w : World) (hx : inB s.ctx 15 = true) (hp : s.n ≤ 1500) (hway : RawOk s) : Calls Tryd.prog 64 #[MVal s] w fun e w' => e = .returned (.bool true) ∧ Gr w w' := by
 have HX := zqd hx
 have HWAY := zqd hway
 have hf16 : 1 ≤ s.fmt ∧ s.fmt ≤ 6 := by have := hway.fmt; omega
 obtain ⟨hf1, hf6⟩ := hf16
 clear hx hway
 go_enter Tryd.func64, Tryd.ntmps64
 go_upto_region 1 with (fail)
 obtain ⟨w1, hw1⟩ : ∃ y, y = w.alloc (.cells (MCells s).toArray 85) := ⟨_, rfl⟩
 have hb1 : CBlk w.heap.size 85 (MCells s) w1 := by rw [hw1]; exact CBlk.new _ _ _
 have hg1 : Gr w w1 := by rw [hw1]; exact Gr.alloc _ _
 simp only [MCells] at hw1
 rw [← hw1]
 have c0 := hb1.at 0 rfl
 have c1 := hb1.at 1 rfl
 have c10 := hb1.at 25 rfl
 have HB1 := zqd hb1
 have HG1 := zqd hg1
 clear hw1 hb1 hg1
 have d1 : decide (s.fmt < 1) = false := by simpa using hf1
 have d2 : decide (6 < s.fmt) = false := by simpa using hf6
 have d3 : decide (1500 < (s.n : Int)) = false := by simp; omega
 go_upto_region 3 with (go_at_call 88; ((with_reducible refine (in8_yes HX.out rfl _).mono ?_)); rintro e w' ⟨rfl, rfl⟩)
 clear c0 c10 d1 d2 d3
 have hf6' : s.fmt = 6 := HWAY.out.fmt
 have c0 : w1.cell? ⟨w.heap.size, 0, none⟩ = some (.int .i64 0) := by have := HB1.out.at 0 rfl; rwa [HWAY.out.ctx] at this
 have c2 : w1.cell? ⟨w.heap.size, 2, none⟩ = some (.int .i64 0) := by have := HB1.out.at 2 rfl; rwa [HWAY.out.num] at this
 have c3 : w1.cell? ⟨w.heap.size, 3, none⟩ = some (.int .i64 0) := by have := HB1.out.at 3 rfl; rwa [HWAY.out.tim] at this
 have c4 : w1.cell? ⟨w.heap.size, 4, none⟩ = some (.int .i64 0) := by have := HB1.out.at 4 rfl; rwa [HWAY.out.mar] at this
 have c5 : w1.cell? ⟨w.heap.size, 5, none⟩ = some (.int .i64 0) := by have := HB1.out.at 5 rfl; rwa [HWAY.out.idn] at this
 have c6 : w1.cell? ⟨w.heap.size, 6, none⟩ = some (.int .i64 0) := by have := HB1.out.at 6 rfl; rwa [HWAY.out.udp] at this
 have c24 : w1.cell? ⟨w.heap.size, 24, none⟩ = some (.int .i64 0) := by have := HB1.out.at 24 rfl; rwa [HWAY.out.chk] at this
 have HRH := zqd (show w1.rangeAt w.heap.size 7 [.int .i64 0, .int .i64 0, .int .i64 0, .int .i64 0, .int .i64 0, .int .i64 0, .int .i64 0, .int .i64 0, .int .i64 0, .int .i64 0, .int .i64 0, .int .i64 0, .int .i64 0, .int .i64 0, .int .i64 0] by
  rw [show ([.int .i64 0, .int .i64 0, .int .i64 0, .int .i64 0, .int .i64 0, .int .i64 0, .int .i64 0, .int .i64 0, .int .i64 0, .int .i64 0, .int .i64 0, .int .i64 0, .int .i64 0, .int .i64 0, .int .i64 0] : List Value) = HCells (kindH 0) from rfl, ← HWAY.out.hd]
  exact HB1.out.rng 7 _ (by
   intro j v hv
   rcases j with _ | _ | _ | _ | _ | _ | _ | _ | _ | _ | _ | _ | _ | _ | _ | j
   all_goals first | exact hv | (simp at hv)))
 have HRD := zqd (show w1.rangeAt w.heap.size 22 [.int .i64 0, .int .i64 0] by
  have := HB1.out.rng 22 [.int .i64 s.str, .int .i64 s.fol] (by
   intro j v hv
   rcases j with _ | _ | j
   ·exact hv
   ·exact hv
   ·simp at hv)
  rwa [HWAY.out.str, HWAY.out.fol] at this)
 have e6 : (s.fmt == 6) = true := by rw [hf6']; rfl
 have h4 : 4 ≤ s.fmt := by omega
 clear hf6' HWAY
 have heH : ∀ u, (binOp .eql 49 (.agg #[.int .i64 0, .int .i64 0, .int .i64 0, .int .i64 0, .int .i64 0, .int .i64 0, .int .i64 0, .int .i64 0, .int .i64 0, .int .i64 0, .int .i64 0, .int .i64 0, .int .i64 0, .int .i64 0, .int .i64 0]) (.agg #[.int .i64 0, .int .i64 0, .int .i64 0, .int .i64 0, .int .i64 0, .int .i64 0, .int .i64 0, .int .i64 0, .int .i64 0, .int .i64 0, .int .i64 0, .int .i64 0, .int .i64 0, .int .i64 0, .int .i64 0])).run Tryd.prog u = .ok (.bool true) u := fun u => by
  have := run_eqH (kindH 0) (kindH 0) u
  rwa [eqH_refl] at this
 have heD : ∀ u, (binOp .eql 43 (.agg #[.int .i64 0, .int .i64 0]) (.agg #[.int .i64 0, .int .i64 0])).run Tryd.prog u = .ok (.bool true) u := fun u => by
  have := run_eqD 0 0 0 0 u
  simpa using this
 go_wp2_with (first | (refine rng_load rfl 49 _ rfl w.heap.size 7 rfl _ HRH.out Tryd.underlying49 rfl (by kernel_rfl) ?_) | (refine rng_load rfl 43 _ rfl w.heap.size 22 rfl _ HRD.out Tryd.underlying43 rfl (by kernel_rfl) ?_))
 go_ret
 exact ⟨rfl, HG1.out⟩
end Go.Proofs.YtlnkofpcidngoaaDoor
