/- Layer 9 (compressor): the program's functions that say whether a context is valid. -/
import Derived.Test.YtlnkofpcidngoaaDoorA0
import Derived.Test.YtlnkofpcidngoaaDoorA7
import Derived.Test.YtlnkofpcidngoaaDoorA3
namespace Go.Proofs.YtlnkofpcidngoaaDoor
open Go.ChangeShapes Go.WideShapes Go.ChangeAt Go.RowKit
set_option maxRecDepth 20000 in
set_option maxHeartbeats 2000000 in
theorem bounded_any (x m : Int) (w : World) : Calls Tryd.prog 92 #[.int .i64 x, .int .i64 m] w fun e w' => e = .returned (.bool (inB x m)) ∧ w = w' := by
 by_cases h1 : 0 ≤ x
 ·by_cases h2 : x ≤ m
  ·go_enter Tryd.func92, Tryd.ntmps92
   go_wp2
   go_ret
   exact ⟨ret_bool (by simp [inB]; omega), rfl⟩
  ·go_enter Tryd.func92, Tryd.ntmps92
   go_wp2
   go_ret
   exact ⟨ret_bool (by simp [inB]; omega), rfl⟩
 ·go_enter Tryd.func92, Tryd.ntmps92
  go_wp2
  go_ret
  exact ⟨ret_bool (by simp [inB]; omega), rfl⟩
theorem bounded_is {x m : Int} {V : Bool} (h : inB x m = V) (w : World) : Calls Tryd.prog 92 #[.int .i64 x, .int .i64 m] w fun e w' => e = .returned (.bool V) ∧ w = w' := h ▸ bounded_any x m w
set_option maxRecDepth 20000 in
set_option maxHeartbeats 2000000 in
theorem shaped_any (mode width : Int) (w : World) : Calls Tryd.prog 68 #[.int .i64 mode, .int .i64 width] w fun e w' => e = .returned (.bool (shapedB mode width)) ∧ w = w' := by
 by_cases h1 : 1 ≤ mode
 ·by_cases h2 : mode ≤ 3
  ·by_cases h3 : 1 ≤ width
   ·by_cases h4 : width ≤ 8
    ·go_enter Tryd.func68, Tryd.ntmps68
     go_wp2
     go_ret
     exact ⟨ret_bool (by simp [shapedB]; omega), rfl⟩
    ·go_enter Tryd.func68, Tryd.ntmps68
     go_wp2
     go_ret
     exact ⟨ret_bool (by simp [shapedB]; omega), rfl⟩
   ·go_enter Tryd.func68, Tryd.ntmps68
    go_wp2
    go_ret
    exact ⟨ret_bool (by simp [shapedB]; omega), rfl⟩
  ·go_enter Tryd.func68, Tryd.ntmps68
   go_wp2
   go_ret
   exact ⟨ret_bool (by simp [shapedB]; omega), rfl⟩
 ·go_enter Tryd.func68, Tryd.ntmps68
  go_wp2
  go_ret
  exact ⟨ret_bool (by simp [shapedB]; omega), rfl⟩
theorem shaped_is {mode width : Int} {V : Bool} (h : shapedB mode width = V) (w : World) : Calls Tryd.prog 68 #[.int .i64 mode, .int .i64 width] w fun e w' => e = .returned (.bool V) ∧ w = w' := h ▸ shaped_any mode width w
theorem run_eqD (a b c d : Int) (w : World) : (binOp .eql 43 (DVal a b) (DVal c d)).run Tryd.prog w = .ok (.bool (decide (a = c) && decide (b = d))) w := by
 go_simp
 by_cases h1 : a = c
 ·rw [if_pos h1, decide_eq_true h1, Bool.true_and]
  by_cases h2 : b = d
  ·rw [if_pos h2, decide_eq_true h2]
  ·rw [if_neg h2, decide_eq_false h2]
 ·rw [if_neg h1, decide_eq_false h1]; rfl
theorem snd_dyn {g : Nat} {s : Snd} {w : World} (hb : CBlk g 46 (SCells s) w) : w.rangeAt g 6 [.int .i64 s.str, .int .i64 s.fol] := hb.rng 6 _ (by
 intro j v hv
 match j, hv with
 | 0, hv => exact hv
 | 1, hv => exact hv
 | j + 2, hv => simp at hv)
def SndOk (s : Snd) : Prop := s.n = s.refs.length ∧ s.refs.length ≤ 9223372036854775807
set_option maxHeartbeats 2000000 in
set_option maxRecDepth 20000 in
theorem empty_any (s : Snd) (w : World) (hn : SndOk s) : Calls Tryd.prog 91 #[SVal s] w fun e w' => e = .returned (.bool (emptyB s)) ∧ Gr w w' := by
 have HN := zqd hn.1
 have hl := hn.2
 rw [← hn.1] at hl
 clear hn
 go_enter Tryd.func91, Tryd.ntmps91
 go_upto_region 1 with (fail)
 obtain ⟨w1, hw1⟩ : ∃ y, y = w.alloc (.cells (SCells s).toArray 46) := ⟨_, rfl⟩
 have HB1 := zqd (show CBlk w.heap.size 46 (SCells s) w1 by rw [hw1]; exact CBlk.new _ _ _)
 have HG1 := zqd (show Gr w w1 by rw [hw1]; exact Gr.alloc _ _)
 simp only [SCells] at hw1
 first | rw [← hw1] | (go_show; fail)
 clear hw1
 have HD := zqd (snd_dyn HB1.out)
 have x1 := HB1.out.at 1 rfl
 have x2 := HB1.out.at 2 rfl
 have x3 := HB1.out.at 3 rfl
 have x4 := HB1.out.at 4 rfl
 have x5 := HB1.out.at 5 rfl
 have x8 := HB1.out.at 8 rfl
 have y1 : emptyB s = true → s.full = 0 ∧ s.refr = 0 ∧ s.ser = 0 ∧ s.since = 0 ∧ s.long = 0 ∧ (s.str = 0 ∧ s.fol = 0) ∧ s.n = 0 := fun h => by simpa [emptyB, ← HN.out] using h
 have HY := zqd y1
 clear y1
 by_cases h1 : s.full = 0
 rotate_left
 ·have HF := zqd (show false = emptyB s from (Bool.eq_false_iff.2 (fun h => by have := HY.out h; omega)).symm)
  go_wp2_with (refine rng_load rfl 43 _ rfl w.heap.size 6 rfl [.int .i64 s.str, .int .i64 s.fol] HD.out Tryd.underlying43 rfl (by kernel_rfl) ?_)
  go_ret
  exact ⟨ret_bool HF.out, HG1.out⟩
 by_cases h2 : s.refr = 0
 rotate_left
 ·have HF := zqd (show false = emptyB s from (Bool.eq_false_iff.2 (fun h => by have := HY.out h; omega)).symm)
  go_wp2_with (refine rng_load rfl 43 _ rfl w.heap.size 6 rfl [.int .i64 s.str, .int .i64 s.fol] HD.out Tryd.underlying43 rfl (by kernel_rfl) ?_)
  go_ret
  exact ⟨ret_bool HF.out, HG1.out⟩
 by_cases h3 : s.ser = 0
 rotate_left
 ·have HF := zqd (show false = emptyB s from (Bool.eq_false_iff.2 (fun h => by have := HY.out h; omega)).symm)
  go_wp2_with (refine rng_load rfl 43 _ rfl w.heap.size 6 rfl [.int .i64 s.str, .int .i64 s.fol] HD.out Tryd.underlying43 rfl (by kernel_rfl) ?_)
  go_ret
  exact ⟨ret_bool HF.out, HG1.out⟩
 by_cases h4 : s.since = 0
 rotate_left
 ·have HF := zqd (show false = emptyB s from (Bool.eq_false_iff.2 (fun h => by have := HY.out h; omega)).symm)
  go_wp2_with (refine rng_load rfl 43 _ rfl w.heap.size 6 rfl [.int .i64 s.str, .int .i64 s.fol] HD.out Tryd.underlying43 rfl (by kernel_rfl) ?_)
  go_ret
  exact ⟨ret_bool HF.out, HG1.out⟩
 by_cases h5 : s.long = 0
 rotate_left
 ·have HF := zqd (show false = emptyB s from (Bool.eq_false_iff.2 (fun h => by have := HY.out h; omega)).symm)
  go_wp2_with (refine rng_load rfl 43 _ rfl w.heap.size 6 rfl [.int .i64 s.str, .int .i64 s.fol] HD.out Tryd.underlying43 rfl (by kernel_rfl) ?_)
  go_ret
  exact ⟨ret_bool HF.out, HG1.out⟩
 have HE := zqd (run_eqD s.str s.fol 0 0)
 by_cases h6 : s.str = 0 ∧ s.fol = 0
 rotate_left
 ·have hb : (decide (s.str = 0) && decide (s.fol = 0)) = false := by
   rw [← Bool.not_eq_true]; simpa using h6
  have HB := zqd hb
  have heq : ∀ u, (binOp .eql 43 (DVal s.str s.fol) (DVal 0 0)).run Tryd.prog u = .ok (.bool false) u := fun u => by rw [HE.out, HB.out]
  have HF := zqd (show false = emptyB s from (Bool.eq_false_iff.2 (fun h => h6 (HY.out h).2.2.2.2.2.1)).symm)
  clear hb h6
  go_wp2_with (refine rng_load rfl 43 _ rfl w.heap.size 6 rfl [.int .i64 s.str, .int .i64 s.fol] HD.out Tryd.underlying43 rfl (by kernel_rfl) ?_)
  go_ret
  exact ⟨ret_bool HF.out, HG1.out⟩
 have hb : (decide (s.str = 0) && decide (s.fol = 0)) = true := by rw [h6.1, h6.2]; rfl
 have HB := zqd hb
 have heq : ∀ u, (binOp .eql 43 (DVal s.str s.fol) (DVal 0 0)).run Tryd.prog u = .ok (.bool true) u := fun u => by rw [HE.out, HB.out]
 clear hb
 have H6 := zqd h6
 clear h6
 by_cases h7 : s.n = 0
 rotate_left
 ·have HF := zqd (show false = emptyB s from (Bool.eq_false_iff.2 (fun h => by have := HY.out h; omega)).symm)
  go_wp2_with (refine rng_load rfl 43 _ rfl w.heap.size 6 rfl [.int .i64 s.str, .int .i64 s.fol] HD.out Tryd.underlying43 rfl (by kernel_rfl) ?_)
  go_ret
  exact ⟨ret_bool (by rw [← HF.out]; simp; omega), HG1.out⟩
 have HF := zqd (show true = emptyB s by unfold emptyB; rw [← HN.out, h1, h2, h3, h4, h5, H6.out.1, H6.out.2, h7]; rfl)
 go_wp2_with (refine rng_load rfl 43 _ rfl w.heap.size 6 rfl [.int .i64 s.str, .int .i64 s.fol] HD.out Tryd.underlying43 rfl (by kernel_rfl) ?_)
 go_ret
 exact ⟨ret_bool HF.out, HG1.out⟩
theorem empty_is {s : Snd} {V : Bool} (h : emptyB s = V) (w : World) (hn : SndOk s) : Calls Tryd.prog 91 #[SVal s] w fun e w' => e = .returned (.bool V) ∧ Gr w w' := h ▸ empty_any s w hn
/-! ### context -/
set_option maxRecDepth 20000 in
set_option maxHeartbeats 2000000 in
theorem wrong_any (h f : Hdr) (g : Nat) (w : World) (hb : HBlk g f w) (ho : HOk h) : Calls Tryd.prog 93 #[HVal h, .pointer (some ⟨g, 0, none⟩)] w fun e w' => e = .returned (.bool (!(validH h && sameB h f))) ∧ Gr w w' := by
 have HB := zqd hb
 have HO := zqd ho
 obtain ⟨V, hV⟩ : ∃ V, validH h = V := ⟨_, rfl⟩
 obtain ⟨U, hU⟩ : ∃ U, sameB h f = U := ⟨_, rfl⟩
 have HV := zqd hV
 have HU := zqd hU
 rw [hV, hU]
 clear hb ho hV hU
 go_enter Tryd.func93, Tryd.ntmps93
 go_upto_region 1 with (fail)
 obtain ⟨w1, hw1⟩ : ∃ y, y = w.alloc (.cells (HCells h).toArray 49) := ⟨_, rfl⟩
 have HB1 := zqd (show CBlk w.heap.size 49 (HCells h) w1 by rw [hw1]; exact CBlk.new _ _ _)
 have hg1 : Gr w w1 := by rw [hw1]; exact Gr.alloc _ _
 simp only [HCells] at hw1
 first | rw [← hw1] | (go_show; fail)
 have HF1 := zqd (show CBlk g 49 (HCells f) w1 from HB.out.kept hg1)
 have HG1 := zqd hg1
 clear hw1 hg1
 go_wp2_with (refine cblk_load rfl 49 _ rfl w.heap.size rfl HB1.out Tryd.underlying49 rfl (by kernel_rfl) ?_)
 refine (pvalid_is HV.out w1 HO.out).mono ?_
 rintro e w2 ⟨rfl, hg2⟩
 have HB2 := zqd (HB1.out.kept hg2)
 have HF2 := zqd (HF1.out.kept hg2)
 have HG2 := zqd (HG1.out.trans hg2)
 clear hg2 HB1 HF1 HG1
 cases V
 ·go_wp2_with fail
  go_ret
  exact ⟨rfl, HG2.out⟩
 ·go_wp2_with (first | (refine cblk_load rfl 49 _ rfl w.heap.size rfl HB2.out Tryd.underlying49 rfl (by kernel_rfl) ?_) | (refine cblk_load rfl 49 _ rfl g rfl HF2.out Tryd.underlying49 rfl (by kernel_rfl) ?_))
  refine (same_is HU.out w2).mono ?_
  rintro e w3 ⟨rfl, hg3⟩
  have HG3 := zqd (HG2.out.trans hg3)
  clear hg3
  cases U
  ·go_wp2_with fail
   go_ret
   exact ⟨rfl, HG3.out⟩
  ·go_wp2_with fail
   go_ret
   exact ⟨rfl, HG3.out⟩
theorem any_step {α : Type} {p : α → Bool} {l : List α} {j : Nat} {x : α} (h : l[j]? = some x) : (l.take (j + 1)).any p = ((l.take j).any p || p x) := by
 rw [List.take_add_one, h]; simp
theorem any_all {α : Type} {p : α → Bool} {l : List α} {j : Nat} {x : α} (h : l[j]? = some x) (hp : p x = true) : l.any p = true := by
 rw [List.any_eq_true]; exact ⟨x, List.mem_of_getElem? h, hp⟩
set_option maxRecDepth 20000 in
set_option maxHeartbeats 2000000 in
theorem indexH_any (a : Option Addr) (n c : Nat) (hs : List Hdr) (f : Hdr) (g : Nat) (w : World) (hr : RdH w a n c hs) (hb : HBlk g f w) (hm : n ≤ 1000000) :
  Calls Tryd.prog 103 #[.slice a n c, .func (Fn.func 93) #[] #[.pointer (some ⟨g, 0, none⟩)]] w fun e w' => (∃ i : Int, e = .returned (.int .i64 i) ∧ (decide (0 ≤ i) = hs.any fun h => !(validH h && sameB h f))) ∧ Gr w w' := by
 have HC := zqd (fun (h : Hdr) (u : World) (hu : Gr w u) (ho : HOk h) => wrong_any h f g u (hb.kept hu) ho)
 obtain ⟨p, hp⟩ : ∃ p : Hdr → Bool, (fun h => !(validH h && sameB h f)) = p := ⟨_, rfl⟩
 have HPE := zqd (fun h => (show (!(validH h && sameB h f)) = p h by rw [← hp]))
 rw [hp]
 have HR := zqd hr
 clear hr hb hp
 go_enter Tryd.func103, Tryd.ntmps103
 go_wp2_with fail
 go_loopw [8] (fun i wr => ∃ j : Nat, j ≤ n ∧ i = .int .i64 j ∧ (hs.take j).any p = false ∧ Gr w wr) (fun i _ => n - (intOf i).toNat)
 case atStart => exact ⟨0, by omega, rfl, rfl, Gr.refl _⟩
 case round =>
  obtain ⟨j, hj, rfl, hno, hg⟩ := hrel
  have HG := zqd hg
  have HNO := zqd hno
  clear hg hno
  by_cases hlt : j < n
  ·obtain ⟨x, hx, ho⟩ := HR.out.get hlt
   obtain ⟨b, off, ea, -, hrow⟩ := (HR.out.kept HG.out).row (by omega)
   subst ea
   have HRG := zqd (hrow j x hx)
   have HX := zqd hx
   have HO := zqd ho
   clear hrow hx ho
   go_wp2_with (refine rng_load rfl 49 _ rfl b (off + j * 15) rfl (HCells x) HRG.out Tryd.underlying49 rfl (by kernel_rfl) ?_)
   refine (HC.out x wr HG.out HO.out).mono ?_
   rw [HPE.out]
   rintro e w2 ⟨rfl, hg2⟩
   have HG2 := zqd (HG.out.trans hg2)
   obtain ⟨V, hV⟩ : ∃ V, p x = V := ⟨_, rfl⟩
   have HV := zqd hV
   rw [hV]
   clear hV hg2
   cases V
   ·go_wp2_with fail
    go_roundw
    case rel => exact ⟨j + 1, by omega, by go_num, by rw [any_step HX.out, HNO.out, HV.out]; rfl, HG2.out⟩
    case measure => (simp [intOf] <;> omega)
   ·go_wp2_with fail
    go_ret
    exact ⟨⟨_, rfl, by rw [any_all HX.out HV.out]; simp⟩, HG2.out⟩
  ·obtain rfl : j = n := by omega
   have hno := HNO.out
   rw [List.take_of_length_le (by rw [HR.out.1]; omega)] at hno
   have HNO2 := zqd hno
   clear hno
   go_wp2_with fail
   go_ret
   exact ⟨⟨_, rfl, by rw [HNO2.out]; rfl⟩, HG.out⟩
set_option maxRecDepth 20000 in
set_option maxHeartbeats 2000000 in
theorem containsH_any (a : Option Addr) (n c : Nat) (hs : List Hdr) (f : Hdr) (g : Nat) (w : World) (hr : RdH w a n c hs) (hb : HBlk g f w) (hm : n ≤ 1000000) :
  Calls Tryd.prog 96 #[.slice a n c, .func (Fn.func 93) #[] #[.pointer (some ⟨g, 0, none⟩)]] w fun e w' => e = .returned (.bool (hs.any fun h => !(validH h && sameB h f))) ∧ Gr w w' := by
 obtain ⟨V, hV⟩ : ∃ V, (hs.any fun h => !(validH h && sameB h f)) = V := ⟨_, rfl⟩
 have H := zqd (indexH_any a n c hs f g w hr hb hm)
 rw [hV] at H ⊢
 clear hr hb hV
 go_enter Tryd.func96, Tryd.ntmps96
 go_wp2_with fail
 refine H.out.mono ?_
 rintro e w1 ⟨⟨i, rfl, hi⟩, hg1⟩
 have HI := zqd hi
 have HG1 := zqd hg1
 clear hi hg1
 go_wp2_with fail
 go_ret
 exact ⟨ret_bool HI.out, HG1.out⟩
end Go.Proofs.YtlnkofpcidngoaaDoor