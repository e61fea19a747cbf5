/- Layer 28 (code): Encode of the program. -/
import Derived.Test.YtcleegibdcphiaaDoorCode
import Derived.Test.YtcleegibdcphiaaDoorMem2
import Derived.Deep.Cut
namespace Go.Proofs.YtcleegibdcphiaaDoor
open Go.ChangeShapes Go.WideShapes Go.ChangeAt Go.RowKit
open Cod

def runS : Int → List Int → Int
  | s, [] => s
  | s, x :: r => runS (nx s x) r
theorem encS_snoc : ∀ (l : List Int) (s x : Int), encS s (l ++ [x]) = encS s l ++ [o0 (runS s l) x, o1 (runS s l) x]
  | [], _, _ => rfl
  | y :: l, s, x => by simp [encS, runS, encS_snoc l]
theorem runS_snoc : ∀ (l : List Int) (s x : Int), runS s (l ++ [x]) = nx (runS s l) x
  | [], _, _ => rfl
  | y :: l, s, x => by simp [runS, runS_snoc l]
theorem take_one (l : List Int) (j : Nat) (h : j < l.length) : l.take (j + 1) = l.take j ++ [l[j]?.getD 0] := by
  rw [List.take_add_one]; simp [h]
def EncPost (xs : List Int) (len : Nat) (w : World) (e : Ending) (w' : World) : Prop := ∃ (a : Option Addr) (cap : Nat), e = .returned (.tuple #[.slice a (2 * (len + 2)) cap, .int .i64 0]) ∧ OwnI w.heap.size 3 .i64 w' a (2 * (len + 2)) cap (enc xs) ∧ Gr w w'

set_option maxRecDepth 20000 in
set_option maxHeartbeats 2000000 in
theorem encode_yes (a : Option Addr) (len cap : Nat) (xs : List Int) (w : World) (hr : Rd .i64 w a len xs) (hx : isBits xs) (h1 : 1 ≤ len) (h2 : len ≤ 2064) :
    Calls Tryd.prog 39 #[.slice a len cap] w (EncPost xs len w) := by
  obtain ⟨b, off, rfl, hb, hc⟩ := hr.some (by omega)
  have hl := hr.1
  have hlen : lenS len = 2 * ((len : Int) + 2) := by unfold lenS; rw [if_pos (by omega)]
  have hlz : (2 * ((len : Int) + 2) == 0) = false := by simp; omega
  have HX := Lib.hid hx
  have HC := Lib.hid hc
  have HL := Lib.hid hl
  have HLEN := Lib.hid hlen
  have HZL := Lib.hid (show (xs ++ [0, 0]).length = len + 2 by simp [hl])
  clear hr hx hc hl hlen
  go_enter Tryd.func39, Tryd.ntmps39
  go_wp2_with fail
  refine (length_any _ _).mono ?_
  rw [HLEN.out]
  rintro e w' ⟨rfl, rfl⟩
  go_wp2_with fail
  go_loop [17] (fun i => ∃ k : Nat, k ≤ len ∧ i = .int .i64 k) (fun i => len - (intOf i).toNat)
  case atStart => exact ⟨0, by omega, rfl⟩
  case round =>
    obtain ⟨k, hk, rfl⟩ := hrel
    by_cases hlt : k < len
    · have ck := HC.out k hlt
      have hxk := HX.out (xs[k]?.getD 0) (by have := HL.out; simp [show k < xs.length by omega])
      obtain ⟨x, hxx⟩ : ∃ x, xs[k]?.getD 0 = x := ⟨_, rfl⟩
      rw [hxx] at ck hxk
      clear hxx
      rcases hxk with rfl | rfl
      · go_wp2_with fail
        go_round
        case rel => exact ⟨k + 1, by omega, by go_num⟩
        case measure => simp [intOf]; omega
      · go_wp2_with fail
        go_round
        case rel => exact ⟨k + 1, by omega, by go_num⟩
        case measure => simp [intOf]; omega
    · obtain rfl : k = len := by omega
      go_wp2_with fail
      go_loopw [6, 7, 31] (fun s t i wr => ∃ (a' : Option Addr) (cap' j : Nat) (st : Int), j ≤ k + 2 ∧ s = .slice a' (2 * j) cap' ∧ t = .int .i64 st ∧ i = .int .i64 j ∧ OwnI w.heap.size 3 .i64 wr a' (2 * j) cap' (encS 0 ((xs ++ [0, 0]).take j)) ∧ runS 0 ((xs ++ [0, 0]).take j) = st ∧ isSt st ∧ Gr w wr ∧ Follows w (.slice none 0 0) (.slice a' (2 * j) cap')) (fun _ _ i _ => k + 2 - (intOf i).toNat)
      case atStart => exact ⟨none, 0, 0, 0, by omega, rfl, rfl, rfl, OwnI.nil _ _ _ _, rfl, .inl rfl, Gr.refl _, Follows.refl _ _⟩
      case round =>
        obtain ⟨a', cap', j, st, hj, rfl, rfl, rfl, hown, hst, hss, hg, hf⟩ := hrel
        have HG := Lib.hid hg
        have HOWN := Lib.hid hown
        have HST := Lib.hid hst
        have HF := Lib.hid hf
        clear hg hown hst hf
        by_cases hj2 : j < k + 2
        · obtain ⟨x, hxx⟩ : ∃ x, (xs ++ [0, 0])[j]?.getD 0 = x := ⟨_, rfl⟩
          have hxb : x = 0 ∨ x = 1 := by
            rw [← hxx]
            have hjl : j < (xs ++ [0, 0]).length := by rw [HZL.out]; exact hj2
            have hm : (xs ++ [0, 0])[j]?.getD 0 ∈ xs ++ [0, 0] := by simp only [List.getElem?_eq_getElem hjl, Option.getD_some]; exact List.getElem_mem hjl
            rcases List.mem_append.1 hm with h | h
            · exact HX.out _ h
            · simp at h; exact .inl h
          have HXX := Lib.hid hxx
          clear hxx
          by_cases hjk : j < k
          · have cj : wr.cell? ⟨b, off + j, none⟩ = some (.int .i64 x) := by
              rw [← HXX.out, List.getElem?_append_left (by rw [HL.out]; exact hjk)]
              exact HG.out.cell (HC.out j hjk)
            go_wp2_with fail
            obtain ⟨w2, hw2⟩ : ∃ y, y = wr.alloc (.cells #[.int .i64 0, .int .i64 0] 79) := ⟨_, rfl⟩
            rw [← hw2]
            have hg2 : Gr wr w2 := by rw [hw2]; exact Gr.alloc _ _
            have hb2 : w2.heap[wr.heap.size]? = some (.cells #[.int .i64 0, .int .i64 0] 79 (0, 0)) := by rw [hw2]; exact heap_alloc_new _ _
            clear hw2
            refine (next28 st x w2 hss (by first | exact hxb | exact .inl rfl)).mono ?_
            rintro e w3 ⟨rfl, hg3⟩
            have hb3 := (hg3.block _ (heap_lt hb2) (by simp)).trans hb2
            have y0 : w3.cell? ⟨wr.heap.size, 0, none⟩ = some (.int .i64 0) := by rw [cell_of_block hb3]; rfl
            have y1 : w3.cell? ⟨wr.heap.size, 1, none⟩ = some (.int .i64 0) := by rw [cell_of_block hb3]; rfl
            have f0 := frozen_of_block hb3 0
            have f1 := frozen_of_block hb3 1
            have HG3 := Lib.hid (hg2.trans hg3)
            have HB3 := Lib.hid hb3
            clear hg2 hb2 hg3 hb3
            go_upto_region 19 with (fail)
            have hb4 := heap_setCell_eq (heap_setCell_eq HB3.out 0 (.int .i64 (o0 st x))) 1 (.int .i64 (o1 st x))
            simp only [List.setIfInBounds_toArray] at hb4
            dsimp only [List.set] at hb4
            obtain ⟨w4, hw4⟩ : ∃ y, y = (w3.setCell ⟨wr.heap.size, 0, none⟩ (.int .i64 (o0 st x))).setCell ⟨wr.heap.size, 1, none⟩ (.int .i64 (o1 st x)) := ⟨_, rfl⟩
            have hg4 : Gr wr w4 := by
              rw [hw4]
              exact grown_set (grown_set HG3.out (a := ⟨wr.heap.size, 0, none⟩) (Nat.le_refl _) _) (a := ⟨wr.heap.size, 1, none⟩) (Nat.le_refl _) _
            rw [← hw4] at hb4
            rw [← hw4]
            clear hw4 y0 y1 f0 f1
            have ho0 := o0_bit st x
            have ho1 := o1_bit st x
            have hrd : Rd .i64 w4 (some ⟨wr.heap.size, 0, none⟩) 2 [o0 st x, o1 st x] := by
              refine ⟨rfl, ?_, by simp [maxLen], .inr ⟨wr.heap.size, 0, rfl, heap_lt hb4, ?_⟩⟩
              · intro y hy; simp at hy; rcases hy with rfl | rfl <;> (refine WalkArith.wf_i64 ?_; omega)
              · intro i hi
                have hi2 : i = 0 ∨ i = 1 := by omega
                rcases hi2 with rfl | rfl <;> (rw [cell_of_block hb4]; rfl)
            obtain ⟨a5, c5, w5, hrun5, ho5, hg5, hf5⟩ := app_i64 w.heap.size w4 a' (2 * j) cap' _ (HOWN.out.stay hg4) (some ⟨wr.heap.size, 0, none⟩) 2 2 _ hrd (by omega) (by have := HG.out.size; have := hg4.size; omega)
            have htk := take_one (xs ++ [0, 0]) j (by rw [HZL.out]; exact hj2)
            rw [HXX.out] at htk
            have henc : encS 0 ((xs ++ [0, 0]).take j) ++ [o0 st x, o1 st x] = encS 0 ((xs ++ [0, 0]).take (j + 1)) := by rw [htk, encS_snoc, HST.out]
            have hrun : runS 0 ((xs ++ [0, 0]).take (j + 1)) = nx st x := by rw [htk, runS_snoc, HST.out]
            rw [henc] at ho5
            have HR5 := Lib.hid hrun5
            have HO5 := Lib.hid ho5
            have HRUN := Lib.hid hrun
            have hg25 : Gr w w5 := by
              refine grownBy_trans (HG.out.trans hg4) hg5 ?_
              rcases HF.out with h | ⟨g, h, hg⟩
              · exact .inr (.inl (by rw [h]; rfl))
              · exact .inr (.inr ⟨g, h, hg⟩)
            have HG25 := Lib.hid hg25
            have HF5 := Lib.hid (HF.out.trans (hf5.later (w := w) (Nat.le_trans HG.out.size hg4.size)) (Nat.le_refl _))
            clear hrun5 ho5 hg5 hf5 htk henc hrun hg25 hrd hg4 hb4 ho0 ho1
            go_wp2_with (at_builtin; refine wpList_app rfl _ _ _ rfl rfl rfl HR5.out ?_)
            go_roundw
            case rel => exact ⟨a5, c5, j + 1, nx st x, by omega, rfl, rfl, rfl, HO5.out, HRUN.out, nx_st hss (by first | exact hxb | exact .inl rfl), HG25.out, HF5.out⟩
            case measure => simp [intOf]; omega
          · obtain rfl : x = 0 := by
              have := HXX.out
              rw [List.getElem?_append_right (by rw [HL.out]; omega), HL.out] at this
              have h3 : j - k = 0 ∨ j - k = 1 := by omega
              rcases h3 with h3 | h3 <;> rw [h3] at this <;> simp at this <;> exact this.symm
            go_wp2_with fail
            obtain ⟨w2, hw2⟩ : ∃ y, y = wr.alloc (.cells #[.int .i64 0, .int .i64 0] 79) := ⟨_, rfl⟩
            rw [← hw2]
            have hg2 : Gr wr w2 := by rw [hw2]; exact Gr.alloc _ _
            have hb2 : w2.heap[wr.heap.size]? = some (.cells #[.int .i64 0, .int .i64 0] 79 (0, 0)) := by rw [hw2]; exact heap_alloc_new _ _
            clear hw2
            refine (next28 st 0 w2 hss (by first | exact hxb | exact .inl rfl)).mono ?_
            rintro e w3 ⟨rfl, hg3⟩
            have hb3 := (hg3.block _ (heap_lt hb2) (by simp)).trans hb2
            have y0 : w3.cell? ⟨wr.heap.size, 0, none⟩ = some (.int .i64 0) := by rw [cell_of_block hb3]; rfl
            have y1 : w3.cell? ⟨wr.heap.size, 1, none⟩ = some (.int .i64 0) := by rw [cell_of_block hb3]; rfl
            have f0 := frozen_of_block hb3 0
            have f1 := frozen_of_block hb3 1
            have HG3 := Lib.hid (hg2.trans hg3)
            have HB3 := Lib.hid hb3
            clear hg2 hb2 hg3 hb3
            go_upto_region 19 with (fail)
            have hb4 := heap_setCell_eq (heap_setCell_eq HB3.out 0 (.int .i64 (o0 st 0))) 1 (.int .i64 (o1 st 0))
            simp only [List.setIfInBounds_toArray] at hb4
            dsimp only [List.set] at hb4
            obtain ⟨w4, hw4⟩ : ∃ y, y = (w3.setCell ⟨wr.heap.size, 0, none⟩ (.int .i64 (o0 st 0))).setCell ⟨wr.heap.size, 1, none⟩ (.int .i64 (o1 st 0)) := ⟨_, rfl⟩
            have hg4 : Gr wr w4 := by
              rw [hw4]
              exact grown_set (grown_set HG3.out (a := ⟨wr.heap.size, 0, none⟩) (Nat.le_refl _) _) (a := ⟨wr.heap.size, 1, none⟩) (Nat.le_refl _) _
            rw [← hw4] at hb4
            rw [← hw4]
            clear hw4 y0 y1 f0 f1
            have ho0 := o0_bit st 0
            have ho1 := o1_bit st 0
            have hrd : Rd .i64 w4 (some ⟨wr.heap.size, 0, none⟩) 2 [o0 st 0, o1 st 0] := by
              refine ⟨rfl, ?_, by simp [maxLen], .inr ⟨wr.heap.size, 0, rfl, heap_lt hb4, ?_⟩⟩
              · intro y hy; simp at hy; rcases hy with rfl | rfl <;> (refine WalkArith.wf_i64 ?_; omega)
              · intro i hi
                have hi2 : i = 0 ∨ i = 1 := by omega
                rcases hi2 with rfl | rfl <;> (rw [cell_of_block hb4]; rfl)
            obtain ⟨a5, c5, w5, hrun5, ho5, hg5, hf5⟩ := app_i64 w.heap.size w4 a' (2 * j) cap' _ (HOWN.out.stay hg4) (some ⟨wr.heap.size, 0, none⟩) 2 2 _ hrd (by omega) (by have := HG.out.size; have := hg4.size; omega)
            have htk := take_one (xs ++ [0, 0]) j (by rw [HZL.out]; exact hj2)
            rw [HXX.out] at htk
            have henc : encS 0 ((xs ++ [0, 0]).take j) ++ [o0 st 0, o1 st 0] = encS 0 ((xs ++ [0, 0]).take (j + 1)) := by rw [htk, encS_snoc, HST.out]
            have hrun : runS 0 ((xs ++ [0, 0]).take (j + 1)) = nx st 0 := by rw [htk, runS_snoc, HST.out]
            rw [henc] at ho5
            have HR5 := Lib.hid hrun5
            have HO5 := Lib.hid ho5
            have HRUN := Lib.hid hrun
            have hg25 : Gr w w5 := by
              refine grownBy_trans (HG.out.trans hg4) hg5 ?_
              rcases HF.out with h | ⟨g, h, hg⟩
              · exact .inr (.inl (by rw [h]; rfl))
              · exact .inr (.inr ⟨g, h, hg⟩)
            have HG25 := Lib.hid hg25
            have HF5 := Lib.hid (HF.out.trans (hf5.later (w := w) (Nat.le_trans HG.out.size hg4.size)) (Nat.le_refl _))
            clear hrun5 ho5 hg5 hf5 htk henc hrun hg25 hrd hg4 hb4 ho0 ho1
            go_wp2_with (at_builtin; refine wpList_app rfl _ _ _ rfl rfl rfl HR5.out ?_)
            go_roundw
            case rel => exact ⟨a5, c5, j + 1, nx st 0, by omega, rfl, rfl, rfl, HO5.out, HRUN.out, nx_st hss (by first | exact hxb | exact .inl rfl), HG25.out, HF5.out⟩
            case measure => simp [intOf]; omega
        · obtain rfl : j = k + 2 := by omega
          go_wp2_with fail
          go_ret2
          have e : (xs ++ [0, 0]).take (k + 2) = xs ++ [0, 0] := List.take_of_length_le (by rw [HZL.out]; exact Nat.le_refl _)
          refine ⟨a', cap', rfl, ?_, HG.out⟩
          have := HOWN.out
          rw [e] at this
          exact this
end Go.Proofs.YtcleegibdcphiaaDoor
