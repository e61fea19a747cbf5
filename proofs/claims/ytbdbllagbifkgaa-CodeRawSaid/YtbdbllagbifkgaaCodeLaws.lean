/- The laws of layer 28 (code): the sanity check; bits of booleans. -/
import Derived.Test.YtbdbllagbifkgaaCodeDec
import Derived.Test.YtbdbllagbifkgaaRollInts
namespace Go.Proofs.Ytbdbllagbifkgaa
open Go.ChangeShapes Go.WideShapes Go.ChangeAt Go.RowKit
open Cod

theorem awake28 (w : World) : Calls Try.prog 11 #[] w fun e w' => e = .returned (.bool true) ∧ Gr w w' := by
  have e1 : enc [1] = [1, 1, 1, 0, 1, 1] := by decide +kernel
  have e2 : dec 1 [-5, -5, -5, 5, -5, -5] 0 = [1] := by decide +kernel
  have e3 : lenS 1 = 6 := by decide +kernel
  have E1 := Lib.hid e1
  have E2 := Lib.hid e2
  have E3 := Lib.hid e3
  clear e1 e2 e3
  go_enter Try.func11, Try.ntmps11
  go_wp2_with fail
  obtain ⟨w1, hw1⟩ : ∃ y, y = w.alloc (.cells #[.int .i64 1] 3) := ⟨_, rfl⟩
  have hrd1 : Rd .i64 w1 (some ⟨w.heap.size, 0, none⟩) 1 [1] := by rw [hw1]; exact rd_new [1] _ _ 1 rfl (by simp [maxLen]) (by decide)
  have hg1 : Gr w w1 := by rw [hw1]; exact Gr.alloc _ _
  rw [← hw1]
  clear hw1
  refine (encode_yes _ 1 _ [1] w1 hrd1 (by simp [isBits]) (by omega) (by omega)).mono ?_
  rintro e w2 ⟨a2, c2, rfl, ho2, hg2⟩
  have hr2 := ho2.rd
  rw [E1.out] at hr2
  have HR2 := Lib.hid hr2
  have HG2 := Lib.hid (hg1.trans hg2)
  clear ho2 hg1 hg2 hr2 hrd1
  go_wp2_with fail
  obtain ⟨w3, hw3⟩ : ∃ y, y = w2.alloc (.cells #[.int .i64 (-5), .int .i64 (-5), .int .i64 (-5), .int .i64 5, .int .i64 (-5), .int .i64 (-5)] 3) := ⟨_, rfl⟩
  have hrd3 : Rd .i64 w3 (some ⟨w2.heap.size, 0, none⟩) 6 [-5, -5, -5, 5, -5, -5] := by rw [hw3]; exact rd_new [-5, -5, -5, 5, -5, -5] _ _ 6 rfl (by simp [maxLen]) (by decide)
  have hg3 : Gr w2 w3 := by rw [hw3]; exact Gr.alloc _ _
  rw [← hw3]
  clear hw3
  refine (decode_yes _ 1 _ [-5, -5, -5, 5, -5, -5] w3 hrd3 (by simp [softOk]) (by omega) (by omega) (by omega)).mono ?_
  rintro e w4 ⟨a4, c4, rfl, hr4, hg4⟩
  rw [E2.out] at hr4
  have HR4 := Lib.hid hr4
  have HG4 := Lib.hid (HG2.out.trans (hg3.trans hg4))
  have HR24 := Lib.hid (HR2.out.kept (hg3.trans hg4))
  clear hg3 hg4 hr4 hrd3
  go_wp2_with fail
  obtain ⟨w5, hw5⟩ : ∃ y, y = w4.alloc (.cells #[.int .i64 1, .int .i64 1, .int .i64 1, .int .i64 0, .int .i64 1, .int .i64 1] 3) := ⟨_, rfl⟩
  have hrd5 : Rd .i64 w5 (some ⟨w4.heap.size, 0, none⟩) 6 [1, 1, 1, 0, 1, 1] := by rw [hw5]; exact rd_new [1, 1, 1, 0, 1, 1] _ _ 6 rfl (by simp [maxLen]) (by decide)
  have hg5 : Gr w4 w5 := by rw [hw5]; exact Gr.alloc _ _
  rw [← hw5]
  clear hw5
  refine (same_ints _ _ _ _ _ _ [1, 1, 1, 0, 1, 1] [1, 1, 1, 0, 1, 1] w5 (HR24.out.kept hg5) hrd5).mono ?_
  rw [decide_eq_true (rfl : ([1, 1, 1, 0, 1, 1] : List Int) = [1, 1, 1, 0, 1, 1])]
  rintro e w6 ⟨rfl, hg6⟩
  have HG6 := Lib.hid (HG4.out.trans (hg5.trans hg6))
  have HR46 := Lib.hid (HR4.out.kept (hg5.trans hg6))
  clear hg5 hg6 hrd5
  go_wp2_with fail
  obtain ⟨w7, hw7⟩ : ∃ y, y = w6.alloc (.cells #[.int .i64 1] 3) := ⟨_, rfl⟩
  have hrd7 : Rd .i64 w7 (some ⟨w6.heap.size, 0, none⟩) 1 [1] := by rw [hw7]; exact rd_new [1] _ _ 1 rfl (by simp [maxLen]) (by decide)
  have hg7 : Gr w6 w7 := by rw [hw7]; exact Gr.alloc _ _
  rw [← hw7]
  clear hw7
  refine (same_ints _ _ _ _ _ _ [1] [1] w7 (HR46.out.kept hg7) hrd7).mono ?_
  rw [decide_eq_true (rfl : ([1] : List Int) = [1])]
  rintro e w8 ⟨rfl, hg8⟩
  have HG8 := Lib.hid (HG6.out.trans (hg7.trans hg8))
  clear hg7 hg8 hrd7
  go_wp2_with ((go_at_call 19; refine (length_is E3.out _).mono ?_; rintro e w' ⟨rfl, rfl⟩))
  go_ret
  exact ⟨rfl, HG8.out⟩
end Go.Proofs.Ytbdbllagbifkgaa
