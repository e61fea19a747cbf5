/- Layer 05 (packet): the sanity check; PacketParses. -/
import Derived.Test.YtmojlengjoicoaaPackG
import Derived.Test.YtmojlengjoicoaaFlowL
namespace Go.Proofs.Ytmojlengjoicoaa
open Go.ChangeShapes Go.WideShapes Go.ChangeAt Go.RowKit

def awH : Hdr := ⟨2, 0, 0, 0, 64, 0, 0, 0, 0, 0, 0, 0, 5, 0, 0⟩
theorem awH_valid : validH awH = true := by decide +kernel
theorem awH_ok : HOk awH := by simp only [HOk, awH, i64]; omega
theorem awH_len : (headL awH ++ [1]).length = 41 := by rw [List.length_append, headL_len]; rfl
theorem awH_build : buildF awH [1] = (0, bldL (headL awH ++ [1])) := buildF_yes awH_valid (by rw [awH_len]; omega)
theorem awH_parse : parseF (bldL (headL awH ++ [1])) = (awH, [1], 0) := by
  obtain ⟨h1, _, _, h2⟩ := build_parse awH_valid (ys := [1]) (by intro x hx; simp at hx; omega) (by rw [awH_len]; omega)
  rcases h2 with ⟨h2, _⟩ | ⟨h2, h3⟩
  · exact absurd h2 (by decide)
  · rw [h1, h3, h2]
theorem build_is {h : Hdr} {ys : List Int} {R : Int × List Int} (hR : buildF h ys = R) (a : Option Addr) (m c : Nat) (w : World) (ho : HOk h) (hr : Rd .u8 w a m ys) (hm : m ≤ 140737488351232) : Calls Try.prog 46 #[HVal h, .slice a m c] w fun e w' => ∃ a n cap, e = .returned (.tuple #[.slice a n cap, .int .i64 R.1]) ∧ n = R.2.length ∧ n ≤ cap ∧ Rd .u8 w' a n R.2 ∧ Gr w w' := by
  subst hR
  refine (build_any h a m c ys w ho hr hm).mono ?_
  rintro e w' ⟨a, n, cap, h1, h2, h3, h4⟩
  exact ⟨a, n, cap, h1, h2, h3.le_cap, h3.rd, h4⟩
theorem rbuild_is {h : Hdr} {ys : List Int} {R : Int × List Int} (hR : buildF h ys = R) (a : Option Addr) (m c : Nat) (w : World) (hr : Rd .u8 w a m ys) (hm : m ≤ 140737488351232) : Calls Try.prog 43 #[HVal h, .slice a m c] w fun e w' => ∃ a n cap, e = .returned (.tuple #[.slice a n cap, .int .i64 R.1]) ∧ n = R.2.length ∧ n ≤ cap ∧ Rd .u8 w' a n R.2 ∧ Gr w w' := by
  subst hR
  refine (rbuild_any h a m c ys w hr hm).mono ?_
  rintro e w' ⟨a, n, cap, h1, h2, h3, h4⟩
  exact ⟨a, n, cap, h1, h2, h3.le_cap, h3.rd, h4⟩
theorem parse_is {xs : List Int} {F : Hdr × List Int × Int} (hF : parseF xs = F) (a : Option Addr) (len cap : Nat) (w : World) (hr : Rd .u8 w a len xs) (hcap : len ≤ cap) (hL : len ≤ 140737488351232) : Calls Try.prog 39 #[.slice a len cap] w (ParsePost F w) := hF ▸ parse_any a len cap xs w hr hcap hL
theorem rparse_is {xs : List Int} {F : Hdr × List Int × Int} (hF : parseF xs = F) (a : Option Addr) (len cap : Nat) (w : World) (hr : Rd .u8 w a len xs) (hcap : len ≤ cap) (hL : len ≤ 140737488351232) : Calls Try.prog 40 #[.slice a len cap] w (ParsePost F w) := hF ▸ rparse_any a len cap xs w hr hcap hL
set_option maxRecDepth 100000 in
set_option maxHeartbeats 2000000 in
theorem awake05 (w : World) : Calls Try.prog 41 #[] w fun e w' => e = .returned (.bool true) ∧ Gr w w' := by
  obtain ⟨A, hA⟩ : ∃ A, A = awH := ⟨_, rfl⟩
  obtain ⟨bl, hbl⟩ : ∃ bl, bldL (headL awH ++ [1]) = bl := ⟨_, rfl⟩
  have HA := Lib.hid hA
  have HBF := Lib.hid (show buildF A [1] = (0, bl) by rw [hA, awH_build, hbl])
  have HPF := Lib.hid (show parseF bl = (A, [1], 0) by rw [hA, ← hbl]; exact awH_parse)
  have HLN := Lib.hid (show bl.length = 41 by rw [← hbl, bldL_len, awH_len])
  have HOA := Lib.hid (show HOk A by rw [hA]; exact awH_ok)
  have HVA := Lib.hid (show validH A = true by rw [hA]; exact awH_valid)
  have HHL := Lib.hid (show (headL A).length = 40 by rw [hA, headL_len]; rfl)
  have HVAL := Lib.hid (show HVal A = .agg #[.int .i64 2, .int .i64 0, .int .i64 0, .int .i64 0, .int .i64 64, .int .i64 0, .int .i64 0, .int .i64 0, .int .i64 0, .int .i64 0, .int .i64 0, .int .i64 0, .int .i64 5, .int .i64 0, .int .i64 0] by rw [hA]; rfl)
  have HSEQ := Lib.hid (show A.seq = 5 by rw [hA]; rfl)
  clear hA hbl HA
  go_enter Try.func41, Try.ntmps41
  go_wp2_with fail
  obtain ⟨w1, hw1⟩ : ∃ y, y = w.alloc (.cells #[.int .u8 1] 5) := ⟨_, rfl⟩
  have hg1 : Gr w w1 := by rw [hw1]; exact Gr.alloc _ _
  have hr1 : Rd .u8 w1 (some ⟨w.heap.size, 0, none⟩) 1 [1] := by rw [hw1]; exact rd_new (k := .u8) (w := w) [1] 5 (0, 0) 1 rfl (by simp [maxLen]) (by intro z hz; simp at hz; subst hz; exact WalkArith.wf_u8 (by omega))
  rw [← hw1, ← HVAL.out]
  have HG1 := Lib.hid hg1
  clear hw1 hg1
  refine (build_is HBF.out _ 1 1 w1 HOA.out hr1 (by omega)).mono ?_
  rintro e w2 ⟨a2, n2, c2, rfl, hn2, hc2, hr2, hg2⟩
  obtain rfl : n2 = 41 := by rw [hn2]; exact HLN.out
  have HR2 := Lib.hid hr2
  have HG2 := Lib.hid (HG1.out.trans hg2)
  clear hr1 hg2 hr2 hn2
  go_wp2_with fail
  refine (parse_is HPF.out _ 41 c2 w2 HR2.out hc2 (by omega)).mono ?_
  rintro e w3 ⟨a3, n3, c3, rfl, hn3, hr3, hg3⟩
  obtain rfl : n3 = 1 := hn3
  have HG3 := Lib.hid (HG2.out.trans hg3)
  have HR2' := Lib.hid (HR2.out.kept hg3)
  clear hg3 hr3 HG2 HR2 HG1
  dsimp only
  go_upto_region 3 with (fail)
  obtain ⟨w4, hw4⟩ : ∃ y, y = w3.alloc (.cells (HCells A).toArray 29) := ⟨_, rfl⟩
  have hb4 : HBlk w3.heap.size A w4 := by rw [hw4]; exact heap_alloc_new _ _
  have hg4 : Gr w3 w4 := by rw [hw4]; exact Gr.alloc _ _
  simp only [HCells] at hw4
  rw [← hw4]
  have c12 : w4.cell? ⟨w3.heap.size, 12, none⟩ = some (.int .i64 5) := by rw [← HSEQ.out]; exact hb4.at 12 rfl
  have HB4 := Lib.hid hb4
  have HG4 := Lib.hid (HG3.out.trans hg4)
  unfold HBlk at hb4
  have HB4' := Lib.hid hb4
  clear hw4 hb4 hg4
  go_wp2_with (refine wpList_load_w rfl 29 _ rfl w3.heap.size rfl 29 _ _ _ HB4'.out Try.underlying29 rfl (by kernel_rfl) ?_)
  refine (pvalid_is HVA.out w4 HOA.out).mono ?_
  rintro e w5 ⟨rfl, hg5⟩
  have hb5 := HB4.out.kept hg5
  have HG5 := Lib.hid (HG4.out.trans hg5)
  unfold HBlk at hb5
  have HB5' := Lib.hid hb5
  clear hg5 hb5 c12
  go_wp2_with (refine wpList_load_w rfl 29 _ rfl w3.heap.size rfl 29 _ _ _ HB5'.out Try.underlying29 rfl (by kernel_rfl) ?_)
  refine (head_yes A w5 HVA.out HOA.out).mono ?_
  rintro e w6 ⟨g6, n6, rfl, hn6, -, hg6⟩
  obtain rfl : n6 = 40 := by rw [hn6]; exact HHL.out
  have HG6 := Lib.hid (HG5.out.trans hg6)
  clear hg6 hn6
  go_wp2_with fail
  go_ret
  exact ⟨rfl, HG6.out⟩
set_option maxRecDepth 100000 in
set_option maxHeartbeats 2000000 in
theorem parses_any (a : Option Addr) (len cap : Nat) (xs : List Int) (w : World) (hr : Rd .u8 w a len xs) (hcap : len ≤ cap) (hL : len ≤ 140737488351232) : Calls Try.prog 8 #[.slice a len cap] w fun e w' => e = .returned (.bool true) ∧ Gr w w' := by
  obtain ⟨F, hF⟩ : ∃ F, parseF xs = F := ⟨_, rfl⟩
  have HF := Lib.hid hF
  have HR := Lib.hid hr
  clear hF hr
  obtain ⟨P, Y, E⟩ := F
  go_enter Try.func8, Try.ntmps8
  go_wp2_with fail
  refine (parse_is HF.out _ len cap w HR.out hcap hL).mono ?_
  rintro e w1 ⟨a1, n1, c1, rfl, -, hr1, hg1⟩
  have HG1 := Lib.hid hg1
  have HR1 := Lib.hid hr1
  clear hg1 hr1
  dsimp only at HR1
  dsimp only
  go_upto_region 2 with (fail)
  obtain ⟨w2, hw2⟩ : ∃ y, y = w1.alloc (.cells (HCells P).toArray 29) := ⟨_, rfl⟩
  have hb2 : HBlk w1.heap.size P w2 := by rw [hw2]; exact heap_alloc_new _ _
  have hg2 : Gr w1 w2 := by rw [hw2]; exact Gr.alloc _ _
  simp only [HCells] at hw2
  rw [← hw2]
  have HB2 := Lib.hid hb2
  have HG2 := Lib.hid (HG1.out.trans hg2)
  have HR2 := Lib.hid (HR1.out.kept hg2)
  clear hw2 hb2 hg2 HR1 HG1
  go_wp2_with fail
  refine (rparse_is HF.out _ len cap w2 (HR.out.kept HG2.out) hcap hL).mono ?_
  rintro e w3 ⟨a3, n3, c3, rfl, -, hr3, hg3⟩
  dsimp only at hr3
  have HG3 := Lib.hid (HG2.out.trans hg3)
  have HR3 := Lib.hid hr3
  have HR3' := Lib.hid (HR2.out.kept hg3)
  have HB3 := Lib.hid (HB2.out.kept hg3)
  have hz3 : w1.heap.size < w3.heap.size := Nat.lt_of_lt_of_le (heap_lt HB2.out) hg3.size
  clear hg3 hr3 HB2 HR2 HG2
  dsimp only
  go_upto_region 3 with (fail)
  obtain ⟨w4, hw4⟩ : ∃ y, y = w3.alloc (.cells (HCells P).toArray 29) := ⟨_, rfl⟩
  have hb4 : HBlk w3.heap.size P w4 := by rw [hw4]; exact heap_alloc_new _ _
  have hg4 : Gr w3 w4 := by rw [hw4]; exact Gr.alloc _ _
  simp only [HCells] at hw4
  rw [← hw4]
  have HB4 := Lib.hid hb4
  have HC4 := Lib.hid (HB3.out.kept hg4)
  have HG4 := Lib.hid (HG3.out.trans hg4)
  have HR4 := Lib.hid (HR3.out.kept hg4)
  have HR4' := Lib.hid (HR3'.out.kept hg4)
  clear hw4 hb4 hg4 HR3 HR3' HG3 HB3
  go_wp2_with fail
  refine (awake05 w4).mono ?_
  rintro e w5 ⟨rfl, hg5⟩
  have hb5 := HB4.out.kept hg5
  have hc5 := HC4.out.kept hg5
  unfold HBlk at hb5 hc5
  have HB5 := Lib.hid hb5
  have HC5 := Lib.hid hc5
  have HG5 := Lib.hid (HG4.out.trans hg5)
  have HR5 := Lib.hid (HR4.out.kept hg5)
  have HR5' := Lib.hid (HR4'.out.kept hg5)
  have he : ∀ u : World, (binOp .eql 29 (HVal P) (HVal P)).run Try.prog u = .ok (.bool true) u := fun u => by
    rw [run_eqH, show eqH P P = true by simp [eqH]]
  clear hg5 hb5 hc5 HR4 HR4' HG4 HB4 HC4
  go_wp2_with (first | (refine wpList_load_w rfl 29 _ rfl w1.heap.size rfl 29 _ _ _ HC5.out Try.underlying29 rfl (by kernel_rfl) ?_) | (refine wpList_load_w rfl 29 _ rfl w3.heap.size rfl 29 _ _ _ HB5.out Try.underlying29 rfl (by kernel_rfl) ?_))
  refine (bsame_is (decide_eq_true rfl) w5 HR5'.out HR5.out).mono ?_
  rintro e w' ⟨rfl, rfl⟩
  go_wp2_with fail
  go_ret
  exact ⟨rfl, HG5.out⟩
theorem parses_fit (a : Option Addr) (len cap : Nat) (xs : List Int) (w : World) (hr : Rd .u8 w a len xs) (hc : len ≤ cap) (hL : len ≤ 140737488351232) : Calls Try.prog 8 #[.slice a len cap] w fun e w' => e = .returned (.bool true) ∧ Below w.heap.size w w' :=
  (parses_any a len cap xs w hr hc hL).mono fun _ _ ⟨h, hg⟩ => ⟨h, Below.of_none hg⟩
end Go.Proofs.Ytmojlengjoicoaa
