/- Layer 44 (audit): flow. -/
import Derived.Test.YtgackcjhiplplaaAudA
namespace Go.Proofs.Ytgackcjhiplplaa
open Go.ChangeShapes Go.WideShapes Go.ChangeAt Go.RowKit

def IRel (w : World) (len : Nat) (L : List Rec) (f : Rec → Bool) (s i : Value) (wr : World) : Prop :=
  ∃ (a' : Option Addr) (c' n k : Nat), k ≤ len ∧ n ≤ k ∧ s = .slice a' n c' ∧ i = .int .i64 k ∧ OwnI w.heap.size 3 .i64 wr a' n c' (idxF f 0 (L.take k)) ∧ Gr w wr
def IdxPost (f : Rec → Bool) (L : List Rec) (w : World) (e : Ending) (w' : World) : Prop := ∃ a' n c', e = .returned (.slice a' n c') ∧ n ≤ L.length ∧ OwnI w.heap.size 3 .i64 w' a' n c' (idxF f 0 L) ∧ Gr w w'
set_option maxRecDepth 100000 in
set_option maxHeartbeats 1000000 in
theorem indices_flow (a : Option Addr) (len cap : Nat) (L : List Rec) (g1 g2 g3 g4 : Nat) (k t b d : Int) (w : World) (hr : RdL w a len L) (h1 : IBlk g1 k w) (h2 : IBlk g2 t w) (h3 : IBlk g3 b w) (h4 : IBlk g4 d w) :
    Calls Try.prog 31 #[.slice a len cap, .func (Fn.func 32) #[] #[.pointer (some ⟨g1, 0, none⟩), .pointer (some ⟨g2, 0, none⟩), .pointer (some ⟨g3, 0, none⟩), .pointer (some ⟨g4, 0, none⟩)]] w (IdxPost (sel k t b d) L w) := by
  have HR := Lib.hid hr
  have HL := Lib.hid hr.1
  have hm := hr.2.1
  have H1 := Lib.hid h1
  have H2 := Lib.hid h2
  have H3 := Lib.hid h3
  have H4 := Lib.hid h4
  clear hr h1 h2 h3 h4
  obtain ⟨f, hf⟩ : ∃ f, sel k t b d = f := ⟨_, rfl⟩
  rw [hf]
  have HF := Lib.hid hf
  clear hf
  go_enter Try.func31, Try.ntmps31
  go_wp2_with fail
  go_loopw [5, 10] (fun s i wr => IRel w len L f s i wr) (fun _ i _ => len - (intOf i).toNat)
  case atStart => exact ⟨none, 0, 0, 0, by omega, Nat.le_refl _, rfl, rfl, OwnI.nil _ _ _ _, Gr.refl _⟩
  case round =>
    obtain ⟨a', c', n, j, hj, hn, rfl, rfl, ho, hg⟩ := hrel
    have HG := Lib.hid hg
    have HO := Lib.hid ho
    clear hg ho
    by_cases hlt : j < len
    · obtain ⟨r, hri, -⟩ := HR.out.get hlt
      obtain ⟨b0, off, ea, hrg⟩ := (HR.out.kept HG.out).some (by omega)
      subst ea
      have hrange := hrg j r hri
      have htk := idxF_take (f := f) hri
      have HRI := Lib.hid hri
      have HTK := Lib.hid htk
      have HRNG := Lib.hid hrange
      clear hri hrg hrange htk
      go_upto_region 5 with (refine wpList_load_mid rfl 27 _ rfl b0 (off + j * 7) rfl (RCells r) _ HRNG.out Try.underlying27 rfl (by kernel_rfl) ?_)
      obtain ⟨w1, hw1⟩ : ∃ y, y = wr.alloc (.cells (RCells r).toArray 27) := ⟨_, rfl⟩
      have hb1 : RBlk wr.heap.size r w1 := by rw [hw1]; exact heap_alloc_new _ _
      have hg1 : Gr wr w1 := by rw [hw1]; exact Gr.alloc _ _
      simp only [RCells] at hw1
      first | rw [← hw1] | (go_show; fail)
      have hgw1 := HG.out.trans hg1
      unfold RBlk at hb1
      have HB1 := Lib.hid hb1
      have HO1 := Lib.hid (HO.out.stay hg1)
      have HG1 := Lib.hid hgw1
      clear hw1 hb1 hg1 hgw1 HG HO HRNG
      go_wp2_with (refine wpList_load_row rfl 27 _ rfl wr.heap.size rfl 27 _ _ _ HB1.out Try.underlying27 rfl (by kernel_rfl) ?_)
      refine (flow1_any r g1 g2 g3 g4 k t b d w1 (H1.out.kept HG1.out) (H2.out.kept HG1.out) (H3.out.kept HG1.out) (H4.out.kept HG1.out)).mono ?_
      rw [HF.out]
      rintro e w2 ⟨rfl, hg2⟩
      have HO2 := Lib.hid (HO1.out.stay hg2)
      have HG2 := Lib.hid (HG1.out.trans hg2)
      obtain ⟨B, hB⟩ : ∃ B, f r = B := ⟨_, rfl⟩
      have HB := Lib.hid hB
      rw [hB]
      clear hB hg2 HO1 HG1 HB1
      cases B
      · go_wp2_with fail
        go_roundw
        case rel => exact ⟨a', c', n, j + 1, by omega, by omega, rfl, by go_num, by rw [HTK.out, HB.out]; simpa using HO2.out, HG2.out⟩
        case measure => (simp [intOf] <;> omega)
      · have hrd := rd_new (k := .i64) (w := w2) [(j : Int)] 3 (0, 0) 1 rfl (by simp [maxLen]) (by intro z hz; simp at hz; subst hz; exact WalkArith.wf_i64 (by constructor <;> omega))
        obtain ⟨a5, c5, w5, hrun5, ho5, hg5, _⟩ := app_i64 w.heap.size (w2.alloc (.cells ([(j : Int)].map (Value.int .i64)).toArray 3)) a' n c' _ (HO2.out.stay (Gr.alloc _ _)) (some ⟨w2.heap.size, 0, none⟩) 1 1 _ hrd (by omega) (Nat.le_trans HG2.out.size (by simp))
        have hrel : idxF f 0 (L.take j) ++ [(j : Int)] = idxF f 0 (L.take (j + 1)) := by rw [HTK.out, HB.out]; simp
        rw [hrel] at ho5
        simp only [List.map_cons, List.map_nil] at hrun5
        have HR5 := Lib.hid hrun5
        have HO5 := Lib.hid ho5
        have HG5 := Lib.hid (grown_own (HG2.out.trans (Gr.alloc _ _)) (HO2.out.stay (Gr.alloc _ _)) (Nat.le_refl _) hg5)
        clear hrun5 ho5 hg5 hrd hrel
        go_wp2_with (at_builtin; refine wpList_app rfl _ _ _ rfl rfl rfl HR5.out ?_)
        go_roundw
        case rel => exact ⟨a5, c5, n + 1, j + 1, by omega, by omega, rfl, by go_num, HO5.out, HG5.out⟩
        case measure => (simp [intOf] <;> omega)
    · obtain rfl : j = len := by omega
      go_wp2_with fail
      go_ret
      have ho := HO.out
      rw [List.take_of_length_le (by rw [HL.out]; omega)] at ho
      exact ⟨a', n, c', rfl, by rw [HL.out]; omega, ho, HG.out⟩
theorem flow_any (a : Option Addr) (len cap : Nat) (L : List Rec) (k t b d : Int) (w : World) (hr : RdL w a len L) :
    Calls Try.prog 16 #[.slice a len cap, .int .i64 k, .int .i64 t, .int .i64 b, .int .i64 d] w (IdxPost (sel k t b d) L w) := by
  have HR := Lib.hid hr
  clear hr
  go_enter Try.func16, Try.ntmps16
  go_wp2_with fail
  obtain ⟨w1, hw1⟩ : ∃ y, y = (((w.alloc (.cells #[.int .i64 k] 3)).alloc (.cells #[.int .i64 t] 3)).alloc (.cells #[.int .i64 b] 3)).alloc (.cells #[.int .i64 d] 3) := ⟨_, rfl⟩
  have x1 : IBlk w.heap.size k (w.alloc (.cells #[.int .i64 k] 3)) := heap_alloc_new _ _
  have x2 : IBlk (w.heap.size + 1) t ((w.alloc (.cells #[.int .i64 k] 3)).alloc (.cells #[.int .i64 t] 3)) := heap_alloc2_new _ _ _
  have y2 := x1.kept (Gr.alloc _ (.cells #[.int .i64 t] 3))
  have x3 : IBlk (w.heap.size + 1 + 1) b (((w.alloc (.cells #[.int .i64 k] 3)).alloc (.cells #[.int .i64 t] 3)).alloc (.cells #[.int .i64 b] 3)) := by
    have := heap_alloc2_new (w.alloc (.cells #[.int .i64 k] 3)) (.cells #[.int .i64 t] 3) (.cells #[.int .i64 b] 3)
    have e : (w.alloc (.cells #[.int .i64 k] 3)).heap.size = w.heap.size + 1 := by simp
    rw [e] at this; exact this
  have x4 : IBlk (w.heap.size + 1 + 1 + 1) d w1 := by
    rw [hw1]
    have := heap_alloc2_new ((w.alloc (.cells #[.int .i64 k] 3)).alloc (.cells #[.int .i64 t] 3)) (.cells #[.int .i64 b] 3) (.cells #[.int .i64 d] 3)
    have e : ((w.alloc (.cells #[.int .i64 k] 3)).alloc (.cells #[.int .i64 t] 3)).heap.size = w.heap.size + 1 + 1 := by simp
    rw [e] at this; exact this
  have k3 : IBlk (w.heap.size + 1 + 1) b w1 := by rw [hw1]; exact x3.kept (Gr.alloc _ _)
  have k2 : IBlk (w.heap.size + 1) t w1 := by rw [hw1]; exact (x2.kept (Gr.alloc _ _)).kept (Gr.alloc _ _)
  have k1 : IBlk w.heap.size k w1 := by rw [hw1]; exact (y2.kept (Gr.alloc _ _)).kept (Gr.alloc _ _)
  have hg1 : Gr w w1 := by rw [hw1]; exact (((Gr.alloc _ _).trans (Gr.alloc _ _)).trans (Gr.alloc _ _)).trans (Gr.alloc _ _)
  first | rw [← hw1] | (go_show; fail)
  have HG1 := Lib.hid hg1
  clear hw1 hg1 x1 x2 x3 y2
  refine (indices_flow a len cap L _ _ _ _ k t b d w1 (HR.out.kept HG1.out) k1 k2 k3 x4).mono ?_
  rintro e w2 ⟨a', n, c', rfl, hn, ho, hg2⟩
  have HO := Lib.hid (ho.weak HG1.out.size)
  have HG2 := Lib.hid (HG1.out.trans hg2)
  clear ho hg2 k1 k2 k3 x4
  go_wp2_with fail
  go_ret
  exact ⟨a', n, c', rfl, hn, HO.out, HG2.out⟩
end Go.Proofs.Ytgackcjhiplplaa
