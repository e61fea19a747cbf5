/- Layer 44 (audit): Moves, Clean. -/
import Derived.Test.YtgackcjhiplplaaAudN
namespace Go.Proofs.Ytgackcjhiplplaa
open Go.ChangeShapes Go.WideShapes Go.ChangeAt Go.RowKit

def selK (k t : Int) (r : Rec) : Bool := r.kind == k && r.term == t
def selC (r : Rec) : Bool := r.kind == 7 || (r.kind == 8 || r.kind == 9)
theorem moves1_any (r : Rec) (g : Nat) (t : Int) (w : World) (h : IBlk g t w) : Calls Try.prog 35 #[RVal r, .pointer (some ⟨g, 0, none⟩)] w fun e w' => e = .returned (.bool (selK 5 t r)) ∧ Gr w w' := by
  have H := Lib.hid h
  clear h
  go_enter Try.func35, Try.ntmps35
  go_upto_region 1 with (fail)
  obtain ⟨w1, hw1⟩ : ∃ y, y = w.alloc (.cells (RCells r).toArray 27) := ⟨_, rfl⟩
  have hb1 : RBlk w.heap.size r w1 := by rw [hw1]; exact heap_alloc_new _ _
  have hg1 : Gr w w1 := by rw [hw1]; exact Gr.alloc _ _
  simp only [RCells] at hw1
  first | rw [← hw1] | (go_show; fail)
  have c1 := hb1.at 1 rfl
  have c2 := hb1.at 2 rfl
  have HG1 := Lib.hid hg1
  have kg := (H.out.kept hg1).cell
  clear hw1 hb1 hg1
  obtain ⟨B1, e1⟩ : ∃ q, (r.kind == 5) = q := ⟨_, rfl⟩
  obtain ⟨B2, e2⟩ : ∃ q, (r.term == t) = q := ⟨_, rfl⟩
  have HS := Lib.hid (show selK 5 t r = (B1 && B2) by rw [selK, e1, e2])
  cases B1
  · go_wp2_with fail
    go_ret
    exact ⟨ret_bool HS.out.symm, HG1.out⟩
  · go_wp2_with fail
    go_ret
    exact ⟨ret_bool HS.out.symm, HG1.out⟩
theorem moves2_any (r : Rec) (g : Nat) (t : Int) (w : World) (h : IBlk g t w) : Calls Try.prog 36 #[RVal r, .pointer (some ⟨g, 0, none⟩)] w fun e w' => e = .returned (.bool (selK 6 t r)) ∧ Gr w w' := by
  have H := Lib.hid h
  clear h
  go_enter Try.func36, Try.ntmps36
  go_upto_region 1 with (fail)
  obtain ⟨w1, hw1⟩ : ∃ y, y = w.alloc (.cells (RCells r).toArray 27) := ⟨_, rfl⟩
  have hb1 : RBlk w.heap.size r w1 := by rw [hw1]; exact heap_alloc_new _ _
  have hg1 : Gr w w1 := by rw [hw1]; exact Gr.alloc _ _
  simp only [RCells] at hw1
  first | rw [← hw1] | (go_show; fail)
  have c1 := hb1.at 1 rfl
  have c2 := hb1.at 2 rfl
  have HG1 := Lib.hid hg1
  have kg := (H.out.kept hg1).cell
  clear hw1 hb1 hg1
  obtain ⟨B1, e1⟩ : ∃ q, (r.kind == 6) = q := ⟨_, rfl⟩
  obtain ⟨B2, e2⟩ : ∃ q, (r.term == t) = q := ⟨_, rfl⟩
  have HS := Lib.hid (show selK 6 t r = (B1 && B2) by rw [selK, e1, e2])
  cases B1
  · go_wp2_with fail
    go_ret
    exact ⟨ret_bool HS.out.symm, HG1.out⟩
  · go_wp2_with fail
    go_ret
    exact ⟨ret_bool HS.out.symm, HG1.out⟩
theorem clean1_any (r : Rec) (w : World) : Calls Try.prog 39 #[RVal r] w fun e w' => e = .returned (.bool (selC r)) ∧ Gr w w' := by
  go_enter Try.func39, Try.ntmps39
  go_upto_region 1 with (fail)
  obtain ⟨w1, hw1⟩ : ∃ y, y = w.alloc (.cells (RCells r).toArray 27) := ⟨_, rfl⟩
  have hb1 : RBlk w.heap.size r w1 := by rw [hw1]; exact heap_alloc_new _ _
  have hg1 : Gr w w1 := by rw [hw1]; exact Gr.alloc _ _
  simp only [RCells] at hw1
  first | rw [← hw1] | (go_show; fail)
  have c1 := hb1.at 1 rfl
  have c2 := hb1.at 2 rfl
  have HG1 := Lib.hid hg1
  clear hw1 hb1 hg1 c2
  obtain ⟨B1, e1⟩ : ∃ q, (r.kind == 7) = q := ⟨_, rfl⟩
  obtain ⟨B2, e2⟩ : ∃ q, (r.kind == 8) = q := ⟨_, rfl⟩
  obtain ⟨B3, e3⟩ : ∃ q, (r.kind == 9) = q := ⟨_, rfl⟩
  have HS := Lib.hid (show selC r = (B1 || (B2 || B3)) by rw [selC, e1, e2, e3])
  cases B1
  · cases B2
    · go_wp2_with fail
      go_ret
      exact ⟨ret_bool HS.out.symm, HG1.out⟩
    · go_wp2_with fail
      go_ret
      exact ⟨ret_bool HS.out.symm, HG1.out⟩
  · go_wp2_with fail
    go_ret
    exact ⟨ret_bool HS.out.symm, HG1.out⟩
set_option maxRecDepth 100000 in
set_option maxHeartbeats 1000000 in
theorem indices_m1 (a : Option Addr) (len cap : Nat) (L : List Rec) (g : Nat) (t : Int) (w : World) (hr : RdL w a len L) (h : IBlk g t w) :
    Calls Try.prog 31 #[.slice a len cap, .func (Fn.func 35) #[] #[.pointer (some ⟨g, 0, none⟩)]] w (IdxPost (selK 5 t) L w) := by
  have HC := Lib.hid (fun (r : Rec) (u : World) (hu : Gr w u) => moves1_any r g t u (h.kept hu))
  obtain ⟨f, hf⟩ : ∃ f, selK 5 t = f := ⟨_, rfl⟩
  rw [hf] at HC ⊢
  have HR := Lib.hid hr
  have HL := Lib.hid hr.1
  have hm := hr.2.1
  clear hr h hf
  go_enter Try.func31, Try.ntmps31
  go_wp2_with fail
  go_loopw [5, 10] (fun s i wr => IRel w len L f s i wr) (fun _ i _ => len - (intOf i).toNat)
  case atStart => exact ⟨none, 0, 0, 0, by omega, Nat.le_refl _, rfl, rfl, OwnI.nil _ _ _ _, Gr.refl _⟩
  case round =>
    obtain ⟨a', c', n, j, hj, hn, rfl, rfl, ho, hg⟩ := hrel
    have HG := Lib.hid hg
    have HO := Lib.hid ho
    clear hg ho
    by_cases hlt : j < len
    · obtain ⟨r, hri, -⟩ := HR.out.get hlt
      obtain ⟨b0, off, ea, hrg⟩ := (HR.out.kept HG.out).some (by omega)
      subst ea
      have hrange := hrg j r hri
      have htk := idxF_take (f := f) hri
      have HRI := Lib.hid hri
      have HTK := Lib.hid htk
      have HRNG := Lib.hid hrange
      clear hri hrg hrange htk
      go_upto_region 5 with (refine wpList_load_mid rfl 27 _ rfl b0 (off + j * 7) rfl (RCells r) _ HRNG.out Try.underlying27 rfl (by kernel_rfl) ?_)
      obtain ⟨w1, hw1⟩ : ∃ y, y = wr.alloc (.cells (RCells r).toArray 27) := ⟨_, rfl⟩
      have hb1 : RBlk wr.heap.size r w1 := by rw [hw1]; exact heap_alloc_new _ _
      have hg1 : Gr wr w1 := by rw [hw1]; exact Gr.alloc _ _
      simp only [RCells] at hw1
      first | rw [← hw1] | (go_show; fail)
      have hgw1 := HG.out.trans hg1
      unfold RBlk at hb1
      have HB1 := Lib.hid hb1
      have HO1 := Lib.hid (HO.out.stay hg1)
      have HG1 := Lib.hid hgw1
      clear hw1 hb1 hg1 hgw1 HG HO HRNG
      go_wp2_with (refine wpList_load_row rfl 27 _ rfl wr.heap.size rfl 27 _ _ _ HB1.out Try.underlying27 rfl (by kernel_rfl) ?_)
      refine (HC.out r w1 HG1.out).mono ?_
      rintro e w2 ⟨rfl, hg2⟩
      have HO2 := Lib.hid (HO1.out.stay hg2)
      have HG2 := Lib.hid (HG1.out.trans hg2)
      obtain ⟨B, hB⟩ : ∃ B, f r = B := ⟨_, rfl⟩
      have HB := Lib.hid hB
      rw [hB]
      clear hB hg2 HO1 HG1 HB1
      cases B
      · go_wp2_with fail
        go_roundw
        case rel => exact ⟨a', c', n, j + 1, by omega, by omega, rfl, by go_num, by rw [HTK.out, HB.out]; simpa using HO2.out, HG2.out⟩
        case measure => (simp [intOf] <;> omega)
      · have hrd := rd_new (k := .i64) (w := w2) [(j : Int)] 3 (0, 0) 1 rfl (by simp [maxLen]) (by intro z hz; simp at hz; subst hz; exact WalkArith.wf_i64 (by constructor <;> omega))
        obtain ⟨a5, c5, w5, hrun5, ho5, hg5, _⟩ := app_i64 w.heap.size (w2.alloc (.cells ([(j : Int)].map (Value.int .i64)).toArray 3)) a' n c' _ (HO2.out.stay (Gr.alloc _ _)) (some ⟨w2.heap.size, 0, none⟩) 1 1 _ hrd (by omega) (Nat.le_trans HG2.out.size (by simp))
        have hrel : idxF f 0 (L.take j) ++ [(j : Int)] = idxF f 0 (L.take (j + 1)) := by rw [HTK.out, HB.out]; simp
        rw [hrel] at ho5
        simp only [List.map_cons, List.map_nil] at hrun5
        have HR5 := Lib.hid hrun5
        have HO5 := Lib.hid ho5
        have HG5 := Lib.hid (grown_own (HG2.out.trans (Gr.alloc _ _)) (HO2.out.stay (Gr.alloc _ _)) (Nat.le_refl _) hg5)
        clear hrun5 ho5 hg5 hrd hrel
        go_wp2_with (at_builtin; refine wpList_app rfl _ _ _ rfl rfl rfl HR5.out ?_)
        go_roundw
        case rel => exact ⟨a5, c5, n + 1, j + 1, by omega, by omega, rfl, by go_num, HO5.out, HG5.out⟩
        case measure => (simp [intOf] <;> omega)
    · obtain rfl : j = len := by omega
      go_wp2_with fail
      go_ret
      have ho := HO.out
      rw [List.take_of_length_le (by rw [HL.out]; omega)] at ho
      exact ⟨a', n, c', rfl, by rw [HL.out]; omega, ho, HG.out⟩
set_option maxRecDepth 100000 in
set_option maxHeartbeats 1000000 in
theorem indices_m2 (a : Option Addr) (len cap : Nat) (L : List Rec) (g : Nat) (t : Int) (w : World) (hr : RdL w a len L) (h : IBlk g t w) :
    Calls Try.prog 31 #[.slice a len cap, .func (Fn.func 36) #[] #[.pointer (some ⟨g, 0, none⟩)]] w (IdxPost (selK 6 t) L w) := by
  have HC := Lib.hid (fun (r : Rec) (u : World) (hu : Gr w u) => moves2_any r g t u (h.kept hu))
  obtain ⟨f, hf⟩ : ∃ f, selK 6 t = f := ⟨_, rfl⟩
  rw [hf] at HC ⊢
  have HR := Lib.hid hr
  have HL := Lib.hid hr.1
  have hm := hr.2.1
  clear hr h hf
  go_enter Try.func31, Try.ntmps31
  go_wp2_with fail
  go_loopw [5, 10] (fun s i wr => IRel w len L f s i wr) (fun _ i _ => len - (intOf i).toNat)
  case atStart => exact ⟨none, 0, 0, 0, by omega, Nat.le_refl _, rfl, rfl, OwnI.nil _ _ _ _, Gr.refl _⟩
  case round =>
    obtain ⟨a', c', n, j, hj, hn, rfl, rfl, ho, hg⟩ := hrel
    have HG := Lib.hid hg
    have HO := Lib.hid ho
    clear hg ho
    by_cases hlt : j < len
    · obtain ⟨r, hri, -⟩ := HR.out.get hlt
      obtain ⟨b0, off, ea, hrg⟩ := (HR.out.kept HG.out).some (by omega)
      subst ea
      have hrange := hrg j r hri
      have htk := idxF_take (f := f) hri
      have HRI := Lib.hid hri
      have HTK := Lib.hid htk
      have HRNG := Lib.hid hrange
      clear hri hrg hrange htk
      go_upto_region 5 with (refine wpList_load_mid rfl 27 _ rfl b0 (off + j * 7) rfl (RCells r) _ HRNG.out Try.underlying27 rfl (by kernel_rfl) ?_)
      obtain ⟨w1, hw1⟩ : ∃ y, y = wr.alloc (.cells (RCells r).toArray 27) := ⟨_, rfl⟩
      have hb1 : RBlk wr.heap.size r w1 := by rw [hw1]; exact heap_alloc_new _ _
      have hg1 : Gr wr w1 := by rw [hw1]; exact Gr.alloc _ _
      simp only [RCells] at hw1
      first | rw [← hw1] | (go_show; fail)
      have hgw1 := HG.out.trans hg1
      unfold RBlk at hb1
      have HB1 := Lib.hid hb1
      have HO1 := Lib.hid (HO.out.stay hg1)
      have HG1 := Lib.hid hgw1
      clear hw1 hb1 hg1 hgw1 HG HO HRNG
      go_wp2_with (refine wpList_load_row rfl 27 _ rfl wr.heap.size rfl 27 _ _ _ HB1.out Try.underlying27 rfl (by kernel_rfl) ?_)
      refine (HC.out r w1 HG1.out).mono ?_
      rintro e w2 ⟨rfl, hg2⟩
      have HO2 := Lib.hid (HO1.out.stay hg2)
      have HG2 := Lib.hid (HG1.out.trans hg2)
      obtain ⟨B, hB⟩ : ∃ B, f r = B := ⟨_, rfl⟩
      have HB := Lib.hid hB
      rw [hB]
      clear hB hg2 HO1 HG1 HB1
      cases B
      · go_wp2_with fail
        go_roundw
        case rel => exact ⟨a', c', n, j + 1, by omega, by omega, rfl, by go_num, by rw [HTK.out, HB.out]; simpa using HO2.out, HG2.out⟩
        case measure => (simp [intOf] <;> omega)
      · have hrd := rd_new (k := .i64) (w := w2) [(j : Int)] 3 (0, 0) 1 rfl (by simp [maxLen]) (by intro z hz; simp at hz; subst hz; exact WalkArith.wf_i64 (by constructor <;> omega))
        obtain ⟨a5, c5, w5, hrun5, ho5, hg5, _⟩ := app_i64 w.heap.size (w2.alloc (.cells ([(j : Int)].map (Value.int .i64)).toArray 3)) a' n c' _ (HO2.out.stay (Gr.alloc _ _)) (some ⟨w2.heap.size, 0, none⟩) 1 1 _ hrd (by omega) (Nat.le_trans HG2.out.size (by simp))
        have hrel : idxF f 0 (L.take j) ++ [(j : Int)] = idxF f 0 (L.take (j + 1)) := by rw [HTK.out, HB.out]; simp
        rw [hrel] at ho5
        simp only [List.map_cons, List.map_nil] at hrun5
        have HR5 := Lib.hid hrun5
        have HO5 := Lib.hid ho5
        have HG5 := Lib.hid (grown_own (HG2.out.trans (Gr.alloc _ _)) (HO2.out.stay (Gr.alloc _ _)) (Nat.le_refl _) hg5)
        clear hrun5 ho5 hg5 hrd hrel
        go_wp2_with (at_builtin; refine wpList_app rfl _ _ _ rfl rfl rfl HR5.out ?_)
        go_roundw
        case rel => exact ⟨a5, c5, n + 1, j + 1, by omega, by omega, rfl, by go_num, HO5.out, HG5.out⟩
        case measure => (simp [intOf] <;> omega)
    · obtain rfl : j = len := by omega
      go_wp2_with fail
      go_ret
      have ho := HO.out
      rw [List.take_of_length_le (by rw [HL.out]; omega)] at ho
      exact ⟨a', n, c', rfl, by rw [HL.out]; omega, ho, HG.out⟩
set_option maxRecDepth 100000 in
set_option maxHeartbeats 1000000 in
theorem indices_cl (a : Option Addr) (len cap : Nat) (L : List Rec) (w : World) (hr : RdL w a len L) :
    Calls Try.prog 31 #[.slice a len cap, .func (Fn.func 39) #[] #[]] w (IdxPost selC L w) := by
  have HC := Lib.hid (fun (r : Rec) (u : World) (_ : Gr w u) => clean1_any r u)
  obtain ⟨f, hf⟩ : ∃ f, selC = f := ⟨_, rfl⟩
  rw [hf] at HC ⊢
  have HR := Lib.hid hr
  have HL := Lib.hid hr.1
  have hm := hr.2.1
  clear hr hf
  go_enter Try.func31, Try.ntmps31
  go_wp2_with fail
  go_loopw [5, 10] (fun s i wr => IRel w len L f s i wr) (fun _ i _ => len - (intOf i).toNat)
  case atStart => exact ⟨none, 0, 0, 0, by omega, Nat.le_refl _, rfl, rfl, OwnI.nil _ _ _ _, Gr.refl _⟩
  case round =>
    obtain ⟨a', c', n, j, hj, hn, rfl, rfl, ho, hg⟩ := hrel
    have HG := Lib.hid hg
    have HO := Lib.hid ho
    clear hg ho
    by_cases hlt : j < len
    · obtain ⟨r, hri, -⟩ := HR.out.get hlt
      obtain ⟨b0, off, ea, hrg⟩ := (HR.out.kept HG.out).some (by omega)
      subst ea
      have hrange := hrg j r hri
      have htk := idxF_take (f := f) hri
      have HRI := Lib.hid hri
      have HTK := Lib.hid htk
      have HRNG := Lib.hid hrange
      clear hri hrg hrange htk
      go_upto_region 5 with (refine wpList_load_mid rfl 27 _ rfl b0 (off + j * 7) rfl (RCells r) _ HRNG.out Try.underlying27 rfl (by kernel_rfl) ?_)
      obtain ⟨w1, hw1⟩ : ∃ y, y = wr.alloc (.cells (RCells r).toArray 27) := ⟨_, rfl⟩
      have hb1 : RBlk wr.heap.size r w1 := by rw [hw1]; exact heap_alloc_new _ _
      have hg1 : Gr wr w1 := by rw [hw1]; exact Gr.alloc _ _
      simp only [RCells] at hw1
      first | rw [← hw1] | (go_show; fail)
      have hgw1 := HG.out.trans hg1
      unfold RBlk at hb1
      have HB1 := Lib.hid hb1
      have HO1 := Lib.hid (HO.out.stay hg1)
      have HG1 := Lib.hid hgw1
      clear hw1 hb1 hg1 hgw1 HG HO HRNG
      go_wp2_with (refine wpList_load_row rfl 27 _ rfl wr.heap.size rfl 27 _ _ _ HB1.out Try.underlying27 rfl (by kernel_rfl) ?_)
      refine (HC.out r w1 HG1.out).mono ?_
      rintro e w2 ⟨rfl, hg2⟩
      have HO2 := Lib.hid (HO1.out.stay hg2)
      have HG2 := Lib.hid (HG1.out.trans hg2)
      obtain ⟨B, hB⟩ : ∃ B, f r = B := ⟨_, rfl⟩
      have HB := Lib.hid hB
      rw [hB]
      clear hB hg2 HO1 HG1 HB1
      cases B
      · go_wp2_with fail
        go_roundw
        case rel => exact ⟨a', c', n, j + 1, by omega, by omega, rfl, by go_num, by rw [HTK.out, HB.out]; simpa using HO2.out, HG2.out⟩
        case measure => (simp [intOf] <;> omega)
      · have hrd := rd_new (k := .i64) (w := w2) [(j : Int)] 3 (0, 0) 1 rfl (by simp [maxLen]) (by intro z hz; simp at hz; subst hz; exact WalkArith.wf_i64 (by constructor <;> omega))
        obtain ⟨a5, c5, w5, hrun5, ho5, hg5, _⟩ := app_i64 w.heap.size (w2.alloc (.cells ([(j : Int)].map (Value.int .i64)).toArray 3)) a' n c' _ (HO2.out.stay (Gr.alloc _ _)) (some ⟨w2.heap.size, 0, none⟩) 1 1 _ hrd (by omega) (Nat.le_trans HG2.out.size (by simp))
        have hrel : idxF f 0 (L.take j) ++ [(j : Int)] = idxF f 0 (L.take (j + 1)) := by rw [HTK.out, HB.out]; simp
        rw [hrel] at ho5
        simp only [List.map_cons, List.map_nil] at hrun5
        have HR5 := Lib.hid hrun5
        have HO5 := Lib.hid ho5
        have HG5 := Lib.hid (grown_own (HG2.out.trans (Gr.alloc _ _)) (HO2.out.stay (Gr.alloc _ _)) (Nat.le_refl _) hg5)
        clear hrun5 ho5 hg5 hrd hrel
        go_wp2_with (at_builtin; refine wpList_app rfl _ _ _ rfl rfl rfl HR5.out ?_)
        go_roundw
        case rel => exact ⟨a5, c5, n + 1, j + 1, by omega, by omega, rfl, by go_num, HO5.out, HG5.out⟩
        case measure => (simp [intOf] <;> omega)
    · obtain rfl : j = len := by omega
      go_wp2_with fail
      go_ret
      have ho := HO.out
      rw [List.take_of_length_le (by rw [HL.out]; omega)] at ho
      exact ⟨a', n, c', rfl, by rw [HL.out]; omega, ho, HG.out⟩
theorem clean_any (a : Option Addr) (len cap : Nat) (L : List Rec) (w : World) (hr : RdL w a len L) :
    Calls Try.prog 27 #[.slice a len cap] w fun e w' => e = .returned (.bool (decide ((idxF selC 0 L).length = 0))) ∧ Gr w w' := by
  have HR := Lib.hid hr
  clear hr
  go_enter Try.func27, Try.ntmps27
  go_wp2_with fail
  refine (indices_cl a len cap L w HR.out).mono ?_
  rintro e w2 ⟨a', n, c', rfl, hn, ho, hg2⟩
  have HG := Lib.hid hg2
  have hlen := ho.len
  have hl := HR.out.1
  have hm := HR.out.2.1
  have hn2 : n ≤ 1000000 := by omega
  have HE := Lib.hid (show decide ((idxF selC 0 L).length = 0) = ((n : Int) == 0) by rw [hlen]; by_cases h : n = 0 <;> simp [h])
  clear ho hg2 hlen hl hm hn
  go_wp2_with fail
  go_ret
  exact ⟨ret_bool HE.out.symm, HG.out⟩
end Go.Proofs.Ytgackcjhiplplaa
