/- Layer 29 (harq): clones of slices. -/
import Derived.Test.YtcleegibdcphiaaDoorHarE
namespace Go.Proofs.YtcleegibdcphiaaDoor
open Go.ChangeShapes Go.WideShapes Go.ChangeAt Go.RowKit

theorem lit_nilB29 (B : Nat) (w : World) (hB : B ≤ w.heap.size) : OwnI B 5 .u8 (w.alloc (.cells #[] 5)) (some ⟨w.heap.size, 0, none⟩) 0 0 [] := by
  refine ⟨?_, fun y hy => by cases hy⟩
  have h := World.ownsRow_lit (base := B) (e := 5) (size := 1) w (([] : List Int).map (Value.int .u8)).toArray 0 hB (by simp [maxLen]) (by simp)
  exact h
def ClonePostB29 (m : Nat) (ys : List Int) (w : World) (e : Ending) (w' : World) : Prop := ∃ a' c', e = .returned (.slice a' m c') ∧ OwnI w.heap.size 5 .u8 w' a' m c' ys ∧ Gr w w'
theorem cloneB29 (a : Option Addr) (m c : Nat) (ys : List Int) (w : World) (hr : Rd .u8 w a m ys) (hm : m ≤ 17592186044000) : Calls Tryd.prog 38 #[.slice a m c] w (ClonePostB29 m ys w) := by
  cases a with
  | none =>
    have hm0 : m = 0 := by
      rcases hr.2.2.2 with h | ⟨_, _, h, _⟩
      · exact h
      · cases h
    subst hm0
    obtain rfl : ys = [] := List.eq_nil_of_length_eq_zero hr.1
    have hnil : ∀ u : World, (binOp .eql 22 (.slice none 0 c) (.slice none 0 0)).run Tryd.prog u = .ok (.bool true) u := fun u => Lib.run_eql_slice_nil u _ _ _ _ _ _ _ Tryd.underlying22
    clear hr
    go_enter Tryd.func38, Tryd.ntmps38
    go_wp2_with fail
    go_ret
    exact ⟨none, 0, rfl, OwnI.nil _ _ _ _, Gr.refl _⟩
  | some x =>
    have hnil : ∀ u : World, (binOp .eql 22 (.slice (some x) m c) (.slice none 0 0)).run Tryd.prog u = .ok (.bool false) u := fun u => Lib.run_eql_slice_nil u _ _ _ _ _ _ _ Tryd.underlying22
    obtain ⟨w1, hw1⟩ : ∃ y, y = w.alloc (.cells #[] 5) := ⟨_, rfl⟩
    have ho := lit_nilB29 w.heap.size w (Nat.le_refl _)
    rw [← hw1] at ho
    have hg1 : Gr w w1 := by rw [hw1]; exact Gr.alloc _ _
    obtain ⟨a3, cap3, w3, hrun, ho3, hg3, _⟩ := app_u8 w.heap.size w1 (some ⟨w.heap.size, 0, none⟩) 0 0 [] ho (some x) m c ys (hr.kept hg1) (by omega) hg1.size
    rw [Nat.zero_add] at hrun ho3
    rw [List.nil_append] at ho3
    have HRUN := Lib.hid hrun
    have HO3 := Lib.hid ho3
    have HG3 := Lib.hid (grown_own hg1 ho (Nat.le_refl _) hg3)
    have HW1 := Lib.hid hw1
    clear ho3 hrun hg1 ho hw1 hr hg3
    go_enter Tryd.func38, Tryd.ntmps38
    go_upto_region 3 with (fail)
    go_wp2_with (at_builtin; (have hw1 := HW1.out; rw [← hw1]; clear hw1); refine wpList_app rfl _ _ _ rfl rfl rfl HRUN.out ?_)
    go_ret
    exact ⟨a3, cap3, rfl, HO3.out, HG3.out⟩
theorem lit_nilI29 (B : Nat) (w : World) (hB : B ≤ w.heap.size) : OwnI B 3 .i64 (w.alloc (.cells #[] 3)) (some ⟨w.heap.size, 0, none⟩) 0 0 [] := by
  refine ⟨?_, fun y hy => by cases hy⟩
  have h := World.ownsRow_lit (base := B) (e := 3) (size := 1) w (([] : List Int).map (Value.int .i64)).toArray 0 hB (by simp [maxLen]) (by simp)
  exact h
def ClonePostI29 (m : Nat) (ys : List Int) (w : World) (e : Ending) (w' : World) : Prop := ∃ a' c', e = .returned (.slice a' m c') ∧ OwnI w.heap.size 3 .i64 w' a' m c' ys ∧ Gr w w'
theorem cloneI29 (a : Option Addr) (m c : Nat) (ys : List Int) (w : World) (hr : Rd .i64 w a m ys) (hm : m ≤ 17592186044000) : Calls Tryd.prog 45 #[.slice a m c] w (ClonePostI29 m ys w) := by
  cases a with
  | none =>
    have hm0 : m = 0 := by
      rcases hr.2.2.2 with h | ⟨_, _, h, _⟩
      · exact h
      · cases h
    subst hm0
    obtain rfl : ys = [] := List.eq_nil_of_length_eq_zero hr.1
    have hnil : ∀ u : World, (binOp .eql 25 (.slice none 0 c) (.slice none 0 0)).run Tryd.prog u = .ok (.bool true) u := fun u => Lib.run_eql_slice_nil u _ _ _ _ _ _ _ Tryd.underlying25
    clear hr
    go_enter Tryd.func45, Tryd.ntmps45
    go_wp2_with fail
    go_ret
    exact ⟨none, 0, rfl, OwnI.nil _ _ _ _, Gr.refl _⟩
  | some x =>
    have hnil : ∀ u : World, (binOp .eql 25 (.slice (some x) m c) (.slice none 0 0)).run Tryd.prog u = .ok (.bool false) u := fun u => Lib.run_eql_slice_nil u _ _ _ _ _ _ _ Tryd.underlying25
    obtain ⟨w1, hw1⟩ : ∃ y, y = w.alloc (.cells #[] 3) := ⟨_, rfl⟩
    have ho := lit_nilI29 w.heap.size w (Nat.le_refl _)
    rw [← hw1] at ho
    have hg1 : Gr w w1 := by rw [hw1]; exact Gr.alloc _ _
    obtain ⟨a3, cap3, w3, hrun, ho3, hg3, _⟩ := app_i64 w.heap.size w1 (some ⟨w.heap.size, 0, none⟩) 0 0 [] ho (some x) m c ys (hr.kept hg1) (by omega) hg1.size
    rw [Nat.zero_add] at hrun ho3
    rw [List.nil_append] at ho3
    have HRUN := Lib.hid hrun
    have HO3 := Lib.hid ho3
    have HG3 := Lib.hid (grown_own hg1 ho (Nat.le_refl _) hg3)
    have HW1 := Lib.hid hw1
    clear ho3 hrun hg1 ho hw1 hr hg3
    go_enter Tryd.func45, Tryd.ntmps45
    go_upto_region 3 with (fail)
    go_wp2_with (at_builtin; (have hw1 := HW1.out; rw [← hw1]; clear hw1); refine wpList_app rfl _ _ _ rfl rfl rfl HRUN.out ?_)
    go_ret
    exact ⟨a3, cap3, rfl, HO3.out, HG3.out⟩
end Go.Proofs.YtcleegibdcphiaaDoor
