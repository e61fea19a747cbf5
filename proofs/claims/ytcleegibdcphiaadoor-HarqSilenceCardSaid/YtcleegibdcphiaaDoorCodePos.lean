/- Layer 28 (code): Positions of the program. -/
import Derived.Test.YtcleegibdcphiaaDoorCodeEnc
import Derived.Test.YtcleegibdcphiaaDoorBools
import Derived.Test.YtcleegibdcphiaaDoorLinPlain
namespace Go.Proofs.YtcleegibdcphiaaDoor
open Go.ChangeShapes Go.WideShapes Go.ChangeAt Go.RowKit
open Cod

theorem length_is2 {n r : Int} (h : lenS n = r) (w : World) : Calls Tryd.prog 48 #[.int .i64 n] w fun e w' => e = .returned (.int .i64 r) ∧ w = w' := h ▸ length_any n w
def posL (t v c : Nat) : List Int := (List.range c).map fun i => (((v * t / 4 + i) % t : Nat) : Int)
theorem posL_len (t v c : Nat) : (posL t v c).length = c := by simp [posL]
theorem posL_at (t v c i : Nat) (h : i < c) : (posL t v c)[i]?.getD 0 = (((v * t / 4 + i) % t : Nat) : Int) := by
  unfold posL
  rw [List.getElem?_map, List.getElem?_range h]; rfl
def PosPost (t v c : Nat) (w : World) (e : Ending) (w' : World) : Prop := ∃ g, e = .returned (.tuple #[.slice (some ⟨g, 0, none⟩) c c, .int .i64 0]) ∧ OwnI w.heap.size 3 .i64 w' (some ⟨g, 0, none⟩) c c (posL t v c) ∧ Gr w w'
theorem tmod_nn (a t : Nat) : ((a : Int)).tmod (t : Int) = ((a % t : Nat) : Int) := by
  rw [Int.tmod_eq_emod_of_nonneg (by omega)]; norm_cast
set_option maxHeartbeats 1000000 in
theorem positions_yes (t v c : Nat) (w : World) (t1 : 1 ≤ t) (t2 : t ≤ 4132) (hv : v < 4) (c1 : 1 ≤ c) (c2 : c ≤ 1152) :
    Calls Tryd.prog 41 #[.int .i64 t, .int .i64 v, .int .i64 c] w (PosPost t v c w) := by
  have HL := Lib.hid (show lenS 2064 = 4132 by decide +kernel)
  have hmk := fun u => make_ints c (by omega) u
  have v4 : v = 0 ∨ v = 1 ∨ v = 2 ∨ v = 3 := by omega
  rcases v4 with rfl | rfl | rfl | rfl
  · go_enter Tryd.func41, Tryd.ntmps41
    go_wp2_with fail
    refine (length_is2 HL.out _).mono ?_
    rintro e w' ⟨rfl, rfl⟩
    go_wp2_with fail
    obtain ⟨w1, hw1⟩ : ∃ y, y = w.alloc (.cells (Array.replicate c (.int .i64 0)) 3) := ⟨_, rfl⟩
    have ho0 := own_made w.heap.size c w (Nat.le_refl _) (by simp only [maxLen]; omega)
    rw [← hw1] at ho0
    rw [← hw1]
    have HG1 := Lib.hid (show Gr w w1 by rw [hw1]; exact Gr.alloc _ _)
    have HO0 := Lib.hid (show OwnI w.heap.size 3 .i64 w1 (some ⟨w.heap.size, 0, none⟩) c c (fillz (posL t 0 c) 0) by rw [fillz_zero, posL_len]; exact ho0)
    clear hw1 ho0 hmk
    go_loopw [9, 37] (fun _ i wr => ∃ k : Nat, k ≤ c ∧ i = .int .i64 k ∧ OwnI w.heap.size 3 .i64 wr (some ⟨w.heap.size, 0, none⟩) c c (fillz (posL t 0 c) k) ∧ Gr w wr) (fun _ i _ => c - (intOf i).toNat)
    case atStart => exact ⟨0, by omega, rfl, HO0.out, HG1.out⟩
    case round =>
      clear HO0 HG1
      obtain ⟨k, hk, rfl, ho, hg⟩ := hrel
      have HO := Lib.hid ho
      have HG := Lib.hid hg
      clear ho hg
      by_cases hlt : k < c
      · obtain ⟨c3, f3⟩ := HO.out.at k hlt
        have hst := fillz_step (L := posL t 0 c) (k := k) (by rw [posL_len]; exact hlt)
        have hpv : (posL t 0 c)[k]?.getD 0 = (k : Int) % t := by rw [posL_at _ _ _ _ hlt]; push_cast; simp
        rw [hpv] at hst
        have b12 : 0 ≤ (k : Int) % t ∧ (k : Int) % t < (t : Int) := ⟨Int.emod_nonneg _ (by omega), Int.emod_lt_of_pos _ (by omega)⟩
        have HB := Lib.hid b12
        have HST := Lib.hid hst
        clear hst hpv b12
        go_wp2_with fail
        go_roundw
        case rel => exact ⟨k + 1, by omega, by go_num, by rw [HST.out]; exact HO.out.set k _ (WalkArith.wf_i64 (by have := HB.out; constructor <;> omega)), grown_set HG.out (a := ⟨w.heap.size, k, none⟩) (Nat.le_refl _) _⟩
        case measure => (simp [intOf] <;> omega)
      · obtain rfl : k = c := by omega
        have ho := HO.out
        have hfa := fillz_all (posL t 0 k)
        rw [posL_len] at hfa
        rw [hfa] at ho
        have HO2 := Lib.hid ho
        clear ho hfa HO
        go_wp2_with fail
        go_ret2
        exact ⟨_, rfl, HO2.out, HG.out⟩
  · go_enter Tryd.func41, Tryd.ntmps41
    go_wp2_with fail
    refine (length_is2 HL.out _).mono ?_
    rintro e w' ⟨rfl, rfl⟩
    go_wp2_with fail
    obtain ⟨w1, hw1⟩ : ∃ y, y = w.alloc (.cells (Array.replicate c (.int .i64 0)) 3) := ⟨_, rfl⟩
    have ho0 := own_made w.heap.size c w (Nat.le_refl _) (by simp only [maxLen]; omega)
    rw [← hw1] at ho0
    rw [← hw1]
    have HG1 := Lib.hid (show Gr w w1 by rw [hw1]; exact Gr.alloc _ _)
    have HO0 := Lib.hid (show OwnI w.heap.size 3 .i64 w1 (some ⟨w.heap.size, 0, none⟩) c c (fillz (posL t 1 c) 0) by rw [fillz_zero, posL_len]; exact ho0)
    clear hw1 ho0 hmk
    go_loopw [9, 37] (fun _ i wr => ∃ k : Nat, k ≤ c ∧ i = .int .i64 k ∧ OwnI w.heap.size 3 .i64 wr (some ⟨w.heap.size, 0, none⟩) c c (fillz (posL t 1 c) k) ∧ Gr w wr) (fun _ i _ => c - (intOf i).toNat)
    case atStart => exact ⟨0, by omega, rfl, HO0.out, HG1.out⟩
    case round =>
      clear HO0 HG1
      obtain ⟨k, hk, rfl, ho, hg⟩ := hrel
      have HO := Lib.hid ho
      have HG := Lib.hid hg
      clear ho hg
      by_cases hlt : k < c
      · obtain ⟨c3, f3⟩ := HO.out.at k hlt
        have hst := fillz_step (L := posL t 1 c) (k := k) (by rw [posL_len]; exact hlt)
        have hpv : (posL t 1 c)[k]?.getD 0 = ((t : Int) / 4 + k) % t := by rw [posL_at _ _ _ _ hlt]; push_cast; simp
        rw [hpv] at hst
        have b12 : 0 ≤ ((t : Int) / 4 + k) % t ∧ ((t : Int) / 4 + k) % t < (t : Int) := ⟨Int.emod_nonneg _ (by omega), Int.emod_lt_of_pos _ (by omega)⟩
        have HB := Lib.hid b12
        have HST := Lib.hid hst
        clear hst hpv b12
        go_wp2_with fail
        go_roundw
        case rel => exact ⟨k + 1, by omega, by go_num, by rw [HST.out]; exact HO.out.set k _ (WalkArith.wf_i64 (by have := HB.out; constructor <;> omega)), grown_set HG.out (a := ⟨w.heap.size, k, none⟩) (Nat.le_refl _) _⟩
        case measure => (simp [intOf] <;> omega)
      · obtain rfl : k = c := by omega
        have ho := HO.out
        have hfa := fillz_all (posL t 1 k)
        rw [posL_len] at hfa
        rw [hfa] at ho
        have HO2 := Lib.hid ho
        clear ho hfa HO
        go_wp2_with fail
        go_ret2
        exact ⟨_, rfl, HO2.out, HG.out⟩
  · go_enter Tryd.func41, Tryd.ntmps41
    go_wp2_with fail
    refine (length_is2 HL.out _).mono ?_
    rintro e w' ⟨rfl, rfl⟩
    go_wp2_with fail
    obtain ⟨w1, hw1⟩ : ∃ y, y = w.alloc (.cells (Array.replicate c (.int .i64 0)) 3) := ⟨_, rfl⟩
    have ho0 := own_made w.heap.size c w (Nat.le_refl _) (by simp only [maxLen]; omega)
    rw [← hw1] at ho0
    rw [← hw1]
    have HG1 := Lib.hid (show Gr w w1 by rw [hw1]; exact Gr.alloc _ _)
    have HO0 := Lib.hid (show OwnI w.heap.size 3 .i64 w1 (some ⟨w.heap.size, 0, none⟩) c c (fillz (posL t 2 c) 0) by rw [fillz_zero, posL_len]; exact ho0)
    clear hw1 ho0 hmk
    go_loopw [9, 37] (fun _ i wr => ∃ k : Nat, k ≤ c ∧ i = .int .i64 k ∧ OwnI w.heap.size 3 .i64 wr (some ⟨w.heap.size, 0, none⟩) c c (fillz (posL t 2 c) k) ∧ Gr w wr) (fun _ i _ => c - (intOf i).toNat)
    case atStart => exact ⟨0, by omega, rfl, HO0.out, HG1.out⟩
    case round =>
      clear HO0 HG1
      obtain ⟨k, hk, rfl, ho, hg⟩ := hrel
      have HO := Lib.hid ho
      have HG := Lib.hid hg
      clear ho hg
      by_cases hlt : k < c
      · obtain ⟨c3, f3⟩ := HO.out.at k hlt
        have hst := fillz_step (L := posL t 2 c) (k := k) (by rw [posL_len]; exact hlt)
        have hpv : (posL t 2 c)[k]?.getD 0 = (2 * (t : Int) / 4 + k) % t := by rw [posL_at _ _ _ _ hlt]; push_cast; simp
        rw [hpv] at hst
        have b12 : 0 ≤ (2 * (t : Int) / 4 + k) % t ∧ (2 * (t : Int) / 4 + k) % t < (t : Int) := ⟨Int.emod_nonneg _ (by omega), Int.emod_lt_of_pos _ (by omega)⟩
        have HB := Lib.hid b12
        have HST := Lib.hid hst
        clear hst hpv b12
        go_wp2_with fail
        go_roundw
        case rel => exact ⟨k + 1, by omega, by go_num, by rw [HST.out]; exact HO.out.set k _ (WalkArith.wf_i64 (by have := HB.out; constructor <;> omega)), grown_set HG.out (a := ⟨w.heap.size, k, none⟩) (Nat.le_refl _) _⟩
        case measure => (simp [intOf] <;> omega)
      · obtain rfl : k = c := by omega
        have ho := HO.out
        have hfa := fillz_all (posL t 2 k)
        rw [posL_len] at hfa
        rw [hfa] at ho
        have HO2 := Lib.hid ho
        clear ho hfa HO
        go_wp2_with fail
        go_ret2
        exact ⟨_, rfl, HO2.out, HG.out⟩
  · go_enter Tryd.func41, Tryd.ntmps41
    go_wp2_with fail
    refine (length_is2 HL.out _).mono ?_
    rintro e w' ⟨rfl, rfl⟩
    go_wp2_with fail
    obtain ⟨w1, hw1⟩ : ∃ y, y = w.alloc (.cells (Array.replicate c (.int .i64 0)) 3) := ⟨_, rfl⟩
    have ho0 := own_made w.heap.size c w (Nat.le_refl _) (by simp only [maxLen]; omega)
    rw [← hw1] at ho0
    rw [← hw1]
    have HG1 := Lib.hid (show Gr w w1 by rw [hw1]; exact Gr.alloc _ _)
    have HO0 := Lib.hid (show OwnI w.heap.size 3 .i64 w1 (some ⟨w.heap.size, 0, none⟩) c c (fillz (posL t 3 c) 0) by rw [fillz_zero, posL_len]; exact ho0)
    clear hw1 ho0 hmk
    go_loopw [9, 37] (fun _ i wr => ∃ k : Nat, k ≤ c ∧ i = .int .i64 k ∧ OwnI w.heap.size 3 .i64 wr (some ⟨w.heap.size, 0, none⟩) c c (fillz (posL t 3 c) k) ∧ Gr w wr) (fun _ i _ => c - (intOf i).toNat)
    case atStart => exact ⟨0, by omega, rfl, HO0.out, HG1.out⟩
    case round =>
      clear HO0 HG1
      obtain ⟨k, hk, rfl, ho, hg⟩ := hrel
      have HO := Lib.hid ho
      have HG := Lib.hid hg
      clear ho hg
      by_cases hlt : k < c
      · obtain ⟨c3, f3⟩ := HO.out.at k hlt
        have hst := fillz_step (L := posL t 3 c) (k := k) (by rw [posL_len]; exact hlt)
        have hpv : (posL t 3 c)[k]?.getD 0 = (3 * (t : Int) / 4 + k) % t := by rw [posL_at _ _ _ _ hlt]; push_cast; simp
        rw [hpv] at hst
        have b12 : 0 ≤ (3 * (t : Int) / 4 + k) % t ∧ (3 * (t : Int) / 4 + k) % t < (t : Int) := ⟨Int.emod_nonneg _ (by omega), Int.emod_lt_of_pos _ (by omega)⟩
        have HB := Lib.hid b12
        have HST := Lib.hid hst
        clear hst hpv b12
        go_wp2_with fail
        go_roundw
        case rel => exact ⟨k + 1, by omega, by go_num, by rw [HST.out]; exact HO.out.set k _ (WalkArith.wf_i64 (by have := HB.out; constructor <;> omega)), grown_set HG.out (a := ⟨w.heap.size, k, none⟩) (Nat.le_refl _) _⟩
        case measure => (simp [intOf] <;> omega)
      · obtain rfl : k = c := by omega
        have ho := HO.out
        have hfa := fillz_all (posL t 3 k)
        rw [posL_len] at hfa
        rw [hfa] at ho
        have HO2 := Lib.hid ho
        clear ho hfa HO
        go_wp2_with fail
        go_ret2
        exact ⟨_, rfl, HO2.out, HG.out⟩
end Go.Proofs.YtcleegibdcphiaaDoor
